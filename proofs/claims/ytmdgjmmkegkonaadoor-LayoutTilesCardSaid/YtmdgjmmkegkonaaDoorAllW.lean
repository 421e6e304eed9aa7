/- all, its function: the iterator's contract; a drawn region inside a round. -/
import Derived.Test.YtmdgjmmkegkonaaDoorEachW
import Derived.OrdersHeld
namespace Go.Proofs.YtmdgjmmkegkonaaDoor
open Go.RowKit Go.Shelf
attribute [local go_sem] Oper.semAt_some
theorem grown_none' {w w' : World} (hb : Below w.heap.size w w') : w.grownBy w' none := ⟨hb.os, hb.tape, hb.output, hb.size, fun k hk _ => hb.block k hk⟩
set_option maxRecDepth 100000 in
theorem all_any (g : Nat) (r : Rc) (w : World) : Calls Tryd.prog 26 #[ptr g, r.a] w fun e w' => e = .returned (.func (.func 33) #[] #[.pointer (some ⟨w.heap.size, 0, none⟩), .pointer (some ⟨w.heap.size + 1, 0, none⟩)]) ∧ w' = (w.alloc (.cells #[ptr g] 57)).alloc (.cells r.v 41) := by
  show Calls Tryd.prog 26 #[.pointer (some ⟨g, 0, none⟩), r.a] w _
  go_enter Tryd.func26, Tryd.ntmps26
  go_wp2_with fail
  go_ret
  exact ⟨rfl, rfl⟩
/-- All nodes, each with the word that it is one of them. -/
abbrev allS (t : Tr) (r : Rc) : List (Sub (nds t r)) := (nds t r).attachWith (· ∈ nds t r) (fun _ h => h)
set_option maxRecDepth 100000 in
set_option maxHeartbeats 4000000 in
theorem all1_stops (n n₀ B B1 : Nat) (t : Tr) (r : Rc) (w : World) (h1 : w.cell? ⟨B1, 0, none⟩ = some (ptr t.g)) (h2 : Blk w (B1 + 1) 41 r.v) (ht : TrAt w t) (hbl : ∀ b ∈ t.bl, b < n₀) (hn0 : n₀ ≤ w.heap.size) (hr : RcOk r) (hN : Nums t) (hf : fitsP t r = true) (hB : B < w.heap.size) (hP : POk w B) :
    SeqStopsK Fence.wide n Tryd.prog 33 #[.pointer (some ⟨B1, 0, none⟩), .pointer (some ⟨B1 + 1, 0, none⟩)] (encN (L0 := nds t r)) (KpB n₀ B) (fun xs => xs = allS t r) (fun pre => pre <+: allS t r) (nds t r).length w := fun l J Jx W hW hJ hJx hY h0 => by
  have hk := each_in (nds t r) l n₀ B (nds t r).length J Jx (fun pre X Y hx hb => hJ pre X Y none hx (grown_none' hb) (fun r e => by cases e)) (fun m pre x X hx hl => YieldAt.deep m (hY pre x X hx hl)) t (n - 1) r (fun _ h => h) [] W (ht.later hW) hbl (Nat.le_trans hn0 hW.size) hr hN hf (Nat.lt_of_lt_of_le hB hW.size) (fun g hg => Nat.lt_of_lt_of_le (hP g (pts_same (hW.cell (p := ⟨B, 0, none⟩) hB) hg)) hW.size) h0 (by simp)
  have c1 := keepc hW h1
  have h2' := h2.below hW h2.lt
  have c20 := h2'.cell 0
  have c21 := h2'.cell 1
  have c22 := h2'.cell 2
  have c23 := h2'.cell 3
  have Hk := Lib.hid hk
  clear hk hY hJ hJx h0 hP hbl
  refine callsIn_of_wp Tryd.func33 rfl trivial ?_ rfl
  simp only [Tryd.ntmps33, List.size_toArray, List.length_cons, List.length_nil, Nat.reduceAdd, Nat.reduceSub, Array.replicate_succ, Array.replicate_zero, List.push_toArray, List.append_toArray, List.nil_append, List.cons_append]
  gi_wp2
  refine ⟨trivial, fun h => (by cases h), Hk.out.mono ?_⟩
  rintro e W' (⟨rfl, hJ', _⟩ | ⟨rfl, q, hq, hJx'⟩)
  · gi_wp2
    go_end0
    exact ⟨⟨_, rfl⟩, .inl ⟨_, rfl, by simpa using hJ'⟩⟩
  · gi_wp2
    go_end0
    exact ⟨⟨_, rfl⟩, .inr ⟨q, hq, by simpa using hJx'⟩⟩
/-- A drawn region in a round, as one outside of it. -/
theorem upon_round {P : Program} {o : Oper} {a : Act} {K : Act → World → Prop} {Q : Exit → Act → World → Prop} {l n : Nat} : ∀ {x : Result Next}, o.upon P a K Q x → o.uponIn (Fence.wide.inRound l) n P a K Q x
  | .ok (.value v) w', h => h
  | .ok .skip w', h => h
  | .ok (.defer d) w', h => h
  | .ok (.enter f args) w', h => ⟨fun h => (by cases h), CallsIn.inRound l (callsIn_wide.2 (Calls.mono h (by
      intro e w'' h'
      cases e <;> exact h')))⟩
  | .ok (.row row args) w', h => ⟨fun h => (by cases h), fun c cs _ => let ⟨v, w', r, s⟩ := h c cs; ⟨v, w', r, stepsIn_wide.2 s⟩⟩
  | .halt (.panic v) w', h => h
theorem oper_round {P : Program} {o : Oper} {a : Act} {w : World} {K : Act → World → Prop} {Q : Exit → Act → World → Prop} {l n : Nat} (hd : ∀ c, o.op ≠ .defer c) (h : o.wp P a w K Q) : o.wpIn (Fence.wide.inRound l) n P a w K Q :=
  ⟨fun _ _ => trivial, by
    rw [Fence.inRound_round, Oper.semAt_some _ _ _ hd]
    exact upon_round h⟩
theorem any_round {P : Program} {md : Region.Mode} {ops : Array Oper} {Q : Exit → Act → World → Prop} {l n : Nat} (hQ : ¬ LetsOut Q) (hd : ∀ (i : Nat) (o : Oper), ops[i]? = some o → ∀ c, o.op ≠ .defer c) :
    ∀ (fuel : Nat) (listed : Array Bool) (a : Act) (w : World), wpAny P md ops Q fuel listed a w → wpAnyIn (Fence.wide.inRound l) n P md ops Q fuel listed a w
  | 0, _, _, _, h => h
  | fuel + 1, listed, a, w, h => ⟨h.1, fun i hi => by
    have h2 := h.2 i hi
    unfold wpOp at h2
    unfold wpOpIn
    split
    · rename_i ho
      rw [ho] at h2
      exact any_round hQ hd fuel _ _ _ h2
    · rename_i o ho
      rw [ho] at h2
      simp only at h2
      split
      · rename_i hw
        rw [if_pos hw] at h2
        rcases h2 with h2 | ⟨_, h2⟩
        · exact Oper.wpIn_mono (fun a' w' h' => any_round hQ hd fuel _ a' w' h') (oper_round (hd i o ho) h2)
        · exact (hQ h2).elim
      · rename_i hw
        rw [if_neg hw] at h2
        exact ⟨fun _ _ => trivial, any_round hQ hd fuel _ _ _ h2⟩⟩
/-- The region may be shown outside of all rounds. -/
theorem region_round {P : Program} {id : Nat} {ops : Array Oper} {K : Act → World → Prop} {Q : Exit → Act → World → Prop} {l n : Nat} {a : Act} {w : World} (hm : P.follows .mixedOrders = true) (hd : (ops.toList.all fun o => match o.op with | .defer _ => false | _ => true) = true)
    (h : wpAny P .any ops (Exit.then K (fun _ _ _ => False)) ops.size (Array.replicate ops.size false) a w.drew) (hQ : ∀ a w, K a w → Q .normal a w) : (Code.region id ops true).wpIn (Fence.wide.inRound l) n P Q a w := by
  refine wpIn_mono (Q := Exit.then K (fun _ _ _ => False)) (wpIn_region_any hm (any_round ?_ ?_ _ _ _ _ h)) ?_
  · rintro ⟨a, w, h⟩
    exact h
  · intro i o ho c hc
    have h1 := List.all_eq_true.1 hd o (by
      rw [Array.getElem?_eq_some_iff] at ho
      obtain ⟨hlt, rfl⟩ := ho
      simp)
    rw [hc] at h1
    cases h1
  · intro e a w h
    cases e <;> first | exact hQ _ _ h | exact False.elim h
/-- A code that comes to one state in whatever way. -/
theorem wpIn_to {F : Fence} {n : Nat} {P : Program} {c : Code} {Q : Exit → Act → World → Prop} {a : Act} {w : World} {A : Act} {W : World} (h : c.wpIn F n P (Exit.then (fun a' w' => a' = A ∧ w' = W) (fun _ _ _ => False)) a w) (hk : Q .normal A W) : c.wpIn F n P Q a w :=
  wpIn_mono h (fun e a' w' h => by
    cases e <;> first | (obtain ⟨rfl, rfl⟩ := h; exact hk) | exact False.elim h)
/-- The rest is shown once. -/
theorem via {X G : Prop} (h : X → G) (x : X) : G := h x
end Go.Proofs.YtmdgjmmkegkonaaDoor
