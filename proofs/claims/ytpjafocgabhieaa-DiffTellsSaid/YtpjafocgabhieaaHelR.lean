/- A drawn region inside a round, walked with a word on the worlds that holds behind each operation; appends as operations of such a region (for DiffTells). -/
import Derived.Test.YtpjafocgabhieaaDRnL
import Derived.Test.YtpjafocgabhieaaBytG
import Derived.OrdersHeld
import Derived.Deep.RegionHeld
namespace Go.Proofs.Ytpjafocgabhieaa
open Go.RowKit Go.Shelf
/-- A drawn region in a round, as one outside of it. -/
theorem upon_round {P : Program} {o : Oper} {a : Act} {K : Act → World → Prop} {Q : Exit → Act → World → Prop} {l n : Nat} : ∀ {x : Result Next}, o.upon P a K Q x → o.uponIn (Fence.wide.inRound l) n P a K Q x
  | .ok (.value v) w', h => h
  | .ok .skip w', h => h
  | .ok (.defer d) w', h => h
  | .ok (.enter f args) w', h => ⟨fun h => (by cases h), CallsIn.inRound l (callsIn_wide.2 (Calls.mono h (by
      intro e w'' h'
      cases e <;> exact h')))⟩
  | .ok (.row row args) w', h => ⟨fun h => (by cases h), fun c cs _ => let ⟨v, w', r, s⟩ := h c cs; ⟨v, w', r, stepsIn_wide.2 s⟩⟩
  | .halt (.panic v) w', h => h
theorem oper_round {P : Program} {o : Oper} {a : Act} {w : World} {K : Act → World → Prop} {Q : Exit → Act → World → Prop} {l n : Nat} (hd : ∀ c, o.op ≠ .defer c) (h : o.wp P a w K Q) : o.wpIn (Fence.wide.inRound l) n P a w K Q :=
  ⟨fun _ _ => trivial, by
    rw [Fence.inRound_round, Oper.semAt_some _ _ _ hd]
    exact upon_round h⟩
theorem any_round {P : Program} {md : Region.Mode} {ops : Array Oper} {Q : Exit → Act → World → Prop} {l n : Nat} (hQ : ¬ LetsOut Q) (hd : ∀ (i : Nat) (o : Oper), ops[i]? = some o → ∀ c, o.op ≠ .defer c) :
    ∀ (fuel : Nat) (listed : Array Bool) (a : Act) (w : World), wpAny P md ops Q fuel listed a w → wpAnyIn (Fence.wide.inRound l) n P md ops Q fuel listed a w
  | 0, _, _, _, h => h
  | fuel + 1, listed, a, w, h => ⟨h.1, fun i hi => by
    have h2 := h.2 i hi
    unfold wpOp at h2
    unfold wpOpIn
    split
    · rename_i ho
      rw [ho] at h2
      exact any_round hQ hd fuel _ _ _ h2
    · rename_i o ho
      rw [ho] at h2
      simp only at h2
      split
      · rename_i hw
        rw [if_pos hw] at h2
        rcases h2 with h2 | ⟨_, h2⟩
        · exact Oper.wpIn_mono (fun a' w' h' => any_round hQ hd fuel _ a' w' h') (oper_round (hd i o ho) h2)
        · exact (hQ h2).elim
      · rename_i hw
        rw [if_neg hw] at h2
        exact ⟨fun _ _ => trivial, any_round hQ hd fuel _ _ _ h2⟩⟩
/-- The region may be shown outside of all rounds. -/
theorem region_round {P : Program} {id : Nat} {ops : Array Oper} {K : Act → World → Prop} {Q : Exit → Act → World → Prop} {l n : Nat} {a : Act} {w : World} (hm : P.follows .mixedOrders = true) (hd : (ops.toList.all fun o => match o.op with | .defer _ => false | _ => true) = true)
    (h : wpAny P .any ops (Exit.then K (fun _ _ _ => False)) ops.size (Array.replicate ops.size false) a w.drew) (hQ : ∀ a w, K a w → Q .normal a w) : (Code.region id ops true).wpIn (Fence.wide.inRound l) n P Q a w := by
  refine wpIn_mono (Q := Exit.then K (fun _ _ _ => False)) (wpIn_region_any hm (any_round ?_ ?_ _ _ _ _ h)) ?_
  · rintro ⟨a, w, h⟩
    exact h
  · intro i o ho c hc
    have h1 := List.all_eq_true.1 hd o (by
      rw [Array.getElem?_eq_some_iff] at ho
      obtain ⟨hlt, rfl⟩ := ho
      simp)
    rw [hc] at h1
    cases h1
  · intro e a w h
    cases e <;> first | exact hQ _ _ h | exact False.elim h
/-- The same from 'wpAnyH'. -/
theorem held_round {P : Program} {id : Nat} {ops : Array Oper} {K : Act → World → Prop} {Q : Exit → Act → World → Prop} {S : World → Prop} {l n : Nat} {a : Act} {w : World} (hm : P.follows .mixedOrders = true) (hd : (ops.toList.all fun o => match o.op with | .defer _ => false | _ => true) = true)
    (h : wpAnyH P .any ops (Exit.then K (fun _ _ _ => False)) S ops.size (Array.replicate ops.size false) a w.drew) (hQ : ∀ a w, K a w → Q .normal a w) : (Code.region id ops true).wpIn (Fence.wide.inRound l) n P Q a w :=
  region_round hm hd (wpAny_of_held _ _ _ _ h) hQ
theorem step_append_str {P : Program} {w : World} {ops : Array Oper} {o : Oper} {a : Act} {K : Act → World → Prop} {Q : Exit → Act → World → Prop} {E : Prop} (hgd : o.guard = none) (s x : Operand) (t u : TypeId)
    (ho : o.op = .call { callee := .builtin .append, args := #[s, x], argTypes := #[t, u] })
    (base : Nat) (e : TypeId) (i : TypeInfo) (ht : P.underlying t = some (.slice e)) (hu : P.underlying u = some .string) (hi : P.info? e = some i) (hz : i.zero = some (.int .u8 0)) (hsize : i.size = 1) (hby : i.bytes = 1)
    (v : Value) (n : Nat) (xs : List Value) (hs : a.eval s = v) (hown : w.ownsRow base e 1 v n xs) (B : ByteArray) (hx : a.eval x = .string B)
    (h63 : n + B.size ≤ maxLen) (hbytes : n + B.size ≤ 140737488355328) (hbase : base ≤ w.heap.size)
    (h : ∀ v' w', w'.ownsRow base e 1 v' (n + B.size) (xs ++ Lib.strCells B) → w.grownBy w' v.ownBlock → K (a.put o.dst v') w') :
    if Region.wanted o (yielded ops a.tmps) = true then Oper.wp P o a w K Q else E := by
  have hw : Region.wanted o (yielded ops a.tmps) = true := by simp [Region.wanted, hgd]
  rw [if_pos hw]
  obtain ⟨v', w', hr, h2, h3, _⟩ := Lib.run_append_own_string (P := P) w base t u o.type e i ht hu hi hz hsize hby v n xs hown B h63 hbytes hbase
  unfold Oper.wp execOp
  simp only [ho, resolve, invoke, builtin, Sem.run_bind, Sem.run_pure, Result.andThen_ok, List.map_toArray, List.map_cons, List.map_nil, hs, hx, hr]
  exact h v' w' h2 h3
end Go.Proofs.Ytpjafocgabhieaa
