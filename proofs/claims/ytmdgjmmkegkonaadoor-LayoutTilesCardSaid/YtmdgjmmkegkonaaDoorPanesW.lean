/- A layout in memory; none, mayBe; Panes: a range over a function whose body appends. -/
import Derived.Test.YtmdgjmmkegkonaaDoorAllW
import Derived.Test.YtmdgjmmkegkonaaDoorWayW
import Derived.Test.YtmdgjmmkegkonaaDoorSrcL2
import Derived.Maps.AppendAt
namespace Go.Proofs.YtmdgjmmkegkonaaDoor
open Go.RowKit Go.Shelf
attribute [local go_sem] Oper.semAt_some
abbrev layC (g : Nat) (r : Rc) (nw : Int) : Array Value := #[ptr g, .int .i64 r.x, .int .i64 r.y, .int .i64 r.w, .int .i64 r.h, .int .i64 nw]
/-- A layout as it lies in memory. -/
structure LAt (w : World) (b : Nat) (t : Tr) (r : Rc) (nw : Int) : Prop where
  blk : Blk w b 61 (layC t.g r nw)
  tree : TrAt w t
theorem LAt.later {w w' : World} {b : Nat} {t : Tr} {r : Rc} {nw : Int} (h : LAt w b t r nw) (hb : Below w.heap.size w w') : LAt w' b t r nw := ⟨h.blk.below hb h.blk.lt, h.tree.later hb⟩
set_option maxRecDepth 100000 in
theorem none_any (b : Nat) (t : Tr) (r : Rc) (nw : Int) (w : World) (h : LAt w b t r nw) : Calls Tryd.prog 21 #[.pointer (some ⟨b, 0, none⟩)] w fun e w' => e = .returned (.bool false) ∧ w = w' := by
  have c0 : w.cell? ⟨b, 0, none⟩ = some (.pointer (some ⟨t.g, 0, none⟩)) := h.blk.cell 0
  go_enter Tryd.func21, Tryd.ntmps21
  go_wp2_with fail
  go_ret
  exact ⟨rfl, rfl⟩
set_option maxRecDepth 100000 in
theorem mayBe_any (x y : Int) (w : World) : Calls Tryd.prog 20 #[.int .i64 x, .int .i64 y] w fun e w' => e = .returned (.bool (decide (1 ≤ x ∧ x ≤ 200 ∧ 1 ≤ y ∧ y ≤ 60))) ∧ w = w' := by
  by_cases h1 : 1 ≤ x
  · by_cases h2 : x ≤ 200
    · by_cases h3 : 1 ≤ y
      · by_cases h4 : y ≤ 60
        · rw [show decide (1 ≤ x ∧ x ≤ 200 ∧ 1 ≤ y ∧ y ≤ 60) = true from decide_eq_true ⟨h1, h2, h3, h4⟩]
          go_enter Tryd.func20, Tryd.ntmps20
          go_wp2_with fail
          go_ret
          exact ⟨rfl, rfl⟩
        · rw [show decide (1 ≤ x ∧ x ≤ 200 ∧ 1 ≤ y ∧ y ≤ 60) = false from decide_eq_false (fun h => h4 h.2.2.2)]
          go_enter Tryd.func20, Tryd.ntmps20
          go_wp2_with fail
          go_ret
          exact ⟨rfl, rfl⟩
      · rw [show decide (1 ≤ x ∧ x ≤ 200 ∧ 1 ≤ y ∧ y ≤ 60) = false from decide_eq_false (fun h => h3 h.2.2.1)]
        go_enter Tryd.func20, Tryd.ntmps20
        go_wp2_with fail
        go_ret
        exact ⟨rfl, rfl⟩
    · rw [show decide (1 ≤ x ∧ x ≤ 200 ∧ 1 ≤ y ∧ y ≤ 60) = false from decide_eq_false (fun h => h2 h.2.1)]
      go_enter Tryd.func20, Tryd.ntmps20
      go_wp2_with fail
      go_ret
      exact ⟨rfl, rfl⟩
  · rw [show decide (1 ≤ x ∧ x ≤ 200 ∧ 1 ≤ y ∧ y ≤ 60) = false from decide_eq_false (fun h => h1 h.1)]
    go_enter Tryd.func20, Tryd.ntmps20
    go_wp2_with fail
    go_ret
    exact ⟨rfl, rfl⟩
/-- The panes, in order. -/
def paneOf : Nd → Option (Int × Rc)
  | (.pane _ i, r) => some (i, r)
  | (.split _ _ _ _ _ _, _) => none
abbrev panesP (t : Tr) (r : Rc) : List (Int × Rc) := (nds t r).filterMap paneOf
abbrev paneV (x : Int × Rc) : List Value := [.int .i64 x.1, .int .i64 x.2.x, .int .i64 x.2.y, .int .i64 x.2.w, .int .i64 x.2.h]
theorem own_below {w w' : World} {B : Nat} {e : TypeId} {size n : Nat} {v : Value} {xs : List Value} (h : w.ownsRow B e size v n xs) (hb : Below w.heap.size w w') : w'.ownsRow B e size v n xs := by
  refine ⟨h.1, ?_⟩
  rcases h.2 with h1 | ⟨g, cap, cur, h1, h2, h3, h4⟩
  · exact .inl h1
  · exact .inr ⟨g, cap, cur, h1, h2, (hb.block g (Array.getElem?_eq_some_iff.1 h3).1).trans h3, h4⟩
theorem own_grown {w w' : World} {B : Nat} {e : TypeId} {size n : Nat} {v : Value} {xs : List Value} {row : Option Nat} (h : w.ownsRow B e size v n xs) (hg : w.grownBy w' row) (hr : ∀ r, row = some r → ∃ o : Obj, w.heap[r]? = some o ∧ o.isCells = false) : w'.ownsRow B e size v n xs := by
  refine ⟨h.1, ?_⟩
  rcases h.2 with h1 | ⟨g, cap, cur, h1, h2, h3, h4⟩
  · exact .inl h1
  · refine .inr ⟨g, cap, cur, h1, h2, (hg.block g (Array.getElem?_eq_some_iff.1 h3).1 (fun e => ?_)).trans h3, h4⟩
    obtain ⟨o, ho, hc⟩ := hr g e.symm
    rw [h3] at ho
    cases ho
    cases hc
theorem own_cases {w : World} {B : Nat} {e : TypeId} {size n : Nat} {v : Value} {xs : List Value} (h : w.ownsRow B e size v n xs) : (v.ownBlock = none ∧ ∃ n' c, v = .slice none n' c) ∨ ∃ g cap cur, v.ownBlock = some g ∧ v = .slice (some ⟨g, 0, none⟩) n cap ∧ B ≤ g ∧ w.heap[g]? = some (.cells cur e (0, 0)) := by
  rcases h.2 with ⟨h1, _⟩ | ⟨g, cap, cur, h1, h2, h3, _⟩
  · exact .inl ⟨by rw [h1]; rfl, _, _, h1⟩
  · exact .inr ⟨g, cap, cur, by rw [h1]; rfl, h1, h2, h3⟩
theorem box_kept {W W6 w7 : World} {n₀ B size n : Nat} {T e : TypeId} {v : Value} {xs : List Value} (hT : T ≠ e) (hB : Blk W B T #[v]) (hO : W.ownsRow n₀ e size v n xs) (h6 : Below W.heap.size W W6) (hg : W6.grownBy w7 v.ownBlock) : Blk w7 B T #[v] := by
  refine ((hg.block B (Nat.lt_of_lt_of_le hB.lt h6.size) (fun h5 => ?_)).trans (h6.block B hB.lt)).trans hB
  rcases own_cases hO with ⟨h1, _⟩ | ⟨g', cap, cur, h1, h2, h3, h4⟩
  · rw [h1] at h5; cases h5
  · rw [h1] at h5
    injection h5 with h5
    subst h5
    unfold Blk at hB
    rw [hB] at h4
    injection h4 with h4
    injection h4 with _ h4
    exact hT h4
/-- An append to the row that a box points to. -/
theorem box_step {W W6 w7 : World} {n₀ B size n n' : Nat} {T e : TypeId} {v v' : Value} {xs xs' : List Value} (hT : T ≠ e) (hn : n₀ ≤ W.heap.size) (hBn : n₀ ≤ B) (hB : Blk W B T #[v]) (hO : W.ownsRow n₀ e size v n xs) (h6 : Below W.heap.size W W6) (hg : W6.grownBy w7 v.ownBlock) (hO7 : w7.ownsRow n₀ e size v' n' xs') (hnew : ∀ g, v'.ownBlock = some g → v.ownBlock = some g ∨ W.heap.size ≤ g) :
    KeepsOthers W (w7.setCell ⟨B, 0, none⟩ v') ∧ KpB n₀ B W (w7.setCell ⟨B, 0, none⟩ v') ∧ Blk (w7.setCell ⟨B, 0, none⟩ v') B T #[v'] ∧ (w7.setCell ⟨B, 0, none⟩ v').ownsRow n₀ e size v' n' xs' := by
  have hBl := hB.lt
  have hgne : ∀ g, v.ownBlock = some g → n₀ ≤ g ∧ g < W.heap.size ∧ g ≠ B ∧ Pts W B g ∧ ∃ cur, W.heap[g]? = some (.cells cur e (0, 0)) := fun g hgv => by
    rcases own_cases hO with ⟨h1, _⟩ | ⟨g', cap, cur, h1, h2, h3, h4⟩
    · rw [h1] at hgv; cases hgv
    · rw [h1] at hgv
      injection hgv with hgv
      subst hgv
      refine ⟨h3, (Array.getElem?_eq_some_iff.1 h4).1, fun h5 => ?_, ⟨n, cap, ?_⟩, cur, h4⟩
      · subst h5
        unfold Blk at hB
        rw [hB] at h4
        injection h4 with h4
        injection h4 with _ h4
        exact hT h4
      · have h5 := hB.cell 0
        rw [h2] at h5
        exact h5
  have h7 : ∀ k, k < W.heap.size → v.ownBlock ≠ some k → w7.heap[k]? = W.heap[k]? := fun k hk hne => (hg.block k (Nat.lt_of_lt_of_le hk h6.size) (fun e => hne e.symm)).trans (h6.block k hk)
  have hset : ∀ k, k ≠ B → (w7.setCell ⟨B, 0, none⟩ v').heap[k]? = w7.heap[k]? := fun k hk => Below.heap_setCell w7 ⟨B, 0, none⟩ v' k hk
  have hB7 : Blk w7 B T #[v] := (h7 B hBl (fun h => (hgne B h).2.2.1 rfl)).trans hB
  have hB8 : Blk (w7.setCell ⟨B, 0, none⟩ v') B T #[v'] := hB7.set 0 v'
  have hsz : W.heap.size ≤ (w7.setCell ⟨B, 0, none⟩ v').heap.size := by
    have h1 := h6.size
    have h2 := hg.size
    simp [World.setCell]
    omega
  have hpt : ∀ g, Pts (w7.setCell ⟨B, 0, none⟩ v') B g → v'.ownBlock = some g := fun g ⟨n1, c1, h1⟩ => by
    have h2 : some (Value.slice (some ⟨g, 0, none⟩) n1 c1) = some v' := h1.symm.trans (hB8.cell 0)
    rw [← Option.some.inj h2]
    rfl
  refine ⟨⟨hsz, fun k o hk ho => ?_⟩, ⟨?_, fun _ k cs t f hk hne hp => ?_, fun _ g hg8 => ?_, fun _ g hg8 => ?_⟩, hB8, hO7.1, ?_⟩
  · have hkl := (Array.getElem?_eq_some_iff.1 hk).1
    rw [hset k (fun h => by subst h; unfold Blk at hB; rw [hB] at hk; cases hk; cases ho), h7 k hkl (fun h => by obtain ⟨_, _, _, _, cur, h5⟩ := hgne k h; rw [h5] at hk; cases hk; cases ho)]
    exact hk
  · have h8 := ((h6.mono hn).grown hg (Nat.le_trans hn h6.size) (fun k e => (hgne k e).1))
    exact h8.setCell (p := ⟨B, 0, none⟩) hBn v'
  · have hkl := (Array.getElem?_eq_some_iff.1 hk).1
    rw [hset k hne, h7 k hkl (fun h => hp (hgne k h).2.2.2.1)]
    exact hk
  · rcases hnew g (hpt g hg8) with h1 | h1
    · exact .inl (hgne g h1).2.2.2.1
    · exact .inr h1
  · rcases own_cases hO7 with ⟨h1, _⟩ | ⟨g', cap, cur, h1, _, _, h4⟩
    · rw [hpt g hg8] at h1; cases h1
    · rw [hpt g hg8] at h1
      injection h1 with h1
      subst h1
      have h5 := (Array.getElem?_eq_some_iff.1 h4).1
      simpa [World.setCell] using h5
  · rcases hO7.2 with h1 | ⟨g, cap, cur, h1, h2, h3, h4⟩
    · exact .inl h1
    · refine .inr ⟨g, cap, cur, h1, h2, (hset g (fun h => ?_)).trans h3, h4⟩
      subst h
      unfold Blk at hB7
      rw [hB7] at h3
      injection h3 with h3
      injection h3 with _ h3
      exact hT h3
theorem nds_at {w : World} : ∀ (t : Tr) (r : Rc), TrAt w t → ∀ x ∈ nds t r, TrAt w x.1
  | .pane g i, r, h, x, hx => by
    simp only [nds, List.mem_singleton] at hx
    subst hx
    exact h
  | .split g a p q l r, rc, h, x, hx => by
    simp only [nds, List.mem_append, List.mem_cons] at hx
    rcases hx with hx | rfl | hx
    · exact nds_at l _ h.2.1 x hx
    · exact h
    · exact nds_at r _ h.2.2 x hx
theorem nds_ok : ∀ (t : Tr) (r : Rc), RcOk r → Nums t → fitsP t r = true → ∀ x ∈ nds t r, RcOk x.2 ∧ Nums x.1 ∧ fitsP x.1 x.2 = true
  | .pane g i, r, hr, hN, hf, x, hx => by
    simp only [nds, List.mem_singleton] at hx
    subst hx
    exact ⟨hr, hN, hf⟩
  | .split g a p q l r, rc, hr, hN, hf, x, hx => by
    have hn : ¬ lenR rc a < 3 := fun hn => by
      unfold fitsP at hf
      rw [if_pos hn] at hf
      cases hf
    have hf' := hf
    unfold fitsP at hf'
    rw [if_neg hn, Bool.and_eq_true] at hf'
    have hsb := shr_bd (n := lenR rc a) (p := p) (q := q) (by omega)
    simp only [nds, List.mem_append, List.mem_cons] at hx
    rcases hx with hx | rfl | hx
    · exact nds_ok l _ (cut1_ok hr a hsb.1 hsb.2) hN.2.2.2.1 hf'.1 x hx
    · exact ⟨hr, hN, hf⟩
    · exact nds_ok r _ (cut2_ok hr a hsb.1 hsb.2) hN.2.2.2.2 hf'.2 x hx
set_option maxRecDepth 100000 in
set_option maxHeartbeats 8000000 in
theorem panes_any (b : Nat) (t : Tr) (r : Rc) (nw : Int) (w : World) (h : LAt w b t r nw) (hr : RcOk r) (hN : Nums t) (hf : fitsP t r = true) (hl : (nds t r).length ≤ 1000) :
    Calls Tryd.prog 11 #[.pointer (some ⟨b, 0, none⟩)] w fun e w' => (∃ v, e = .returned v ∧ w'.ownsRow w.heap.size 43 5 v (panesP t r).length ((panesP t r).flatMap paneV)) ∧ Below w.heap.size w w' := by
  refine (callsIn_wide (n := 4)).1 ?_
  refine callsIn_of_wp_marks Tryd.func11 rfl trivial ?_ rfl
  simp only [Tryd.ntmps11, List.size_toArray, List.length_cons, List.length_nil, Nat.reduceAdd, Nat.reduceSub, Array.replicate_succ, Array.replicate_zero, List.push_toArray, List.append_toArray, List.nil_append, List.cons_append]
  gi_upto_region 2 with fail
  have hb1 := (Below.refl w.heap.size w).alloc (Nat.le_refl _) (.cells #[.slice none 0 0] 35)
  have hB := Blk.new w 35 #[.slice none 0 0]
  have hL1 := h.later hb1
  generalize hw1 : w.alloc (.cells #[.slice none 0 0] 35) = w1 at hb1 hB hL1 ⊢
  have hs1 : w1.heap.size = w.heap.size + 1 := by rw [← hw1]; simp
  clear hw1
  gi_wp2
  refine ⟨trivial, (callsIn_wide.2 (none_any b t r nw w1 hL1)).mono ?_⟩
  rintro e w2 ⟨rfl, rfl⟩
  gi_upto_region 4 with fail
  have c0 : w1.drew.cell? ⟨b, 0, none⟩ = some (.pointer (some ⟨t.g, 0, none⟩)) := hL1.blk.cell 0
  have c1 : w1.drew.cell? ⟨b, 1, none⟩ = some (.int .i64 r.x) := hL1.blk.cell 1
  have c2 : w1.drew.cell? ⟨b, 2, none⟩ = some (.int .i64 r.y) := hL1.blk.cell 2
  have c3 : w1.drew.cell? ⟨b, 3, none⟩ = some (.int .i64 r.w) := hL1.blk.cell 3
  have c4 : w1.drew.cell? ⟨b, 4, none⟩ = some (.int .i64 r.h) := hL1.blk.cell 4
  have hall := all_any t.g r w1.drew
  apply wpIn_to
  case h =>
    gi_region_with (first | (refine ⟨trivial, (callsIn_wide.2 hall).mono ?_⟩; rintro e w4 ⟨rfl, rfl⟩))
    all_goals exact ⟨rfl, rfl⟩
  clear hall c0 c1 c2 c3 c4
  have hP1 := ((Blk.new w1 57 #[ptr t.g]).alloc (.cells r.v 41)).drew
  have hP2 := (Blk.new (w1.alloc (.cells #[ptr t.g] 57)) 41 r.v).drew
  have hbd := (((Below.refl w1.heap.size w1).alloc (Nat.le_refl _) (.cells #[ptr t.g] 57)).alloc (by simp) (.cells r.v 41)).drew
  have hs0 : ((w1.alloc (.cells #[ptr t.g] 57)).alloc (.cells r.v 41)).drew.heap.size = w1.heap.size + 2 := by simp
  simp only [World.size_alloc] at hP2
  have hB0 := hB.below hbd hB.lt
  have hT0 := hL1.tree.later hbd
  have hbl : ∀ k ∈ t.bl, k < w.heap.size := h.tree.lt t
  gi_wp2
  generalize ((w1.alloc (.cells #[ptr t.g] 57)).alloc (.cells r.v 41)).drew = W0 at hP1 hP2 hbd hs0 hB0 hT0 ⊢
  have hbW := hb1.trans (hbd.mono hb1.size)
  rw [hs1] at hP1 hP2 hs0
  clear hB hL1 hbd hb1 hs1
  obtain ⟨B, hBe⟩ : ∃ B, B = w.heap.size := ⟨_, rfl⟩
  have hbl' : ∀ k ∈ t.bl, k < B := fun k hk => by rw [hBe]; exact hbl k hk
  have hbB : b < B := by rw [hBe]; exact h.blk.lt
  rw [← hBe] at hP1 hP2 hs0 hB0 ⊢
  have HBe := Lib.hid hBe
  clear hBe hbl
  have hP1' := hP1.cell 0
  obtain ⟨i0, hi, hz0, hz1, hz2⟩ := info_parts (show (Tryd.prog.info? 43).map (fun i => (i.zero, i.size, i.bytes)) = some (some (.agg #[.int .i64 0, .int .i64 0, .int .i64 0, .int .i64 0, .int .i64 0]), 5, 40) from by kernel_rfl)
  refine wpIn_rangeFunc_ownH (F := Fence.wide) rfl (by omega) (gf := 33) (lb := #[.pointer (some ⟨B + 1, 0, none⟩), .pointer (some ⟨B + 1 + 1, 0, none⟩)]) rfl trivial (enters_of Tryd.func33 (by kernel_rfl) rfl)
    (all1_stops 3 B B (B + 1) t r W0 hP1' hP2 hT0 hbl' (by omega) hr hN hf (by omega) (fun g hg => by
      obtain ⟨n1, c1, h1⟩ := hg
      rw [hB0.cell 0] at h1
      cases h1)) KpB.trans (KpB.putObj (by omega) (by omega)) (Below.refl _ _) (fun _ => rfl)
    (fun pre W => (∃ v, Blk W B 35 #[v] ∧ W.ownsRow B 43 5 v (pre.filterMap (fun x => paneOf x.1)).length ((pre.filterMap (fun x => paneOf x.1)).flatMap paneV)) ∧ TrAt W t ∧ Below B w W ∧ W0.heap.size ≤ W.heap.size)
    (fun _ _ _ => False)
    (fun pre X Y row hs hg hr => by
      obtain ⟨⟨v, h1, h2⟩, h3, h4, h5⟩ := hs
      have hne : ∀ k cs e, X.heap[k]? = some (.cells cs e (0, 0)) → some k ≠ row := fun k cs e hk he => by
        obtain ⟨o, ho, hc⟩ := (hr k he.symm).2
        rw [hk] at ho
        cases ho
        cases hc
      have hb : Below B X Y := (Below.refl B X).grown hg (by rw [HBe.out]; exact h4.size) (fun k e => by have := (hr k e).1; omega)
      exact ⟨⟨v, h1.grown hg (hne _ _ _ h1), own_grown h2 hg (fun r e => (hr r e).2)⟩, h3.below hb hbl', h4.trans hb, Nat.le_trans h5 hg.size⟩)
    (fun _ _ _ _ _ hs _ _ => hs)
    ⟨⟨_, hB0, World.ownsRow_nil _ _ _ _⟩, hT0, by rw [HBe.out]; exact hbW, Nat.le_refl _⟩
    (fun x a' W => ∃ Bx, B + 2 < Bx ∧ Blk W Bx 41 x.1.2.v ∧ a' = { tmps := #[.pointer (some ⟨b, 0, none⟩), undef, .slice none 0 0, .pointer (some ⟨B, 0, none⟩), ptr x.1.1.g, .pointer (some ⟨Bx, 0, none⟩), .pointer (some ⟨b, 0, none⟩), .bool false, undef, .pointer (some ⟨b, 0, none⟩), .pointer (some ⟨b, 0, none⟩), .pointer (some ⟨b, 0, none⟩), .pointer (some ⟨t.g, 0, none⟩), .pointer (some ⟨b, 0, none⟩), .pointer (some ⟨b, 0, none⟩), .pointer (some ⟨b, 1, none⟩), .agg #[.int .i64 r.x, .int .i64 r.y, .int .i64 r.w, .int .i64 r.h], .func (.func 33) #[] #[.pointer (some ⟨B + 1, 0, none⟩), .pointer (some ⟨B + 1 + 1, 0, none⟩)], ptr x.1.1.g, x.1.2.a, undef, undef, undef, undef, undef, undef, undef, undef, undef, undef, undef, undef], defers := [] })
    (fun x a' _ X Y row hs hg hr => by
      obtain ⟨Bx, h1, h2, h3⟩ := hs
      refine ⟨Bx, h1, h2.grown hg (fun e => ?_), h3⟩
      obtain ⟨o, ho, hc⟩ := (hr Bx e.symm).2
      unfold Blk at h2
      rw [h2] at ho
      cases ho
      cases hc)
    ?assign ?body ?done ?stop
  case assign =>
    rintro l pre x W K ⟨⟨v, h1, h2⟩, h3, h4, h5⟩ hK
    gi_wp2
    have hW := (Below.refl W.heap.size W).alloc (Nat.le_refl _) (.cells x.1.2.v 41)
    exact hK _ _ ((KeepsOthers.alloc _ _).from _) (KpB.of_below hW (by omega) (by omega)) ⟨⟨v, h1.alloc _, own_below h2 hW⟩, h3.later hW, h4.alloc (by omega) _, Nat.le_trans h5 hW.size⟩ ⟨W.heap.size, by omega, Blk.new W _ _, rfl⟩
  case body =>
    rintro l pre ⟨⟨tx, rx⟩, hmem⟩ a' W hl ⟨rl, hrl⟩ ⟨⟨v, h1, h2⟩, h3, h4, h5⟩ ⟨Bx, hBx, hbx, rfl⟩ hlt
    have hT : TrAt W tx := nds_at t r h3 _ hmem
    have hpl : (pre.filterMap (fun x => paneOf x.1)).length ≤ 1000 := Nat.le_trans (List.length_filterMap_le _ _) (by omega)
    dsimp only
    gi_wp2
    refine ⟨trivial, (CallsIn.inRound l (callsIn_wide.2 (pane_any tx W hT))).mono ?_⟩
    rintro e W1 ⟨rfl, rfl⟩
    cases tx with
    | split g a p q tl tr =>
      gi_wp2
      refine ⟨(KeepsOthers.refl _).from _, KpB.of_below (Below.refl _ _) (by omega) (by omega), ⟨v, h1, ?_⟩, h3, h4, h5⟩
      simpa [List.filterMap_append, paneOf] using h2
    | pane g i =>
      have hT' : Blk W g 59 (paneC i) := hT
      obtain ⟨A, c, rfl⟩ := own_slice h2
      dsimp only [Tr.g]
      gi_upto_region 8 with fail
      refine region_round (by kernel_rfl) (by rfl) ?_ (fun _ _ h => h)
      have q0 : W.drew.cell? ⟨B, 0, none⟩ = some (.slice A (pre.filterMap (fun x => paneOf x.1)).length c) := h1.cell 0
      have q1 : W.drew.cell? ⟨g, 0, none⟩ = some (.int .i64 i) := hT'.cell 0
      have q2 : W.drew.cell? ⟨Bx, 0, none⟩ = some (.int .i64 rx.x) := hbx.cell 0
      have q3 : W.drew.cell? ⟨Bx, 1, none⟩ = some (.int .i64 rx.y) := hbx.cell 1
      have q4 : W.drew.cell? ⟨Bx, 2, none⟩ = some (.int .i64 rx.w) := hbx.cell 2
      have q5 : W.drew.cell? ⟨Bx, 3, none⟩ = some (.int .i64 rx.h) := hbx.cell 3
      have q6 : (W.alloc (.cells #[.int .i64 i, .int .i64 rx.x, .int .i64 rx.y, .int .i64 rx.w, .int .i64 rx.h] 43)).drew.cell? ⟨B, 0, none⟩ = some (.slice A (pre.filterMap (fun x => paneOf x.1)).length c) := keepc ((Below.refl _ W).alloc (Nat.le_refl _) _) (h1.cell 0)
      generalize hPn : pre.filterMap (fun x => paneOf x.1) = pn at h1 h2 hpl q0 q6
      have HPn := Lib.hid hPn
      clear hPn
      apply via
      case h =>
        intro hfin
        refine wpAny_take (i := 1) (v := ?v1) rfl (by kernel_rfl) (by kernel_rfl) (by kernel_rfl) (fun _ _ _ h => h) (Or.inl ⟨by rfl, ?hy1⟩) ?rest1
        case hy1 => (intro w; go_simp; try with_reducible rfl)
        refine wpAny_take (i := 2) (v := ?v2) rfl (by kernel_rfl) (by kernel_rfl) (by kernel_rfl) (fun _ _ _ h => h) (Or.inl ⟨by rfl, ?hy2⟩) ?rest2
        case hy2 => (intro w; go_simp; try with_reducible rfl)
        refine wpAny_take (i := 3) (v := ?v3) rfl (by kernel_rfl) (by kernel_rfl) (by kernel_rfl) (fun _ _ _ h => h) (Or.inl ⟨by rfl, ?hy3⟩) ?rest3
        case hy3 => (intro w; go_simp; try with_reducible rfl)
        refine wpAny_ready (rs := [0, 4, 5]) (by kernel_rfl) (by simp) ?_
        refine AllReady.cons rfl (fun K hK => ?_) (AllReady.cons rfl (fun K hK => ?_) (AllReady.cons rfl (fun K hK => ?_) AllReady.nil))
        · go_simp
          refine hK _ _ ?_
          clear hK K
          refine wpAny_ready (rs := [4, 5]) (by kernel_rfl) (by simp) ?_
          refine AllReady.cons rfl (fun K hK => ?_) (AllReady.cons rfl (fun K hK => ?_) AllReady.nil)
          · go_simp
            refine hK _ _ ?_
            clear hK K
            refine wpAny_ready (rs := [5]) (by kernel_rfl) (by simp) ?_
            refine AllReady.cons rfl (fun K hK => ?_) AllReady.nil
            · go_simp
              refine hK _ _ ?_
              clear hK K
              refine wpAny_take (i := 6) (v := ?v4) rfl (by kernel_rfl) (by kernel_rfl) (by kernel_rfl) (fun _ _ _ h => h) (Or.inl ⟨by rfl, ?hy4⟩) ?rest4
              case hy4 => (intro w; go_simp; try with_reducible rfl)
              refine wpAny_ready (rs := [7]) (by kernel_rfl) (by simp) ?_
              refine AllReady.cons rfl (fun K hK => ?_) AllReady.nil
              · go_simp
                refine hK _ _ ?_
                clear hK K
                exact hfin
          · go_simp
            refine hK _ _ ?_
            clear hK K
            refine wpAny_ready (rs := [4]) (by kernel_rfl) (by simp) ?_
            refine AllReady.cons rfl (fun K hK => ?_) AllReady.nil
            · go_simp
              refine hK _ _ ?_
              clear hK K
              refine wpAny_take (i := 6) (v := ?v5) rfl (by kernel_rfl) (by kernel_rfl) (by kernel_rfl) (fun _ _ _ h => h) (Or.inl ⟨by rfl, ?hy5⟩) ?rest5
              case hy5 => (intro w; go_simp; try with_reducible rfl)
              refine wpAny_ready (rs := [7]) (by kernel_rfl) (by simp) ?_
              refine AllReady.cons rfl (fun K hK => ?_) AllReady.nil
              · go_simp
                refine hK _ _ ?_
                clear hK K
                exact hfin
        · go_simp
          refine hK _ _ ?_
          clear hK K
          refine wpAny_ready (rs := [0, 5]) (by kernel_rfl) (by simp) ?_
          refine AllReady.cons rfl (fun K hK => ?_) (AllReady.cons rfl (fun K hK => ?_) AllReady.nil)
          · go_simp
            refine hK _ _ ?_
            clear hK K
            refine wpAny_ready (rs := [5]) (by kernel_rfl) (by simp) ?_
            refine AllReady.cons rfl (fun K hK => ?_) AllReady.nil
            · go_simp
              refine hK _ _ ?_
              clear hK K
              refine wpAny_take (i := 6) (v := ?v6) rfl (by kernel_rfl) (by kernel_rfl) (by kernel_rfl) (fun _ _ _ h => h) (Or.inl ⟨by rfl, ?hy6⟩) ?rest6
              case hy6 => (intro w; go_simp; try with_reducible rfl)
              refine wpAny_ready (rs := [7]) (by kernel_rfl) (by simp) ?_
              refine AllReady.cons rfl (fun K hK => ?_) AllReady.nil
              · go_simp
                refine hK _ _ ?_
                clear hK K
                exact hfin
          · go_simp
            refine hK _ _ ?_
            clear hK K
            refine wpAny_take (i := 6) (v := ?v7) rfl (by kernel_rfl) (by kernel_rfl) (by kernel_rfl) (fun _ _ _ h => h) (Or.inl ⟨by rfl, ?hy7⟩) ?rest7
            case hy7 => (intro w; go_simp; try with_reducible rfl)
            refine wpAny_ready (rs := [0, 7]) (by kernel_rfl) (by simp) ?_
            refine AllReady.cons rfl (fun K hK => ?_) (AllReady.cons rfl (fun K hK => ?_) AllReady.nil)
            · go_simp
              refine hK _ _ ?_
              clear hK K
              refine wpAny_ready (rs := [7]) (by kernel_rfl) (by simp) ?_
              refine AllReady.cons rfl (fun K hK => ?_) AllReady.nil
              · go_simp
                refine hK _ _ ?_
                clear hK K
                exact hfin
            · go_simp
              refine hK _ _ ?_
              clear hK K
              refine wpAny_ready (rs := [0]) (by kernel_rfl) (by simp) ?_
              refine AllReady.cons rfl (fun K hK => ?_) AllReady.nil
              · go_simp
                refine hK _ _ ?_
                clear hK K
                exact hfin
        · go_simp
          refine hK _ _ ?_
          clear hK K
          refine wpAny_ready (rs := [0, 4]) (by kernel_rfl) (by simp) ?_
          refine AllReady.cons rfl (fun K hK => ?_) (AllReady.cons rfl (fun K hK => ?_) AllReady.nil)
          · go_simp
            refine hK _ _ ?_
            clear hK K
            refine wpAny_ready (rs := [4]) (by kernel_rfl) (by simp) ?_
            refine AllReady.cons rfl (fun K hK => ?_) AllReady.nil
            · go_simp
              refine hK _ _ ?_
              clear hK K
              refine wpAny_take (i := 6) (v := ?v8) rfl (by kernel_rfl) (by kernel_rfl) (by kernel_rfl) (fun _ _ _ h => h) (Or.inl ⟨by rfl, ?hy8⟩) ?rest8
              case hy8 => (intro w; go_simp; try with_reducible rfl)
              refine wpAny_ready (rs := [7]) (by kernel_rfl) (by simp) ?_
              refine AllReady.cons rfl (fun K hK => ?_) AllReady.nil
              · go_simp
                refine hK _ _ ?_
                clear hK K
                exact hfin
          · go_simp
            refine hK _ _ ?_
            clear hK K
            refine wpAny_take (i := 6) (v := ?v9) rfl (by kernel_rfl) (by kernel_rfl) (by kernel_rfl) (fun _ _ _ h => h) (Or.inl ⟨by rfl, ?hy9⟩) ?rest9
            case hy9 => (intro w; go_simp; try with_reducible rfl)
            refine wpAny_ready (rs := [0, 7]) (by kernel_rfl) (by simp) ?_
            refine AllReady.cons rfl (fun K hK => ?_) (AllReady.cons rfl (fun K hK => ?_) AllReady.nil)
            · go_simp
              refine hK _ _ ?_
              clear hK K
              refine wpAny_ready (rs := [7]) (by kernel_rfl) (by simp) ?_
              refine AllReady.cons rfl (fun K hK => ?_) AllReady.nil
              · go_simp
                refine hK _ _ ?_
                clear hK K
                exact hfin
            · go_simp
              refine hK _ _ ?_
              clear hK K
              refine wpAny_ready (rs := [0]) (by kernel_rfl) (by simp) ?_
              refine AllReady.cons rfl (fun K hK => ?_) AllReady.nil
              · go_simp
                refine hK _ _ ?_
                clear hK K
                exact hfin
      have h6 := ((Below.refl W.heap.size W).alloc (Nat.le_refl _) (.cells #[.int .i64 i, .int .i64 rx.x, .int .i64 rx.y, .int .i64 rx.w, .int .i64 rx.h] 43)).drew
      have hO6 := own_below h2 h6
      have hsrc : ∀ j u, (paneV (i, rx))[j]? = some u → (W.alloc (.cells #[.int .i64 i, .int .i64 rx.x, .int .i64 rx.y, .int .i64 rx.w, .int .i64 rx.h] 43)).drew.cell? ((⟨W.heap.size, 0, none⟩ : Addr).add j) = some u := World.news_of_block (Blk.new W 43 #[.int .i64 i, .int .i64 rx.x, .int .i64 rx.y, .int .i64 rx.w, .int .i64 rx.h])
      generalize (W.alloc (.cells #[.int .i64 i, .int .i64 rx.x, .int .i64 rx.y, .int .i64 rx.w, .int .i64 rx.h] 43)).drew = W6 at h6 hO6 hsrc ⊢
      refine wpAny_ready (rs := [8]) (by kernel_rfl) (by simp) ?_
      refine AllReady.cons rfl (fun K hK => ?_) AllReady.nil
      refine step_append_lies _ rfl (.tmp 22) (.tmp 29) 35 rfl B 43 i0 _ 5 40 Tryd.underlying35 hi hz0 hz1 hz2 rfl (by decide) (.slice A pn.length c) pn.length _ rfl hO6 ⟨W.heap.size, 0, none⟩ 1 1 (paneV (i, rx)) rfl rfl hsrc (by simp [Value.oneCell']) (by omega) (by unfold maxLen; omega) (by omega) (by have := h6.size; omega) W6.heap.size rfl ?_
      intro g7 c7 w7 hO7 hg7 hfr hlt7
      refine hK _ _ ?_
      clear hK K
      have hB7 := box_kept (T := 35) (e := 43) (by decide) h1 h2 h6 hg7
      have hnew : ∀ g', (Value.slice (some ⟨g7, 0, none⟩) (pn.length + 1) c7).ownBlock = some g' → (Value.slice A pn.length c).ownBlock = some g' ∨ W.heap.size ≤ g' := fun g' hg' => by
        obtain rfl : g7 = g' := Option.some.inj hg'
        rcases hfr with hfr | hfr
        · exact .inl hfr
        · exact .inr (by have := h6.size; omega)
      have hst := box_step (T := 35) (e := 43) (by decide) (by omega) (Nat.le_refl _) h1 h2 h6 hg7 hO7 hnew
      have q7 : w7.cell? ⟨B, 0, none⟩ = some (.slice A pn.length c) := hB7.cell 0
      have f7 : w7.frozen? ⟨B, 0, none⟩ = false := hB7.free 0
      obtain ⟨hs1, hs2, hs3, hs4⟩ := hst
      refine wpAny_ready (rs := [9]) (by kernel_rfl) (by simp) ?_
      refine AllReady.cons rfl (fun K hK => ?_) AllReady.nil
      go_simp
      refine hK _ _ ?_
      clear hK K
      refine wpAny_done (by kernel_rfl) ?_ _
      refine ⟨hs1.from _, hs2, ⟨_, hs3, ?_⟩, h3.below hs2.below hbl', h4.trans hs2.below, Nat.le_trans h5 hs2.below.size⟩
      have he : (pre ++ [(⟨(Tr.pane g i, rx), hmem⟩ : Sub (nds t r))]).filterMap (fun x => paneOf x.1) = pn ++ [(i, rx)] := by
        rw [List.filterMap_append, HPn.out]
        rfl
      rw [he]
      simpa using hs4
  case done =>
    rintro D ys W hD rfl ⟨⟨v, h1, h2⟩, h3, h4, h5⟩ hK
    obtain ⟨A, c, rfl⟩ := own_slice h2
    have q0 := h1.cell 0
    have hpe : (allS t r).filterMap (fun x => paneOf x.1) = panesP t r := by
      have h := List.filterMap_map (f := fun x : Sub (nds t r) => x.1) (g := paneOf) (l := allS t r)
      rw [show (allS t r).map (fun x => x.1) = nds t r from List.attachWith_map_subtype_val _] at h
      exact h.symm
    rw [hpe] at h2 q0
    have HE := Lib.hid (hpe)
    clear hpe
    gi_wp2
    refine ⟨by simp, .inl ⟨_, _, rfl, run_takeDeferred hK, ?_⟩⟩
    have hKB := belowK_b (w := w) (Nat.le_refl _) W D _ (.deferred none) (by have := HBe.out; omega) hK rfl rfl
    have h2' := ownsRow_putObj h2 (.deferred none) hK rfl
    rw [HBe.out] at h4 h2'
    exact ⟨_, results_tmp rfl _ _ _, ⟨.slice A (panesP t r).length c, rfl, h2'⟩, h4.trans hKB⟩
  case stop =>
    rintro D c pre W _ _ h _
    exact h.elim
end Go.Proofs.YtmdgjmmkegkonaaDoor
