/- The two piles in memory: what writing, and appending, make of them. -/
import Derived.Test.YtcmepnninlocmaaDoorPileW
import Derived.Test.YtcmepnninlocmaaDoorRefJ
namespace Go.Proofs.YtcmepnninlocmaaDoor
open Go.RowKit
theorem own_set {w : World} {B : Nat} {e : TypeId} {size n g c : Nat} {xs : List Value} (h : w.ownsRow B e size (.slice (some ⟨g, 0, none⟩) n c) n xs) (j : Nat) (u : Value) (hj : j < n * size) : (w.setCell ⟨g, j, none⟩ u).ownsRow B e size (.slice (some ⟨g, 0, none⟩) n c) n (xs.set j u) := by
  rcases h with ⟨hl, ⟨h1, _⟩ | ⟨g', cap, cur, h1, h2, h3, h4, h5, h6, h7⟩⟩
  · cases h1
  · injection h1 with h1 _ h8
    injection h1 with h1
    injection h1 with h1
    subst h1
    subst h8
    refine ⟨by simpa using hl, .inr ⟨g, c, cur.setIfInBounds j u, rfl, h2, Blk.set (w := w) (t := e) h3 j u, h4, h5, by simpa using h6, ?_⟩⟩
    rw [← h7]
    apply List.ext_getElem?
    intro i
    simp only [List.getElem?_take, Array.toList_setIfInBounds, List.getElem?_set]
    by_cases hi : i < n * size
    · rw [if_pos hi]
      by_cases hij : j = i
      · subst hij
        have hs : j < cur.size := by
          rw [h6]
          exact Nat.lt_of_lt_of_le hj (Nat.mul_le_mul_right size h4)
        simp [hs]
        omega
      · rw [if_neg hij, if_neg hij, if_pos hi]
    · rw [if_neg hi, if_neg (by omega), if_neg hi]
theorem own_blk {w : World} {B : Nat} {e : TypeId} {size n g c : Nat} {xs : List Value} (h : w.ownsRow B e size (.slice (some ⟨g, 0, none⟩) n c) n xs) : ∃ cur, Blk w g e cur := by
  rcases h.2 with ⟨h1, _⟩ | ⟨g', cap, cur, h1, h2, h3, _⟩
  · cases h1
  · injection h1 with h1
    injection h1 with h1
    injection h1 with h1
    subst h1
    exact ⟨cur, h3⟩
/-- Rows of two types lie apart. -/
theorem own_ne {w : World} {B : Nat} {e e' : TypeId} {size size' n n' : Nat} {v v' : Value} {xs xs' : List Value} (h : w.ownsRow B e size v n xs) (h' : w.ownsRow B e' size' v' n' xs') (hne : e ≠ e') {g : Nat} (hg : v.ownBlock = some g) : v'.ownBlock ≠ some g := by
  intro hg'
  rcases h.2 with ⟨h1, _⟩ | ⟨g1, cap, cur, h1, _, h3, _⟩
  · subst h1; cases hg
  · rcases h'.2 with ⟨k1, _⟩ | ⟨g2, cap', cur', k1, _, k3, _⟩
    · subst k1; cases hg'
    · subst h1
      subst k1
      injection hg with hg
      injection hg' with hg'
      have e1 : g1 = g := hg
      have e2 : g2 = g := hg'
      subst e1
      subst e2
      rw [h3] at k3
      injection k3 with k3
      injection k3 with _ k3
      exact hne k3
theorem set5 : ∀ (es : List E5) (n : Nat) (x : E5) (y0 y1 y2 y3 y4 : Value), n < es.length → e5 x = [y0, y1, y2, y3, y4] →
    (((((es.flatMap e5).set (n * 5) y0).set (n * 5 + 1) y1).set (n * 5 + 2) y2).set (n * 5 + 3) y3).set (n * 5 + 4) y4 = (es.set n x).flatMap e5
  | [], n, x, _, _, _, _, _, h, _ => by simp at h
  | x0 :: es, 0, x, y0, y1, y2, y3, y4, h, hx => by
    rw [List.set_cons_zero, List.flatMap_cons, List.flatMap_cons, hx]
    simp [e5]
  | x0 :: es, n + 1, x, y0, y1, y2, y3, y4, h, hx => by
    have ih := set5 es n x y0 y1 y2 y3 y4 (by simpa using h) hx
    rw [List.set_cons_succ, List.flatMap_cons, List.flatMap_cons, ← ih]
    have hl : (e5 x0).length = 5 := rfl
    rw [List.set_append_right _ _ (by omega), List.set_append_right _ _ (by omega), List.set_append_right _ _ (by omega), List.set_append_right _ _ (by omega), List.set_append_right _ _ (by omega), hl,
      show (n + 1) * 5 - 5 = n * 5 from by omega, show (n + 1) * 5 + 1 - 5 = n * 5 + 1 from by omega, show (n + 1) * 5 + 2 - 5 = n * 5 + 2 from by omega, show (n + 1) * 5 + 3 - 5 = n * 5 + 3 from by omega, show (n + 1) * 5 + 4 - 5 = n * 5 + 4 from by omega]
/-- The two piles, and the faults of the first one. -/
structure St (w : World) (B : Nat) (va vb : Value) (vs : List Value) (es : List E5) (fs : List (Option Ft)) : Prop where
  a : w.ownsRow B 29 1 va vs.length vs
  b : w.ownsRow B 45 5 vb es.length (es.flatMap e5)
  f : FtOs (hide2 w va.ownBlock vb.ownBlock) fs vs
  le : B ≤ w.heap.size
section
variable {w w' : World} {B : Nat} {va vb : Value} {vs : List Value} {es : List E5} {fs : List (Option Ft)}
theorem own_kept {e : TypeId} {size n : Nat} {v : Value} {xs : List Value} (h : w.ownsRow B e size v n xs) (hb : Below w.heap.size w w') : w'.ownsRow B e size v n xs :=
  h.kept (grown_of_below hb) (by
    cases hv : v.ownBlock with
    | none => exact .inl rfl
    | some g => exact .inr (by simp))
theorem St.below (h : St w B va vb vs es fs) (hb : Below w.heap.size w w') : St w' B va vb vs es fs := ⟨own_kept h.a hb, own_kept h.b hb, h.f.kp (Kp.belowH _ _ hb), Nat.le_trans h.le hb.size⟩
theorem St.in2 (h : St w B va vb vs es fs) : In2 w va.ownBlock vb.ownBlock := ⟨fun g hg => (h.a.lt g hg).2, fun g hg => (h.b.lt g hg).2⟩
/-- The first pile has grown by a fault. -/
theorem St.push_a (h : St w B va vb vs es fs) {F : Option Ft} {v va' : Value} (hF : FtO (hide2 w va.ownBlock vb.ownBlock) F v) (hg : w.grownBy w' va.ownBlock) (ha : w'.ownsRow B 29 1 va' (vs.length + 1) (vs ++ [v])) (hat : va'.ownBlock = va.ownBlock ∨ ∃ k, va'.ownBlock = some k ∧ w.heap.size ≤ k) :
    St w' B va' vb (vs ++ [v]) es (fs ++ [F]) := by
  have hk := Kp.grown hg (o := va.ownBlock) (p := vb.ownBlock) (.inl rfl) hat (.inl rfl)
  refine ⟨by rw [List.length_append]; exact ha, h.b.kept hg ?_, ⟨by simp [h.f.1], fun i G u h1 h2 => ?_⟩, Nat.le_trans h.le hg.size⟩
  · cases hv : va.ownBlock with
    | none =>
      cases hw : vb.ownBlock with
      | none => exact .inl rfl
      | some g => exact .inr (by simp)
    | some g => exact .inr (own_ne h.a h.b (by decide) hv)
  · have hl := h.f.1
    rcases Nat.lt_or_ge i fs.length with hi | hi
    · rw [List.getElem?_append_left hi] at h1
      rw [List.getElem?_append_left (by omega)] at h2
      exact (h.f.2 i G u h1 h2).kp hk
    · rw [List.getElem?_append_right hi] at h1
      rw [List.getElem?_append_right (by omega)] at h2
      have e1 : i - fs.length = 0 := by
        have := (List.getElem?_eq_some_iff.1 h1).1
        simp at this
        omega
      have e2 : i - vs.length = 0 := by omega
      rw [e1] at h1
      rw [e2] at h2
      simp at h1 h2
      subst h1
      subst h2
      exact hF.kp hk
/-- The second pile has grown. -/
theorem St.push_b (h : St w B va vb vs es fs) {x : E5} {vb' : Value} (hg : w.grownBy w' vb.ownBlock) (hb : w'.ownsRow B 45 5 vb' (es.length + 1) (es.flatMap e5 ++ e5 x)) (hat : vb'.ownBlock = vb.ownBlock ∨ ∃ k, vb'.ownBlock = some k ∧ w.heap.size ≤ k) :
    St w' B va vb' vs (es ++ [x]) fs := by
  have hk := Kp.grown hg (o := va.ownBlock) (p := vb.ownBlock) (.inr (.inl rfl)) (.inl rfl) hat
  refine ⟨h.a.kept hg ?_, by rw [List.flatMap_append, List.length_append]; simpa using hb, h.f.kp hk, Nat.le_trans h.le hg.size⟩
  cases hv : vb.ownBlock with
  | none =>
    cases hw : va.ownBlock with
    | none => exact .inl rfl
    | some g => exact .inr (by simp)
  | some g => exact .inr (own_ne h.b h.a (by decide) hv)
theorem own_base {e : TypeId} {size n H : Nat} {v : Value} {xs : List Value} (h : w.ownsRow H e size v n xs) (hB : B ≤ H) : w.ownsRow B e size v n xs := by
  refine ⟨h.1, ?_⟩
  rcases h.2 with h1 | ⟨g, cap, cur, h1, h2, h3⟩
  · exact .inl h1
  · exact .inr ⟨g, cap, cur, h1, by omega, h3⟩
theorem own_some {e : TypeId} {size n H : Nat} {v : Value} {xs : List Value} (h : w.ownsRow H e size v (n + 1) xs) : ∃ k, v.ownBlock = some k ∧ H ≤ k := by
  rcases h.2 with ⟨_, h1⟩ | ⟨g, cap, cur, h1, h2, h3⟩
  · omega
  · exact ⟨g, by rw [h1]; rfl, h2⟩
/-- The first pile is another one, in new memory. -/
theorem St.new_a (h : St w B va vb vs es fs) {F : Option Ft} {v va' : Value} (q : Nat) (hq : q ≤ vs.length) (hb : Below w.heap.size w w') (hF : FtO (hide2 w va.ownBlock vb.ownBlock) F v) (ha : w'.ownsRow w.heap.size 29 1 va' (q + 1) (vs.take q ++ [v])) :
    St w' B va' vb (vs.take q ++ [v]) es (fs.take q ++ [F]) := by
  have hk := Kp.grown (grown_of_below hb) (o := va.ownBlock) (p := vb.ownBlock) (o' := va'.ownBlock) (.inr (.inr rfl)) (.inr (own_some ha)) (.inl rfl)
  have hlq : (vs.take q).length = q := by rw [List.length_take]; omega
  have hfq : (fs.take q).length = q := by rw [List.length_take, h.f.1]; omega
  refine ⟨?_, own_kept h.b hb, ⟨by simp [h.f.1], fun i G u h1 h2 => ?_⟩, Nat.le_trans h.le hb.size⟩
  · rw [List.length_append, hlq]
    exact own_base ha h.le
  · rcases Nat.lt_or_ge i q with hi | hi
    · rw [List.getElem?_append_left (by omega), List.getElem?_take_of_lt hi] at h1 h2
      exact (h.f.2 i G u h1 h2).kp hk
    · rw [List.getElem?_append_right (by omega), hfq] at h1
      rw [List.getElem?_append_right (by omega), hlq] at h2
      have e1 : i - q = 0 := by
        have := (List.getElem?_eq_some_iff.1 h1).1
        simp at this
        omega
      rw [e1] at h1 h2
      simp at h1 h2
      subst h1
      subst h2
      exact hF.kp hk
/-- The second pile is another one, in new memory. -/
theorem St.new_b (h : St w B va vb vs es fs) {x : E5} {vb' : Value} (q : Nat) (hq : q ≤ es.length) (hb : Below w.heap.size w w') (hb' : w'.ownsRow w.heap.size 45 5 vb' (q + 1) ((es.take q).flatMap e5 ++ e5 x)) :
    St w' B va vb' vs (es.take q ++ [x]) fs := by
  have hk := Kp.grown (grown_of_below hb) (o := va.ownBlock) (p := vb.ownBlock) (p' := vb'.ownBlock) (.inr (.inr rfl)) (.inl rfl) (.inr (own_some hb'))
  have hlq : (es.take q).length = q := by rw [List.length_take]; omega
  refine ⟨own_kept h.a hb, ?_, h.f.kp hk, Nat.le_trans h.le hb.size⟩
  rw [List.length_append, hlq, List.flatMap_append]
  have := own_base hb' h.le
  simpa using this
theorem grown_setCell (w : World) (g j : Nat) (u : Value) : w.grownBy (w.setCell ⟨g, j, none⟩ u) (some g) := only_set (only_refl g w) j u
/-- A fault of the first pile is written over. -/
theorem St.set_a {g n c : Nat} (h : St w B (.slice (some ⟨g, 0, none⟩) n c) vb vs es fs) {F : Option Ft} {v : Value} (i : Nat) (hi : i < vs.length) (hF : FtO (hide2 w (some g) vb.ownBlock) F v) :
    St (w.setCell ⟨g, i, none⟩ v) B (.slice (some ⟨g, 0, none⟩) n c) vb (vs.set i v) es (fs.set i F) := by
  have hn : n = vs.length := by
    rcases h.a.2 with ⟨h1, _⟩ | ⟨g', cap, cur, h1, _⟩
    · cases h1
    · injection h1 
  subst hn
  have hg := grown_setCell w g i v
  have hk := Kp.grown hg (o := some g) (p := vb.ownBlock) (.inl rfl) (.inl rfl) (.inl rfl)
  refine ⟨?_, h.b.kept hg (.inr (own_ne h.a h.b (by decide) rfl)), ⟨by simp [h.f.1], fun k G u h1 h2 => ?_⟩, Nat.le_trans h.le hg.size⟩
  · have := own_set h.a i v (by omega)
    simpa using this
  · by_cases hki : i = k
    · subst hki
      have hfi : i < fs.length := by rw [h.f.1]; exact hi
      rw [List.getElem?_set_self hfi] at h1
      rw [List.getElem?_set_self hi] at h2
      injection h1 with h1
      injection h2 with h2
      subst h1
      subst h2
      exact hF.kp hk
    · rw [List.getElem?_set_ne hki] at h1 h2
      exact (h.f.2 k G u h1 h2).kp hk
/-- A fault of the second pile is written over. -/
theorem St.set_b {g n c : Nat} (h : St w B va (.slice (some ⟨g, 0, none⟩) n c) vs es fs) (i : Nat) (hi : i < es.length) (x : E5) {y0 y1 y2 y3 y4 : Value} (hx : e5 x = [y0, y1, y2, y3, y4]) :
    St (((((w.setCell ⟨g, i * 5, none⟩ y0).setCell ⟨g, i * 5 + 1, none⟩ y1).setCell ⟨g, i * 5 + 2, none⟩ y2).setCell ⟨g, i * 5 + 3, none⟩ y3).setCell ⟨g, i * 5 + 4, none⟩ y4) B va (.slice (some ⟨g, 0, none⟩) n c) vs (es.set i x) fs := by
  have hn : n = es.length := by
    rcases h.b.2 with ⟨h1, _⟩ | ⟨g', cap, cur, h1, _⟩
    · cases h1
    · injection h1
  subst hn
  have hg : w.grownBy (((((w.setCell ⟨g, i * 5, none⟩ y0).setCell ⟨g, i * 5 + 1, none⟩ y1).setCell ⟨g, i * 5 + 2, none⟩ y2).setCell ⟨g, i * 5 + 3, none⟩ y3).setCell ⟨g, i * 5 + 4, none⟩ y4) (some g) :=
    only_set (only_set (only_set (only_set (only_set (only_refl g w) _ _) _ _) _ _) _ _) _ _
  have hk := Kp.grown hg (o := va.ownBlock) (p := some g) (.inr (.inl rfl)) (.inl rfl) (.inl rfl)
  refine ⟨h.a.kept hg (.inr (own_ne h.b h.a (by decide) rfl)), ?_, h.f.kp hk, Nat.le_trans h.le hg.size⟩
  have h5 := own_set (own_set (own_set (own_set (own_set h.b (i * 5) y0 (by omega)) (i * 5 + 1) y1 (by omega)) (i * 5 + 2) y2 (by omega)) (i * 5 + 3) y3 (by omega)) (i * 5 + 4) y4 (by omega)
  rw [set5 es i x y0 y1 y2 y3 y4 hi hx] at h5
  simpa using h5
end
end Go.Proofs.YtcmepnninlocmaaDoor
