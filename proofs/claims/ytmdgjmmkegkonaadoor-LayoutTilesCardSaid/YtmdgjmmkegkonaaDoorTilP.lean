/- Panes and borders tile the rectangle: the plain law. -/
import Derived.Test.YtmdgjmmkegkonaaDoorAtW
import Derived.Test.YtmdgjmmkegkonaaDoorLayQ
namespace Go.Proofs.YtmdgjmmkegkonaaDoor
/-- A pane's rectangle, a split's border. -/
def boxOf : Nd → Rc
  | (.pane _ _, r) => r
  | (.split _ a p q _ _, r) => cutM a (shr (lenR r a) p q) r
def isIn (x y : Int) (r : Rc) : Nat := if inR r x y then 1 else 0
def cnt (l : List Rc) (x y : Int) : Nat := (l.map (isIn x y)).sum
theorem inR_iff {r : Rc} {x y : Int} : inR r x y = true ↔ r.x ≤ x ∧ x < r.x + r.w ∧ r.y ≤ y ∧ y < r.y + r.h := by
  simp [inR, and_assoc]
theorem isIn_cut {r : Rc} {a : Bool} {k x y : Int} (h1 : 1 ≤ k) (h2 : k ≤ lenR r a - 2) : isIn x y (cut1 a k r) + (isIn x y (cutM a k r) + isIn x y (cut2 a k r)) = isIn x y r := by
  have e : ∀ r : Rc, isIn x y r = if (r.x ≤ x ∧ x < r.x + r.w ∧ r.y ≤ y ∧ y < r.y + r.h) then 1 else 0 := fun r => by
    unfold isIn
    by_cases h : inR r x y = true
    · rw [if_pos h, if_pos (inR_iff.1 h)]
    · rw [if_neg h, if_neg (fun h' => h (inR_iff.2 h'))]
  rw [e, e, e, e]
  cases a
  · simp only [lenR, cut1, cutM, cut2, Bool.false_eq_true, if_false] at h2 ⊢
    split <;> split <;> split <;> split <;> omega
  · simp only [lenR, cut1, cutM, cut2, if_true] at h2 ⊢
    split <;> split <;> split <;> split <;> omega
theorem cnt_append (l m : List Rc) (x y : Int) : cnt (l ++ m) x y = cnt l x y + cnt m x y := by simp [cnt]
theorem cnt_nds : ∀ (t : Tr) (r : Rc), RcOk r → Nums t → fitsP t r = true → ∀ x y, cnt ((nds t r).map boxOf) x y = isIn x y r
  | .pane g i, r, _, _, _, x, y => by simp [nds, boxOf, cnt]
  | .split g a p q tl tr, r, hr, hN, hf, x, y => by
    have hn : ¬ lenR r a < 3 := fun hn => by
      unfold fitsP at hf
      rw [if_pos hn] at hf
      cases hf
    unfold fitsP at hf
    rw [if_neg hn, Bool.and_eq_true] at hf
    have hsb := shr_bd (n := lenR r a) (p := p) (q := q) (by omega)
    have h1 := cnt_nds tl _ (cut1_ok hr a hsb.1 hsb.2) hN.2.2.2.1 hf.1 x y
    have h2 := cnt_nds tr _ (cut2_ok hr a hsb.1 hsb.2) hN.2.2.2.2 hf.2 x y
    have h3 := isIn_cut (r := r) (a := a) (x := x) (y := y) hsb.1 hsb.2
    simp only [nds, List.map_append, List.map_cons]
    rw [cnt_append, h1]
    have h4 : ∀ (b : Rc) (l : List Rc), cnt (b :: l) x y = isIn x y b + cnt l x y := fun b l => by simp [cnt]
    rw [h4, h2]
    exact h3
/-- All rectangles: the panes', then the borders. -/
def boxes (t : Tr) (r : Rc) : List Rc := (panesP t r).map (·.2) ++ bordersP t r
theorem boxes_split (l : List Nd) (x y : Int) : cnt ((l.filterMap paneOf).map (·.2)) x y + cnt (l.filterMap bordOf) x y = cnt (l.map boxOf) x y := by
  induction l with
  | nil => rfl
  | cons z l ih =>
    have h4 : ∀ (b : Rc) (l : List Rc), cnt (b :: l) x y = isIn x y b + cnt l x y := fun b l => by simp [cnt]
    obtain ⟨tz, rz⟩ := z
    cases tz with
    | pane g i =>
      simp only [List.filterMap_cons, paneOf, bordOf, List.map_cons, h4, boxOf]
      omega
    | split g a p q tl tr =>
      simp only [List.filterMap_cons, paneOf, bordOf, List.map_cons, h4, boxOf]
      omega
/-- EACH PLACE LIES IN ONE OF THEM. -/
theorem cnt_boxes (t : Tr) (r : Rc) (hr : RcOk r) (hN : Nums t) (hf : fitsP t r = true) (x y : Int) : cnt (boxes t r) x y = isIn x y r := by
  unfold boxes
  rw [cnt_append, boxes_split, cnt_nds t r hr hN hf]
theorem box_ok (t : Tr) (r : Rc) (hr : RcOk r) (hN : Nums t) (hf : fitsP t r = true) : ∀ z ∈ nds t r, RcOk (boxOf z) := fun z hz => by
  obtain ⟨h1, h2, h3⟩ := nds_ok t r hr hN hf z hz
  obtain ⟨tz, rz⟩ := z
  cases tz with
  | pane g i => exact h1
  | split g a p q tl tr =>
    have hn : ¬ lenR rz a < 3 := fun hn => by
      unfold fitsP at h3
      rw [if_pos hn] at h3
      cases h3
    have hsb := shr_bd (n := lenR rz a) (p := p) (q := q) (by omega)
    exact cutM_ok h1 a hsb.1 hsb.2
/-- All rectangles lie in the great one. -/
theorem box_in (t : Tr) : ∀ (r : Rc), RcOk r → Nums t → fitsP t r = true → ∀ z ∈ nds t r, r.x ≤ (boxOf z).x ∧ (boxOf z).x + (boxOf z).w ≤ r.x + r.w ∧ r.y ≤ (boxOf z).y ∧ (boxOf z).y + (boxOf z).h ≤ r.y + r.h := by
  induction t with
  | pane g i =>
    intro r hr hN hf z hz
    simp only [nds, List.mem_singleton] at hz
    subst hz
    simp [boxOf]
  | split g a p q tl tr ihl ihr =>
    intro r hr hN hf z hz
    have hn : ¬ lenR r a < 3 := fun hn => by
      unfold fitsP at hf
      rw [if_pos hn] at hf
      cases hf
    unfold fitsP at hf
    rw [if_neg hn, Bool.and_eq_true] at hf
    have hsb := shr_bd (n := lenR r a) (p := p) (q := q) (by omega)
    have hrr := hr
    obtain ⟨e1, e2, e3, e4, e5, e6⟩ := hrr
    simp only [nds, List.mem_append, List.mem_cons] at hz
    rcases hz with hz | rfl | hz
    · have h1 := ihl _ (cut1_ok hr a hsb.1 hsb.2) hN.2.2.2.1 hf.1 z hz
      cases a <;> simp [cut1, lenR] at h1 hsb ⊢ <;> omega
    · cases a <;> simp [boxOf, cutM, lenR] at hsb ⊢ <;> omega
    · have h1 := ihr _ (cut2_ok hr a hsb.1 hsb.2) hN.2.2.2.2 hf.2 z hz
      cases a <;> simp [cut2, lenR] at h1 hsb ⊢ <;> omega
theorem boxes_mem {t : Tr} {r : Rc} {b : Rc} (h : b ∈ boxes t r) : ∃ z ∈ nds t r, b = boxOf z := by
  unfold boxes at h
  rcases List.mem_append.1 h with h | h
  · obtain ⟨⟨i, rp⟩, hp, rfl⟩ := List.mem_map.1 h
    obtain ⟨⟨tz, rz⟩, hz, he⟩ := List.mem_filterMap.1 hp
    cases tz with
    | pane g i' =>
      simp only [paneOf, Option.some.injEq, Prod.mk.injEq] at he
      exact ⟨_, hz, he.2.symm⟩
    | split g a p q tl tr => simp [paneOf] at he
  · obtain ⟨⟨tz, rz⟩, hz, he⟩ := List.mem_filterMap.1 h
    cases tz with
    | pane g i' => simp [bordOf] at he
    | split g a p q tl tr =>
      simp only [bordOf, Option.some.injEq] at he
      exact ⟨_, hz, he.symm⟩
/-- The pane at a place of a pane. -/
theorem at_pane (l : List Nd) (x y : Int) (h1 : cnt (l.map boxOf) x y ≤ 1) (i : Int) (rp : Rc) (hp : (i, rp) ∈ l.filterMap paneOf) (hin : inR rp x y = true) : l.findSome? (hitN x y) = some i := by
  induction l with
  | nil => simp at hp
  | cons z l ih =>
    have h4 : ∀ (b : Rc) (l : List Rc), cnt (b :: l) x y = isIn x y b + cnt l x y := fun b l => by simp [cnt]
    rw [List.map_cons, h4] at h1
    obtain ⟨tz, rz⟩ := z
    have hge : ∀ l : List Nd, (i, rp) ∈ l.filterMap paneOf → 1 ≤ cnt (l.map boxOf) x y := fun l hl => by
      rw [← boxes_split]
      have h5 : rp ∈ (l.filterMap paneOf).map (·.2) := List.mem_map.2 ⟨_, hl, rfl⟩
      generalize (l.filterMap paneOf).map (·.2) = m at h5 ⊢
      have h6 : 1 ≤ cnt m x y := by
        induction m with
        | nil => simp at h5
        | cons b m ihm =>
          rw [h4]
          rcases List.mem_cons.1 h5 with rfl | h5
          · have : isIn x y rp = 1 := by unfold isIn; rw [if_pos hin]
            omega
          · have := ihm h5
            omega
      omega
    cases tz with
    | split g a p q tl tr =>
      have hp' : (i, rp) ∈ l.filterMap paneOf := by simpa [List.filterMap_cons, paneOf] using hp
      rw [List.findSome?_cons]
      simp only [hitN]
      exact ih (by omega) hp'
    | pane g i' =>
      rw [List.findSome?_cons]
      simp only [List.filterMap_cons, paneOf, List.mem_cons] at hp
      rcases hp with hp | hp
      · obtain ⟨rfl, rfl⟩ := Prod.mk.inj hp
        simp [hitN, hin]
      · have h5 := hge l hp
        have h6 : isIn x y rz = 0 := by simp only [boxOf] at h1; omega
        have h7 : inR rz x y = false := by
          unfold isIn at h6
          split at h6
          · omega
          · rename_i h8
            simpa using h8
        simp only [hitN, h7, Bool.false_eq_true, if_false]
        exact ih (by omega) hp
theorem boxes_len (t : Tr) (r : Rc) : (boxes t r).length + 1 = 2 * t.ids.length := by
  have h1 : ∀ l : List Nd, (l.filterMap paneOf).length + (l.filterMap bordOf).length = l.length := fun l => by
    induction l with
    | nil => rfl
    | cons z l ih =>
      obtain ⟨tz, rz⟩ := z
      cases tz <;> simp [List.filterMap_cons, paneOf, bordOf] <;> omega
  have h2 := nds_len t r
  have h3 : (panesP t r).length + (bordersP t r).length = (nds t r).length := h1 (nds t r)
  unfold boxes
  rw [List.length_append, List.length_map]
  omega
end Go.Proofs.YtmdgjmmkegkonaaDoor
