/- Plain laws of layouts: a tree around a place; splitting a pane, closing one. -/
import Derived.Test.YtmdgjmmkegkonaaDoorPanesW
namespace Go.Proofs.YtmdgjmmkegkonaaDoor
open Go.RowKit
inductive Cx where
  | here : Cx
  | left (g : Nat) (a : Bool) (p q : Int) (c : Cx) (r : Tr) : Cx
  | right (g : Nat) (a : Bool) (p q : Int) (l : Tr) (c : Cx) : Cx
def Cx.plug : Cx → Tr → Tr
  | .here, s => s
  | .left g a p q c r, s => .split g a p q (c.plug s) r
  | .right g a p q l c, s => .split g a p q l (c.plug s)
def Cx.rect : Cx → Rc → Rc
  | .here, rc => rc
  | .left _ a p q c _, rc => c.rect (cut1 a (shr (lenR rc a) p q) rc)
  | .right _ a p q _ c, rc => c.rect (cut2 a (shr (lenR rc a) p q) rc)
def Cx.spine : Cx → Rc → List (Nat × Rc)
  | .here, _ => []
  | .left g a p q c _, rc => (g, rc) :: c.spine (cut1 a (shr (lenR rc a) p q) rc)
  | .right g a p q _ c, rc => (g, rc) :: c.spine (cut2 a (shr (lenR rc a) p q) rc)
def Cx.bl : Cx → List Nat
  | .here => []
  | .left g _ _ _ c r => g :: (c.bl ++ r.bl)
  | .right g _ _ _ l c => g :: (l.bl ++ c.bl)
def Tr.ids : Tr → List Int
  | .pane _ i => [i]
  | .split _ _ _ _ l r => l.ids ++ r.ids
def Cx.lids : Cx → List Int
  | .here => []
  | .left _ _ _ _ c _ => c.lids
  | .right _ _ _ _ l c => l.ids ++ c.lids
def Cx.rids : Cx → List Int
  | .here => []
  | .left _ _ _ _ c r => c.rids ++ r.ids
  | .right _ _ _ _ _ c => c.rids
def Cx.lpanes : Cx → Rc → List (Int × Rc)
  | .here, _ => []
  | .left _ a p q c _, rc => c.lpanes (cut1 a (shr (lenR rc a) p q) rc)
  | .right _ a p q l c, rc => panesP l (cut1 a (shr (lenR rc a) p q) rc) ++ c.lpanes (cut2 a (shr (lenR rc a) p q) rc)
def Cx.rpanes : Cx → Rc → List (Int × Rc)
  | .here, _ => []
  | .left _ a p q c r, rc => c.rpanes (cut1 a (shr (lenR rc a) p q) rc) ++ panesP r (cut2 a (shr (lenR rc a) p q) rc)
  | .right _ a p q _ c, rc => c.rpanes (cut2 a (shr (lenR rc a) p q) rc)
def Cx.fits : Cx → Rc → Bool
  | .here, _ => true
  | .left _ a p q c r, rc => if lenR rc a < 3 then false else c.fits (cut1 a (shr (lenR rc a) p q) rc) && fitsP r (cut2 a (shr (lenR rc a) p q) rc)
  | .right _ a p q l c, rc => if lenR rc a < 3 then false else fitsP l (cut1 a (shr (lenR rc a) p q) rc) && c.fits (cut2 a (shr (lenR rc a) p q) rc)
def Cx.nums : Cx → Prop
  | .here => True
  | .left _ _ p q c r => 1 ≤ p ∧ p < q ∧ q ≤ 200 ∧ c.nums ∧ Nums r
  | .right _ _ p q l c => 1 ≤ p ∧ p < q ∧ q ≤ 200 ∧ Nums l ∧ c.nums
theorem panesP_pane (g : Nat) (i : Int) (r : Rc) : panesP (.pane g i) r = [(i, r)] := rfl
theorem panesP_split (g : Nat) (a : Bool) (p q : Int) (l r : Tr) (rc : Rc) : panesP (.split g a p q l r) rc = panesP l (cut1 a (shr (lenR rc a) p q) rc) ++ panesP r (cut2 a (shr (lenR rc a) p q) rc) := by
  simp only [panesP, nds, List.filterMap_append]
  rfl
theorem panes_ids : ∀ (t : Tr) (r : Rc), (panesP t r).map (·.1) = t.ids
  | .pane g i, r => rfl
  | .split g a p q l r, rc => by rw [panesP_split, List.map_append, panes_ids l, panes_ids r]; rfl
theorem panes_len (t : Tr) (r : Rc) : (panesP t r).length = t.ids.length := by rw [← panes_ids t r, List.length_map]
theorem ids_pos : ∀ t : Tr, 0 < t.ids.length
  | .pane _ _ => by simp [Tr.ids]
  | .split _ _ _ _ l _ => by have := ids_pos l; simp [Tr.ids]; omega
theorem nds_len : ∀ (t : Tr) (r : Rc), (nds t r).length + 1 = 2 * t.ids.length
  | .pane g i, r => rfl
  | .split g a p q l r, rc => by
    have h1 := nds_len l (cut1 a (shr (lenR rc a) p q) rc)
    have h2 := nds_len r (cut2 a (shr (lenR rc a) p q) rc)
    simp only [nds, Tr.ids, List.length_append, List.length_cons]
    omega
theorem bl_len : ∀ t : Tr, t.bl.length + 1 = 2 * t.ids.length
  | .pane g i => rfl
  | .split g a p q l r => by
    have h1 := bl_len l
    have h2 := bl_len r
    simp only [Tr.bl, Tr.ids, List.length_append, List.length_cons]
    omega
theorem plug_ids (s : Tr) : ∀ c : Cx, (c.plug s).ids = c.lids ++ (s.ids ++ c.rids)
  | .here => by simp [Cx.plug, Cx.lids, Cx.rids]
  | .left g a p q c r => by simp [Cx.plug, Cx.lids, Cx.rids, Tr.ids, plug_ids s c]
  | .right g a p q l c => by simp [Cx.plug, Cx.lids, Cx.rids, Tr.ids, plug_ids s c]
theorem plug_bl (s : Tr) : ∀ c : Cx, List.Perm (c.plug s).bl (c.bl ++ s.bl)
  | .here => by simp [Cx.plug, Cx.bl]
  | .left g a p q c r => by
    simp only [Cx.plug, Cx.bl, Tr.bl, List.cons_append]
    refine List.Perm.cons _ (((plug_bl s c).append_right _).trans ?_)
    rw [List.append_assoc, List.append_assoc]
    exact List.perm_append_comm.append_left _
  | .right g a p q l c => by
    simp only [Cx.plug, Cx.bl, Tr.bl, List.cons_append, List.append_assoc]
    exact List.Perm.cons _ ((plug_bl s c).append_left _)
theorem plug_mem {s : Tr} {c : Cx} {k : Nat} : k ∈ (c.plug s).bl ↔ k ∈ c.bl ∨ k ∈ s.bl := by
  rw [(plug_bl s c).mem_iff, List.mem_append]
theorem plug_nodup {s : Tr} {c : Cx} : (c.plug s).bl.Nodup ↔ c.bl.Nodup ∧ s.bl.Nodup ∧ ∀ k ∈ c.bl, k ∉ s.bl := by
  rw [(plug_bl s c).nodup_iff, List.nodup_append]
  constructor
  · rintro ⟨h1, h2, h3⟩
    exact ⟨h1, h2, fun k hk hs => h3 k hk k hs rfl⟩
  · rintro ⟨h1, h2, h3⟩
    exact ⟨h1, h2, fun k hk j hj e => h3 k hk (e ▸ hj)⟩
theorem plug_g {s s' : Tr} (h : s'.g = s.g) : ∀ c : Cx, (c.plug s').g = (c.plug s).g
  | .here => h
  | .left _ _ _ _ _ _ => rfl
  | .right _ _ _ _ _ _ => rfl
theorem plug_sub {w : World} {s : Tr} : ∀ c : Cx, TrAt w (c.plug s) → TrAt w s
  | .here, h => h
  | .left _ _ _ _ c _, h => plug_sub c h.2.1
  | .right _ _ _ _ _ c, h => plug_sub c h.2.2
/-- Another tree in a tree's place. -/
theorem plug_at {w w' : World} {s s' : Tr} (hg : s'.g = s.g) (hs : TrAt w' s') : ∀ c : Cx, TrAt w (c.plug s) → (∀ k ∈ c.bl, w'.heap[k]? = w.heap[k]?) → TrAt w' (c.plug s')
  | .here, _, _ => hs
  | .left g a p q c r, h, hk => by
    refine ⟨?_, plug_at hg hs c h.2.1 (fun k h' => hk k (by simp [Cx.bl, h'])), TrAt.keep r h.2.2 (fun k h' => hk k (by simp [Cx.bl, h']))⟩
    rw [plug_g hg c]
    exact (hk g (by simp [Cx.bl])).trans h.1
  | .right g a p q l c, h, hk => by
    refine ⟨?_, TrAt.keep l h.2.1 (fun k h' => hk k (by simp [Cx.bl, h'])), plug_at hg hs c h.2.2 (fun k h' => hk k (by simp [Cx.bl, h']))⟩
    rw [plug_g hg c]
    exact (hk g (by simp [Cx.bl])).trans h.1
theorem plug_fits (s : Tr) : ∀ (c : Cx) (r : Rc), fitsP (c.plug s) r = (c.fits r && fitsP s (c.rect r))
  | .here, r => by simp [Cx.plug, Cx.fits, Cx.rect]
  | .left g a p q c t, r => by
    simp only [Cx.plug, Cx.fits, Cx.rect, fitsP, plug_fits s c]
    split
    · simp
    · simp only [Bool.and_assoc, Bool.and_comm (fitsP s _)]
  | .right g a p q l c, r => by
    simp only [Cx.plug, Cx.fits, Cx.rect, fitsP, plug_fits s c]
    split
    · simp
    · simp only [Bool.and_assoc]
theorem plug_nums (s : Tr) : ∀ c : Cx, Nums (c.plug s) ↔ c.nums ∧ Nums s
  | .here => by simp [Cx.plug, Cx.nums]
  | .left g a p q c t => by simp only [Cx.plug, Cx.nums, Nums, plug_nums s c]; constructor <;> (rintro h; simp_all)
  | .right g a p q l c => by simp only [Cx.plug, Cx.nums, Nums, plug_nums s c]; constructor <;> (rintro h; simp_all)
theorem rect_ok : ∀ (c : Cx) (r : Rc), RcOk r → c.fits r = true → RcOk (c.rect r)
  | .here, r, h, _ => h
  | .left g a p q c t, r, h, hf => by
    have hn : ¬ lenR r a < 3 := fun hn => by
      unfold Cx.fits at hf
      rw [if_pos hn] at hf
      cases hf
    unfold Cx.fits at hf
    rw [if_neg hn, Bool.and_eq_true] at hf
    have hsb := shr_bd (n := lenR r a) (p := p) (q := q) (by omega)
    exact rect_ok c _ (cut1_ok h a hsb.1 hsb.2) hf.1
  | .right g a p q l c, r, h, hf => by
    have hn : ¬ lenR r a < 3 := fun hn => by
      unfold Cx.fits at hf
      rw [if_pos hn] at hf
      cases hf
    unfold Cx.fits at hf
    rw [if_neg hn, Bool.and_eq_true] at hf
    have hsb := shr_bd (n := lenR r a) (p := p) (q := q) (by omega)
    exact rect_ok c _ (cut2_ok h a hsb.1 hsb.2) hf.2
theorem plug_panes (s : Tr) : ∀ (c : Cx) (r : Rc), panesP (c.plug s) r = c.lpanes r ++ (panesP s (c.rect r) ++ c.rpanes r)
  | .here, r => by simp [Cx.plug, Cx.lpanes, Cx.rpanes, Cx.rect]
  | .left g a p q c t, r => by simp [Cx.plug, Cx.lpanes, Cx.rpanes, Cx.rect, panesP_split, plug_panes s c]
  | .right g a p q l c, r => by simp [Cx.plug, Cx.lpanes, Cx.rpanes, Cx.rect, panesP_split, plug_panes s c]
theorem ids_split (id : Int) : ∀ t : Tr, id ∈ t.ids → ∃ c g, t = Cx.plug c (.pane g id)
  | .pane g i, h => by
    simp only [Tr.ids, List.mem_singleton] at h
    subst h
    exact ⟨.here, g, rfl⟩
  | .split g a p q l r, h => by
    simp only [Tr.ids, List.mem_append] at h
    rcases h with h | h
    · obtain ⟨c, k, rfl⟩ := ids_split id l h
      exact ⟨.left g a p q c r, k, rfl⟩
    · obtain ⟨c, k, rfl⟩ := ids_split id r h
      exact ⟨.right g a p q l c, k, rfl⟩
theorem way_nil (id : Int) : ∀ (t : Tr) (r : Rc), wayP t r id = [] ↔ id ∉ t.ids
  | .pane g i, r => by
    unfold wayP
    split
    · rename_i h; simp [Tr.ids, h]
    · rename_i h; simp [Tr.ids, Ne.symm h]
  | .split g a p q l r, rc => by
    have h1 := way_nil id l (cut1 a (shr (lenR rc a) p q) rc)
    have h2 := way_nil id r (cut2 a (shr (lenR rc a) p q) rc)
    rw [wayP_split]
    unfold orL
    simp only [Tr.ids, List.mem_append, not_or]
    by_cases hl : wayP l (cut1 a (shr (lenR rc a) p q) rc) id = []
    · rw [if_pos hl]
      by_cases hr : wayP r (cut2 a (shr (lenR rc a) p q) rc) id = []
      · simp [hr, h1.1 hl, h2.1 hr]
      · simp [hr]
        intro _
        exact Classical.not_not.1 (fun h => hr (h2.2 h))
    · rw [if_neg hl]
      simp [hl]
      intro h
      exact absurd (h1.2 h) hl
theorem way_plug (id : Int) (s : Tr) (hs : id ∈ s.ids) : ∀ (c : Cx) (r : Rc), id ∉ c.lids → wayP (c.plug s) r id = c.spine r ++ wayP s (c.rect r) id
  | .here, r, _ => rfl
  | .left g a p q c t, r, h => by
    have h1 := way_plug id s hs c (cut1 a (shr (lenR r a) p q) r) h
    have h2 : wayP (c.plug s) (cut1 a (shr (lenR r a) p q) r) id ≠ [] := fun e => (way_nil id _ _).1 e (by rw [plug_ids]; simp [hs])
    show wayP (.split g a p q (c.plug s) t) r id = (g, r) :: (c.spine (cut1 a (shr (lenR r a) p q) r) ++ wayP s (c.rect (cut1 a (shr (lenR r a) p q) r)) id)
    rw [wayP_split]
    unfold orL
    rw [if_neg h2, if_neg h2, h1]
  | .right g a p q l c, r, h => by
    simp only [Cx.lids, List.mem_append, not_or] at h
    have h1 := way_plug id s hs c (cut2 a (shr (lenR r a) p q) r) h.2
    have h2 : wayP (c.plug s) (cut2 a (shr (lenR r a) p q) r) id ≠ [] := fun e => (way_nil id _ _).1 e (by rw [plug_ids]; simp [hs])
    have h3 : wayP l (cut1 a (shr (lenR r a) p q) r) id = [] := (way_nil id _ _).2 h.1
    show wayP (.split g a p q l (c.plug s)) r id = (g, r) :: (c.spine (cut2 a (shr (lenR r a) p q) r) ++ wayP s (c.rect (cut2 a (shr (lenR r a) p q) r)) id)
    rw [wayP_split]
    unfold orL
    rw [if_pos h3, if_neg h2, h1]
/-- The last step down. -/
theorem last_step : ∀ c0 : Cx, c0 ≠ .here → ∃ (c : Cx) (gu : Nat) (a : Bool) (p q : Int) (o : Tr), (∀ s, c0.plug s = c.plug (.split gu a p q s o)) ∨ (∀ s, c0.plug s = c.plug (.split gu a p q o s))
  | .here, h => absurd rfl h
  | .left g a p q .here r, _ => ⟨.here, g, a, p, q, r, .inl fun _ => rfl⟩
  | .right g a p q l .here, _ => ⟨.here, g, a, p, q, l, .inr fun _ => rfl⟩
  | .left g a p q (.left g' a' p' q' c' r') r, _ => by
    obtain ⟨c, gu, b, x, y, o, h⟩ := last_step (.left g' a' p' q' c' r') (by simp)
    refine ⟨.left g a p q c r, gu, b, x, y, o, h.imp (fun h s => ?_) (fun h s => ?_)⟩ <;> simp [Cx.plug, ← h s]
  | .left g a p q (.right g' a' p' q' l' c') r, _ => by
    obtain ⟨c, gu, b, x, y, o, h⟩ := last_step (.right g' a' p' q' l' c') (by simp)
    refine ⟨.left g a p q c r, gu, b, x, y, o, h.imp (fun h s => ?_) (fun h s => ?_)⟩ <;> simp [Cx.plug, ← h s]
  | .right g a p q l (.left g' a' p' q' c' r'), _ => by
    obtain ⟨c, gu, b, x, y, o, h⟩ := last_step (.left g' a' p' q' c' r') (by simp)
    refine ⟨.right g a p q l c, gu, b, x, y, o, h.imp (fun h s => ?_) (fun h s => ?_)⟩ <;> simp [Cx.plug, ← h s]
  | .right g a p q l (.right g' a' p' q' l' c'), _ => by
    obtain ⟨c, gu, b, x, y, o, h⟩ := last_step (.right g' a' p' q' l' c') (by simp)
    refine ⟨.right g a p q l c, gu, b, x, y, o, h.imp (fun h s => ?_) (fun h s => ?_)⟩ <;> simp [Cx.plug, ← h s]
/-- A tree's content in another block. -/
def Tr.to (g : Nat) : Tr → Tr
  | .pane _ i => .pane g i
  | .split _ a p q l r => .split g a p q l r
theorem to_g (g : Nat) (t : Tr) : (t.to g).g = g := by cases t <;> rfl
theorem to_ids (g : Nat) (t : Tr) : (t.to g).ids = t.ids := by cases t <;> rfl
theorem to_nums (g : Nat) (t : Tr) : Nums (t.to g) ↔ Nums t := by cases t <;> rfl
theorem to_fits (g : Nat) (t : Tr) (r : Rc) : fitsP (t.to g) r = fitsP t r := by cases t <;> rfl
theorem shr_mono {n m p q : Int} (hn : 3 ≤ n) (hm : n ≤ m) (hp : 1 ≤ p) (hpq : p < q) : shr n p q ≤ shr m p q ∧ shr m p q - shr n p q ≤ m - n := by
  have hq : 0 < q := by omega
  have h1 : (n - 1) * p / q ≤ (m - 1) * p / q := Int.ediv_le_ediv hq (Int.mul_le_mul_of_nonneg_right (by omega) (by omega))
  have h2 : (m - 1) * p ≤ (n - 1) * p + (m - n) * q := by
    have h3 : (m - 1) * p = (n - 1) * p + (m - n) * p := by rw [← Int.add_mul]; congr 1; omega
    have h4 : (m - n) * p ≤ (m - n) * q := Int.mul_le_mul_of_nonneg_left (by omega) (by omega)
    omega
  have h5 : (m - 1) * p / q ≤ (n - 1) * p / q + (m - n) := by
    have h6 := Int.ediv_le_ediv hq h2
    rwa [Int.add_mul_ediv_right _ _ (by omega)] at h6
  unfold shr
  omega
/-- What fits a rectangle fits a greater one. -/
theorem fits_mono : ∀ (t : Tr) (r s : Rc), Nums t → r.w ≤ s.w → r.h ≤ s.h → fitsP t r = true → fitsP t s = true
  | .pane g i, r, s, _, _, _, _ => rfl
  | .split g a p q tl tr, r, s, hN, hw, hh, hf => by
    have hn : ¬ lenR r a < 3 := fun hn => by
      unfold fitsP at hf
      rw [if_pos hn] at hf
      cases hf
    unfold fitsP at hf
    rw [if_neg hn, Bool.and_eq_true] at hf
    obtain ⟨hp, hpq, hq, hNl, hNr⟩ := hN
    have hle : lenR r a ≤ lenR s a := by cases a <;> simpa [lenR]
    have hm := shr_mono (p := p) (q := q) (by omega) hle hp hpq
    have hns : ¬ lenR s a < 3 := by omega
    unfold fitsP
    rw [if_neg hns, Bool.and_eq_true]
    refine ⟨fits_mono tl _ _ hNl ?_ ?_ hf.1, fits_mono tr _ _ hNr ?_ ?_ hf.2⟩ <;> cases a <;> simp [cut1, cut2, lenR] at hm ⊢ <;> omega
end Go.Proofs.YtmdgjmmkegkonaaDoor
