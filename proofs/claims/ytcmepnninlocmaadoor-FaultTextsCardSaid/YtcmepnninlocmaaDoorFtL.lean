/- Faults: plain trees, their texts, and how they lie in memory. -/
import Derived.Test.YtcmepnninlocmaaDoorErrnoW
import Derived.Test.YtcmepnninlocmaaDoorBlkL
import Derived.Test.YtcmepnninlocmaaDoorSrcL
import Derived.Lib.ItoaLen
namespace Go.Proofs.YtcmepnninlocmaaDoor
open Go.RowKit
/-- A fault. -/
inductive Ft where
  | code (c : Int) : Ft
  | placed (e : Ft) (n : Int) : Ft
  | worded (e : Ft) (s : ByteArray) : Ft
  | row (es : List Ft) : Ft
mutual
/-- A fault's text. -/
def Ft.txt : Ft → List UInt8
  | .code c => errL c
  | .placed e n => ([97, 116, 32] ++ Lib.itoa n ++ [58, 32]) ++ e.txt
  | .worded e s => (s.data.toList ++ [58, 32]) ++ e.txt
  | .row es => txts 0 es
def txts : Nat → List Ft → List UInt8
  | _, [] => []
  | k, e :: es => (if 0 < k then [59, 32] else []) ++ e.txt ++ txts (k + 1) es
end
mutual
def Ft.size : Ft → Nat
  | .code _ => 1
  | .placed e _ => e.size + 1
  | .worded e _ => e.size + 1
  | .row es => sizes es + 1
def sizes : List Ft → Nat
  | [] => 0
  | e :: es => e.size + sizes es
end
/-- A number of 64 bits. -/
def Fit64 (n : Int) : Prop := -9223372036854775808 ≤ n ∧ n ≤ 9223372036854775807
mutual
/-- A fault as it lies in memory. -/
def FtAt (w : World) : Ft → Value → Prop
  | .code c, v => v = .iface 34 (.int .i64 c) ∧ Fit64 c
  | .placed e n, v => ∃ g u, v = .iface 57 (.pointer (some ⟨g, 0, none⟩)) ∧ Blk w g 62 #[u, .int .i64 n] ∧ Fit64 n ∧ FtAt w e u
  | .worded e s, v => ∃ g u, v = .iface 63 (.pointer (some ⟨g, 0, none⟩)) ∧ Blk w g 65 #[u, .string s] ∧ FtAt w e u
  | .row es, v => ∃ g A c us, v = .iface 50 (.pointer (some ⟨g, 0, none⟩)) ∧ Blk w g 52 #[.slice A es.length c] ∧ es ≠ [] ∧ us.length = es.length ∧ Src w A us ∧ FtsAt w es us
def FtsAt (w : World) : List Ft → List Value → Prop
  | [], us => us = []
  | e :: es, us => ∃ u us', us = u :: us' ∧ FtAt w e u ∧ FtsAt w es us'
end
mutual
theorem FtAt.below {w w' : World} (hb : Below w.heap.size w w') : ∀ (F : Ft) (v : Value), FtAt w F v → FtAt w' F v
  | .code c, v, h => by
    unfold FtAt at h ⊢
    exact h
  | .placed e n, v, h => by
    unfold FtAt at h ⊢
    obtain ⟨g, u, h1, h2, h3, h4⟩ := h
    exact ⟨g, u, h1, h2.below hb h2.lt, h3, FtAt.below hb e u h4⟩
  | .worded e s, v, h => by
    unfold FtAt at h ⊢
    obtain ⟨g, u, h1, h2, h4⟩ := h
    exact ⟨g, u, h1, h2.below hb h2.lt, FtAt.below hb e u h4⟩
  | .row es, v, h => by
    unfold FtAt at h ⊢
    obtain ⟨g, A, c, us, h1, h2, h3, h4, h5, h6⟩ := h
    exact ⟨g, A, c, us, h1, h2.below hb h2.lt, h3, h4, h5.below hb, FtsAt.below hb es us h6⟩
theorem FtsAt.below {w w' : World} (hb : Below w.heap.size w w') : ∀ (es : List Ft) (us : List Value), FtsAt w es us → FtsAt w' es us
  | [], us, h => by
    unfold FtsAt at h ⊢
    exact h
  | e :: es, us, h => by
    unfold FtsAt at h ⊢
    obtain ⟨u, us', h1, h2, h3⟩ := h
    exact ⟨u, us', h1, FtAt.below hb e u h2, FtsAt.below hb es us' h3⟩
end
theorem ftsAt_at {w : World} : ∀ (es : List Ft) (us : List Value), FtsAt w es us → ∀ (i : Nat) (e : Ft), es[i]? = some e → ∃ u, us[i]? = some u ∧ FtAt w e u
  | [], us, _, i, e, he => by simp at he
  | e0 :: es, us, h, i, e, he => by
    unfold FtsAt at h
    obtain ⟨u, us', rfl, h2, h3⟩ := h
    rcases i with _ | i
    · simp at he
      subst he
      exact ⟨u, rfl, h2⟩
    · simp at he
      obtain ⟨x, hx, hf⟩ := ftsAt_at es us' h3 i e he
      exact ⟨x, by simpa using hx, hf⟩
theorem size_at : ∀ (es : List Ft) (i : Nat) (e : Ft), es[i]? = some e → e.size ≤ sizes es
  | [], i, e, he => by simp at he
  | e0 :: es, i, e, he => by
    unfold sizes
    rcases i with _ | i
    · simp at he
      subst he
      omega
    · simp at he
      have := size_at es i e he
      omega
theorem txts_len_at : ∀ (es : List Ft) (k i : Nat) (e : Ft), es[i]? = some e → e.txt.length ≤ (txts k es).length
  | [], k, i, e, he => by simp at he
  | e0 :: es, k, i, e, he => by
    unfold txts
    rw [List.length_append, List.length_append]
    rcases i with _ | i
    · simp at he
      subst he
      omega
    · simp at he
      have := txts_len_at es (k + 1) i e he
      omega
theorem txts_snoc : ∀ (es : List Ft) (k : Nat) (e : Ft), txts k (es ++ [e]) = txts k es ++ ((if 0 < k + es.length then [59, 32] else []) ++ e.txt)
  | [], k, e => by simp [txts]
  | e0 :: es, k, e => by
    simp only [List.cons_append, txts, List.length_cons]
    rw [txts_snoc es (k + 1) e, show k + 1 + es.length = k + (es.length + 1) from by omega]
    simp
mutual
theorem Ft.pos : ∀ (F : Ft) (w : World) (v : Value), FtAt w F v → 1 ≤ F.txt.length
  | .code c, w, v, h => by
    unfold FtAt at h
    unfold Ft.txt
    have := errL_len c h.2
    omega
  | .placed e n, w, v, h => by unfold Ft.txt; simp
  | .worded e s, w, v, h => by unfold Ft.txt; simp; omega
  | .row es, w, v, h => by
    unfold FtAt at h
    obtain ⟨g, A, c, us, h1, h2, h3, h4, h5, h6⟩ := h
    unfold Ft.txt
    exact txts_pos es w us h6 h3
theorem txts_pos : ∀ (es : List Ft) (w : World) (us : List Value), FtsAt w es us → es ≠ [] → 1 ≤ (txts 0 es).length
  | [], w, us, h, h0 => absurd rfl h0
  | e :: es, w, us, h, h0 => by
    unfold FtsAt at h
    obtain ⟨u, us', h1, h2, h3⟩ := h
    have := Ft.pos e w u h2
    unfold txts
    rw [List.length_append, List.length_append]
    omega
end
theorem blk_eq {w : World} {g : Nat} {t : TypeId} {cs cs' : Array Value} (h : Blk w g t cs) (h' : Blk w g t cs') : cs = cs' := by
  unfold Blk at h h'
  rw [h] at h'
  injection h' with h'
  injection h'
theorem src_eq {w : World} {A : Option Addr} {us us' : List Value} (h : Src w A us) (h' : Src w A us') (hl : us.length = us'.length) : us = us' := by
  rcases Nat.eq_zero_or_pos us.length with h0 | h0
  · rw [List.eq_nil_of_length_eq_zero h0, List.eq_nil_of_length_eq_zero (show us'.length = 0 by omega)]
  · obtain ⟨ad, rfl, hc⟩ := h h0
    obtain ⟨ad', he, hc'⟩ := h' (by omega)
    injection he with he
    subst he
    apply List.ext_getElem hl
    intro i h1 h2
    have e1 := hc i us[i] (List.getElem?_eq_getElem h1)
    have e2 := hc' i us'[i] (List.getElem?_eq_getElem h2)
    rw [e1] at e2
    exact Option.some.inj e2
mutual
theorem FtAt.det {w : World} : ∀ (F F' : Ft) (v : Value), FtAt w F v → FtAt w F' v → F = F'
  | .code c, F', v, h, h' => by
    cases F' <;> unfold FtAt at h h'
    · obtain ⟨rfl, _⟩ := h
      obtain ⟨h1, _⟩ := h'
      simp at h1
      rw [h1]
    all_goals
      obtain ⟨rfl, _⟩ := h
      first
        | (obtain ⟨g, u, h1, _⟩ := h'; simp at h1)
        | (obtain ⟨g, A, c, us, h1, _⟩ := h'; simp at h1)
  | .placed e n, F', v, h, h' => by
    unfold FtAt at h
    obtain ⟨g, u, rfl, h2, h3, h4⟩ := h
    cases F' <;> unfold FtAt at h'
    · simp at h'
    · obtain ⟨g', u', h1', h2', h3', h4'⟩ := h'
      simp at h1'
      subst h1'
      have hb := blk_eq h2 h2'
      simp at hb
      obtain ⟨rfl, rfl⟩ := hb
      rw [FtAt.det e _ u h4 h4']
    all_goals
      first
        | (obtain ⟨g, u, h1, _⟩ := h'; simp at h1)
        | (obtain ⟨g, A, c, us, h1, _⟩ := h'; simp at h1)
  | .worded e s, F', v, h, h' => by
    unfold FtAt at h
    obtain ⟨g, u, rfl, h2, h4⟩ := h
    cases F' <;> unfold FtAt at h'
    · simp at h'
    · obtain ⟨g, u, h1, _⟩ := h'
      simp at h1
    · obtain ⟨g', u', h1', h2', h4'⟩ := h'
      simp at h1'
      subst h1'
      have hb := blk_eq h2 h2'
      simp at hb
      obtain ⟨rfl, rfl⟩ := hb
      rw [FtAt.det e _ u h4 h4']
    · obtain ⟨g, A, c, us, h1, _⟩ := h'
      simp at h1
  | .row es, F', v, h, h' => by
    unfold FtAt at h
    obtain ⟨g, A, c, us, rfl, h2, h3, h4, h5, h6⟩ := h
    cases F' <;> unfold FtAt at h'
    · simp at h'
    · obtain ⟨g, u, h1, _⟩ := h'
      simp at h1
    · obtain ⟨g, u, h1, _⟩ := h'
      simp at h1
    · obtain ⟨g', A', c', us', h1', h2', h3', h4', h5', h6'⟩ := h'
      simp at h1'
      subst h1'
      have hb := blk_eq h2 h2'
      simp at hb
      obtain ⟨rfl, hl, rfl⟩ := hb
      have hu := src_eq h5 h5' (by omega)
      subst hu
      rw [FtsAt.det es _ us h6 h6']
theorem FtsAt.det {w : World} : ∀ (es es' : List Ft) (us : List Value), FtsAt w es us → FtsAt w es' us → es = es'
  | [], es', us, h, h' => by
    unfold FtsAt at h
    subst h
    cases es' with
    | nil => rfl
    | cons e es' =>
      unfold FtsAt at h'
      obtain ⟨u, us', h1, _⟩ := h'
      cases h1
  | e :: es, es', us, h, h' => by
    unfold FtsAt at h
    obtain ⟨u, us', rfl, h2, h3⟩ := h
    cases es' with
    | nil =>
      unfold FtsAt at h'
      cases h'
    | cons e' es' =>
      unfold FtsAt at h'
      obtain ⟨u', us'', h1, h2', h3'⟩ := h'
      injection h1 with hu hus
      subst hu
      subst hus
      rw [FtAt.det e e' u h2 h2', FtsAt.det es es' us' h3 h3']
end
open Classical in
/-- How great the fault at a value is. -/
noncomputable def meaF (w : World) (v : Value) : Nat := if h : ∃ F, FtAt w F v then (Classical.choose h).size else 0
theorem meaF_eq {w : World} {F : Ft} {v : Value} (h : FtAt w F v) : meaF w v = F.size := by
  unfold meaF
  have hx : ∃ F, FtAt w F v := ⟨F, h⟩
  rw [dif_pos hx, FtAt.det _ F v (Classical.choose_spec hx) h]
end Go.Proofs.YtcmepnninlocmaaDoor
