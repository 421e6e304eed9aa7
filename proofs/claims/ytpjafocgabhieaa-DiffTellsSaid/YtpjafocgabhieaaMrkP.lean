/- The marks of a row, one place after the other: plain (for DiffTells). -/
import Derived.Test.YtpjafocgabhieaaMgP
namespace Go.Proofs.Ytpjafocgabhieaa
/-- The marks behind k rounds. -/
def freshK (o l : List Cl) (k i : Nat) : Bool := (neqAt o l i && decide (i < k)) || (decide (1 ≤ i) && neqAt o l (i - 1) && wideAt l (i - 1) && decide (i - 1 < k)) || (neqAt o l (i + 1) && !wideAt l (i + 1) && tailAt l (i + 1) && decide (i + 1 < k))
theorem freshK_0 (o l : List Cl) (i : Nat) : freshK o l 0 i = false := by simp [freshK]
theorem neq_out {o l : List Cl} {i : Nat} (h : l.length ≤ i) : neqAt o l i = false := by
  unfold neqAt
  rw [List.getElem?_eq_none h]
  split
  · rename_i h1 h2
    cases h2
  · rfl
theorem freshK_all (o l : List Cl) (i : Nat) (hi : i < l.length) : freshK o l l.length i = freshG o l i := by
  unfold freshK freshG
  rw [decide_eq_true hi, decide_eq_true (show i - 1 < l.length by omega), Bool.and_true, Bool.and_true]
  by_cases h : i + 1 < l.length
  · rw [decide_eq_true h, Bool.and_true]
  · rw [neq_out (show l.length ≤ i + 1 by omega)]
    simp
theorem freshK_same (o l : List Cl) (k i : Nat) (h : neqAt o l k = false) : freshK o l (k + 1) i = freshK o l k i := by
  have h1 : (neqAt o l i && decide (i < k + 1)) = (neqAt o l i && decide (i < k)) := by
    by_cases e : i = k
    · rw [e, h]; rfl
    · rw [show decide (i < k + 1) = decide (i < k) from decide_eq_decide.2 (by omega)]
  have h2 : (decide (1 ≤ i) && neqAt o l (i - 1) && wideAt l (i - 1) && decide (i - 1 < k + 1)) = (decide (1 ≤ i) && neqAt o l (i - 1) && wideAt l (i - 1) && decide (i - 1 < k)) := by
    by_cases e : i - 1 = k
    · rw [e, h]; simp
    · rw [show decide (i - 1 < k + 1) = decide (i - 1 < k) from decide_eq_decide.2 (by omega)]
  have h3 : (neqAt o l (i + 1) && !wideAt l (i + 1) && tailAt l (i + 1) && decide (i + 1 < k + 1)) = (neqAt o l (i + 1) && !wideAt l (i + 1) && tailAt l (i + 1) && decide (i + 1 < k)) := by
    by_cases e : i + 1 = k
    · rw [e, h]; simp
    · rw [show decide (i + 1 < k + 1) = decide (i + 1 < k) from decide_eq_decide.2 (by omega)]
  unfold freshK
  rw [h1, h2, h3]
/-- What a mark at k adds. -/
def markF (l : List Cl) (k : Nat) (f : Nat → Bool) (i : Nat) : Bool := f i || decide (i = k) || (wideAt l k && decide (i = k + 1)) || (!wideAt l k && tailAt l k && decide (i + 1 = k))
theorem freshK_mark (o l : List Cl) (k i : Nat) (h : neqAt o l k = true) : freshK o l (k + 1) i = markF l k (freshK o l k) i := by
  unfold markF freshK
  by_cases e1 : i = k
  · subst e1
    simp [h]
  · by_cases e2 : i = k + 1
    · subst e2
      have d1 : decide (k + 1 < k + 1) = false := decide_eq_false (by omega)
      have d2 : decide (k + 1 < k) = false := decide_eq_false (by omega)
      have d3 : decide (k + 1 + 1 < k + 1) = false := decide_eq_false (by omega)
      have d4 : decide (k + 1 + 1 < k) = false := decide_eq_false (by omega)
      have d5 : decide (k + 1 = k) = false := decide_eq_false (by omega)
      have d6 : decide (k + 1 + 1 = k) = false := decide_eq_false (by omega)
      rw [d1, d2, d3, d4, d5, d6, show k + 1 - 1 = k from rfl, h, decide_eq_true (show 1 ≤ k + 1 by omega), decide_eq_true (show k < k + 1 by omega), decide_eq_false (show ¬ k < k by omega), decide_eq_true (show k + 1 = k + 1 from rfl)]
      simp
    · by_cases e3 : i + 1 = k
      · subst e3
        have d1 : decide (i < i + 1 + 1) = true := decide_eq_true (by omega)
        have d2 : decide (i < i + 1) = true := decide_eq_true (by omega)
        have d3 : decide (i - 1 < i + 1 + 1) = true := decide_eq_true (by omega)
        have d4 : decide (i - 1 < i + 1) = true := decide_eq_true (by omega)
        have d5 : decide (i = i + 1) = false := decide_eq_false (by omega)
        have d6 : decide (i = i + 1 + 1) = false := decide_eq_false (by omega)
        have d7 : decide (i + 1 < i + 1) = false := decide_eq_false (by omega)
        have d8 : decide (i + 1 < i + 1 + 1) = true := decide_eq_true (by omega)
        rw [d1, d2, d3, d4, d5, d6, d7, d8, h, decide_eq_true (show i + 1 = i + 1 from rfl)]
        simp
      · rw [show decide (i < k + 1) = decide (i < k) from decide_eq_decide.2 (by omega), show decide (i + 1 < k + 1) = decide (i + 1 < k) from decide_eq_decide.2 (by omega), decide_eq_false e1, decide_eq_false e2, decide_eq_false e3]
        have h2 : (decide (1 ≤ i) && neqAt o l (i - 1) && wideAt l (i - 1) && decide (i - 1 < k + 1)) = (decide (1 ≤ i) && neqAt o l (i - 1) && wideAt l (i - 1) && decide (i - 1 < k)) := by
          by_cases e0 : 1 ≤ i
          · rw [show decide (i - 1 < k + 1) = decide (i - 1 < k) from decide_eq_decide.2 (by omega)]
          · rw [decide_eq_false e0]
            simp
        rw [h2]
        simp
/-- The marks of a row. -/
def marksP (o l : List Cl) : List Bool := (List.range l.length).map (freshG o l)
theorem marksP_len (o l : List Cl) : (marksP o l).length = l.length := by simp [marksP]
theorem marksP_at (o l : List Cl) (i : Nat) (hi : i < l.length) : (marksP o l)[i]? = some (freshG o l i) := by simp [marksP, hi]
theorem neq_eq {o l : List Cl} {k : Nat} {c d : Cl} (hc : o[k]? = some c) (hd : l[k]? = some d) : neqAt o l k = !decide (c = d) := by
  unfold neqAt
  rw [hc, hd]
  by_cases h : c = d <;> simp [h]
end Go.Proofs.Ytpjafocgabhieaa
