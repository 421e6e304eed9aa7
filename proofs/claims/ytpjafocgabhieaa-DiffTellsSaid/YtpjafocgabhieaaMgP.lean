/- Cells, and rows of them that are right: plain Lean (for DiffTells). -/
import Derived.Test.YtpjafocgabhieaaWidW
import Derived.Test.YtpjafocgabhieaaNumsP
namespace Go.Proofs.Ytpjafocgabhieaa
/-- A cell: its character, colours and ways. -/
structure Cl where
  r : Int
  f : Nat
  b : Nat
  x : Nat
  deriving DecidableEq
def wideC (c : Cl) : Bool := decide (c.x / 64 % 2 = 1)
def tailC (c : Cl) : Bool := decide (c.x / 128 % 2 = 1)
def chkC (c : Cl) : Bool := if tailC c then !wideC c && decide (c.r = 0) else if wideC c then decide (wid c.r = 2) else decide (wid c.r = 1)
def tlC (c : Cl) : Cl := ⟨0, c.f, c.b, c.x % 64 + 128⟩
def pairC (c d : Cl) : Bool := wideC c && chkC c && decide (d = tlC c)
def oneC (c : Cl) : Bool := !wideC c && !tailC c && chkC c
/-- Is a row right? (cell.Right) -/
def rightP : List Cl → Bool
  | [] => true
  | [c] => oneC c
  | c :: d :: l => if pairC c d then rightP l else oneC c && rightP (d :: l)
/-- The document's words. -/
def refPair (l : List Cl) (i : Nat) : Bool := match l[i]?, l[i + 1]? with
  | some c, some d => pairC c d
  | _, _ => false
def refOk (l : List Cl) (i : Nat) : Bool := match l[i]? with
  | some c => chkC c && (!wideC c || refPair l i) && (!tailC c || (decide (1 ≤ i) && refPair l (i - 1)))
  | none => true
def refRight (l : List Cl) : Bool := (List.range l.length).all (refOk l)
theorem tl_flat (c : Cl) : wideC (tlC c) = false ∧ tailC (tlC c) = true := by
  unfold wideC tailC tlC
  simp only
  constructor
  · rw [decide_eq_false_iff_not]
    omega
  · rw [decide_eq_true_eq]
    omega
theorem tl_chk (c : Cl) : chkC (tlC c) = true := by
  have h := tl_flat c
  unfold chkC
  rw [h.1, h.2]
  simp [tlC]
theorem refRight_iff (l : List Cl) : refRight l = true ↔ ∀ i, i < l.length → refOk l i = true := by
  unfold refRight
  simp [List.all_eq_true]
theorem pair_flat {c d : Cl} (h : wideC c = false) : pairC c d = false := by
  unfold pairC
  rw [h]
  rfl
theorem ref_cons {c : Cl} {l : List Cl} (h1 : oneC c = true) : refRight (c :: l) = refRight l := by
  have hw : wideC c = false ∧ tailC c = false ∧ chkC c = true := by
    unfold oneC at h1
    simp only [Bool.and_eq_true, Bool.not_eq_true'] at h1
    exact ⟨h1.1.1, h1.1.2, h1.2⟩
  have hs : ∀ i, refOk (c :: l) (i + 1) = refOk l i := fun i => by
    unfold refOk
    simp only [List.getElem?_cons_succ, Nat.add_sub_cancel]
    cases ho : l[i]? with
    | none => rfl
    | some d =>
      have hp : refPair (c :: l) (i + 1) = refPair l i := by unfold refPair; simp only [List.getElem?_cons_succ]
      have hq : (decide (1 ≤ i + 1) && refPair (c :: l) i) = (decide (1 ≤ i) && refPair l (i - 1)) := by
        cases i with
        | zero =>
          have : refPair (c :: l) 0 = false := by
            unfold refPair
            simp only [List.getElem?_cons_zero, List.getElem?_cons_succ, Nat.zero_add]
            rw [ho]
            exact pair_flat hw.1
          simp [this]
        | succ j =>
          have : refPair (c :: l) (j + 1) = refPair l j := by unfold refPair; simp only [List.getElem?_cons_succ]
          simp [this]
      simp only [hp, hq]
  rw [Bool.eq_iff_iff, refRight_iff, refRight_iff]
  constructor
  · intro h i hi
    rw [← hs i]
    exact h (i + 1) (by simpa using hi)
  · intro h i hi
    cases i with
    | zero =>
      unfold refOk
      simp [hw]
    | succ j =>
      rw [hs j]
      exact h j (by simpa using hi)
theorem ref_pair {c d : Cl} {l : List Cl} (h1 : pairC c d = true) : refRight (c :: d :: l) = refRight l := by
  have hc : wideC c = true ∧ chkC c = true ∧ d = tlC c := by
    unfold pairC at h1
    simp only [Bool.and_eq_true, decide_eq_true_eq] at h1
    exact ⟨h1.1.1, h1.1.2, h1.2⟩
  have hd : wideC d = false := by rw [hc.2.2]; exact (tl_flat c).1
  have htc : tailC c = false := by
    have h2 := hc.2.1
    unfold chkC at h2
    split at h2
    · rw [hc.1] at h2
      cases h2
    · rename_i h3
      simpa using h3
  have hs : ∀ i, refOk (c :: d :: l) (i + 2) = refOk l i := fun i => by
    unfold refOk
    simp only [List.getElem?_cons_succ, show i + 2 - 1 = i + 1 from rfl]
    cases ho : l[i]? with
    | none => rfl
    | some e =>
      have hp : refPair (c :: d :: l) (i + 2) = refPair l i := by unfold refPair; simp only [List.getElem?_cons_succ]
      have hq : (decide (1 ≤ i + 2) && refPair (c :: d :: l) (i + 1)) = (decide (1 ≤ i) && refPair l (i - 1)) := by
        cases i with
        | zero =>
          have : refPair (c :: d :: l) (0 + 1) = false := by
            unfold refPair
            simp only [List.getElem?_cons_zero, List.getElem?_cons_succ, Nat.zero_add]
            rw [ho]
            exact pair_flat hd
          simp [this]
        | succ j =>
          have : refPair (c :: d :: l) (j + 1 + 1) = refPair l j := by unfold refPair; simp only [List.getElem?_cons_succ]
          simp [this]
      simp only [hp, hq]
  have h00 : refOk (c :: d :: l) 0 = true := by
    have : refPair (c :: d :: l) 0 = true := by
      unfold refPair
      simp only [List.getElem?_cons_zero, List.getElem?_cons_succ, Nat.zero_add]
      exact h1
    unfold refOk
    simp [hc.2.1, this, htc]
  have h01 : refOk (c :: d :: l) 1 = true := by
    have : refPair (c :: d :: l) 0 = true := by
      unfold refPair
      simp only [List.getElem?_cons_zero, List.getElem?_cons_succ, Nat.zero_add]
      exact h1
    have h3 : chkC d = true := by rw [hc.2.2]; exact tl_chk c
    unfold refOk
    simp [h3, hd, this]
  rw [Bool.eq_iff_iff, refRight_iff, refRight_iff]
  constructor
  · intro h i hi
    rw [← hs i]
    exact h (i + 2) (by simpa using hi)
  · intro h i hi
    match i with
    | 0 => exact h00
    | 1 => exact h01
    | j + 2 =>
      rw [hs j]
      exact h j (by simpa using hi)
theorem ref_not {c : Cl} {l : List Cl} (h1 : oneC c = false) (h2 : refPair (c :: l) 0 = false) : refRight (c :: l) = false := by
  rw [Bool.eq_false_iff]
  intro h
  rw [refRight_iff] at h
  have h0 := h 0 (by simp)
  unfold refOk at h0
  simp only [List.getElem?_cons_zero, h2, Bool.or_false, Bool.and_eq_true, Bool.not_eq_true', Nat.le_zero, Nat.one_ne_zero, decide_false, Bool.false_and] at h0
  unfold oneC at h1
  rw [h0.1.1, h0.1.2, h0.2] at h1
  cases h1
/-- BOTH SAY THE SAME OF A ROW. -/
theorem right_ref : ∀ l : List Cl, rightP l = refRight l
  | [] => by simp [rightP, refRight]
  | [c] => by
    have hp : refPair [c] 0 = false := by simp [refPair]
    unfold rightP
    cases h : oneC c with
    | true =>
      rw [ref_cons h]
      simp [refRight]
    | false => rw [ref_not h hp]
  | c :: d :: l => by
    have hp0 : refPair (c :: d :: l) 0 = pairC c d := by simp [refPair]
    unfold rightP
    by_cases hp : pairC c d = true
    · rw [if_pos hp, ref_pair hp]
      exact right_ref l
    · rw [if_neg hp]
      cases h : oneC c with
      | true =>
        rw [ref_cons h, Bool.true_and]
        exact right_ref (d :: l)
      | false =>
        rw [ref_not h (by rw [hp0]; simpa using hp)]
        rfl
theorem pair_parts {c d : Cl} (h : pairC c d = true) : wideC c = true ∧ chkC c = true ∧ d = tlC c := by
  unfold pairC at h
  simp only [Bool.and_eq_true, decide_eq_true_eq] at h
  exact ⟨h.1.1, h.1.2, h.2⟩
theorem refPair_parts {l : List Cl} {i : Nat} (h : refPair l i = true) : ∃ c d, l[i]? = some c ∧ l[i + 1]? = some d ∧ pairC c d = true := by
  unfold refPair at h
  split at h
  · rename_i c d h1 h2
    exact ⟨c, d, h1, h2, h⟩
  · cases h
/-- What a cell of a right row is, and its neighbours. -/
theorem right_at {l : List Cl} (h : rightP l = true) {i : Nat} {c : Cl} (hc : l[i]? = some c) : chkC c = true ∧ (wideC c = true → l[i + 1]? = some (tlC c)) ∧ (tailC c = true → ∃ j e, i = j + 1 ∧ l[j]? = some e ∧ wideC e = true ∧ c = tlC e) := by
  rw [right_ref, refRight_iff] at h
  have hi : i < l.length := (List.getElem?_eq_some_iff.1 hc).1
  have h1 := h i hi
  unfold refOk at h1
  rw [hc] at h1
  simp only [Bool.and_eq_true, Bool.or_eq_true, Bool.not_eq_true', decide_eq_true_eq] at h1
  refine ⟨h1.1.1, fun hw => ?_, fun ht => ?_⟩
  · rcases h1.1.2 with h2 | h2
    · rw [hw] at h2; cases h2
    · obtain ⟨c', d, e1, e2, e3⟩ := refPair_parts h2
      rw [hc] at e1
      cases e1
      rw [e2, (pair_parts e3).2.2]
  · rcases h1.2 with h2 | ⟨h2, h3⟩
    · rw [ht] at h2; cases h2
    · obtain ⟨c', d, e1, e2, e3⟩ := refPair_parts h3
      rw [show i - 1 + 1 = i by omega, hc] at e2
      cases e2
      exact ⟨i - 1, c', by omega, e1, (pair_parts e3).1, (pair_parts e3).2.2⟩
def neqAt (o l : List Cl) (i : Nat) : Bool := match o[i]?, l[i]? with
  | some a, some b => decide (a ≠ b)
  | _, _ => false
def wideAt (l : List Cl) (i : Nat) : Bool := match l[i]? with
  | some c => wideC c
  | none => false
def tailAt (l : List Cl) (i : Nat) : Bool := match l[i]? with
  | some c => tailC c
  | none => false
/-- Is a place new: the program's marks. -/
def freshG (o l : List Cl) (i : Nat) : Bool := neqAt o l i || (decide (1 ≤ i) && neqAt o l (i - 1) && wideAt l (i - 1)) || (neqAt o l (i + 1) && !wideAt l (i + 1) && tailAt l (i + 1))
/-- Is a place new: the document's words. -/
def freshR (o l : List Cl) (i : Nat) : Bool := neqAt o l i || (match l[i]? with
  | some c => if c.x / 64 = 1 then neqAt o l (i + 1) else if c.x / 64 = 2 then decide (1 ≤ i) && neqAt o l (i - 1) else false
  | none => false)
theorem flat_of (c : Cl) (hx : c.x < 256) (hw : wideC c = false) (ht : tailC c = false) : c.x / 64 = 0 := by
  unfold wideC at hw
  unfold tailC at ht
  simp only [decide_eq_false_iff_not] at hw ht
  omega
theorem wide_of (c : Cl) (hx : c.x < 256) (hw : wideC c = true) (ht : tailC c = false) : c.x / 64 = 1 := by
  unfold wideC at hw
  unfold tailC at ht
  simp only [decide_eq_false_iff_not, decide_eq_true_eq] at hw ht
  omega
theorem tail_of (c : Cl) (hx : c.x < 256) (hw : wideC c = false) (ht : tailC c = true) : c.x / 64 = 2 := by
  unfold wideC at hw
  unfold tailC at ht
  simp only [decide_eq_false_iff_not, decide_eq_true_eq] at hw ht
  omega
theorem wide_flat {c : Cl} (h : chkC c = true) (hw : wideC c = true) : tailC c = false := by
  unfold chkC at h
  split at h
  · rw [hw] at h
    cases h
  · rename_i h3
    simpa using h3
theorem fresh_eq {o l : List Cl} (hr : rightP l = true) (hx : ∀ c ∈ l, c.x < 256) {i : Nat} (hi : i < l.length) : freshG o l i = freshR o l i := by
  have hc : l[i]? = some l[i] := List.getElem?_eq_getElem hi
  have hx' := hx l[i] (List.getElem_mem hi)
  generalize l[i] = c at hc hx'
  obtain ⟨k1, k2, k3⟩ := right_at hr hc
  -- the place ahead is wide just if this one is its tail
  have hp : decide (1 ≤ i) = true → wideAt l (i - 1) = tailC c := fun h1 => by
    have h1' : 1 ≤ i := by simpa using h1
    unfold wideAt
    cases he : l[i - 1]? with
    | none =>
      have := List.getElem?_eq_none_iff.1 he
      omega
    | some e =>
      simp only
      obtain ⟨_, e2, _⟩ := right_at hr he
      rw [show i - 1 + 1 = i by omega, hc] at e2
      cases hw : wideC e with
      | true =>
        have := Option.some.inj (e2 hw)
        rw [this, (tl_flat e).2]
      | false =>
        cases ht : tailC c with
        | false => rfl
        | true =>
          obtain ⟨j, e', rfl, ej, ew, _⟩ := k3 ht
          rw [show j + 1 - 1 = j by omega, ej] at he
          cases he
          rw [ew] at hw
          cases hw
  -- the place behind is a tail just if this one is wide
  have hn : (!wideAt l (i + 1) && tailAt l (i + 1)) = wideC c := by
    unfold wideAt tailAt
    cases he : l[i + 1]? with
    | none =>
      simp only [Bool.and_false]
      cases hw : wideC c with
      | false => rfl
      | true =>
        rw [k2 hw] at he
        cases he
    | some e =>
      simp only
      cases hw : wideC c with
      | true =>
        rw [k2 hw] at he
        cases he
        rw [(tl_flat c).1, (tl_flat c).2]
        rfl
      | false =>
        cases ht : tailC e with
        | false => simp
        | true =>
          obtain ⟨_, _, e3⟩ := right_at hr he
          obtain ⟨j, e', hj, ej, ew, _⟩ := e3 ht
          obtain rfl : j = i := by omega
          rw [hc] at ej
          cases ej
          rw [ew] at hw
          cases hw
  unfold freshG freshR
  rw [hc]
  simp only
  rw [Bool.or_assoc, Bool.and_assoc (neqAt o l (i + 1)), hn]
  congr 1
  cases hw : wideC c with
  | true =>
    have ht := wide_flat k1 hw
    rw [if_pos (wide_of c hx' hw ht), Bool.and_true]
    cases h1 : decide (1 ≤ i) with
    | false => simp
    | true => rw [hp h1, ht]; simp
  | false =>
    cases ht : tailC c with
    | true =>
      have h64 := tail_of c hx' hw ht
      rw [if_neg (by omega), if_pos h64, Bool.and_false, Bool.or_false]
      cases h1 : decide (1 ≤ i) with
      | false => simp
      | true => rw [hp h1, ht]; simp
    | false =>
      have h64 := flat_of c hx' hw ht
      rw [if_neg (by omega), if_neg (by omega), Bool.and_false, Bool.or_false]
      cases h1 : decide (1 ≤ i) with
      | false => simp
      | true => rw [hp h1, ht]; simp
end Go.Proofs.Ytpjafocgabhieaa

/- Rows as bytes, rows of marks in pieces, grids: plain Lean (for DiffTells). -/
namespace Go.Proofs.Ytpjafocgabhieaa
open Nums
/-- How many places a cell takes. -/
def stepC (c : Cl) : Nat := if wideC c then 2 else 1
theorem stepC_pos (c : Cl) : 0 < stepC c := by unfold stepC; split <;> omega
/-- Where the run of c that stands at i ends; how many it has. -/
def runEnd (l : List Cl) (c : Cl) (i : Nat) : Nat := if _h : l[i]? = some c then runEnd l c (i + stepC c) else i
  termination_by l.length - i
  decreasing_by
    have h1 := (List.getElem?_eq_some_iff.1 _h).1
    have h2 := stepC_pos c
    omega
def runCnt (l : List Cl) (c : Cl) (i : Nat) : Nat := if h : l[i]? = some c then runCnt l c (i + stepC c) + 1 else 0
  termination_by l.length - i
  decreasing_by
    have h1 := (List.getElem?_eq_some_iff.1 h).1
    have h2 := stepC_pos c
    omega
theorem runEnd_go {l : List Cl} {c : Cl} {i : Nat} (h : l[i]? = some c) : runEnd l c i = runEnd l c (i + stepC c) := by rw [runEnd, dif_pos h]
theorem runEnd_stop {l : List Cl} {c : Cl} {i : Nat} (h : ¬ l[i]? = some c) : runEnd l c i = i := by rw [runEnd, dif_neg h]
theorem runCnt_go {l : List Cl} {c : Cl} {i : Nat} (h : l[i]? = some c) : runCnt l c i = runCnt l c (i + stepC c) + 1 := by rw [runCnt, dif_pos h]
theorem runCnt_stop {l : List Cl} {c : Cl} {i : Nat} (h : ¬ l[i]? = some c) : runCnt l c i = 0 := by rw [runCnt, dif_neg h]
theorem runEnd_ge (l : List Cl) (c : Cl) (i : Nat) : i ≤ runEnd l c i := by
  induction h : l.length - i using Nat.strongRecOn generalizing i with
  | ind m ih =>
    by_cases hc : l[i]? = some c
    · rw [runEnd_go hc]
      have h1 := (List.getElem?_eq_some_iff.1 hc).1
      have h2 := stepC_pos c
      have := ih (l.length - (i + stepC c)) (by omega) (i + stepC c) rfl
      omega
    · rw [runEnd_stop hc]
      exact Nat.le_refl _
theorem runCnt_le (l : List Cl) (c : Cl) (i : Nat) : runCnt l c i ≤ l.length - i := by
  induction h : l.length - i using Nat.strongRecOn generalizing i with
  | ind m ih =>
    by_cases hc : l[i]? = some c
    · rw [runCnt_go hc]
      have h1 := (List.getElem?_eq_some_iff.1 hc).1
      have h2 := stepC_pos c
      have := ih (l.length - (i + stepC c)) (by omega) (i + stepC c) rfl
      omega
    · rw [runCnt_stop hc]
      exact Nat.zero_le _
theorem runEnd_gt {l : List Cl} {c : Cl} {i : Nat} (h : l[i]? = some c) : i < runEnd l c i := by
  rw [runEnd_go h]
  have := runEnd_ge l c (i + stepC c)
  have := stepC_pos c
  omega
theorem runCnt_pos {l : List Cl} {c : Cl} {i : Nat} (h : l[i]? = some c) : 1 ≤ runCnt l c i := by
  rw [runCnt_go h]
  omega
/-- The runs from i on. -/
def encB (l : List Cl) (i : Nat) : List (Nat × Cl) := if h : i < l.length then (runCnt l l[i] i, l[i]) :: encB l (runEnd l l[i] i) else []
  termination_by l.length - i
  decreasing_by
    have := runEnd_gt (List.getElem?_eq_getElem h)
    omega
theorem encB_go {l : List Cl} {c : Cl} {i : Nat} (h : l[i]? = some c) : encB l i = (runCnt l c i, c) :: encB l (runEnd l c i) := by
  obtain ⟨h1, h2⟩ := List.getElem?_eq_some_iff.1 h
  rw [encB, dif_pos h1, h2]
theorem encB_stop {l : List Cl} {i : Nat} (h : l.length ≤ i) : encB l i = [] := by rw [encB, dif_neg (by omega)]
theorem encB_len (l : List Cl) (i : Nat) : (encB l i).length ≤ l.length - i := by
  induction h : l.length - i using Nat.strongRecOn generalizing i with
  | ind m ih =>
    by_cases hi : i < l.length
    · have hc := List.getElem?_eq_getElem hi
      rw [encB_go hc, List.length_cons]
      have h1 := runEnd_gt hc
      have := ih (l.length - runEnd l l[i] i) (by omega) _ rfl
      omega
    · rw [encB_stop (by omega)]
      exact Nat.zero_le _
theorem encB_mem (l : List Cl) (i : Nat) : ∀ p ∈ encB l i, p.2 ∈ l ∧ 1 ≤ p.1 ∧ p.1 ≤ l.length := by
  induction h : l.length - i using Nat.strongRecOn generalizing i with
  | ind m ih =>
    intro p hp
    by_cases hi : i < l.length
    · have hc := List.getElem?_eq_getElem hi
      rw [encB_go hc] at hp
      have h1 := runEnd_gt hc
      rcases List.mem_cons.1 hp with rfl | hp
      · exact ⟨List.getElem_mem hi, runCnt_pos hc, Nat.le_trans (runCnt_le _ _ _) (by omega)⟩
      · exact ih (l.length - runEnd l l[i] i) (by omega) _ rfl p hp
    · rw [encB_stop (by omega)] at hp
      cases hp
/-- A run's numbers. -/
def runN (p : Nat × Cl) : List Int := [(p.1 : Int) - 1, p.2.r, (p.2.f : Int), (p.2.b : Int), (p.2.x : Int)]
def putR (L : List (Nat × Cl)) : List UInt8 := L.flatMap fun p => putL (runN p)
theorem putR_append (a b : List (Nat × Cl)) : putR (a ++ b) = putR a ++ putR b := by simp [putR]
theorem putR_cons (p : Nat × Cl) (b : List (Nat × Cl)) : putR (p :: b) = putL (runN p) ++ putR b := by simp [putR]
/-- A row as bytes: nothing where it is not right. -/
def bytesP (l : List Cl) : List UInt8 := if rightP l then putR (encB l 0) else []
/-- Where the marks that stand at x end. -/
def endOf (m : List Bool) (x : Nat) : Nat := if h : m[x]? = some true then endOf m (x + 1) else x
  termination_by m.length - x
  decreasing_by
    have h1 := (List.getElem?_eq_some_iff.1 h).1
    omega
theorem endOf_go {m : List Bool} {x : Nat} (h : m[x]? = some true) : endOf m x = endOf m (x + 1) := by rw [endOf, dif_pos h]
theorem endOf_stop {m : List Bool} {x : Nat} (h : ¬ m[x]? = some true) : endOf m x = x := by rw [endOf, dif_neg h]
theorem endOf_ge (m : List Bool) (x : Nat) : x ≤ endOf m x ∧ (x ≤ m.length → endOf m x ≤ m.length) := by
  induction h : m.length - x using Nat.strongRecOn generalizing x with
  | ind k ih =>
    by_cases hc : m[x]? = some true
    · have h1 := (List.getElem?_eq_some_iff.1 hc).1
      rw [endOf_go hc]
      have := ih (m.length - (x + 1)) (by omega) (x + 1) rfl
      exact ⟨by omega, fun _ => this.2 (by omega)⟩
    · rw [endOf_stop hc]
      exact ⟨Nat.le_refl _, id⟩
theorem endOf_gt {m : List Bool} {x : Nat} (h : m[x]? = some true) : x < endOf m x ∧ endOf m x ≤ m.length := by
  have h1 := (List.getElem?_eq_some_iff.1 h).1
  rw [endOf_go h]
  have := endOf_ge m (x + 1)
  exact ⟨by omega, this.2 (by omega)⟩
/-- The pieces of a row of marks from x on: where, how long. -/
def segs (m : List Bool) (x : Nat) : List (Nat × Nat) := if _h : x < m.length then if m[x]? = some true then (x, endOf m x - x) :: segs m (endOf m x + 1) else segs m (x + 1) else []
  termination_by m.length - x
  decreasing_by
    · have := (endOf_ge m x).1
      omega
    · omega
theorem segs_true {m : List Bool} {x : Nat} (h : m[x]? = some true) : segs m x = (x, endOf m x - x) :: segs m (endOf m x + 1) := by
  have h1 := (List.getElem?_eq_some_iff.1 h).1
  rw [segs, dif_pos h1, if_pos h]
theorem segs_false {m : List Bool} {x : Nat} (h : m[x]? = some false) : segs m x = segs m (x + 1) := by
  have h1 := (List.getElem?_eq_some_iff.1 h).1
  rw [segs, dif_pos h1, if_neg (by rw [h]; simp)]
theorem segs_stop {m : List Bool} {x : Nat} (h : m.length ≤ x) : segs m x = [] := by rw [segs, dif_neg (by omega)]
theorem segs_mem (m : List Bool) (x : Nat) : ∀ p ∈ segs m x, x ≤ p.1 ∧ 1 ≤ p.2 ∧ p.1 + p.2 ≤ m.length := by
  induction h : m.length - x using Nat.strongRecOn generalizing x with
  | ind k ih =>
    intro p hp
    by_cases hx : x < m.length
    · obtain ⟨b, hb⟩ : ∃ b, m[x]? = some b := ⟨_, List.getElem?_eq_getElem hx⟩
      cases b with
      | true =>
        have h1 := endOf_gt hb
        rw [segs_true hb] at hp
        rcases List.mem_cons.1 hp with rfl | hp
        · exact ⟨Nat.le_refl _, by simp only; omega, by simp only; omega⟩
        · have := ih (m.length - (endOf m x + 1)) (by omega) _ rfl p hp
          omega
      | false =>
        rw [segs_false hb] at hp
        have := ih (m.length - (x + 1)) (by omega) _ rfl p hp
        omega
    · rw [segs_stop (by omega)] at hp
      cases hp
theorem segs_len (m : List Bool) (x : Nat) : (segs m x).length ≤ m.length - x := by
  induction h : m.length - x using Nat.strongRecOn generalizing x with
  | ind k ih =>
    by_cases hx : x < m.length
    · obtain ⟨b, hb⟩ : ∃ b, m[x]? = some b := ⟨_, List.getElem?_eq_getElem hx⟩
      cases b with
      | true =>
        have h1 := endOf_gt hb
        rw [segs_true hb, List.length_cons]
        have := ih (m.length - (endOf m x + 1)) (by omega) _ rfl
        omega
      | false =>
        rw [segs_false hb]
        have := ih (m.length - (x + 1)) (by omega) _ rfl
        omega
    · rw [segs_stop (by omega)]
      exact Nat.zero_le _
def cntT (m : List Bool) : Nat := m.countP id
theorem cnt_end (m : List Bool) (x : Nat) (hx : x ≤ m.length) : cntT (m.drop x) = (endOf m x - x) + cntT (m.drop (endOf m x)) := by
  induction h : m.length - x using Nat.strongRecOn generalizing x with
  | ind k ih =>
    by_cases hc : m[x]? = some true
    · obtain ⟨h1, h2⟩ := List.getElem?_eq_some_iff.1 hc
      have h3 := ih (m.length - (x + 1)) (by omega) (x + 1) h1 rfl
      rw [endOf_go hc, List.drop_eq_getElem_cons h1, h2]
      have h4 := (endOf_ge m (x + 1)).1
      unfold cntT at h3 ⊢
      rw [List.countP_cons, h3]
      simp only [id_eq, if_true]
      omega
    · rw [endOf_stop hc]
      omega
/-- As many marks as the pieces are long. -/
theorem segs_sum (m : List Bool) (x : Nat) (hx : x ≤ m.length) : ((segs m x).map (·.2)).sum = cntT (m.drop x) := by
  induction h : m.length - x using Nat.strongRecOn generalizing x with
  | ind k ih =>
    by_cases hlt : x < m.length
    · obtain ⟨b, hb⟩ : ∃ b, m[x]? = some b := ⟨_, List.getElem?_eq_getElem hlt⟩
      cases b with
      | true =>
        have h1 := endOf_gt hb
        rw [segs_true hb, cnt_end m x hx, List.map_cons, List.sum_cons]
        by_cases he : endOf m x < m.length
        · rw [ih (m.length - (endOf m x + 1)) (by omega) _ (by omega) rfl]
          have hf : m[endOf m x]? = some false := by
            obtain ⟨b, hb2⟩ : ∃ b, m[endOf m x]? = some b := ⟨_, List.getElem?_eq_getElem he⟩
            cases b with
            | false => exact hb2
            | true =>
              exfalso
              have : ∀ j y, m.length - y = j → y ≤ m.length → ¬ m[endOf m y]? = some true := by
                intro j
                induction j using Nat.strongRecOn with
                | ind j ihj =>
                  intro y hj hy h5
                  by_cases hc : m[y]? = some true
                  · have h6 := (List.getElem?_eq_some_iff.1 hc).1
                    rw [endOf_go hc] at h5
                    exact ihj (m.length - (y + 1)) (by omega) (y + 1) rfl h6 h5
                  · rw [endOf_stop hc] at h5
                    exact hc h5
              exact this _ x rfl hx hb2
          obtain ⟨h3, h4⟩ := List.getElem?_eq_some_iff.1 hf
          rw [List.drop_eq_getElem_cons h3, h4]
          unfold cntT
          rw [List.countP_cons]
          simp
        · rw [segs_stop (by omega), List.drop_eq_nil_of_le (by omega)]
          simp [cntT]
      | false =>
        obtain ⟨h3, h4⟩ := List.getElem?_eq_some_iff.1 hb
        rw [segs_false hb, ih (m.length - (x + 1)) (by omega) _ hlt rfl, List.drop_eq_getElem_cons h3, h4]
        unfold cntT
        rw [List.countP_cons]
        simp
    · rw [segs_stop (by omega), List.drop_eq_nil_of_le (by omega)]
      rfl
end Go.Proofs.Ytpjafocgabhieaa
