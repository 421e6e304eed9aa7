/- What is new in a grid, piece by piece: plain (for DiffTells). -/
import Derived.Test.YtpjafocgabhieaaMrkP
import Derived.Test.YtpjafocgabhieaaWhoR
namespace Go.Proofs.Ytpjafocgabhieaa
open Nums
/-- The marks of row y. -/
def rowM (la lb : List Cl) (wn y : Nat) : List Bool := marksP (rowAt la wn y) (rowAt lb wn y)
/-- The pieces of row y from x on: row, column, length. -/
def pcs (la lb : List Cl) (wn y x : Nat) : List (Nat × Nat × Nat) := (segs (rowM la lb wn y) x).map fun p => (y, p.1, p.2)
/-- The pieces from row k on. -/
def restD (la lb : List Cl) (wn hn k : Nat) : List (Nat × Nat × Nat) := ((List.range hn).drop k).flatMap fun y => pcs la lb wn y 0
theorem restD_go {la lb : List Cl} {wn hn k : Nat} (h : k < hn) : restD la lb wn hn k = pcs la lb wn k 0 ++ restD la lb wn hn (k + 1) := by
  unfold restD
  rw [List.drop_eq_getElem_cons (by simpa using h), List.flatMap_cons]
  simp
theorem restD_stop {la lb : List Cl} {wn hn k : Nat} (h : hn ≤ k) : restD la lb wn hn k = [] := by
  unfold restD
  rw [List.drop_eq_nil_of_le (by simpa using h)]
  rfl
theorem pcs_true {la lb : List Cl} {wn y x : Nat} (h : (rowM la lb wn y)[x]? = some true) : pcs la lb wn y x = (y, x, endOf (rowM la lb wn y) x - x) :: pcs la lb wn y (endOf (rowM la lb wn y) x + 1) := by
  unfold pcs
  rw [segs_true h]
  rfl
theorem pcs_false {la lb : List Cl} {wn y x : Nat} (h : (rowM la lb wn y)[x]? = some false) : pcs la lb wn y x = pcs la lb wn y (x + 1) := by
  unfold pcs
  rw [segs_false h]
theorem pcs_stop {la lb : List Cl} {wn y x : Nat} (h : (rowM la lb wn y).length ≤ x) : pcs la lb wn y x = [] := by
  unfold pcs
  rw [segs_stop h]
  rfl
theorem rowAt_full {l : List Cl} {wn hn y : Nat} (hl : l.length = wn * hn) (hy : y < hn) : (rowAt l wn y).length = wn := by
  have h1 : y * wn + wn ≤ hn * wn := by
    rw [← Nat.succ_mul]
    exact Nat.mul_le_mul_right _ hy
  rw [rowAt_len, hl, Nat.mul_comm wn hn]
  omega
theorem rowM_len {la lb : List Cl} {wn hn y : Nat} (hl : lb.length = wn * hn) (hy : y < hn) : (rowM la lb wn y).length = wn := by
  unfold rowM
  rw [marksP_len, rowAt_full hl hy]
theorem rowM_at {la lb : List Cl} {wn hn y x : Nat} (hl : lb.length = wn * hn) (hy : y < hn) (hx : x < wn) : (rowM la lb wn y)[x]? = some (freshG (rowAt la wn y) (rowAt lb wn y) x) := by
  unfold rowM
  exact marksP_at _ _ _ (by rw [rowAt_full hl hy]; exact hx)
/-- All pieces. -/
def allD (la lb : List Cl) (wn hn : Nat) : List (Nat × Nat × Nat) := restD la lb wn hn 0
theorem pcs_mem {la lb : List Cl} {wn hn y x : Nat} (hl : lb.length = wn * hn) (hy : y < hn) : ∀ p ∈ pcs la lb wn y x, p.1 = y ∧ x ≤ p.2.1 ∧ 1 ≤ p.2.2 ∧ p.2.1 + p.2.2 ≤ wn := fun p hp => by
  unfold pcs at hp
  obtain ⟨q, hq, rfl⟩ := List.mem_map.1 hp
  have := segs_mem _ _ q hq
  rw [rowM_len hl hy] at this
  exact ⟨rfl, this.1, this.2.1, this.2.2⟩
theorem allD_mem {la lb : List Cl} {wn hn : Nat} (hl : lb.length = wn * hn) : ∀ p ∈ allD la lb wn hn, p.1 < hn ∧ 1 ≤ p.2.2 ∧ p.2.1 + p.2.2 ≤ wn := fun p hp => by
  unfold allD restD at hp
  rw [List.drop_zero] at hp
  obtain ⟨y, hy, h⟩ := List.mem_flatMap.1 hp
  have hy' := List.mem_range.1 hy
  have := pcs_mem hl hy' p h
  exact ⟨by rw [this.1]; exact hy', this.2.2.1, this.2.2.2⟩
theorem pcs_len {la lb : List Cl} {wn hn y : Nat} (hl : lb.length = wn * hn) (hy : y < hn) : (pcs la lb wn y 0).length ≤ wn := by
  unfold pcs
  rw [List.length_map]
  have := segs_len (rowM la lb wn y) 0
  rw [rowM_len hl hy] at this
  omega
theorem restD_len {la lb : List Cl} {wn hn : Nat} (hl : lb.length = wn * hn) : ∀ j k, hn - k = j → (restD la lb wn hn k).length ≤ j * wn
  | 0, k, h => by
    rw [restD_stop (by omega)]
    exact Nat.zero_le _
  | j + 1, k, h => by
    rw [restD_go (by omega), List.length_append, Nat.succ_mul]
    have h1 := pcs_len (la := la) hl (show k < hn by omega)
    have h2 := restD_len (la := la) hl j (k + 1) (by omega)
    omega
theorem allD_len {la lb : List Cl} {wn hn : Nat} (hl : lb.length = wn * hn) (hw : wn ≤ 200) (hh : hn ≤ 60) : (allD la lb wn hn).length ≤ 12000 := by
  have h1 := restD_len (la := la) hl hn 0 (by omega)
  have h2 : hn * wn ≤ 60 * 200 := Nat.mul_le_mul hh hw
  unfold allD
  omega
end Go.Proofs.Ytpjafocgabhieaa
