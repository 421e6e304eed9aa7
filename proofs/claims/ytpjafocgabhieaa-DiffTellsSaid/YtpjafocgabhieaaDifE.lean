/- Differences and counts: plain (for DiffTells). -/
import Derived.Test.YtpjafocgabhieaaDifD
import Derived.Test.YtpjafocgabhieaaAlkW
namespace Go.Proofs.Ytpjafocgabhieaa
open Nums
/-- A piece's cells. -/
def subP (lb : List Cl) (wn : Nat) (p : Nat × Nat × Nat) : List Cl := ((rowAt lb wn p.1).drop p.2.1).take p.2.2
/-- A piece's bytes. -/
def pieceB (lb : List Cl) (wn : Nat) (p : Nat × Nat × Nat) : List UInt8 := putL [(p.1 : Int), (p.2.1 : Int), (p.2.2 : Int)] ++ bytesP (subP lb wn p)
def outD (lb : List Cl) (wn : Nat) (ps : List (Nat × Nat × Nat)) : List UInt8 := ps.flatMap (pieceB lb wn)
/-- A difference. -/
def diffP (xa ya xb yb : Int) (la lb : List Cl) : List UInt8 := if alikeP xa ya xb yb la lb then putL [xb, yb, ((allD la lb xb.toNat yb.toNat).length : Int)] ++ outD lb xb.toNat (allD la lb xb.toNat yb.toNat) else []
/-- How many places are new. -/
def countP (xa ya xb yb : Int) (la lb : List Cl) : Nat := if alikeP xa ya xb yb la lb then ((allD la lb xb.toNat yb.toNat).map (·.2.2)).sum else 0
theorem outD_append (lb : List Cl) (wn : Nat) (a b : List (Nat × Nat × Nat)) : outD lb wn (a ++ b) = outD lb wn a ++ outD lb wn b := by simp [outD]
theorem outD_one (lb : List Cl) (wn : Nat) (p : Nat × Nat × Nat) : outD lb wn [p] = pieceB lb wn p := by simp [outD]
theorem subP_len {lb : List Cl} {wn hn : Nat} (hl : lb.length = wn * hn) {p : Nat × Nat × Nat} (h1 : p.1 < hn) (h2 : p.2.1 + p.2.2 ≤ wn) : (subP lb wn p).length = p.2.2 := by
  unfold subP
  rw [List.length_take, List.length_drop, rowAt_full hl h1]
  omega
theorem triple_fit {a b c : Nat} (ha : a ≤ 1000000) (hb : b ≤ 1000000) (hc : c ≤ 1000000) : Fit [(a : Int), (b : Int), (c : Int)] := fun n hn => by
  simp only [List.mem_cons, List.not_mem_nil, or_false] at hn
  rcases hn with rfl | rfl | rfl <;> omega
theorem pieceB_len {lb : List Cl} (hok : OkL lb) {wn hn : Nat} (hl : lb.length = wn * hn) (hw : wn ≤ 200) (hh : hn ≤ 60) {p : Nat × Nat × Nat} (h1 : p.1 < hn) (h2 : p.2.1 + p.2.2 ≤ wn) : (pieceB lb wn p).length ≤ 600030 := by
  unfold pieceB
  rw [List.length_append]
  have a1 := putL_len _ (triple_fit (a := p.1) (b := p.2.1) (c := p.2.2) (by omega) (by omega) (by omega))
  have a2 := bytesP_len (l := subP lb wn p) (fun c hc => hok c (rowAt_sub (List.mem_of_mem_drop (List.mem_of_mem_take hc)))) (by rw [subP_len hl h1 h2]; omega)
  simp only [List.length_cons, List.length_nil] at a1
  omega
theorem outD_len {lb : List Cl} (hok : OkL lb) {wn hn : Nat} (hl : lb.length = wn * hn) (hw : wn ≤ 200) (hh : hn ≤ 60) : ∀ ps : List (Nat × Nat × Nat), (∀ p ∈ ps, p.1 < hn ∧ 1 ≤ p.2.2 ∧ p.2.1 + p.2.2 ≤ wn) → (outD lb wn ps).length ≤ 600030 * ps.length
  | [], _ => by simp [outD]
  | p :: ps, h => by
    have a1 := outD_len hok hl hw hh ps (fun q hq => h q (by simp [hq]))
    have a2 := h p (by simp)
    have a3 := pieceB_len hok hl hw hh a2.1 a2.2.2
    have a4 : outD lb wn (p :: ps) = pieceB lb wn p ++ outD lb wn ps := by simp [outD]
    rw [a4, List.length_append, List.length_cons]
    omega
theorem alike_parts {xa ya xb yb : Int} {la lb : List Cl} (h : alikeP xa ya xb yb la lb = true) : gridP xa ya la = true ∧ gridP xb yb lb = true ∧ xa = xb ∧ ya = yb := by
  unfold alikeP at h
  simp only [Bool.and_eq_true, decide_eq_true_eq] at h
  exact ⟨h.1.1.1, h.1.1.2, h.1.2, h.2⟩
/-- As many places as the marks of all rows. -/
theorem sum_rest {la lb : List Cl} {wn hn : Nat} (hl : lb.length = wn * hn) : ∀ j k, hn - k = j → ((restD la lb wn hn k).map (·.2.2)).sum = (((List.range hn).drop k).map fun y => cntT (rowM la lb wn y)).sum
  | 0, k, h => by
    rw [restD_stop (by omega), List.drop_eq_nil_of_le (by simp; omega)]
    rfl
  | j + 1, k, h => by
    rw [restD_go (by omega), List.map_append, List.sum_append, sum_rest hl j (k + 1) (by omega)]
    rw [List.drop_eq_getElem_cons (i := k) (by simp; omega), List.map_cons, List.sum_cons]
    congr 1
    unfold pcs
    rw [List.map_map]
    have := segs_sum (rowM la lb wn k) 0 (Nat.zero_le _)
    rw [List.drop_zero] at this
    simp only [List.getElem_range]
    rw [← this]
    rfl
end Go.Proofs.Ytpjafocgabhieaa
