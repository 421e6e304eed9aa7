/- Bytes within four beside one another that are turned turn the sum: the plain law. -/
import Derived.Test.YtopcohfkfpjecaaDoorMutL
import Derived.Test.YtopcohfkfpjecaaDoorCrcP
namespace Go.Proofs.YtopcohfkfpjecaaDoor
open Go.RowKit Crc
def turn (l : List UInt8) (k : Nat) (bs : List UInt8) : Nat → List UInt8
  | 0 => l
  | i + 1 => (turn l k bs i).set (k + i) ((turn l k bs i).getD (k + i) 0 ^^^ bs.getD i 0)
theorem turn_len (l : List UInt8) (k : Nat) (bs : List UInt8) (i : Nat) : (turn l k bs i).length = l.length := by
  induction i with
  | zero => rfl
  | succ i ih => simp [turn, ih]

theorem turn4 (p q : List UInt8) (a b c d e f g h : UInt8) : turn (p ++ [a, b, c, d] ++ q) p.length [e, f, g, h] 4 = p ++ [a ^^^ e, b ^^^ f, c ^^^ g, d ^^^ h] ++ q := by
  simp [turn, List.getD]
theorem four_more {m : List UInt8} (h : 4 ≤ m.length) : ∃ a b c d q, m = [a, b, c, d] ++ q := by
  match m, h with
  | a :: b :: c :: d :: q, _ => exact ⟨a, b, c, d, q, rfl⟩
theorem xor_eq_self {a b : UInt8} (h : a ^^^ b = a) : b = 0 := by
  have h2 : a ^^^ (a ^^^ b) = a ^^^ a := by rw [h]
  rw [← UInt8.xor_assoc, UInt8.xor_self, UInt8.zero_xor] at h2
  exact h2
theorem compare (l : List UInt8) (k : Nat) (bs : List UInt8) (hb : bs.length = 4) (hk : k + 4 ≤ l.length) : ((crc (turn l k bs 4) : Int) == (crc l : Int)) = (bs.take 4).all (· == 0) := by
  obtain ⟨p, m, rfl, rfl⟩ : ∃ p m, l = p ++ m ∧ k = p.length := ⟨l.take k, l.drop k, (List.take_append_drop k l).symm, by rw [List.length_take]; omega⟩
  rw [List.length_append] at hk
  obtain ⟨a, b, c, d, q, rfl⟩ := four_more (show 4 ≤ m.length by omega)
  obtain ⟨e, f, g, h, r, rfl⟩ := four_more (show 4 ≤ bs.length by omega)
  obtain rfl : r = [] := by simpa using hb
  rw [List.append_nil, ← List.append_assoc, turn4]
  by_cases h0 : e = 0 ∧ f = 0 ∧ g = 0 ∧ h = 0
  · obtain ⟨rfl, rfl, rfl, rfl⟩ := h0
    simp
  · have e1 : ([e, f, g, h].take 4).all (· == 0) = false := by
      rw [Bool.eq_false_iff]
      intro h1
      simp at h1
      exact h0 h1
    rw [e1, beq_eq_false_iff_ne]
    intro h2
    obtain ⟨h3, h4, h5, h6⟩ := Crc.differ p q _ _ _ _ _ _ _ _ (Int.ofNat.inj h2)
    exact h0 ⟨xor_eq_self h3, xor_eq_self h4, xor_eq_self h5, xor_eq_self h6⟩
theorem tmod_in (a m : Int) (h : 0 < m) : -m < a.tmod m ∧ a.tmod m < m := by
  have h1 := Int.tmod_lt_of_pos a h
  have h2 := Int.tmod_lt_of_pos (-a) h
  rw [Int.neg_tmod] at h2
  omega
end Go.Proofs.YtopcohfkfpjecaaDoor
