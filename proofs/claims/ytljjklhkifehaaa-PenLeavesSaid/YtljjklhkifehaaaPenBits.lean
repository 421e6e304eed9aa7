import Derived.Test.YtljjklhkifehaaaPenAwk
import Derived.Test.YtljjklhkifehaaaObeyW
namespace Go.Proofs.Ytljjklhkifehaaa
open Go.RowKit
theorem or_zero8 (a : Int) (h : 0 ≤ a) (h' : a ≤ 255) : bits .or .u8 a 0 = a := by
  show IntKind.u8.wrap ((BitVec.ofInt 8 a ||| BitVec.ofInt 8 0).toNat : Int) = a
  rw [show BitVec.ofInt 8 0 = 0#8 from rfl, BitVec.or_zero, BitVec.toNat_ofInt, IntKind.wrap_u8]
  omega
theorem andNot_zero8 (a : Int) (h : 0 ≤ a) (h' : a ≤ 255) : bits .andNot .u8 a 0 = a := by
  show IntKind.u8.wrap ((BitVec.ofInt 8 a &&& ~~~(BitVec.ofInt 8 0)).toNat : Int) = a
  rw [show ~~~(BitVec.ofInt 8 0) = BitVec.allOnes 8 from rfl, BitVec.and_allOnes, BitVec.toNat_ofInt, IntKind.wrap_u8]
  omega
theorem obey_not_said (s : Int × Int × Int) (h0 : 0 ≤ s.2.2) (h1 : s.2.2 ≤ 255) (n : Int) (hn : n = 6 ∨ (8 ≤ n ∧ n ≤ 21) ∨ n = 26 ∨ n = 28 ∨ n = 29 ∨ (50 ≤ n ∧ n ≤ 89) ∨ 108 ≤ n) : obeyP s n = s := by
  obtain ⟨s0, s1, s2⟩ := s
  simp only at h0 h1
  rcases hn with h | h | h | h | h | h | h
  · subst h
    show (s0, s1, bits .or .u8 s2 0) = _
    rw [or_zero8 _ h0 h1]
  · unfold obeyP
    repeat (first | rfl | (rw [if_neg (by omega)]))
  · subst h
    show (s0, s1, bits .andNot .u8 s2 0) = _
    rw [andNot_zero8 _ h0 h1]
  · subst h; rfl
  · subst h; rfl
  · unfold obeyP
    repeat (first | rfl | (rw [if_neg (by omega)]))
  · unfold obeyP
    repeat (first | rfl | (rw [if_neg (by omega)]))
end Go.Proofs.Ytljjklhkifehaaa
