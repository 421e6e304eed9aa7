/- A packet's opener for a row's frame. -/
import Derived.Test.YtfficdloekfpcaaLeafL
namespace Go.Proofs.Ytfficdloekfpcaa.FrameL
open Go.ChangeShapes Go.WideShapes Go.ChangeAt Go.RowKit
abbrev Pk := Int × Int × ByteArray
def val_Packet (x : Pk) : Value := .agg #[.int .i64 x.1, .int .i64 x.2.1, .string x.2.2]
def wit_Packet : Value := .agg #[.int .i64 0, .int .i64 0, .string ByteArray.empty]
section
variable {H : Type} {enc : TypeId × Value → H} {w : World} {base : Nat} {spare : Nat → Bool} {held : Bool} {r : Reach} {b0 : Nat} {v : Value} {d : DataW H} {p : List MemPlace}
theorem op_Packet (hv : Value.okWide Try.prog w r b0 27 v) (h : DataW.Trod enc Try.prog w base spare held 27 v d p) : ∃ x : Pk, v = val_Packet x ∧ x.2.2.size ≤ maxLen := by
  obtain ⟨cs, rfl, hsz, hl⟩ := op_leaves Try.underlying27 3 [3, 3, 9] (by kernel_rfl) (by kernel_rfl) hv h
  obtain ⟨u0, e0, o0⟩ := hl 0 _ rfl
  obtain ⟨u1, e1, o1⟩ := hl 1 _ rfl
  obtain ⟨u2, e2, o2⟩ := hl 2 _ rfl
  obtain ⟨x0, rfl, _⟩ := leaf_int Try.underlying3 o0
  obtain ⟨x1, rfl, _⟩ := leaf_int Try.underlying3 o1
  obtain ⟨x2, rfl, w2⟩ := leaf_string Try.underlying9 o2
  refine ⟨(x0, x1, x2), ?_, w2⟩
  rw [arr_of cs [.int .i64 x0, .int .i64 x1, .string x2] hsz (fun i hi => by
    have hi3 : i < 3 := hi
    rcases (show i = 0 ∨ i = 1 ∨ i = 2 by omega) with rfl | rfl | rfl
    · exact e0
    · exact e1
    · exact e2)]
  rfl
end
end Go.Proofs.Ytfficdloekfpcaa.FrameL
