/- A message's opener for a row's frame. -/
import Derived.Test.YtndlnphklklclaaDoorRRLeafL
import Derived.Test.YtndlnphklklclaaDoorRRWireP
namespace Go.Proofs.YtndlnphklklclaaDoorRR.FrameL
open Go.ChangeShapes Go.WideShapes Go.ChangeAt Go.RowKit
def val_Msg (x : Mg) : Value := .agg x.v
def wit_Msg : Value := .agg #[.int .i64 0, .int .i64 0, .int .i64 0, .bool false, .string ByteArray.empty, .string ByteArray.empty, .int .i64 0, .int .i64 0]
section
variable {H : Type} {enc : TypeId × Value → H} {w : World} {base : Nat} {spare : Nat → Bool} {held : Bool} {r : Reach} {b0 : Nat} {v : Value} {d : DataW H} {p : List MemPlace}
set_option maxRecDepth 100000 in
theorem op_Msg (hv : Value.okWide Tryd.prog w r b0 25 v) (h : DataW.Trod enc Tryd.prog w base spare held 25 v d p) : ∃ x : Mg, v = val_Msg x ∧ True := by
  obtain ⟨cs, rfl, hsz, hl⟩ := op_leaves Tryd.underlying25 4 [3, 3, 3, 4, 9, 9, 3, 3] (by kernel_rfl) (by kernel_rfl) hv h
  obtain ⟨u0, e0, o0⟩ := hl 0 _ rfl
  obtain ⟨u1, e1, o1⟩ := hl 1 _ rfl
  obtain ⟨u2, e2, o2⟩ := hl 2 _ rfl
  obtain ⟨u3, e3, o3⟩ := hl 3 _ rfl
  obtain ⟨u4, e4, o4⟩ := hl 4 _ rfl
  obtain ⟨u5, e5, o5⟩ := hl 5 _ rfl
  obtain ⟨u6, e6, o6⟩ := hl 6 _ rfl
  obtain ⟨u7, e7, o7⟩ := hl 7 _ rfl
  obtain ⟨x0, rfl, _⟩ := leaf_int Tryd.underlying3 o0
  obtain ⟨x1, rfl, _⟩ := leaf_int Tryd.underlying3 o1
  obtain ⟨x2, rfl, _⟩ := leaf_int Tryd.underlying3 o2
  obtain ⟨x3, rfl⟩ := leaf_bool Tryd.underlying4 o3
  obtain ⟨x4, rfl, _⟩ := leaf_string Tryd.underlying9 o4
  obtain ⟨x5, rfl, _⟩ := leaf_string Tryd.underlying9 o5
  obtain ⟨x6, rfl, _⟩ := leaf_int Tryd.underlying3 o6
  obtain ⟨x7, rfl, _⟩ := leaf_int Tryd.underlying3 o7
  refine ⟨⟨x0, x1, x2, x3, x4, x5, x6, x7⟩, ?_, trivial⟩
  rw [arr_of cs [.int .i64 x0, .int .i64 x1, .int .i64 x2, .bool x3, .string x4, .string x5, .int .i64 x6, .int .i64 x7] hsz (fun i hi => by
    have hi8 : i < 8 := hi
    rcases (show i = 0 ∨ i = 1 ∨ i = 2 ∨ i = 3 ∨ i = 4 ∨ i = 5 ∨ i = 6 ∨ i = 7 by omega) with rfl | rfl | rfl | rfl | rfl | rfl | rfl | rfl
    · exact e0
    · exact e1
    · exact e2
    · exact e3
    · exact e4
    · exact e5
    · exact e6
    · exact e7)]
  rfl
end
end Go.Proofs.YtndlnphklklclaaDoorRR.FrameL
