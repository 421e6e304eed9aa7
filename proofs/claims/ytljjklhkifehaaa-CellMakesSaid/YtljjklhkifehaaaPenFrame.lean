/- The pens' and acts' openers for a row's frame. -/
import Derived.Test.YtljjklhkifehaaaLeafL
namespace Go.Proofs.Ytljjklhkifehaaa.FrameL
open Go.ChangeShapes Go.WideShapes Go.ChangeAt Go.RowKit

/-- A pen: its character, colours and ways of drawing. -/
abbrev Pen4 := Int × Int × Int × Int
def val_Cell (x : Pen4) : Value := .agg #[.int .i32 x.1, .int .u8 x.2.1, .int .u8 x.2.2.1, .int .u8 x.2.2.2]
def wit_Cell : Value := .agg #[.int .i32 0, .int .u8 0, .int .u8 0, .int .u8 0]
def u8s (x : Int) : Prop := 0 ≤ x ∧ x ≤ 255
structure ActN where
  kind : Int
  r : Int
  priv : Int
  mid : Int
  n : Int
  n0 : Int
  n1 : Int
  n2 : Int
  n3 : Int
  n4 : Int
  n5 : Int
  n6 : Int
  n7 : Int
def val_Act (x : ActN) : Value := .agg #[.int .i64 x.kind, .int .i32 x.r, .int .u8 x.priv, .int .u8 x.mid, .int .i64 x.n, .int .i64 x.n0, .int .i64 x.n1, .int .i64 x.n2, .int .i64 x.n3, .int .i64 x.n4, .int .i64 x.n5, .int .i64 x.n6, .int .i64 x.n7]
def wit_Act : Value := .agg #[.int .i64 0, .int .i32 0, .int .u8 0, .int .u8 0, .int .i64 0, .int .i64 0, .int .i64 0, .int .i64 0, .int .i64 0, .int .i64 0, .int .i64 0, .int .i64 0, .int .i64 0]

section
variable {H : Type} {enc : TypeId × Value → H} {w : World} {base : Nat} {spare : Nat → Bool} {held : Bool} {r : Reach} {b0 : Nat} {v : Value} {d : DataW H} {p : List MemPlace}
theorem op_Cell (hv : Value.okWide Try.prog w r b0 23 v) (h : DataW.Trod enc Try.prog w base spare held 23 v d p) : ∃ x : Pen4, v = val_Cell x ∧ u8s x.2.1 ∧ u8s x.2.2.1 ∧ u8s x.2.2.2 := by
  obtain ⟨cs, rfl, hsz, hl⟩ := op_leaves Try.underlying23 3 [21, 5, 5, 5] (by kernel_rfl) (by kernel_rfl) hv h
  obtain ⟨u0, e0, o0⟩ := hl 0 _ rfl
  obtain ⟨u1, e1, o1⟩ := hl 1 _ rfl
  obtain ⟨u2, e2, o2⟩ := hl 2 _ rfl
  obtain ⟨u3, e3, o3⟩ := hl 3 _ rfl
  obtain ⟨x0, rfl, _⟩ := leaf_int Try.underlying21 o0
  obtain ⟨x1, rfl, w1⟩ := leaf_int Try.underlying5 o1
  obtain ⟨x2, rfl, w2⟩ := leaf_int Try.underlying5 o2
  obtain ⟨x3, rfl, w3⟩ := leaf_int Try.underlying5 o3
  refine ⟨(x0, x1, x2, x3), ?_, bounds_u8 w1, bounds_u8 w2, bounds_u8 w3⟩
  rw [arr_of cs [.int .i32 x0, .int .u8 x1, .int .u8 x2, .int .u8 x3] hsz (fun i hi => by
    have hi4 : i < 4 := hi
    rcases (show i = 0 ∨ i = 1 ∨ i = 2 ∨ i = 3 by omega) with rfl | rfl | rfl | rfl
    · exact e0
    · exact e1
    · exact e2
    · exact e3)]
  rfl
theorem op_Act (hv : Value.okWide Try.prog w r b0 26 v) (h : DataW.Trod enc Try.prog w base spare held 26 v d p) : ∃ x : ActN, v = val_Act x ∧ True := by
  obtain ⟨cs, rfl, hsz, hl⟩ := op_leaves Try.underlying26 4 [3, 21, 5, 5, 3, 3, 3, 3, 3, 3, 3, 3, 3] (by kernel_rfl) (by kernel_rfl) hv h
  obtain ⟨u0, e0, o0⟩ := hl 0 _ rfl
  obtain ⟨u1, e1, o1⟩ := hl 1 _ rfl
  obtain ⟨u2, e2, o2⟩ := hl 2 _ rfl
  obtain ⟨u3, e3, o3⟩ := hl 3 _ rfl
  obtain ⟨u4, e4, o4⟩ := hl 4 _ rfl
  obtain ⟨u5, e5, o5⟩ := hl 5 _ rfl
  obtain ⟨u6, e6, o6⟩ := hl 6 _ rfl
  obtain ⟨u7, e7, o7⟩ := hl 7 _ rfl
  obtain ⟨u8, e8, o8⟩ := hl 8 _ rfl
  obtain ⟨u9, e9, o9⟩ := hl 9 _ rfl
  obtain ⟨u10, e10, o10⟩ := hl 10 _ rfl
  obtain ⟨u11, e11, o11⟩ := hl 11 _ rfl
  obtain ⟨u12, e12, o12⟩ := hl 12 _ rfl
  obtain ⟨x0, rfl, _⟩ := leaf_int Try.underlying3 o0
  obtain ⟨x1, rfl, _⟩ := leaf_int Try.underlying21 o1
  obtain ⟨x2, rfl, _⟩ := leaf_int Try.underlying5 o2
  obtain ⟨x3, rfl, _⟩ := leaf_int Try.underlying5 o3
  obtain ⟨x4, rfl, _⟩ := leaf_int Try.underlying3 o4
  obtain ⟨x5, rfl, _⟩ := leaf_int Try.underlying3 o5
  obtain ⟨x6, rfl, _⟩ := leaf_int Try.underlying3 o6
  obtain ⟨x7, rfl, _⟩ := leaf_int Try.underlying3 o7
  obtain ⟨x8, rfl, _⟩ := leaf_int Try.underlying3 o8
  obtain ⟨x9, rfl, _⟩ := leaf_int Try.underlying3 o9
  obtain ⟨x10, rfl, _⟩ := leaf_int Try.underlying3 o10
  obtain ⟨x11, rfl, _⟩ := leaf_int Try.underlying3 o11
  obtain ⟨x12, rfl, _⟩ := leaf_int Try.underlying3 o12
  refine ⟨⟨x0, x1, x2, x3, x4, x5, x6, x7, x8, x9, x10, x11, x12⟩, ?_, trivial⟩
  rw [arr_of cs [.int .i64 x0, .int .i32 x1, .int .u8 x2, .int .u8 x3, .int .i64 x4, .int .i64 x5, .int .i64 x6, .int .i64 x7, .int .i64 x8, .int .i64 x9, .int .i64 x10, .int .i64 x11, .int .i64 x12] hsz (fun i hi => by
    have hi13 : i < 13 := hi
    rcases (show i = 0 ∨ i = 1 ∨ i = 2 ∨ i = 3 ∨ i = 4 ∨ i = 5 ∨ i = 6 ∨ i = 7 ∨ i = 8 ∨ i = 9 ∨ i = 10 ∨ i = 11 ∨ i = 12 by omega) with rfl | rfl | rfl | rfl | rfl | rfl | rfl | rfl | rfl | rfl | rfl | rfl | rfl
    · exact e0
    · exact e1
    · exact e2
    · exact e3
    · exact e4
    · exact e5
    · exact e6
    · exact e7
    · exact e8
    · exact e9
    · exact e10
    · exact e11
    · exact e12)]
  rfl
end
end Go.Proofs.Ytljjklhkifehaaa.FrameL
