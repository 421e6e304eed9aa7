/- A slice of a layout's steps, and one step: their openers for a row's frame. -/
import Derived.Test.YtmdgjmmkegkonaaDoorLeafS
import Derived.Test.YtmdgjmmkegkonaaDoorBackL
namespace Go.Proofs.YtmdgjmmkegkonaaDoor.FrameL
open Go.ChangeShapes Go.WideShapes Go.ChangeAt Go.RowKit
structure OpN where
  kind : Int
  id : Int
  by' : Int
  high : Int
  across : Bool
  near : Bool
def val_Op (x : OpN) : Value := .agg #[.int .i64 x.kind, .int .i64 x.id, .int .i64 x.by', .int .i64 x.high, .bool x.across, .bool x.near]
def wit_Op : Value := .agg #[.int .i64 0, .int .i64 0, .int .i64 0, .int .i64 0, .bool false, .bool false]
section
variable {H : Type} {enc : TypeId × Value → H} {w : World} {base : Nat} {held : Bool} {r : Reach} {b0 : Nat} {v : Value} {d : DataW H} {p : List MemPlace}
set_option maxRecDepth 100000 in
theorem op_Op {spare : Nat → Bool} (hv : Value.okWide Tryd.prog w r b0 25 v) (h : DataW.Trod enc Tryd.prog w base spare held 25 v d p) : ∃ x : OpN, v = val_Op x ∧ True := by
  obtain ⟨cs, rfl, hsz, hl⟩ := op_leaves Tryd.underlying25 3 [3, 3, 3, 3, 4, 4] (by kernel_rfl) (by kernel_rfl) hv h
  obtain ⟨u0, e0, o0⟩ := hl 0 _ rfl
  obtain ⟨u1, e1, o1⟩ := hl 1 _ rfl
  obtain ⟨u2, e2, o2⟩ := hl 2 _ rfl
  obtain ⟨u3, e3, o3⟩ := hl 3 _ rfl
  obtain ⟨u4, e4, o4⟩ := hl 4 _ rfl
  obtain ⟨u5, e5, o5⟩ := hl 5 _ rfl
  obtain ⟨x0, rfl, _⟩ := leaf_int Tryd.underlying3 o0
  obtain ⟨x1, rfl, _⟩ := leaf_int Tryd.underlying3 o1
  obtain ⟨x2, rfl, _⟩ := leaf_int Tryd.underlying3 o2
  obtain ⟨x3, rfl, _⟩ := leaf_int Tryd.underlying3 o3
  obtain ⟨x4, rfl⟩ := leaf_bool Tryd.underlying4 o4
  obtain ⟨x5, rfl⟩ := leaf_bool Tryd.underlying4 o5
  refine ⟨⟨x0, x1, x2, x3, x4, x5⟩, ?_, trivial⟩
  rw [arr_of cs [.int .i64 x0, .int .i64 x1, .int .i64 x2, .int .i64 x3, .bool x4, .bool x5] hsz (fun i hi => by
    have hi6 : i < 6 := hi
    rcases (show i = 0 ∨ i = 1 ∨ i = 2 ∨ i = 3 ∨ i = 4 ∨ i = 5 by omega) with rfl | rfl | rfl | rfl | rfl | rfl
    · exact e0
    · exact e1
    · exact e2
    · exact e3
    · exact e4
    · exact e5)]
  rfl
set_option maxRecDepth 100000 in
theorem op_Ops (hv : Value.okWide Tryd.prog w r b0 23 v) (h : DataW.Trod enc Tryd.prog w base (fun _ => true) held 23 v d p) : ∃ (A : Option Addr) (n c : Nat), v = .slice A n c ∧ n ≤ maxLen ∧ OpsAt w A n := by
  obtain ⟨A, n, c, rfl, hl, hm, _, hf⟩ := op_sliceLeaves Tryd.underlying23 3 [3, 3, 3, 3, 4, 4] (by kernel_rfl) (by kernel_rfl) hv h
  refine ⟨A, n, c, rfl, by omega, fun i hi => ?_⟩
  obtain ⟨ad, he, hj⟩ := hf i hi
  obtain ⟨u0, e0, o0⟩ := hj 0 _ rfl
  obtain ⟨u1, e1, o1⟩ := hj 1 _ rfl
  obtain ⟨u2, e2, o2⟩ := hj 2 _ rfl
  obtain ⟨u3, e3, o3⟩ := hj 3 _ rfl
  obtain ⟨u4, e4, o4⟩ := hj 4 _ rfl
  obtain ⟨u5, e5, o5⟩ := hj 5 _ rfl
  obtain ⟨x0, rfl, f0⟩ := leaf_int Tryd.underlying3 o0
  obtain ⟨x1, rfl, f1⟩ := leaf_int Tryd.underlying3 o1
  obtain ⟨x2, rfl, f2⟩ := leaf_int Tryd.underlying3 o2
  obtain ⟨x3, rfl, f3⟩ := leaf_int Tryd.underlying3 o3
  obtain ⟨x4, rfl⟩ := leaf_bool Tryd.underlying4 o4
  obtain ⟨x5, rfl⟩ := leaf_bool Tryd.underlying4 o5
  refine ⟨ad, he, x0, x1, x2, x3, x4, x5, ⟨by have := bounds_i64 f0; unfold Fit64; omega, by have := bounds_i64 f1; unfold Fit64; omega, by have := bounds_i64 f2; unfold Fit64; omega, by have := bounds_i64 f3; unfold Fit64; omega⟩, fun j u hj => ?_⟩
  rw [Go.Deep.add_add]
  have hj6 : j < 6 := (List.getElem?_eq_some_iff.1 hj).1
  rcases (show j = 0 ∨ j = 1 ∨ j = 2 ∨ j = 3 ∨ j = 4 ∨ j = 5 by omega) with rfl | rfl | rfl | rfl | rfl | rfl
  · exact e0.trans hj
  · exact e1.trans hj
  · exact e2.trans hj
  · exact e3.trans hj
  · exact e4.trans hj
  · exact e5.trans hj
end
end Go.Proofs.YtmdgjmmkegkonaaDoor.FrameL
