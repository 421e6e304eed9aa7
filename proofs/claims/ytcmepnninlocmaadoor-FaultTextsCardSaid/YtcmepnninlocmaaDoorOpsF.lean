/- A slice of a pile's steps: its opener for a row's frame. -/
import Derived.Test.YtcmepnninlocmaaDoorLeafS
import Derived.Test.YtcmepnninlocmaaDoorBuiltW
namespace Go.Proofs.YtcmepnninlocmaaDoor.FrameL
open Go.ChangeShapes Go.WideShapes Go.ChangeAt Go.RowKit
section
variable {H : Type} {enc : TypeId × Value → H} {w : World} {base : Nat} {held : Bool} {r : Reach} {b0 : Nat} {v : Value} {d : DataW H} {p : List MemPlace}
set_option maxRecDepth 100000 in
theorem op_Ops (hv : Value.okWide Tryd.prog w r b0 22 v) (h : DataW.Trod enc Tryd.prog w base (fun _ => true) held 22 v d p) : ∃ (A : Option Addr) (n c : Nat), v = .slice A n c ∧ n ≤ maxLen ∧ OpsAt w A n := by
  obtain ⟨A, n, c, rfl, hl, hm, _, hf⟩ := op_sliceLeaves Tryd.underlying22 3 [3, 3, 3, 9, 4] (by kernel_rfl) (by kernel_rfl) hv h
  refine ⟨A, n, c, rfl, by omega, fun i hi => ?_⟩
  obtain ⟨ad, he, hj⟩ := hf i hi
  obtain ⟨u0, e0, o0⟩ := hj 0 _ rfl
  obtain ⟨u1, e1, o1⟩ := hj 1 _ rfl
  obtain ⟨u2, e2, o2⟩ := hj 2 _ rfl
  obtain ⟨u3, e3, o3⟩ := hj 3 _ rfl
  obtain ⟨u4, e4, o4⟩ := hj 4 _ rfl
  obtain ⟨x0, rfl, _⟩ := leaf_int Tryd.underlying3 o0
  obtain ⟨x1, rfl, f1⟩ := leaf_int Tryd.underlying3 o1
  obtain ⟨x2, rfl, f2⟩ := leaf_int Tryd.underlying3 o2
  obtain ⟨x3, rfl, f3⟩ := leaf_string Tryd.underlying9 o3
  obtain ⟨x4, rfl⟩ := leaf_bool Tryd.underlying4 o4
  refine ⟨ad, he, x0, x1, x2, x3, x4, by have := bounds_i64 f1; unfold Fit64; omega, by have := bounds_i64 f2; unfold Fit64; omega, f3, fun j u hj => ?_⟩
  rw [Go.Deep.add_add]
  have hj5 : j < 5 := (Array.getElem?_eq_some_iff.1 hj).1
  rcases (show j = 0 ∨ j = 1 ∨ j = 2 ∨ j = 3 ∨ j = 4 by omega) with rfl | rfl | rfl | rfl | rfl
  · exact e0.trans hj
  · exact e1.trans hj
  · exact e2.trans hj
  · exact e3.trans hj
  · exact e4.trans hj
end
end Go.Proofs.YtcmepnninlocmaaDoor.FrameL
