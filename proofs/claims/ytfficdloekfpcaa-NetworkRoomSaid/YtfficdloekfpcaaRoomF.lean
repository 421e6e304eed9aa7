/- A slice of steps: its opener for a row's frame. -/
import Derived.Test.YtfficdloekfpcaaLeafS
import Derived.Test.YtfficdloekfpcaaRoomW
namespace Go.Proofs.Ytfficdloekfpcaa.FrameL
open Go.ChangeShapes Go.WideShapes Go.ChangeAt Go.RowKit
section
variable {H : Type} {enc : TypeId × Value → H} {w : World} {base : Nat} {held : Bool} {r : Reach} {b0 : Nat} {v : Value} {d : DataW H} {p : List MemPlace}
theorem op_Ops (hv : Value.okWide Try.prog w r b0 34 v) (h : DataW.Trod enc Try.prog w base (fun _ => true) held 34 v d p) : ∃ (A : Option Addr) (n c : Nat), v = .slice A n c ∧ n ≤ maxLen ∧ OpsAt w A n := by
  obtain ⟨A, n, c, rfl, hl, hm, _, hf⟩ := op_sliceLeaves Try.underlying34 3 [3, 3, 3, 3, 3, 5, 5, 5, 5, 9, 4] (by kernel_rfl) (by kernel_rfl) hv h
  refine ⟨A, n, c, rfl, by omega, fun i hi => ?_⟩
  obtain ⟨ad, he, hj⟩ := hf i hi
  obtain ⟨u0, e0, o0⟩ := hj 0 _ rfl
  obtain ⟨u1, e1, o1⟩ := hj 1 _ rfl
  obtain ⟨u2, e2, o2⟩ := hj 2 _ rfl
  obtain ⟨u3, e3, o3⟩ := hj 3 _ rfl
  obtain ⟨u4, e4, o4⟩ := hj 4 _ rfl
  obtain ⟨u5, e5, o5⟩ := hj 5 _ rfl
  obtain ⟨u6, e6, o6⟩ := hj 6 _ rfl
  obtain ⟨u7, e7, o7⟩ := hj 7 _ rfl
  obtain ⟨u8, e8, o8⟩ := hj 8 _ rfl
  obtain ⟨u9, e9, o9⟩ := hj 9 _ rfl
  obtain ⟨u10, e10, o10⟩ := hj 10 _ rfl
  obtain ⟨x0, rfl, _⟩ := leaf_int Try.underlying3 o0
  obtain ⟨x1, rfl, _⟩ := leaf_int Try.underlying3 o1
  obtain ⟨x2, rfl, _⟩ := leaf_int Try.underlying3 o2
  obtain ⟨x3, rfl, _⟩ := leaf_int Try.underlying3 o3
  obtain ⟨x4, rfl, _⟩ := leaf_int Try.underlying3 o4
  obtain ⟨x5, rfl, _⟩ := leaf_int Try.underlying5 o5
  obtain ⟨x6, rfl, _⟩ := leaf_int Try.underlying5 o6
  obtain ⟨x7, rfl, _⟩ := leaf_int Try.underlying5 o7
  obtain ⟨x8, rfl, _⟩ := leaf_int Try.underlying5 o8
  obtain ⟨x9, rfl, _⟩ := leaf_string Try.underlying9 o9
  obtain ⟨x10, rfl⟩ := leaf_bool Try.underlying4 o10
  refine ⟨ad, he, x0, x1, x2, x3, x4, x5, x6, x7, x8, x9, x10, fun j u hj => ?_⟩
  rw [Go.Deep.add_add]
  have hj11 : j < 11 := (Array.getElem?_eq_some_iff.1 hj).1
  rcases (show j = 0 ∨ j = 1 ∨ j = 2 ∨ j = 3 ∨ j = 4 ∨ j = 5 ∨ j = 6 ∨ j = 7 ∨ j = 8 ∨ j = 9 ∨ j = 10 by omega) with rfl | rfl | rfl | rfl | rfl | rfl | rfl | rfl | rfl | rfl | rfl
  · exact e0.trans hj
  · exact e1.trans hj
  · exact e2.trans hj
  · exact e3.trans hj
  · exact e4.trans hj
  · exact e5.trans hj
  · exact e6.trans hj
  · exact e7.trans hj
  · exact e8.trans hj
  · exact e9.trans hj
  · exact e10.trans hj
end
end Go.Proofs.Ytfficdloekfpcaa.FrameL
