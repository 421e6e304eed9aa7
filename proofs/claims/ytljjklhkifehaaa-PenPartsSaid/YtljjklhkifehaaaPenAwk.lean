/- The example of chapter 8, walked. -/
import Derived.Test.YtljjklhkifehaaaApplyW
namespace Go.Proofs.Ytljjklhkifehaaa
open Go.RowKit
theorem Runs.done (k : Nat) (s : Int × Int × Int) : Runs k [] s s := by
  cases k with
  | zero => exact ⟨rfl, rfl⟩
  | succ k => exact .inl ⟨rfl, rfl⟩
set_option maxRecDepth 100000 in
set_option maxHeartbeats 1000000 in
theorem awake_pen (w : World) : Calls Try.prog 7 #[] w fun e w' => e = .returned (.bool true) ∧ Below w.heap.size w w' := by
  go_enter Try.func7, Try.ntmps7
  go_wp2_with fail
  refine (apply_m 0 (0, 0, 0) (9, 0, 33) 5 1 38 5 9 7 0 0 0 5 _ (by omega) (by omega) ?_).mono ?_
  · exact .inr (.inl ⟨1, _, rfl, by decide, by decide, .inr (.inr (.inr (.inl ⟨9, [7], rfl, by decide, by decide, .inr (.inl ⟨7, [], rfl, by decide, by decide, Runs.done _ _⟩)⟩)))⟩)
  rintro e w1 ⟨rfl, hb1⟩
  unfold cellA
  go_wp2
  go_ret
  exact ⟨rfl, hb1.alloc hb1.size _⟩
end Go.Proofs.Ytljjklhkifehaaa
