/- change in bounds, by Take's closure. (Types and functions by this seat's numbers.) -/
import Derived.Test.YtfficdloekfpcaaBetwW
namespace Go.Proofs.Ytfficdloekfpcaa
open Go.RowKit Go.Maps
set_option maxRecDepth 100000 in
set_option maxHeartbeats 1000000 in
/-- change, in bounds, by Take's closure: what the closure does. -/
theorem change_take (m g cap T N I : Nat) (room lost : Int) (n : Nat) (i : Nat) (w : World) (Q : Ending → World → Prop)
    (hB : Blk w (m + 1) 45 (netCells room (some ⟨g, 0, none⟩) n cap m lost)) (hi : i < n)
    (hcl : Calls Try.prog 22 #[.pointer (some ⟨g, i * 3, none⟩), .pointer (some ⟨T, 0, none⟩), .pointer (some ⟨N, 0, none⟩), .pointer (some ⟨I, 0, none⟩)] w fun e w' => e = .returned (.bool true) ∧ Q e w') :
    Calls Try.prog 21 #[.pointer (some ⟨m + 1, 0, none⟩), .int .i64 (i : Nat), .func (Fn.func 22) #[] #[.pointer (some ⟨T, 0, none⟩), .pointer (some ⟨N, 0, none⟩), .pointer (some ⟨I, 0, none⟩)]] w fun e w' => e = .returned (.bool true) ∧ Q e w' := by
  have c2 : w.cell? ⟨m + 1, 2, none⟩ = some (.map (some m)) := hB.cell 2
  have c1 : w.cell? ⟨m + 1, 1, none⟩ = some (.slice (some ⟨g, 0, none⟩) n cap) := hB.cell 1
  have d0 : decide ((i : Int) < 0) = false := decide_eq_false (by omega)
  have d1 : decide ((i : Int) ≥ (n : Int)) = false := decide_eq_false (by omega)
  have d2 : (0 : Int) ≤ (i : Int) := by omega
  have d3 : (i : Int) < (n : Int) := by omega
  go_enter Try.func21, Try.ntmps21
  go_wp2_with fail
  refine (none_no (m + 1) m _ c2).mono ?_
  rintro e w1 ⟨rfl, rfl⟩
  go_wp2_with fail
  refine hcl.mono ?_
  rintro e w2 ⟨rfl, hq⟩
  go_wp2_with fail
  go_ret
  exact ⟨rfl, hq⟩
end Go.Proofs.Ytfficdloekfpcaa
