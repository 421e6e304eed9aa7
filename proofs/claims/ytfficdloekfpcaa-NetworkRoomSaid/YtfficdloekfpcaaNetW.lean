/- network: none, isNode, New, walked. -/
import Derived.Test.YtfficdloekfpcaaMapE
import Derived.Test.YtfficdloekfpcaaBlkL
import Derived.Test.YtfficdloekfpcaaSrcL
import Derived.RegionTactic
import Derived.BigRegion
import Derived.BigQuiet
import Derived.Deep.QuietTactic
import Derived.Deep.RegionHeld3
import Derived.Deep.Cut
import Derived.Deep.CutRange
namespace Go.Proofs.Ytfficdloekfpcaa
open Go.RowKit Go.Maps
/-- What a network that came in or was made holds: room, packets (a slice), map, lost. -/
def netCells (room : Int) (A : Option Addr) (n c : Nat) (m : Nat) (lost : Int) : Array Value := #[.int .i64 room, .slice A n c, .map (some m), .int .i64 lost]
set_option maxRecDepth 100000 in
theorem none_nil (w : World) : Calls Try.prog 19 #[.pointer none] w fun e w' => e = .returned (.bool true) ∧ w = w' := by
  go_enter Try.func19, Try.ntmps19
  go_wp2
  go_ret
  exact ⟨rfl, rfl⟩
set_option maxRecDepth 100000 in
theorem none_no (g m : Nat) (w : World) (hm : w.cell? ⟨g, 2, none⟩ = some (.map (some m))) : Calls Try.prog 19 #[.pointer (some ⟨g, 0, none⟩)] w fun e w' => e = .returned (.bool false) ∧ w = w' := by
  have h1 := fun w => run_eql_map_nil (P := Try.prog) w 42 46 3 (some m) Try.underlying42
  go_enter Try.func19, Try.ntmps19
  go_wp2
  go_ret
  exact ⟨rfl, rfl⟩
set_option maxRecDepth 100000 in
theorem isNode_any (k : Int) (w : World) : Calls Try.prog 20 #[.int .i64 k] w fun e w' => e = .returned (.bool (decide (0 ≤ k ∧ k < 16))) ∧ w = w' := by
  by_cases h : 0 ≤ k
  · by_cases h2 : k < 16
    · have hd : decide (0 ≤ k ∧ k < 16) = true := decide_eq_true ⟨h, h2⟩
      rw [hd]
      go_enter Try.func20, Try.ntmps20
      go_wp2
      go_ret
      exact ⟨rfl, rfl⟩
    · have hd : decide (0 ≤ k ∧ k < 16) = false := decide_eq_false (by omega)
      rw [hd]
      go_enter Try.func20, Try.ntmps20
      go_wp2
      go_ret
      exact ⟨rfl, rfl⟩
  · have hd : decide (0 ≤ k ∧ k < 16) = false := decide_eq_false (by omega)
    rw [hd]
    go_enter Try.func20, Try.ntmps20
    go_wp2
    go_ret
    exact ⟨rfl, rfl⟩
set_option maxRecDepth 100000 in
theorem newNet_any (room : Int) (w : World) : Calls Try.prog 7 #[.int .i64 room] w fun e w' => e = .returned (.pointer (some ⟨w.heap.size + 1, 0, none⟩)) ∧ Blk w' (w.heap.size + 1) 45 (netCells (min (max room 1) 12) none 0 0 w.heap.size 0) ∧ MapAt w' w.heap.size 0 (fun _ _ => 0) ∧ Below w.heap.size w w' := by
  have hmm := @run_makeMap Try.prog
  have fin : ∀ r : Int, r = min (max room 1) 12 → Blk ((w.alloc (.map #[] 0)).alloc (.cells #[.int .i64 r, .slice none 0 0, .map (some w.heap.size), .int .i64 0] 45)) (w.heap.size + 1) 45 (netCells (min (max room 1) 12) none 0 0 w.heap.size 0) ∧ MapAt ((w.alloc (.map #[] 0)).alloc (.cells #[.int .i64 r, .slice none 0 0, .map (some w.heap.size), .int .i64 0] 45)) w.heap.size 0 (fun _ _ => 0) ∧ Below w.heap.size w ((w.alloc (.map #[] 0)).alloc (.cells #[.int .i64 r, .slice none 0 0, .map (some w.heap.size), .int .i64 0] 45)) := fun r hr => by
    have h := Blk.new (w.alloc (.map #[] 0)) 45 #[.int .i64 r, .slice none 0 0, .map (some w.heap.size), .int .i64 0]
    rw [World.size_alloc] at h
    subst hr
    exact ⟨h, (MapAt.made w).alloc _, ((Below.refl _ _).alloc (Nat.le_refl _) _).alloc (by simp) _⟩
  have HF := Lib.hid fin
  clear fin
  rcases (show room < 1 ∨ (1 ≤ room ∧ 12 < room) ∨ (1 ≤ room ∧ room ≤ 12) by omega) with h | ⟨h, h2⟩ | ⟨h, h2⟩
  all_goals
    go_enter Try.func7, Try.ntmps7
    go_wp2
    all_goals
      go_ret
      exact ⟨rfl, HF.out _ (by omega)⟩
set_option maxRecDepth 100000 in
theorem send_nil (a c : Int) (s : ByteArray) (w : World) : Calls Try.prog 8 #[.pointer none, .agg #[.int .i64 a, .int .i64 c, .string s]] w fun e w' => e = .returned (.bool false) ∧ Below w.heap.size w w' := by
  go_enter Try.func8, Try.ntmps8
  go_wp2_with fail
  refine (none_nil _).mono ?_
  rintro e w1 ⟨rfl, rfl⟩
  go_wp2
  go_ret
  exact ⟨rfl, (Below.refl _ _).alloc (Nat.le_refl _) _⟩
end Go.Proofs.Ytfficdloekfpcaa
