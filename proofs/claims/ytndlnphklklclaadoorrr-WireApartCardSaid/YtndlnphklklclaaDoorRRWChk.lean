/- wire.Check of a message that may be: walked. -/
import Derived.Test.YtndlnphklklclaaDoorRRWireP
import Derived.Deep.RegionHeld3
import Derived.BigQuiet
import Derived.Deep.QuietTactic
import Derived.Deep.Cut
namespace Go.Proofs.YtndlnphklklclaaDoorRR
open Go.RowKit
set_option maxRecDepth 100000 in
theorem within_any (n a b : Int) (w : World) (h1 : a ≤ n) (h2 : n ≤ b) : Calls Tryd.prog 21 #[.int .i64 n, .int .i64 a, .int .i64 b] w fun e w' => e = .returned (.bool true) ∧ w = w' := by
  have d1 : decide (a ≤ n) = true := decide_eq_true h1
  have d2 : decide (n ≤ b) = true := decide_eq_true h2
  go_enter Tryd.func21, Tryd.ntmps21
  go_wp2_with fail
  go_ret
  exact ⟨rfl, rfl⟩
set_option maxRecDepth 100000 in
theorem fcheck_any (g s : Int) (key : Bool) (b : ByteArray) (w : World) (hg : 0 ≤ g ∧ g ≤ 1073741824) (hs : 0 ≤ s ∧ s ≤ 1073741824) : Calls Tryd.prog 22 #[.agg #[.int .i64 g, .int .i64 s, .bool key, .string b]] w fun e w' => e = .returned (.bool true) ∧ Below w.heap.size w w' := by
  have hb := (Below.refl w.heap.size w).alloc (Nat.le_refl _) (.cells #[.int .i64 g, .int .i64 s, .bool key, .string b] 23)
  have d1 : decide (0 ≤ g) = true := decide_eq_true hg.1
  have d2 : decide (g ≤ 1073741824) = true := decide_eq_true hg.2
  have d3 : decide (0 ≤ s) = true := decide_eq_true hs.1
  have d4 : decide (s ≤ 1073741824) = true := decide_eq_true hs.2
  go_enter Tryd.func22, Tryd.ntmps22
  go_wp2_with fail
  go_ret
  exact ⟨rfl, hb⟩
set_option maxRecDepth 100000 in
theorem path_any (p : ByteArray) (w : World) (hp : PathOk p) : Calls Tryd.prog 23 #[.string p] w fun e w' => e = .returned (.bool true) ∧ w = w' := by
  obtain ⟨h1, h2⟩ := hp
  have d0 : decide ((16 : Int) < (p.size : Int)) = false := decide_eq_false (by omega)
  have d0' : decide (16 < p.size) = false := decide_eq_false (by omega)
  go_enter Tryd.func23, Tryd.ntmps23
  go_wp2_with fail
  go_loopw [3, 9] (fun _ s9 wr => ∃ k : Nat, k ≤ p.size ∧ s9 = .int .i64 (k : Nat) ∧ wr = w) (fun _ s9 _ => p.size - (intOf s9).toNat)
  case atStart => exact ⟨0, Nat.zero_le _, rfl, rfl⟩
  case round =>
    obtain ⟨k, hk, rfl, rfl⟩ := hrel
    by_cases hlt : k < p.size
    · have e1 : decide ((k : Int) < (p.size : Int)) = true := decide_eq_true (by omega)
      have e2 : decide (k < p.size) = true := decide_eq_true hlt
      have h3 := h2 k hlt
      have e3 : decide ((16 : Int) ≤ ((p[k].toNat : Nat) : Int)) = false := decide_eq_false (by omega)
      have e4 : decide (16 ≤ p[k].toNat) = false := decide_eq_false (by omega)
      go_wp2_with fail
      go_round
      case rel => exact ⟨k + 1, hlt, by go_num, trivial⟩
      case measure => simp [intOf]; omega
    · have e1 : decide ((k : Int) < (p.size : Int)) = false := decide_eq_false (by omega)
      have e2 : decide (k < p.size) = false := decide_eq_false hlt
      go_wp2_with fail
      go_ret
      exact ⟨rfl, rfl⟩
theorem path_nil : PathOk ⟨#[]⟩ := ⟨Nat.zero_le _, fun i h => absurd h (Nat.not_lt_zero i)⟩
set_option maxRecDepth 100000 in
set_option maxHeartbeats 4000000 in
theorem check_none (k : Int) (hk : k = 1 ∨ k = 7) (w : World) : Calls Tryd.prog 11 #[.agg (Mg.v ⟨k, 0, 0, false, ⟨#[]⟩, ⟨#[]⟩, 0, 0⟩)] w fun e w' => e = .returned (.bool true) ∧ Below w.heap.size w w' := by
  have HP : PathOk ⟨#[]⟩ := path_nil
  rcases hk with rfl | rfl
  · go_enter Tryd.func11, Tryd.ntmps11
    go_wp2_with (first | (go_at_call 21; refine (within_any _ _ _ _ (by omega) (by omega)).mono ?_; rintro e w1 ⟨rfl, rfl⟩) | (go_at_call 23; refine (path_any _ _ HP).mono ?_; rintro e w1 ⟨rfl, rfl⟩))
    go_ret
    refine ⟨rfl, ?_⟩
    repeat (first | with_reducible exact Below.refl _ _ | (refine Below.setCell ?_ (by simp) _) | (refine Below.alloc ?_ (by simp <;> omega) _))
  · go_enter Tryd.func11, Tryd.ntmps11
    go_wp2_with (first | (go_at_call 21; refine (within_any _ _ _ _ (by omega) (by omega)).mono ?_; rintro e w1 ⟨rfl, rfl⟩) | (go_at_call 23; refine (path_any _ _ HP).mono ?_; rintro e w1 ⟨rfl, rfl⟩))
    go_ret
    refine ⟨rfl, ?_⟩
    repeat (first | with_reducible exact Below.refl _ _ | (refine Below.setCell ?_ (by simp) _) | (refine Below.alloc ?_ (by simp <;> omega) _))
set_option maxRecDepth 100000 in
set_option maxHeartbeats 4000000 in
theorem check_path (k : Int) (p : ByteArray) (hk : k = 2 ∨ k = 4) (HP : PathOk p) (w : World) : Calls Tryd.prog 11 #[.agg (Mg.v ⟨k, 0, 0, false, ⟨#[]⟩, p, 0, 0⟩)] w fun e w' => e = .returned (.bool true) ∧ Below w.heap.size w w' := by
  rcases hk with rfl | rfl
  · go_enter Tryd.func11, Tryd.ntmps11
    go_wp2_with (first | (go_at_call 21; refine (within_any _ _ _ _ (by omega) (by omega)).mono ?_; rintro e w1 ⟨rfl, rfl⟩) | (go_at_call 23; refine (path_any _ _ HP).mono ?_; rintro e w1 ⟨rfl, rfl⟩))
    go_ret
    refine ⟨rfl, ?_⟩
    repeat (first | with_reducible exact Below.refl _ _ | (refine Below.setCell ?_ (by simp) _) | (refine Below.alloc ?_ (by simp <;> omega) _))
  · go_enter Tryd.func11, Tryd.ntmps11
    go_wp2_with (first | (go_at_call 21; refine (within_any _ _ _ _ (by omega) (by omega)).mono ?_; rintro e w1 ⟨rfl, rfl⟩) | (go_at_call 23; refine (path_any _ _ HP).mono ?_; rintro e w1 ⟨rfl, rfl⟩))
    go_ret
    refine ⟨rfl, ?_⟩
    repeat (first | with_reducible exact Below.refl _ _ | (refine Below.setCell ?_ (by simp) _) | (refine Below.alloc ?_ (by simp <;> omega) _))
set_option maxRecDepth 100000 in
set_option maxHeartbeats 4000000 in
theorem check_refuse (n : Nat) (hn : n ≤ 15) (w : World) : Calls Tryd.prog 11 #[.agg (Mg.v ⟨3, 0, 0, false, ⟨#[]⟩, ⟨#[]⟩, n, 0⟩)] w fun e w' => e = .returned (.bool true) ∧ Below w.heap.size w w' := by
  have HP : PathOk ⟨#[]⟩ := path_nil
  go_enter Tryd.func11, Tryd.ntmps11
  go_wp2_with (first | (go_at_call 21; refine (within_any _ _ _ _ (by omega) (by omega)).mono ?_; rintro e w1 ⟨rfl, rfl⟩) | (go_at_call 23; refine (path_any _ _ HP).mono ?_; rintro e w1 ⟨rfl, rfl⟩))
  go_ret
  refine ⟨rfl, ?_⟩
  repeat (first | with_reducible exact Below.refl _ _ | (refine Below.setCell ?_ (by simp) _) | (refine Below.alloc ?_ (by simp <;> omega) _))
set_option maxRecDepth 100000 in
set_option maxHeartbeats 4000000 in
theorem check_alive (g s : Int) (key : Bool) (hg : -1 ≤ g ∧ g ≤ 1073741824) (hs : -1 ≤ s ∧ s ≤ 1073741824) (w : World) : Calls Tryd.prog 11 #[.agg (Mg.v ⟨5, g, s, key, ⟨#[]⟩, ⟨#[]⟩, 0, 0⟩)] w fun e w' => e = .returned (.bool true) ∧ Below w.heap.size w w' := by
  have HP : PathOk ⟨#[]⟩ := path_nil
  go_enter Tryd.func11, Tryd.ntmps11
  go_wp2_with (first | (go_at_call 21; refine (within_any _ _ _ _ (by omega) (by omega)).mono ?_; rintro e w1 ⟨rfl, rfl⟩) | (go_at_call 23; refine (path_any _ _ HP).mono ?_; rintro e w1 ⟨rfl, rfl⟩))
  go_ret
  refine ⟨rfl, ?_⟩
  repeat (first | with_reducible exact Below.refl _ _ | (refine Below.setCell ?_ (by simp) _) | (refine Below.alloc ?_ (by simp <;> omega) _))
set_option maxRecDepth 100000 in
set_option maxHeartbeats 4000000 in
theorem check_frame (g s : Int) (key : Bool) (b : ByteArray) (hg : 0 ≤ g ∧ g ≤ 1073741824) (hs : 0 ≤ s ∧ s ≤ 1073741824) (w : World) : Calls Tryd.prog 11 #[.agg (Mg.v ⟨6, g, s, key, b, ⟨#[]⟩, 0, 0⟩)] w fun e w' => e = .returned (.bool true) ∧ Below w.heap.size w w' := by
  have HP : PathOk ⟨#[]⟩ := path_nil
  go_enter Tryd.func11, Tryd.ntmps11
  go_wp2_with (first | (go_at_call 21; refine (within_any _ _ _ _ (by omega) (by omega)).mono ?_; rintro e w1 ⟨rfl, rfl⟩) | (go_at_call 23; refine (path_any _ _ HP).mono ?_; rintro e w1 ⟨rfl, rfl⟩) | (go_at_call 22; refine (fcheck_any _ _ _ _ _ hg hs).mono ?_; rintro e w1 ⟨rfl, hb1⟩; have k1 := (hb1.cell (p := ⟨w.heap.size, 1, none⟩) (by simp <;> omega)).trans (show _ = some (.int .i64 g) from by go_simp); have k2 := (hb1.cell (p := ⟨w.heap.size, 2, none⟩) (by simp <;> omega)).trans (show _ = some (.int .i64 s) from by go_simp); have k5 := (hb1.cell (p := ⟨w.heap.size, 5, none⟩) (by simp <;> omega)).trans (show _ = some (.string ⟨#[]⟩) from by go_simp)))
  go_ret
  refine ⟨rfl, Below.trans ?_ (Below.mono hb1 (by simp <;> omega))⟩
  repeat (first | with_reducible exact Below.refl _ _ | (refine Below.setCell ?_ (by simp) _) | (refine Below.alloc ?_ (by simp <;> omega) _) | (refine Below.drew ?_))
set_option maxRecDepth 100000 in
set_option maxHeartbeats 4000000 in
theorem check_hand (k : Int) (p : ByteArray) (n c : Nat) (hk : k = 8 ∨ k = 9) (HP : PathOk p) (hn : n ≤ 15) (hc : c ≤ 1048576) (w : World) : Calls Tryd.prog 11 #[.agg (Mg.v ⟨k, 0, 0, false, ⟨#[]⟩, p, n, c⟩)] w fun e w' => e = .returned (.bool true) ∧ Below w.heap.size w w' := by
  rcases hk with rfl | rfl
  · go_enter Tryd.func11, Tryd.ntmps11
    go_upto_region 12 with fail
    go_region_with fail
    all_goals go_wp2_with (first | (go_at_call 21; refine (within_any _ _ _ _ (by omega) (by omega)).mono ?_; rintro e w1 ⟨rfl, rfl⟩) | (go_at_call 23; refine (path_any _ _ HP).mono ?_; rintro e w1 ⟨rfl, rfl⟩))
    all_goals go_ret
    all_goals refine ⟨rfl, ?_⟩
    all_goals repeat (first | with_reducible exact Below.refl _ _ | (refine Below.setCell ?_ (by simp) _) | (refine Below.alloc ?_ (by simp <;> omega) _) | (refine Below.drew ?_))
  · go_enter Tryd.func11, Tryd.ntmps11
    go_upto_region 12 with fail
    go_region_with fail
    all_goals go_wp2_with (first | (go_at_call 21; refine (within_any _ _ _ _ (by omega) (by omega)).mono ?_; rintro e w1 ⟨rfl, rfl⟩) | (go_at_call 23; refine (path_any _ _ HP).mono ?_; rintro e w1 ⟨rfl, rfl⟩))
    all_goals go_ret
    all_goals refine ⟨rfl, ?_⟩
    all_goals repeat (first | with_reducible exact Below.refl _ _ | (refine Below.setCell ?_ (by simp) _) | (refine Below.alloc ?_ (by simp <;> omega) _) | (refine Below.drew ?_))
theorem check_any (m : Mg) (hm : MgOk m) (w : World) : Calls Tryd.prog 11 #[.agg m.v] w fun e w' => e = .returned (.bool true) ∧ Below w.heap.size w w' := by
  cases hm with
  | none k h1 => exact check_none k h1 w
  | path k p h1 h2 => exact check_path k p h1 h2 w
  | refuse n h1 => exact check_refuse n h1 w
  | alive g s key h1 h2 => exact check_alive g s key h1 h2 w
  | frame g s key b h1 h2 h3 => exact check_frame g s key b h1 h2 w
  | hand k p n c h1 h2 h3 h4 => exact check_hand k p n c h1 h2 h3 h4 w
end Go.Proofs.YtndlnphklklclaaDoorRR
