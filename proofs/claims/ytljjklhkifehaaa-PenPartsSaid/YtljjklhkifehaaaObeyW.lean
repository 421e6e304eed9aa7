/- pen.obey, walked, case by case (printed by gen_obey.py). -/
import Derived.Test.YtljjklhkifehaaaBlkL
import Derived.Test.YtljjklhkifehaaaSrcL
import Derived.RegionTactic
import Derived.ChangeAlike
import Derived.BigRegion
namespace Go.Proofs.Ytljjklhkifehaaa
open Go.RowKit

/-- A cell, by value. -/
def cellV (r f b a : Int) : Value := .agg #[.int .i32 r, .int .u8 f, .int .u8 b, .int .u8 a]
/-- What a number from 1 to 7 turns on. -/
def wayN (n : Int) : Int := if n = 1 then 1 else if n = 2 then 2 else if n = 3 then 4 else if n = 4 then 8 else if n = 5 then 16 else if n = 7 then 32 else 0
/-- A number obeyed: foreground, background, ways of drawing. -/
def obeyP (s : Int × Int × Int) (n : Int) : Int × Int × Int :=
  if n = 0 then (0, 0, 0)
  else if 0 < n ∧ n < 8 then (s.1, s.2.1, bits .or .u8 s.2.2 (wayN n))
  else if n = 22 then (s.1, s.2.1, bits .andNot .u8 s.2.2 3)
  else if 23 ≤ n ∧ n ≤ 27 then (s.1, s.2.1, bits .andNot .u8 s.2.2 (wayN (n - 20)))
  else if 30 ≤ n ∧ n ≤ 37 then (max (n - 30) 1, s.2.1, s.2.2)
  else if n = 39 then (0, s.2.1, s.2.2)
  else if 40 ≤ n ∧ n ≤ 47 then (s.1, max (n - 40) 1, s.2.2)
  else if n = 49 then (s.1, 0, s.2.2)
  else if 90 ≤ n ∧ n ≤ 97 then (max (n - 82) 1, s.2.1, s.2.2)
  else if 100 ≤ n ∧ n ≤ 107 then (s.1, max (n - 92) 1, s.2.2)
  else s

set_option maxRecDepth 100000 in
theorem ways_any (w : World) : Calls Try.prog 33 #[] w fun e w' => e = .returned (.agg #[.int .u8 0, .int .u8 1, .int .u8 2, .int .u8 4, .int .u8 8, .int .u8 16, .int .u8 0, .int .u8 32]) ∧ w' = w.alloc (.cells #[.int .u8 0, .int .u8 1, .int .u8 2, .int .u8 4, .int .u8 8, .int .u8 16, .int .u8 0, .int .u8 32] 58) := by
  go_enter Try.func33, Try.ntmps33
  go_wp2
  refine bodyPost_ret (v := .agg #[.int .u8 0, .int .u8 1, .int .u8 2, .int .u8 4, .int .u8 8, .int .u8 16, .int .u8 0, .int .u8 32]) ?_ rfl ?_
  · simp [results, Try.results33, go_sem]
  · exact ⟨rfl, rfl⟩
set_option maxRecDepth 100000 in
theorem colour_any (n : Int) (w : World) (h1 : n ≤ 255) (h0 : -1000000 ≤ n) : Calls Try.prog 32 #[.int .i64 n] w fun e w' => e = .returned (.int .u8 (max n 1)) ∧ w = w' := by
  rcases (show n < 1 ∨ n = 1 ∨ 1 < n by omega) with h | h | h
  · have hm : max n 1 = 1 := by omega
    rw [hm]
    clear hm
    go_enter Try.func32, Try.ntmps32
    go_wp2
    go_ret
    exact ⟨rfl, rfl⟩
  · subst h
    go_enter Try.func32, Try.ntmps32
    go_wp2
    go_ret
    exact ⟨rfl, rfl⟩
  · have hm : max n 1 = n := by omega
    rw [hm]
    clear hm
    go_enter Try.func32, Try.ntmps32
    go_wp2
    go_ret
    exact ⟨rfl, rfl⟩
set_option maxRecDepth 100000 in
set_option maxHeartbeats 1000000 in
theorem obey_e0 (r f b a : Int) (w : World) : Calls Try.prog 19 #[.agg #[.int .i32 r, .int .u8 f, .int .u8 b, .int .u8 a], .int .i64 0] w fun e w' => e = .returned (cellV r 0 0 0) ∧ Below w.heap.size w w' := by
  go_enter Try.func19, Try.ntmps19
  go_wp2_with (first | (go_at_call 33; refine (ways_any _).mono ?_; rintro e w1 ⟨rfl, rfl⟩) | (go_at_call 32; refine (colour_any _ _ (by omega) (by omega)).mono ?_; rintro e w1 ⟨rfl, rfl⟩))
  refine bodyPost_ret (v := cellV r 0 0 0) ?_ rfl ⟨rfl, ?_⟩
  · simp [results, Try.results19, go_sem, cellV]
  · repeat (first | with_reducible exact Below.refl _ _ | refine Below.drew ?_ | refine Below.alloc ?_ (by simp; try omega) _)
set_option maxRecDepth 100000 in
set_option maxHeartbeats 1000000 in
theorem obey_e1 (r f b a : Int) (w : World) : Calls Try.prog 19 #[.agg #[.int .i32 r, .int .u8 f, .int .u8 b, .int .u8 a], .int .i64 1] w fun e w' => e = .returned (cellV r f b (bits .or .u8 a 1)) ∧ Below w.heap.size w w' := by
  go_enter Try.func19, Try.ntmps19
  go_wp2_with (first | (go_at_call 33; refine (ways_any _).mono ?_; rintro e w1 ⟨rfl, rfl⟩) | (go_at_call 32; refine (colour_any _ _ (by omega) (by omega)).mono ?_; rintro e w1 ⟨rfl, rfl⟩))
  go_region
  all_goals
    go_wp2
    refine bodyPost_ret (v := cellV r f b (bits .or .u8 a 1)) ?_ rfl ⟨rfl, ?_⟩
    · simp [results, Try.results19, go_sem, cellV]
    · repeat (first | with_reducible exact Below.refl _ _ | refine Below.drew ?_ | refine Below.alloc ?_ (by simp; try omega) _)
set_option maxRecDepth 100000 in
set_option maxHeartbeats 1000000 in
theorem obey_e2 (r f b a : Int) (w : World) : Calls Try.prog 19 #[.agg #[.int .i32 r, .int .u8 f, .int .u8 b, .int .u8 a], .int .i64 2] w fun e w' => e = .returned (cellV r f b (bits .or .u8 a 2)) ∧ Below w.heap.size w w' := by
  go_enter Try.func19, Try.ntmps19
  go_wp2_with (first | (go_at_call 33; refine (ways_any _).mono ?_; rintro e w1 ⟨rfl, rfl⟩) | (go_at_call 32; refine (colour_any _ _ (by omega) (by omega)).mono ?_; rintro e w1 ⟨rfl, rfl⟩))
  go_region
  all_goals
    go_wp2
    refine bodyPost_ret (v := cellV r f b (bits .or .u8 a 2)) ?_ rfl ⟨rfl, ?_⟩
    · simp [results, Try.results19, go_sem, cellV]
    · repeat (first | with_reducible exact Below.refl _ _ | refine Below.drew ?_ | refine Below.alloc ?_ (by simp; try omega) _)
set_option maxRecDepth 100000 in
set_option maxHeartbeats 1000000 in
theorem obey_e3 (r f b a : Int) (w : World) : Calls Try.prog 19 #[.agg #[.int .i32 r, .int .u8 f, .int .u8 b, .int .u8 a], .int .i64 3] w fun e w' => e = .returned (cellV r f b (bits .or .u8 a 4)) ∧ Below w.heap.size w w' := by
  go_enter Try.func19, Try.ntmps19
  go_wp2_with (first | (go_at_call 33; refine (ways_any _).mono ?_; rintro e w1 ⟨rfl, rfl⟩) | (go_at_call 32; refine (colour_any _ _ (by omega) (by omega)).mono ?_; rintro e w1 ⟨rfl, rfl⟩))
  go_region
  all_goals
    go_wp2
    refine bodyPost_ret (v := cellV r f b (bits .or .u8 a 4)) ?_ rfl ⟨rfl, ?_⟩
    · simp [results, Try.results19, go_sem, cellV]
    · repeat (first | with_reducible exact Below.refl _ _ | refine Below.drew ?_ | refine Below.alloc ?_ (by simp; try omega) _)
set_option maxRecDepth 100000 in
set_option maxHeartbeats 1000000 in
theorem obey_e4 (r f b a : Int) (w : World) : Calls Try.prog 19 #[.agg #[.int .i32 r, .int .u8 f, .int .u8 b, .int .u8 a], .int .i64 4] w fun e w' => e = .returned (cellV r f b (bits .or .u8 a 8)) ∧ Below w.heap.size w w' := by
  go_enter Try.func19, Try.ntmps19
  go_wp2_with (first | (go_at_call 33; refine (ways_any _).mono ?_; rintro e w1 ⟨rfl, rfl⟩) | (go_at_call 32; refine (colour_any _ _ (by omega) (by omega)).mono ?_; rintro e w1 ⟨rfl, rfl⟩))
  go_region
  all_goals
    go_wp2
    refine bodyPost_ret (v := cellV r f b (bits .or .u8 a 8)) ?_ rfl ⟨rfl, ?_⟩
    · simp [results, Try.results19, go_sem, cellV]
    · repeat (first | with_reducible exact Below.refl _ _ | refine Below.drew ?_ | refine Below.alloc ?_ (by simp; try omega) _)
set_option maxRecDepth 100000 in
set_option maxHeartbeats 1000000 in
theorem obey_e5 (r f b a : Int) (w : World) : Calls Try.prog 19 #[.agg #[.int .i32 r, .int .u8 f, .int .u8 b, .int .u8 a], .int .i64 5] w fun e w' => e = .returned (cellV r f b (bits .or .u8 a 16)) ∧ Below w.heap.size w w' := by
  go_enter Try.func19, Try.ntmps19
  go_wp2_with (first | (go_at_call 33; refine (ways_any _).mono ?_; rintro e w1 ⟨rfl, rfl⟩) | (go_at_call 32; refine (colour_any _ _ (by omega) (by omega)).mono ?_; rintro e w1 ⟨rfl, rfl⟩))
  go_region
  all_goals
    go_wp2
    refine bodyPost_ret (v := cellV r f b (bits .or .u8 a 16)) ?_ rfl ⟨rfl, ?_⟩
    · simp [results, Try.results19, go_sem, cellV]
    · repeat (first | with_reducible exact Below.refl _ _ | refine Below.drew ?_ | refine Below.alloc ?_ (by simp; try omega) _)
set_option maxRecDepth 100000 in
set_option maxHeartbeats 1000000 in
theorem obey_e6 (r f b a : Int) (w : World) : Calls Try.prog 19 #[.agg #[.int .i32 r, .int .u8 f, .int .u8 b, .int .u8 a], .int .i64 6] w fun e w' => e = .returned (cellV r f b (bits .or .u8 a 0)) ∧ Below w.heap.size w w' := by
  go_enter Try.func19, Try.ntmps19
  go_wp2_with (first | (go_at_call 33; refine (ways_any _).mono ?_; rintro e w1 ⟨rfl, rfl⟩) | (go_at_call 32; refine (colour_any _ _ (by omega) (by omega)).mono ?_; rintro e w1 ⟨rfl, rfl⟩))
  go_region
  all_goals
    go_wp2
    refine bodyPost_ret (v := cellV r f b (bits .or .u8 a 0)) ?_ rfl ⟨rfl, ?_⟩
    · simp [results, Try.results19, go_sem, cellV]
    · repeat (first | with_reducible exact Below.refl _ _ | refine Below.drew ?_ | refine Below.alloc ?_ (by simp; try omega) _)
set_option maxRecDepth 100000 in
set_option maxHeartbeats 1000000 in
theorem obey_e7 (r f b a : Int) (w : World) : Calls Try.prog 19 #[.agg #[.int .i32 r, .int .u8 f, .int .u8 b, .int .u8 a], .int .i64 7] w fun e w' => e = .returned (cellV r f b (bits .or .u8 a 32)) ∧ Below w.heap.size w w' := by
  go_enter Try.func19, Try.ntmps19
  go_wp2_with (first | (go_at_call 33; refine (ways_any _).mono ?_; rintro e w1 ⟨rfl, rfl⟩) | (go_at_call 32; refine (colour_any _ _ (by omega) (by omega)).mono ?_; rintro e w1 ⟨rfl, rfl⟩))
  go_region
  all_goals
    go_wp2
    refine bodyPost_ret (v := cellV r f b (bits .or .u8 a 32)) ?_ rfl ⟨rfl, ?_⟩
    · simp [results, Try.results19, go_sem, cellV]
    · repeat (first | with_reducible exact Below.refl _ _ | refine Below.drew ?_ | refine Below.alloc ?_ (by simp; try omega) _)
set_option maxRecDepth 100000 in
set_option maxHeartbeats 1000000 in
theorem obey_e22 (r f b a : Int) (w : World) : Calls Try.prog 19 #[.agg #[.int .i32 r, .int .u8 f, .int .u8 b, .int .u8 a], .int .i64 22] w fun e w' => e = .returned (cellV r f b (bits .andNot .u8 a 3)) ∧ Below w.heap.size w w' := by
  go_enter Try.func19, Try.ntmps19
  go_wp2_with (first | (go_at_call 33; refine (ways_any _).mono ?_; rintro e w1 ⟨rfl, rfl⟩) | (go_at_call 32; refine (colour_any _ _ (by omega) (by omega)).mono ?_; rintro e w1 ⟨rfl, rfl⟩))
  refine bodyPost_ret (v := cellV r f b (bits .andNot .u8 a 3)) ?_ rfl ⟨rfl, ?_⟩
  · simp [results, Try.results19, go_sem, cellV]
  · repeat (first | with_reducible exact Below.refl _ _ | refine Below.drew ?_ | refine Below.alloc ?_ (by simp; try omega) _)
set_option maxRecDepth 100000 in
set_option maxHeartbeats 1000000 in
theorem obey_e23 (r f b a : Int) (w : World) : Calls Try.prog 19 #[.agg #[.int .i32 r, .int .u8 f, .int .u8 b, .int .u8 a], .int .i64 23] w fun e w' => e = .returned (cellV r f b (bits .andNot .u8 a 4)) ∧ Below w.heap.size w w' := by
  go_enter Try.func19, Try.ntmps19
  go_wp2_with (first | (go_at_call 33; refine (ways_any _).mono ?_; rintro e w1 ⟨rfl, rfl⟩) | (go_at_call 32; refine (colour_any _ _ (by omega) (by omega)).mono ?_; rintro e w1 ⟨rfl, rfl⟩))
  go_region
  all_goals
    go_wp2
    refine bodyPost_ret (v := cellV r f b (bits .andNot .u8 a 4)) ?_ rfl ⟨rfl, ?_⟩
    · simp [results, Try.results19, go_sem, cellV]
    · repeat (first | with_reducible exact Below.refl _ _ | refine Below.drew ?_ | refine Below.alloc ?_ (by simp; try omega) _)
set_option maxRecDepth 100000 in
set_option maxHeartbeats 1000000 in
theorem obey_e24 (r f b a : Int) (w : World) : Calls Try.prog 19 #[.agg #[.int .i32 r, .int .u8 f, .int .u8 b, .int .u8 a], .int .i64 24] w fun e w' => e = .returned (cellV r f b (bits .andNot .u8 a 8)) ∧ Below w.heap.size w w' := by
  go_enter Try.func19, Try.ntmps19
  go_wp2_with (first | (go_at_call 33; refine (ways_any _).mono ?_; rintro e w1 ⟨rfl, rfl⟩) | (go_at_call 32; refine (colour_any _ _ (by omega) (by omega)).mono ?_; rintro e w1 ⟨rfl, rfl⟩))
  go_region
  all_goals
    go_wp2
    refine bodyPost_ret (v := cellV r f b (bits .andNot .u8 a 8)) ?_ rfl ⟨rfl, ?_⟩
    · simp [results, Try.results19, go_sem, cellV]
    · repeat (first | with_reducible exact Below.refl _ _ | refine Below.drew ?_ | refine Below.alloc ?_ (by simp; try omega) _)
set_option maxRecDepth 100000 in
set_option maxHeartbeats 1000000 in
theorem obey_e25 (r f b a : Int) (w : World) : Calls Try.prog 19 #[.agg #[.int .i32 r, .int .u8 f, .int .u8 b, .int .u8 a], .int .i64 25] w fun e w' => e = .returned (cellV r f b (bits .andNot .u8 a 16)) ∧ Below w.heap.size w w' := by
  go_enter Try.func19, Try.ntmps19
  go_wp2_with (first | (go_at_call 33; refine (ways_any _).mono ?_; rintro e w1 ⟨rfl, rfl⟩) | (go_at_call 32; refine (colour_any _ _ (by omega) (by omega)).mono ?_; rintro e w1 ⟨rfl, rfl⟩))
  go_region
  all_goals
    go_wp2
    refine bodyPost_ret (v := cellV r f b (bits .andNot .u8 a 16)) ?_ rfl ⟨rfl, ?_⟩
    · simp [results, Try.results19, go_sem, cellV]
    · repeat (first | with_reducible exact Below.refl _ _ | refine Below.drew ?_ | refine Below.alloc ?_ (by simp; try omega) _)
set_option maxRecDepth 100000 in
set_option maxHeartbeats 1000000 in
theorem obey_e26 (r f b a : Int) (w : World) : Calls Try.prog 19 #[.agg #[.int .i32 r, .int .u8 f, .int .u8 b, .int .u8 a], .int .i64 26] w fun e w' => e = .returned (cellV r f b (bits .andNot .u8 a 0)) ∧ Below w.heap.size w w' := by
  go_enter Try.func19, Try.ntmps19
  go_wp2_with (first | (go_at_call 33; refine (ways_any _).mono ?_; rintro e w1 ⟨rfl, rfl⟩) | (go_at_call 32; refine (colour_any _ _ (by omega) (by omega)).mono ?_; rintro e w1 ⟨rfl, rfl⟩))
  go_region
  all_goals
    go_wp2
    refine bodyPost_ret (v := cellV r f b (bits .andNot .u8 a 0)) ?_ rfl ⟨rfl, ?_⟩
    · simp [results, Try.results19, go_sem, cellV]
    · repeat (first | with_reducible exact Below.refl _ _ | refine Below.drew ?_ | refine Below.alloc ?_ (by simp; try omega) _)
set_option maxRecDepth 100000 in
set_option maxHeartbeats 1000000 in
theorem obey_e27 (r f b a : Int) (w : World) : Calls Try.prog 19 #[.agg #[.int .i32 r, .int .u8 f, .int .u8 b, .int .u8 a], .int .i64 27] w fun e w' => e = .returned (cellV r f b (bits .andNot .u8 a 32)) ∧ Below w.heap.size w w' := by
  go_enter Try.func19, Try.ntmps19
  go_wp2_with (first | (go_at_call 33; refine (ways_any _).mono ?_; rintro e w1 ⟨rfl, rfl⟩) | (go_at_call 32; refine (colour_any _ _ (by omega) (by omega)).mono ?_; rintro e w1 ⟨rfl, rfl⟩))
  go_region
  all_goals
    go_wp2
    refine bodyPost_ret (v := cellV r f b (bits .andNot .u8 a 32)) ?_ rfl ⟨rfl, ?_⟩
    · simp [results, Try.results19, go_sem, cellV]
    · repeat (first | with_reducible exact Below.refl _ _ | refine Below.drew ?_ | refine Below.alloc ?_ (by simp; try omega) _)
set_option maxRecDepth 100000 in
set_option maxHeartbeats 1000000 in
theorem obey_e39 (r f b a : Int) (w : World) : Calls Try.prog 19 #[.agg #[.int .i32 r, .int .u8 f, .int .u8 b, .int .u8 a], .int .i64 39] w fun e w' => e = .returned (cellV r 0 b a) ∧ Below w.heap.size w w' := by
  go_enter Try.func19, Try.ntmps19
  go_wp2_with (first | (go_at_call 33; refine (ways_any _).mono ?_; rintro e w1 ⟨rfl, rfl⟩) | (go_at_call 32; refine (colour_any _ _ (by omega) (by omega)).mono ?_; rintro e w1 ⟨rfl, rfl⟩))
  refine bodyPost_ret (v := cellV r 0 b a) ?_ rfl ⟨rfl, ?_⟩
  · simp [results, Try.results19, go_sem, cellV]
  · repeat (first | with_reducible exact Below.refl _ _ | refine Below.drew ?_ | refine Below.alloc ?_ (by simp; try omega) _)
set_option maxRecDepth 100000 in
set_option maxHeartbeats 1000000 in
theorem obey_e49 (r f b a : Int) (w : World) : Calls Try.prog 19 #[.agg #[.int .i32 r, .int .u8 f, .int .u8 b, .int .u8 a], .int .i64 49] w fun e w' => e = .returned (cellV r f 0 a) ∧ Below w.heap.size w w' := by
  go_enter Try.func19, Try.ntmps19
  go_wp2_with (first | (go_at_call 33; refine (ways_any _).mono ?_; rintro e w1 ⟨rfl, rfl⟩) | (go_at_call 32; refine (colour_any _ _ (by omega) (by omega)).mono ?_; rintro e w1 ⟨rfl, rfl⟩))
  refine bodyPost_ret (v := cellV r f 0 a) ?_ rfl ⟨rfl, ?_⟩
  · simp [results, Try.results19, go_sem, cellV]
  · repeat (first | with_reducible exact Below.refl _ _ | refine Below.drew ?_ | refine Below.alloc ?_ (by simp; try omega) _)
set_option maxRecDepth 100000 in
set_option maxHeartbeats 1000000 in
theorem obey_e38 (r f b a : Int) (w : World) : Calls Try.prog 19 #[.agg #[.int .i32 r, .int .u8 f, .int .u8 b, .int .u8 a], .int .i64 38] w fun e w' => e = .returned (cellV r f b a) ∧ Below w.heap.size w w' := by
  go_enter Try.func19, Try.ntmps19
  go_wp2_with (first | (go_at_call 33; refine (ways_any _).mono ?_; rintro e w1 ⟨rfl, rfl⟩) | (go_at_call 32; refine (colour_any _ _ (by omega) (by omega)).mono ?_; rintro e w1 ⟨rfl, rfl⟩))
  refine bodyPost_ret (v := cellV r f b a) ?_ rfl ⟨rfl, ?_⟩
  · simp [results, Try.results19, go_sem, cellV]
  · repeat (first | with_reducible exact Below.refl _ _ | refine Below.drew ?_ | refine Below.alloc ?_ (by simp; try omega) _)
set_option maxRecDepth 100000 in
set_option maxHeartbeats 1000000 in
theorem obey_e48 (r f b a : Int) (w : World) : Calls Try.prog 19 #[.agg #[.int .i32 r, .int .u8 f, .int .u8 b, .int .u8 a], .int .i64 48] w fun e w' => e = .returned (cellV r f b a) ∧ Below w.heap.size w w' := by
  go_enter Try.func19, Try.ntmps19
  go_wp2_with (first | (go_at_call 33; refine (ways_any _).mono ?_; rintro e w1 ⟨rfl, rfl⟩) | (go_at_call 32; refine (colour_any _ _ (by omega) (by omega)).mono ?_; rintro e w1 ⟨rfl, rfl⟩))
  refine bodyPost_ret (v := cellV r f b a) ?_ rfl ⟨rfl, ?_⟩
  · simp [results, Try.results19, go_sem, cellV]
  · repeat (first | with_reducible exact Below.refl _ _ | refine Below.drew ?_ | refine Below.alloc ?_ (by simp; try omega) _)
set_option maxRecDepth 100000 in
set_option maxHeartbeats 1000000 in
theorem obey_low (n : Int) (h1 : n ≤ -1) (r f b a : Int) (w : World) : Calls Try.prog 19 #[.agg #[.int .i32 r, .int .u8 f, .int .u8 b, .int .u8 a], .int .i64 n] w fun e w' => e = .returned (cellV r f b a) ∧ Below w.heap.size w w' := by
  go_enter Try.func19, Try.ntmps19
  go_wp2_with (first | (go_at_call 33; refine (ways_any _).mono ?_; rintro e w1 ⟨rfl, rfl⟩) | (go_at_call 32; refine (colour_any _ _ (by omega) (by omega)).mono ?_; rintro e w1 ⟨rfl, rfl⟩))
  refine bodyPost_ret (v := cellV r f b a) ?_ rfl ⟨rfl, ?_⟩
  · simp [results, Try.results19, go_sem, cellV]
  · repeat (first | with_reducible exact Below.refl _ _ | refine Below.drew ?_ | refine Below.alloc ?_ (by simp; try omega) _)
set_option maxRecDepth 100000 in
set_option maxHeartbeats 1000000 in
theorem obey_r8 (n : Int) (h0 : 8 ≤ n) (h1 : n ≤ 21) (r f b a : Int) (w : World) : Calls Try.prog 19 #[.agg #[.int .i32 r, .int .u8 f, .int .u8 b, .int .u8 a], .int .i64 n] w fun e w' => e = .returned (cellV r f b a) ∧ Below w.heap.size w w' := by
  go_enter Try.func19, Try.ntmps19
  go_wp2_with (first | (go_at_call 33; refine (ways_any _).mono ?_; rintro e w1 ⟨rfl, rfl⟩) | (go_at_call 32; refine (colour_any _ _ (by omega) (by omega)).mono ?_; rintro e w1 ⟨rfl, rfl⟩))
  refine bodyPost_ret (v := cellV r f b a) ?_ rfl ⟨rfl, ?_⟩
  · simp [results, Try.results19, go_sem, cellV]
  · repeat (first | with_reducible exact Below.refl _ _ | refine Below.drew ?_ | refine Below.alloc ?_ (by simp; try omega) _)
set_option maxRecDepth 100000 in
set_option maxHeartbeats 1000000 in
theorem obey_r28 (n : Int) (h0 : 28 ≤ n) (h1 : n ≤ 29) (r f b a : Int) (w : World) : Calls Try.prog 19 #[.agg #[.int .i32 r, .int .u8 f, .int .u8 b, .int .u8 a], .int .i64 n] w fun e w' => e = .returned (cellV r f b a) ∧ Below w.heap.size w w' := by
  go_enter Try.func19, Try.ntmps19
  go_wp2_with (first | (go_at_call 33; refine (ways_any _).mono ?_; rintro e w1 ⟨rfl, rfl⟩) | (go_at_call 32; refine (colour_any _ _ (by omega) (by omega)).mono ?_; rintro e w1 ⟨rfl, rfl⟩))
  refine bodyPost_ret (v := cellV r f b a) ?_ rfl ⟨rfl, ?_⟩
  · simp [results, Try.results19, go_sem, cellV]
  · repeat (first | with_reducible exact Below.refl _ _ | refine Below.drew ?_ | refine Below.alloc ?_ (by simp; try omega) _)
set_option maxRecDepth 100000 in
set_option maxHeartbeats 1000000 in
theorem obey_r30 (n : Int) (h0 : 30 ≤ n) (h1 : n ≤ 37) (r f b a : Int) (w : World) : Calls Try.prog 19 #[.agg #[.int .i32 r, .int .u8 f, .int .u8 b, .int .u8 a], .int .i64 n] w fun e w' => e = .returned (cellV r (max (n - 30) 1) b a) ∧ Below w.heap.size w w' := by
  go_enter Try.func19, Try.ntmps19
  go_wp2_with (first | (go_at_call 33; refine (ways_any _).mono ?_; rintro e w1 ⟨rfl, rfl⟩) | (go_at_call 32; refine (colour_any _ _ (by omega) (by omega)).mono ?_; rintro e w1 ⟨rfl, rfl⟩))
  refine bodyPost_ret (v := cellV r (max (n - 30) 1) b a) ?_ rfl ⟨rfl, ?_⟩
  · simp [results, Try.results19, go_sem, cellV]
  · repeat (first | with_reducible exact Below.refl _ _ | refine Below.drew ?_ | refine Below.alloc ?_ (by simp; try omega) _)
set_option maxRecDepth 100000 in
set_option maxHeartbeats 1000000 in
theorem obey_r40 (n : Int) (h0 : 40 ≤ n) (h1 : n ≤ 47) (r f b a : Int) (w : World) : Calls Try.prog 19 #[.agg #[.int .i32 r, .int .u8 f, .int .u8 b, .int .u8 a], .int .i64 n] w fun e w' => e = .returned (cellV r f (max (n - 40) 1) a) ∧ Below w.heap.size w w' := by
  go_enter Try.func19, Try.ntmps19
  go_wp2_with (first | (go_at_call 33; refine (ways_any _).mono ?_; rintro e w1 ⟨rfl, rfl⟩) | (go_at_call 32; refine (colour_any _ _ (by omega) (by omega)).mono ?_; rintro e w1 ⟨rfl, rfl⟩))
  refine bodyPost_ret (v := cellV r f (max (n - 40) 1) a) ?_ rfl ⟨rfl, ?_⟩
  · simp [results, Try.results19, go_sem, cellV]
  · repeat (first | with_reducible exact Below.refl _ _ | refine Below.drew ?_ | refine Below.alloc ?_ (by simp; try omega) _)
set_option maxRecDepth 100000 in
set_option maxHeartbeats 1000000 in
theorem obey_r50 (n : Int) (h0 : 50 ≤ n) (h1 : n ≤ 89) (r f b a : Int) (w : World) : Calls Try.prog 19 #[.agg #[.int .i32 r, .int .u8 f, .int .u8 b, .int .u8 a], .int .i64 n] w fun e w' => e = .returned (cellV r f b a) ∧ Below w.heap.size w w' := by
  go_enter Try.func19, Try.ntmps19
  go_wp2_with (first | (go_at_call 33; refine (ways_any _).mono ?_; rintro e w1 ⟨rfl, rfl⟩) | (go_at_call 32; refine (colour_any _ _ (by omega) (by omega)).mono ?_; rintro e w1 ⟨rfl, rfl⟩))
  refine bodyPost_ret (v := cellV r f b a) ?_ rfl ⟨rfl, ?_⟩
  · simp [results, Try.results19, go_sem, cellV]
  · repeat (first | with_reducible exact Below.refl _ _ | refine Below.drew ?_ | refine Below.alloc ?_ (by simp; try omega) _)
set_option maxRecDepth 100000 in
set_option maxHeartbeats 1000000 in
theorem obey_r90 (n : Int) (h0 : 90 ≤ n) (h1 : n ≤ 97) (r f b a : Int) (w : World) : Calls Try.prog 19 #[.agg #[.int .i32 r, .int .u8 f, .int .u8 b, .int .u8 a], .int .i64 n] w fun e w' => e = .returned (cellV r (max (n - 82) 1) b a) ∧ Below w.heap.size w w' := by
  go_enter Try.func19, Try.ntmps19
  go_wp2_with (first | (go_at_call 33; refine (ways_any _).mono ?_; rintro e w1 ⟨rfl, rfl⟩) | (go_at_call 32; refine (colour_any _ _ (by omega) (by omega)).mono ?_; rintro e w1 ⟨rfl, rfl⟩))
  refine bodyPost_ret (v := cellV r (max (n - 82) 1) b a) ?_ rfl ⟨rfl, ?_⟩
  · simp [results, Try.results19, go_sem, cellV]
  · repeat (first | with_reducible exact Below.refl _ _ | refine Below.drew ?_ | refine Below.alloc ?_ (by simp; try omega) _)
set_option maxRecDepth 100000 in
set_option maxHeartbeats 1000000 in
theorem obey_r98 (n : Int) (h0 : 98 ≤ n) (h1 : n ≤ 99) (r f b a : Int) (w : World) : Calls Try.prog 19 #[.agg #[.int .i32 r, .int .u8 f, .int .u8 b, .int .u8 a], .int .i64 n] w fun e w' => e = .returned (cellV r f b a) ∧ Below w.heap.size w w' := by
  go_enter Try.func19, Try.ntmps19
  go_wp2_with (first | (go_at_call 33; refine (ways_any _).mono ?_; rintro e w1 ⟨rfl, rfl⟩) | (go_at_call 32; refine (colour_any _ _ (by omega) (by omega)).mono ?_; rintro e w1 ⟨rfl, rfl⟩))
  refine bodyPost_ret (v := cellV r f b a) ?_ rfl ⟨rfl, ?_⟩
  · simp [results, Try.results19, go_sem, cellV]
  · repeat (first | with_reducible exact Below.refl _ _ | refine Below.drew ?_ | refine Below.alloc ?_ (by simp; try omega) _)
set_option maxRecDepth 100000 in
set_option maxHeartbeats 1000000 in
theorem obey_r100 (n : Int) (h0 : 100 ≤ n) (h1 : n ≤ 107) (r f b a : Int) (w : World) : Calls Try.prog 19 #[.agg #[.int .i32 r, .int .u8 f, .int .u8 b, .int .u8 a], .int .i64 n] w fun e w' => e = .returned (cellV r f (max (n - 92) 1) a) ∧ Below w.heap.size w w' := by
  go_enter Try.func19, Try.ntmps19
  go_wp2_with (first | (go_at_call 33; refine (ways_any _).mono ?_; rintro e w1 ⟨rfl, rfl⟩) | (go_at_call 32; refine (colour_any _ _ (by omega) (by omega)).mono ?_; rintro e w1 ⟨rfl, rfl⟩))
  refine bodyPost_ret (v := cellV r f (max (n - 92) 1) a) ?_ rfl ⟨rfl, ?_⟩
  · simp [results, Try.results19, go_sem, cellV]
  · repeat (first | with_reducible exact Below.refl _ _ | refine Below.drew ?_ | refine Below.alloc ?_ (by simp; try omega) _)
set_option maxRecDepth 100000 in
set_option maxHeartbeats 1000000 in
theorem obey_high (n : Int) (h0 : 108 ≤ n) (r f b a : Int) (w : World) : Calls Try.prog 19 #[.agg #[.int .i32 r, .int .u8 f, .int .u8 b, .int .u8 a], .int .i64 n] w fun e w' => e = .returned (cellV r f b a) ∧ Below w.heap.size w w' := by
  go_enter Try.func19, Try.ntmps19
  go_wp2_with (first | (go_at_call 33; refine (ways_any _).mono ?_; rintro e w1 ⟨rfl, rfl⟩) | (go_at_call 32; refine (colour_any _ _ (by omega) (by omega)).mono ?_; rintro e w1 ⟨rfl, rfl⟩))
  refine bodyPost_ret (v := cellV r f b a) ?_ rfl ⟨rfl, ?_⟩
  · simp [results, Try.results19, go_sem, cellV]
  · repeat (first | with_reducible exact Below.refl _ _ | refine Below.drew ?_ | refine Below.alloc ?_ (by simp; try omega) _)

theorem obey_any (n r : Int) (s : Int × Int × Int) (w : World) : Calls Try.prog 19 #[cellV r s.1 s.2.1 s.2.2, .int .i64 n] w fun e w' => e = .returned (cellV r (obeyP s n).1 (obeyP s n).2.1 (obeyP s n).2.2) ∧ Below w.heap.size w w' := by
  obtain ⟨f, b, a⟩ := s
  have key : ∀ (m f' b' a' : Int), n = m → obeyP (f, b, a) m = (f', b', a') → Calls Try.prog 19 #[.agg #[.int .i32 r, .int .u8 f, .int .u8 b, .int .u8 a], .int .i64 m] w (fun e w' => e = .returned (cellV r f' b' a') ∧ Below w.heap.size w w') →
      Calls Try.prog 19 #[cellV r f b a, .int .i64 n] w fun e w' => e = .returned (cellV r (obeyP (f, b, a) n).1 (obeyP (f, b, a) n).2.1 (obeyP (f, b, a) n).2.2) ∧ Below w.heap.size w w' := by
    intro m f' b' a' hm he h
    subst hm
    rw [he]
    exact h
  rcases (show (n = 0) ∨ (n = 1) ∨ (n = 2) ∨ (n = 3) ∨ (n = 4) ∨ (n = 5) ∨ (n = 6) ∨ (n = 7) ∨ (n = 22) ∨ (n = 23) ∨ (n = 24) ∨ (n = 25) ∨ (n = 26) ∨ (n = 27) ∨ (n = 39) ∨ (n = 49) ∨ (n = 38) ∨ (n = 48) ∨ (n ≤ -1) ∨ (8 ≤ n ∧ n ≤ 21) ∨ (28 ≤ n ∧ n ≤ 29) ∨ (30 ≤ n ∧ n ≤ 37) ∨ (40 ≤ n ∧ n ≤ 47) ∨ (50 ≤ n ∧ n ≤ 89) ∨ (90 ≤ n ∧ n ≤ 97) ∨ (98 ≤ n ∧ n ≤ 99) ∨ (100 ≤ n ∧ n ≤ 107) ∨ (108 ≤ n) by omega) with h | h | h | h | h | h | h | h | h | h | h | h | h | h | h | h | h | h | h | h | h | h | h | h | h | h | h | h
  · exact key 0 _ _ _ h (by simp [obeyP]) (obey_e0 r f b a w)
  · exact key 1 _ _ _ h (by simp [obeyP, wayN]) (obey_e1 r f b a w)
  · exact key 2 _ _ _ h (by simp [obeyP, wayN]) (obey_e2 r f b a w)
  · exact key 3 _ _ _ h (by simp [obeyP, wayN]) (obey_e3 r f b a w)
  · exact key 4 _ _ _ h (by simp [obeyP, wayN]) (obey_e4 r f b a w)
  · exact key 5 _ _ _ h (by simp [obeyP, wayN]) (obey_e5 r f b a w)
  · exact key 6 _ _ _ h (by simp [obeyP, wayN]) (obey_e6 r f b a w)
  · exact key 7 _ _ _ h (by simp [obeyP, wayN]) (obey_e7 r f b a w)
  · exact key 22 _ _ _ h (by simp [obeyP]) (obey_e22 r f b a w)
  · exact key 23 _ _ _ h (by simp [obeyP, wayN]) (obey_e23 r f b a w)
  · exact key 24 _ _ _ h (by simp [obeyP, wayN]) (obey_e24 r f b a w)
  · exact key 25 _ _ _ h (by simp [obeyP, wayN]) (obey_e25 r f b a w)
  · exact key 26 _ _ _ h (by simp [obeyP, wayN]) (obey_e26 r f b a w)
  · exact key 27 _ _ _ h (by simp [obeyP, wayN]) (obey_e27 r f b a w)
  · exact key 39 _ _ _ h (by simp [obeyP]) (obey_e39 r f b a w)
  · exact key 49 _ _ _ h (by simp [obeyP]) (obey_e49 r f b a w)
  · exact key 38 _ _ _ h (by simp [obeyP]) (obey_e38 r f b a w)
  · exact key 48 _ _ _ h (by simp [obeyP]) (obey_e48 r f b a w)
  · exact key n _ _ _ rfl (by unfold obeyP; rw [if_neg (by omega), if_neg (by omega), if_neg (by omega), if_neg (by omega), if_neg (by omega), if_neg (by omega), if_neg (by omega), if_neg (by omega), if_neg (by omega), if_neg (by omega)]) (obey_low n h r f b a w)
  · exact key n _ _ _ rfl (by unfold obeyP; rw [if_neg (by omega), if_neg (by omega), if_neg (by omega), if_neg (by omega), if_neg (by omega), if_neg (by omega), if_neg (by omega), if_neg (by omega), if_neg (by omega), if_neg (by omega)]) (obey_r8 n h.1 h.2 r f b a w)
  · exact key n _ _ _ rfl (by unfold obeyP; rw [if_neg (by omega), if_neg (by omega), if_neg (by omega), if_neg (by omega), if_neg (by omega), if_neg (by omega), if_neg (by omega), if_neg (by omega), if_neg (by omega), if_neg (by omega)]) (obey_r28 n h.1 h.2 r f b a w)
  · exact key n _ _ _ rfl (by unfold obeyP; rw [if_neg (by omega), if_neg (by omega), if_neg (by omega), if_neg (by omega), if_pos (by omega)]) (obey_r30 n h.1 h.2 r f b a w)
  · exact key n _ _ _ rfl (by unfold obeyP; rw [if_neg (by omega), if_neg (by omega), if_neg (by omega), if_neg (by omega), if_neg (by omega), if_neg (by omega), if_pos (by omega)]) (obey_r40 n h.1 h.2 r f b a w)
  · exact key n _ _ _ rfl (by unfold obeyP; rw [if_neg (by omega), if_neg (by omega), if_neg (by omega), if_neg (by omega), if_neg (by omega), if_neg (by omega), if_neg (by omega), if_neg (by omega), if_neg (by omega), if_neg (by omega)]) (obey_r50 n h.1 h.2 r f b a w)
  · exact key n _ _ _ rfl (by unfold obeyP; rw [if_neg (by omega), if_neg (by omega), if_neg (by omega), if_neg (by omega), if_neg (by omega), if_neg (by omega), if_neg (by omega), if_neg (by omega), if_pos (by omega)]) (obey_r90 n h.1 h.2 r f b a w)
  · exact key n _ _ _ rfl (by unfold obeyP; rw [if_neg (by omega), if_neg (by omega), if_neg (by omega), if_neg (by omega), if_neg (by omega), if_neg (by omega), if_neg (by omega), if_neg (by omega), if_neg (by omega), if_neg (by omega)]) (obey_r98 n h.1 h.2 r f b a w)
  · exact key n _ _ _ rfl (by unfold obeyP; rw [if_neg (by omega), if_neg (by omega), if_neg (by omega), if_neg (by omega), if_neg (by omega), if_neg (by omega), if_neg (by omega), if_neg (by omega), if_neg (by omega), if_pos (by omega)]) (obey_r100 n h.1 h.2 r f b a w)
  · exact key n _ _ _ rfl (by unfold obeyP; rw [if_neg (by omega), if_neg (by omega), if_neg (by omega), if_neg (by omega), if_neg (by omega), if_neg (by omega), if_neg (by omega), if_neg (by omega), if_neg (by omega), if_neg (by omega)]) (obey_high n h r f b a w)
end Go.Proofs.Ytljjklhkifehaaa
