/- A step's numbers; Resize: walked. -/
import Derived.Test.YtmdgjmmkegkonaaDoorNextL
namespace Go.Proofs.YtmdgjmmkegkonaaDoor
open Go.RowKit
set_option maxRecDepth 100000 in
set_option maxHeartbeats 2000000 in
theorem op_any (kd id by' hi : Int) (ac nr : Bool) (w : World) (hf : Fit64 id ∧ Fit64 by' ∧ Fit64 hi) : Calls Tryd.prog 15 #[.agg #[.int .i64 kd, .int .i64 id, .int .i64 by', .int .i64 hi, .bool ac, .bool nr]] w fun e w' => (∃ i n m : Int, e = .returned (.tuple #[.int .i64 i, .int .i64 n, .int .i64 m]) ∧ Fit64 i ∧ Fit64 n ∧ Fit64 m) ∧ Below w.heap.size w w' := by
  obtain ⟨⟨hf1, hf2⟩, ⟨hf3, hf4⟩, hf5, hf6⟩ := hf
  have hox := Blk.new w 25 #[.int .i64 kd, .int .i64 id, .int .i64 by', .int .i64 hi, .bool ac, .bool nr]
  have hb := (Below.refl w.heap.size w).alloc (Nat.le_refl _) (.cells #[.int .i64 kd, .int .i64 id, .int .i64 by', .int .i64 hi, .bool ac, .bool nr] 25)
  obtain ⟨m, hm, hm1, hm2, hm3, hm4⟩ := near_mod id
  obtain ⟨kq, hkq, hkqe⟩ := and_low kd 7 7 rfl (by omega)
  obtain ⟨bq, hbq, hbqe⟩ := and_low by' 31 31 rfl (by omega)
  obtain ⟨hq, hhq, hhqe⟩ := and_low hi 31 31 rfl (by omega)
  have hd20 : (20 : Int) ≠ 0 := by decide
  have y0 := hox.cell 0
  have y5 := hox.cell 5
  have x0 := hox.drew.cell 0
  have x1 := hox.drew.cell 1
  have x2 := hox.drew.cell 2
  have x3 := hox.drew.cell 3
  have x5 := hox.drew.cell 5
  go_enter Tryd.func15, Tryd.ntmps15
  cases nr
  · go_upto_region 2 with fail
    go_region
    all_goals
      go_wp2_with fail
      refine bodyPost_ret (v := .tuple #[.int .i64 id, .int .i64 by', .int .i64 hi]) (by simp [results, Tryd.results15, go_sem]) rfl ?_
      exact ⟨⟨_, _, _, rfl, ⟨hf1, hf2⟩, ⟨hf3, hf4⟩, hf5, hf6⟩, hb.drew⟩
  · by_cases hk5 : kq = 5
    · have hq1 : ((kq : Int) == 5) = true := by simp; omega
      go_upto_region 4 with fail
      go_region
      all_goals
        go_wp2_with fail
        refine bodyPost_ret (v := .tuple #[.int .i64 _, .int .i64 ((bq : Int) - 16), .int .i64 0]) (by simp [results, Tryd.results15, go_sem]; rfl) rfl ?_
        exact ⟨⟨_, _, _, rfl, ⟨by omega, by omega⟩, ⟨by omega, by omega⟩, by decide, by decide⟩, hb.drew⟩
    · have hq1 : ((kq : Int) == 5) = false := by simp; omega
      go_upto_region 5 with fail
      go_region
      all_goals
        go_wp2_with fail
        refine bodyPost_ret (v := .tuple #[.int .i64 _, .int .i64 (bq : Int), .int .i64 (hq : Int)]) (by simp [results, Tryd.results15, go_sem]; rfl) rfl ?_
        exact ⟨⟨_, _, _, rfl, ⟨by omega, by omega⟩, ⟨by omega, by omega⟩, by omega, by omega⟩, hb.drew⟩
end Go.Proofs.YtmdgjmmkegkonaaDoor
