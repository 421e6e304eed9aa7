/- What the statements of chapter 2 with faults share: the example, short. -/
import Derived.Test.YtopcohfkfpjecaaDoorSumW
namespace Go.Proofs.YtopcohfkfpjecaaDoor
open Go.RowKit Crc

theorem ba_data (x y : ByteArray) : (x ++ y).data.toList = x.data.toList ++ y.data.toList := by simp

set_option maxRecDepth 100000 in
theorem awake_any (w : World) : Calls Tryd.prog 6 #[] w fun e w' => e = .returned (.bool true) ∧ Below w.heap.size w w' := by
  have HZ := Lib.hid awake_sum
  go_enter Tryd.func6, Tryd.ntmps6
  go_wp2_with fail
  refine (sum_any _ w (by decide)).mono ?_
  rintro e w1 ⟨rfl, hb⟩
  rw [show (⟨#[49, 50, 51, 52, 53, 54, 55, 56, 57]⟩ : ByteArray).data.toList = [49, 50, 51, 52, 53, 54, 55, 56, 57] from rfl, HZ.out]
  go_wp2_with fail
  go_ret
  exact ⟨rfl, hb⟩

set_option maxRecDepth 100000 in
theorem short_any (s : ByteArray) (n : Nat) (w : World) : Calls Tryd.prog 7 #[.string s, .int .i64 n] w fun e w' => e = .returned (.string (cutB s n)) ∧ w = w' := by
  by_cases h : n < s.size
  · go_enter Tryd.func7, Tryd.ntmps7
    go_wp2
    go_ret
    exact ⟨ret_str_of (cutB_some s n).symm, rfl⟩
  · go_enter Tryd.func7, Tryd.ntmps7
    go_wp2
    go_ret
    exact ⟨ret_str_of (cutB_all (by omega)).symm, rfl⟩

end Go.Proofs.YtopcohfkfpjecaaDoor
