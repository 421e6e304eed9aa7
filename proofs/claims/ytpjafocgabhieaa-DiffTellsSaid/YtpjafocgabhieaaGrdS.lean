/- Which sizes a grid may have: the program's and the document's words, walked (for DiffTells). -/
import Derived.Test.YtpjafocgabhieaaRefE
namespace Go.Proofs.Ytpjafocgabhieaa
open Go.RowKit Go.Sort
def sizeP (x y : Int) : Bool := decide (1 ≤ x) && decide (x ≤ 200) && decide (1 ≤ y) && decide (y ≤ 60)
/-- Is a grid right? Its size, its length, its rows. -/
def gridP (x y : Int) (l : List Cl) : Bool := sizeP x y && decide (l.length = x.toNat * y.toNat) && (List.range y.toNat).all fun k => rightP ((l.drop (k * x.toNat)).take x.toNat)
set_option maxRecDepth 100000 in
set_option maxHeartbeats 2000000 in
theorem sizeR_any (x y : Int) (w : World) : Calls Try.prog 36 #[.int .i64 x, .int .i64 y] w fun e w' => e = .returned (.bool (sizeP x y)) ∧ w = w' := by
  have HS := Lib.hid (show sizeP x y = (decide (1 ≤ x) && decide (x ≤ 200) && decide (1 ≤ y) && decide (y ≤ 60)) from rfl)
  by_cases h1 : 1 ≤ x
  · by_cases h2 : x ≤ 200
    · by_cases h3 : 1 ≤ y
      · by_cases h4 : y ≤ 60
        · have HP := Lib.hid (show sizeP x y = true by rw [HS.out]; simp [h1, h2, h3, h4])
          go_enter Try.func36, Try.ntmps36
          go_wp2_with fail
          go_ret
          exact ⟨ret_bool HP.out.symm, rfl⟩
        · have HP := Lib.hid (show sizeP x y = false by rw [HS.out]; simp [h4])
          go_enter Try.func36, Try.ntmps36
          go_wp2_with fail
          go_ret
          exact ⟨ret_bool HP.out.symm, rfl⟩
      · have HP := Lib.hid (show sizeP x y = false by rw [HS.out]; simp [h3])
        go_enter Try.func36, Try.ntmps36
        go_wp2_with fail
        go_ret
        exact ⟨ret_bool HP.out.symm, rfl⟩
    · have HP := Lib.hid (show sizeP x y = false by rw [HS.out]; simp [h2])
      go_enter Try.func36, Try.ntmps36
      go_wp2_with fail
      go_ret
      exact ⟨ret_bool HP.out.symm, rfl⟩
  · have HP := Lib.hid (show sizeP x y = false by rw [HS.out]; simp [h1])
    go_enter Try.func36, Try.ntmps36
    go_wp2_with fail
    go_ret
    exact ⟨ret_bool HP.out.symm, rfl⟩
set_option maxRecDepth 100000 in
set_option maxHeartbeats 2000000 in
theorem fits_any (x y : Int) (w : World) : Calls Try.prog 30 #[.int .i64 x, .int .i64 y] w fun e w' => e = .returned (.bool (sizeP x y)) ∧ w = w' := by
  have HS := Lib.hid (show sizeP x y = (decide (1 ≤ x) && decide (x ≤ 200) && decide (1 ≤ y) && decide (y ≤ 60)) from rfl)
  by_cases h1 : 1 ≤ x
  · by_cases h2 : x ≤ 200
    · by_cases h3 : 1 ≤ y
      · by_cases h4 : y ≤ 60
        · have HP := Lib.hid (show sizeP x y = true by rw [HS.out]; simp [h1, h2, h3, h4])
          go_enter Try.func30, Try.ntmps30
          go_wp2_with fail
          go_ret
          exact ⟨ret_bool HP.out.symm, rfl⟩
        · have HP := Lib.hid (show sizeP x y = false by rw [HS.out]; simp [h4])
          go_enter Try.func30, Try.ntmps30
          go_wp2_with fail
          go_ret
          exact ⟨ret_bool HP.out.symm, rfl⟩
      · have HP := Lib.hid (show sizeP x y = false by rw [HS.out]; simp [h3])
        go_enter Try.func30, Try.ntmps30
        go_wp2_with fail
        go_ret
        exact ⟨ret_bool HP.out.symm, rfl⟩
    · have HP := Lib.hid (show sizeP x y = false by rw [HS.out]; simp [h2])
      go_enter Try.func30, Try.ntmps30
      go_wp2_with fail
      go_ret
      exact ⟨ret_bool HP.out.symm, rfl⟩
  · have HP := Lib.hid (show sizeP x y = false by rw [HS.out]; simp [h1])
    go_enter Try.func30, Try.ntmps30
    go_wp2_with fail
    go_ret
    exact ⟨ret_bool HP.out.symm, rfl⟩
end Go.Proofs.Ytpjafocgabhieaa
