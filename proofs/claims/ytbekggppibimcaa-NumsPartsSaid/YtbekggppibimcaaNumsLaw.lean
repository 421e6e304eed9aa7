/- The two laws of chapter 3 that only put: NumsPut and NumsParts, walked. -/
import Derived.Test.YtbekggppibimcaaRef03W
namespace Go.Proofs.Ytbekggppibimcaa
open Go.RowKit Nums

set_option maxRecDepth 100000 in
set_option maxHeartbeats 400000 in
theorem awake_any (w : World) : Calls Try.prog 5 #[] w fun e w' => e = .returned (.bool true) ∧ Below w.heap.size w w' := by
  have HZ := Lib.hid awake_bytes
  go_enter Try.func5, Try.ntmps5
  go_wp2_with (go_at_call 7; refine (put_any _ _ _ [1, -1, 150] _ rfl (Ints.new w [1, -1, 150] 3) (fun n hn => by simp at hn; omega) (by simp)).mono ?_; rintro e w1 ⟨rfl, hb1⟩; rw [HZ.out])
  go_ret
  exact ⟨rfl, ((Below.refl _ _).alloc (Nat.le_refl _) _).trans (hb1.mono (by simp))⟩

set_option maxRecDepth 100000 in
theorem short_any (s : ByteArray) (n : Nat) (w : World) : Calls Try.prog 6 #[.string s, .int .i64 n] w fun e w' => e = .returned (.string (cutB s n)) ∧ w = w' := by
  by_cases h : n < s.size
  · go_enter Try.func6, Try.ntmps6
    go_wp2
    go_ret
    exact ⟨ret_str_of (cutB_some s n).symm, rfl⟩
  · go_enter Try.func6, Try.ntmps6
    go_wp2
    go_ret
    exact ⟨ret_str_of (cutB_all (by omega)).symm, rfl⟩

set_option maxRecDepth 100000 in
set_option maxHeartbeats 400000 in
theorem numsPut_walk (A : Option Addr) (n c : Nat) (xs : List Int) (s : ByteArray) (w : World) (hn : xs.length = n) (hc : n ≤ c) (hA : Ints w A xs) (hx : Fit xs) (hs : s.size ≤ maxLen) (hc2 : c ≤ maxLen) :
    Calls Try.prog 3 #[.slice A n c, .string s] w fun e w' => e = .returned (.bool true) ∧ Below w.heap.size w w' := by
  unfold maxLen at hs hc2
  have hcs : (cutB s 200).size ≤ 1000000000000 := by rw [cutB_size]; omega
  by_cases h12 : 12 < n
  · have hA2 := hA.take 12
    have hx2 := hx.take 12
    have hl2 : (xs.take 12).length = 12 := by rw [List.length_take]; omega
    generalize xs.take 12 = ys at hA2 hx2 hl2
    have HL := Lib.hid hl2
    clear hl2 hA
    go_enter Try.func3, Try.ntmps3
    go_wp2_with fail
    refine (awake_any w).mono ?_
    rintro e w1 ⟨rfl, hb1⟩
    go_wp2_with fail
    refine (short_any s 200 _).mono ?_
    rintro e w2 ⟨rfl, rfl⟩
    go_wp2_with fail
    refine (put_any _ _ _ ys _ HL.out (hA2.below hb1) hx2 (by omega)).mono ?_
    rintro e w2 ⟨rfl, hb2⟩
    go_wp2_with fail
    refine (refPut_any _ _ _ ys _ HL.out ((hA2.below hb1).below hb2) hx2 (by omega)).mono ?_
    rintro e w3 ⟨rfl, hb3⟩
    go_wp2_with fail
    refine (putText_any _ _ hcs).mono ?_
    rintro e w4 ⟨rfl, hb4⟩
    go_wp2_with fail
    refine (refPutText_any _ _ hcs).mono ?_
    rintro e w5 ⟨rfl, hb5⟩
    go_wp2_with fail
    go_ret
    exact ⟨rfl, later hb1 (later hb2 (later hb3 (later hb4 hb5)))⟩
  · have HL := Lib.hid hn
    clear hn
    go_enter Try.func3, Try.ntmps3
    go_wp2_with fail
    refine (awake_any w).mono ?_
    rintro e w1 ⟨rfl, hb1⟩
    go_wp2_with fail
    refine (short_any s 200 _).mono ?_
    rintro e w2 ⟨rfl, rfl⟩
    go_wp2_with fail
    refine (put_any _ _ _ xs _ HL.out (hA.below hb1) hx (by omega)).mono ?_
    rintro e w2 ⟨rfl, hb2⟩
    go_wp2_with fail
    refine (refPut_any _ _ _ xs _ HL.out ((hA.below hb1).below hb2) hx (by omega)).mono ?_
    rintro e w3 ⟨rfl, hb3⟩
    go_wp2_with fail
    refine (putText_any _ _ hcs).mono ?_
    rintro e w4 ⟨rfl, hb4⟩
    go_wp2_with fail
    refine (refPutText_any _ _ hcs).mono ?_
    rintro e w5 ⟨rfl, hb5⟩
    go_wp2_with fail
    go_ret
    exact ⟨rfl, later hb1 (later hb2 (later hb3 (later hb4 hb5)))⟩

end Go.Proofs.Ytbekggppibimcaa
