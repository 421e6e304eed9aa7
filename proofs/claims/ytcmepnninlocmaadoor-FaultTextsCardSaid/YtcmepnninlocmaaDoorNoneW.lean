/- FaultNone, walked. -/
import Derived.Test.YtcmepnninlocmaaDoorTextW
import Derived.Test.YtcmepnninlocmaaDoorFaultG
import Derived.Deep.Cut
import Derived.Deep.CutRange
namespace Go.Proofs.YtcmepnninlocmaaDoor
open Go.RowKit
set_option maxRecDepth 100000 in
theorem new_ok (w : World) : Calls Tryd.prog 11 #[.int .i64 0] w fun e w' => e = .returned .nilIface ∧ w = w' := by
  go_enter Tryd.func11, Tryd.ntmps11
  go_wp2
  go_ret
  exact ⟨rfl, rfl⟩
set_option maxRecDepth 100000 in
theorem at_nil (n : Int) (w : World) : Calls Tryd.prog 10 #[.nilIface, .int .i64 n] w fun e w' => e = .returned .nilIface ∧ w = w' := by
  go_enter Tryd.func10, Tryd.ntmps10
  go_wp2
  go_ret
  exact ⟨rfl, rfl⟩
set_option maxRecDepth 100000 in
theorem in_nil (s : ByteArray) (w : World) : Calls Tryd.prog 9 #[.nilIface, .string s] w fun e w' => e = .returned .nilIface ∧ w = w' := by
  go_enter Tryd.func9, Tryd.ntmps9
  go_wp2
  go_ret
  exact ⟨rfl, rfl⟩
set_option maxRecDepth 100000 in
theorem at_some (T : TypeId) (x : Value) (n : Int) (w : World) : Calls Tryd.prog 10 #[.iface T x, .int .i64 n] w fun e w' => e = .returned (.iface 57 (.pointer (some ⟨w.heap.size, 0, none⟩))) ∧ Blk w' w.heap.size 62 #[.iface T x, .int .i64 n] ∧ Below w.heap.size w w' := by
  go_enter Tryd.func10, Tryd.ntmps10
  go_wp2
  go_ret
  exact ⟨rfl, Blk.new w _ _, (Below.refl _ _).alloc (Nat.le_refl _) _⟩
set_option maxRecDepth 100000 in
theorem in_some (T : TypeId) (x : Value) (s : ByteArray) (w : World) : Calls Tryd.prog 9 #[.iface T x, .string s] w fun e w' => e = .returned (.iface 63 (.pointer (some ⟨w.heap.size, 0, none⟩))) ∧ Blk w' w.heap.size 65 #[.iface T x, .string s] ∧ Below w.heap.size w w' := by
  go_enter Tryd.func9, Tryd.ntmps9
  go_wp2
  go_ret
  exact ⟨rfl, Blk.new w _ _, (Below.refl _ _).alloc (Nat.le_refl _) _⟩
set_option maxRecDepth 100000 in
theorem join_none (H : Nat) (w : World) (h0 : w.cell? ⟨H, 0, none⟩ = some .nilIface) (h1 : w.cell? ⟨H, 1, none⟩ = some .nilIface) : Calls Tryd.prog 7 #[.slice (some ⟨H, 0, none⟩) 2 2] w fun e w' => e = .returned .nilIface ∧ w = w' := by
  go_enter Tryd.func7, Tryd.ntmps7
  go_wp2
  go_loop [3, 5, 8] (fun s3 _ i => ∃ k : Nat, k ≤ 2 ∧ s3 = .slice none 0 0 ∧ i = .int .i64 (k : Nat)) (fun _ _ i => 2 - (intOf i).toNat)
  case atStart => exact ⟨0, by omega, rfl, rfl⟩
  case round =>
    obtain ⟨k, hk, rfl, rfl⟩ := hrel
    rcases (show k = 0 ∨ k = 1 ∨ k = 2 by omega) with rfl | rfl | rfl
    · go_wp2
      go_round
      case rel => exact ⟨1, by omega, rfl, by go_num⟩
      case measure => simp [intOf]
    · go_wp2
      go_round
      case rel => exact ⟨2, by omega, rfl, by go_num⟩
      case measure => simp [intOf]
    · go_wp2
      go_ret
      exact ⟨rfl, rfl⟩
set_option maxRecDepth 100000 in
theorem place_nil (w : World) : Calls Tryd.prog 12 #[.nilIface] w fun e w' => e = .returned (.tuple #[.int .i64 0, .bool false]) ∧ w = w' := by
  go_enter Tryd.func12, Tryd.ntmps12
  go_wp2_with fail
  go_step3
  go_wp2_with fail
  go_step3
  go_wp2_with fail
  refine wp_loop_rounds 1 ?_
  rw [rounds_succ]
  go_wp2_with fail
  rw [Exit.noGoto_ret]
  go_ret2
  exact ⟨rfl, rfl⟩
set_option maxRecDepth 100000 in
theorem path_nil (w : World) : Calls Tryd.prog 14 #[.nilIface] w fun e w' => e = .returned (.string ⟨#[]⟩) ∧ w = w' := by
  go_enter Tryd.func14, Tryd.ntmps14
  go_wp2_with fail
  go_step3
  go_wp2_with fail
  go_step3
  go_wp2_with fail
  refine wp_loop_rounds 1 ?_
  rw [rounds_succ]
  go_wp2_with fail
  refine (Tryd.strings_Join_none _ _ _ _).mono ?_
  rintro e w2 ⟨rfl, rfl⟩
  go_wp2_with fail
  rw [Exit.noGoto_ret]
  go_ret
  exact ⟨rfl, rfl⟩
set_option maxRecDepth 100000 in
theorem is_nil (c : Int) (w : World) : Calls Tryd.prog 15 #[.nilIface, .int .i64 c] w fun e w' => e = .returned (.bool (c == 0)) ∧ w = w' := by
  go_enter Tryd.func15, Tryd.ntmps15
  go_wp2_with fail
  go_ret
  exact ⟨rfl, rfl⟩
/-- The example's fault. -/
def exF : Ft := .worded (.placed (.code 10) 3) ⟨#[114, 111, 119]⟩
theorem exF_txt : exF.txt = [114, 111, 119, 58, 32, 97, 116, 32, 51, 58, 32, 108, 121, 99, 101, 117, 109, 58, 32, 101, 114, 114, 111, 114, 32, 49, 48] := by
  have h1 : Lib.itoa 3 = [51] := by
    rw [show (3 : Int) = ((3 : Nat) : Int) from rfl, Lib.itoa_nonneg]
    simp [Lib.decDigits]
  have h2 : digL 10 = [49, 48] := by
    rw [digL_great (by decide), digL_small (by decide)]
    rfl
  simp only [exF, Ft.txt, errL, h1]
  rw [show (10 : Int).natAbs = 10 from rfl, h2]
  rfl
set_option maxRecDepth 100000 in
set_option maxHeartbeats 1000000 in
theorem awake_any (w : World) (hT : Tab10 w) : Calls Tryd.prog 5 #[] w fun e w' => e = .returned (.bool true) ∧ Below w.heap.size w w' := by
  have HX := Lib.hid exF_txt
  go_enter Tryd.func5, Tryd.ntmps5
  go_wp2_with fail
  refine (faultNew_any 10 w (by decide)).mono ?_
  rintro e w1 ⟨rfl, rfl⟩
  go_wp2_with fail
  refine (at_some 34 (.int .i64 10) 3 w).mono ?_
  rintro e w2 ⟨rfl, hB2, hb2⟩
  go_wp2_with fail
  refine (in_some 57 (.pointer (some ⟨w.heap.size, 0, none⟩)) ⟨#[114, 111, 119]⟩ w2).mono ?_
  rintro e w3 ⟨rfl, hB3, hb3⟩
  have hb4 := hb2.trans (hb3.mono hb2.size)
  have hF : FtAt w3 exF (.iface 63 (.pointer (some ⟨w2.heap.size, 0, none⟩))) := by
    unfold exF FtAt
    refine ⟨_, _, rfl, hB3, ?_⟩
    unfold FtAt
    refine ⟨_, _, rfl, hB2.below hb3 hB2.lt, ⟨by omega, by omega⟩, ?_⟩
    unfold FtAt
    exact ⟨rfl, by omega, by omega⟩
  go_wp2_with fail
  refine (text_any 3 exF _ w3 (by simp [exF, Ft.size]) hF (tab10_below hT hb4) (by rw [HX.out]; simp)).mono ?_
  rintro e w5 ⟨rfl, hb5⟩
  rw [HX.out]
  go_wp2_with fail
  go_ret
  exact ⟨rfl, hb4.trans (hb5.mono hb4.size)⟩
set_option maxRecDepth 100000 in
set_option maxHeartbeats 2000000 in
theorem faultNone_walk (n : Int) (s : ByteArray) (c : Int) (w : World) (hs : s.size ≤ maxLen) (hc : -9223372036854775808 ≤ c ∧ c ≤ 9223372036854775807) (hg : ErrT w) (hT : Tab10 w) :
    Calls Tryd.prog 4 #[.int .i64 n, .string s, .int .i64 c] w fun e w' => e = .returned (.bool true) ∧ Below w.heap.size w w' := by
  unfold maxLen at hs
  go_enter Tryd.func4, Tryd.ntmps4
  go_wp2_with fail
  refine (awake_any w hT).mono ?_
  rintro e w1 ⟨rfl, hb1⟩
  go_upto_if 15 with fail
  go_cut [1] from 12 to 78 (fun s1 wx => ∃ s' : ByteArray, s1 = .string s' ∧ wx = w1)
  case first =>
    by_cases h20 : (20 : Int) < (s.size : Int)
    · have hd : decide ((20 : Int) < (s.size : Int)) = true := decide_eq_true h20
      go_wp2_with fail
      go_meet
      exact ⟨_, rfl, rfl⟩
    · have hd : decide ((20 : Int) < (s.size : Int)) = false := decide_eq_false h20
      go_wp2_with fail
      go_meet
      exact ⟨s, rfl, rfl⟩
  case rest =>
  obtain ⟨s', rfl, rfl⟩ := hcut
  go_wp2_with fail
  refine (new_ok _).mono ?_
  rintro e w2 ⟨rfl, rfl⟩
  go_wp2_with fail
  have hJ := Blk.new wc 29 #[.nilIface, .nilIface]
  refine (join_none wc.heap.size _ (hJ.cell 0) (hJ.cell 1)).mono ?_
  rintro e w3 ⟨rfl, rfl⟩
  go_wp2_with fail
  refine (at_nil n _).mono ?_
  rintro e w4 ⟨rfl, rfl⟩
  go_wp2_with fail
  refine (in_nil s' _).mono ?_
  rintro e w5 ⟨rfl, rfl⟩
  go_wp2_with fail
  refine (place_nil _).mono ?_
  rintro e w6 ⟨rfl, rfl⟩
  have hb2 := hb1.alloc hb1.size (.cells #[.nilIface, .nilIface] 29)
  clear hJ
  by_cases h0 : c = 0
  · subst h0
    go_wp2_with fail
    refine (new_ok _).mono ?_
    rintro e w7 ⟨rfl, rfl⟩
    go_wp2_with fail
    refine (code_nil _).mono ?_
    rintro e w8 ⟨rfl, hb8⟩
    have hb9 := hb2.trans (hb8.mono hb2.size)
    go_wp2_with fail
    refine (text_nil _).mono ?_
    rintro e w10 ⟨rfl, hb10⟩
    have hb11 := hb9.trans (hb10.mono hb9.size)
    go_wp2_with fail
    refine (path_nil _).mono ?_
    rintro e w12 ⟨rfl, rfl⟩
    go_wp2_with fail
    refine (is_nil 0 _).mono ?_
    rintro e w13 ⟨rfl, rfl⟩
    go_wp2_with fail
    refine (code_nil _).mono ?_
    rintro e w14 ⟨rfl, hb14⟩
    have hb15 := hb11.trans (hb14.mono hb11.size)
    go_wp2_with fail
    refine (is_nil 0 _).mono ?_
    rintro e w16 ⟨rfl, rfl⟩
    go_wp2_with fail
    refine (text_nil _).mono ?_
    rintro e w17 ⟨rfl, hb17⟩
    have hb18 := hb15.trans (hb17.mono hb15.size)
    go_wp2_with fail
    go_ret
    exact ⟨rfl, hb18⟩
  · have hc0 : (c == 0) = false := by simpa using h0
    have hel := errL_len c hc
    go_wp2_with fail
    refine (faultNew_any c _ h0).mono ?_
    rintro e w7 ⟨rfl, rfl⟩
    go_wp2_with fail
    refine (code_nil _).mono ?_
    rintro e w8 ⟨rfl, hb8⟩
    have hb9 := hb2.trans (hb8.mono hb2.size)
    go_wp2_with fail
    refine (text_nil _).mono ?_
    rintro e w10 ⟨rfl, hb10⟩
    have hb11 := hb9.trans (hb10.mono hb9.size)
    go_wp2_with fail
    refine (path_nil _).mono ?_
    rintro e w12 ⟨rfl, rfl⟩
    go_wp2_with fail
    refine (is_nil c _).mono ?_
    rintro e w13 ⟨rfl, rfl⟩
    rw [hc0]
    go_wp2_with fail
    refine (code_hit c _ (hg.below hb11)).mono ?_
    rintro e w14 ⟨rfl, hb14⟩
    have hb15 := hb11.trans (hb14.mono hb11.size)
    go_wp2_with fail
    refine (is_hit c _).mono ?_
    rintro e w16 ⟨rfl, rfl⟩
    go_wp2_with fail
    refine (text_any 1 (.code c) _ w14 (by simp [Ft.size]) (by unfold FtAt; exact ⟨rfl, hc⟩) (tab10_below hT hb15) (by simp only [Ft.txt]; omega)).mono ?_
    rintro e w17 ⟨rfl, hb17⟩
    have hb18 := hb15.trans (hb17.mono hb15.size)
    have hne : (Ft.code c).txt ≠ [] := by
      simp only [Ft.txt]
      intro h
      rw [h] at hel
      simp at hel
    generalize (Ft.code c).txt = L at hne ⊢
    have hq : (⟨L.toArray⟩ : ByteArray).toList.isEmpty = false := by
      rw [Go.ByteArray.toList_eq]
      simpa using hne
    go_wp2_with fail
    go_ret
    exact ⟨by simpa using hne, hb18⟩
end Go.Proofs.YtcmepnninlocmaaDoor
