/- The document's numbers, sum and wrap, walked (where check.Wrap is not in reach). -/
import Derived.Test.YtfficdloekfpcaaOpenN
import Derived.Test.YtfficdloekfpcaaNumsP
import Derived.Deep.RegionHeld3
import Derived.Deep.Cut
namespace Go.Proofs.Ytfficdloekfpcaa
open Go.RowKit Nums Crc
theorem putL_step (xs : List Int) (k : Nat) (hk : k < xs.length) : putL (xs.take (k + 1)) = putL (xs.take k) ++ vb (zz (xs.getD k 0)) := by
  rw [List.take_succ_eq_append_getElem hk, putL_append, putL_one]
  simp [List.getD, hk]
set_option maxRecDepth 100000 in
set_option maxHeartbeats 400000 in
theorem one_any (n : Int) (w : World) (h0 : -9223372036854775808 ≤ n) (h1 : n ≤ 9223372036854775807) :
    Calls Try.prog 41 #[.int .i64 n] w fun e w' => e = .returned (.string ⟨(vb (zz n)).toArray⟩) ∧ Below w.heap.size w w' := by
  have kc := one_byte (P := Try.prog) 76 9 5 Try.underlying76 Try.underlying5 Try.underlying9
  have HZ := Lib.hid (zz_lt n h0 h1)
  by_cases hn : n < 0
  all_goals
    have e : ((zz n : Nat) : Int) = if n < 0 then 2 * -(n + 1) + 1 else 2 * n := by unfold zz; split <;> omega
    first
      | rw [if_pos hn] at e
      | rw [if_neg hn] at e
    have E := Lib.hid e
    clear e
    go_enter Try.func41, Try.ntmps41
    go_wp2
    go_loopw [3, 4] (fun u s wr => ∃ (k : Nat) (acc : List UInt8), (k : Int) ≤ 18446744073709551615 ∧ u = .int .u64 k ∧ s = .string ⟨acc.toArray⟩ ∧ acc ++ vb k = vb (zz n) ∧ Below w.heap.size w wr) (fun u _ _ => (intOf u).toNat)
    case atStart => exact ⟨zz n, [], by have := HZ.out; omega, by rw [E.out], rfl, rfl, Below.refl _ _⟩
    case round =>
      obtain ⟨k, acc, hk, rfl, rfl, hv, hb⟩ := hrel
      have HV := Lib.hid hv
      clear hv
      have hl : acc.length ≤ 10 := by have := congrArg List.length HV.out; have := vb_zz_len n h0 h1; simp at *; omega
      by_cases hlt : k < 128
      · go_wp2
        go_ret
        exact ⟨congrArg _ (str_snoc _ _ _ (by rw [← HV.out, vb_small hlt])), hb.alloc hb.size _⟩
      · go_wp2
        go_roundw
        case rel => exact ⟨k / 128, acc ++ [UInt8.ofNat (k % 128 + 128)], by omega, by go_num, str_snoc _ _ _ (by simp), by rw [← HV.out, vb_great hlt]; simp, hb.alloc hb.size _⟩
        case measure => simp [intOf]; omega

set_option maxRecDepth 100000 in
set_option maxHeartbeats 400000 in
theorem refPut_any (A : Option Addr) (n c : Nat) (xs : List Int) (w : World) (hn : xs.length = n) (hA : Ints w A xs) (hx : Fit xs) (hlen : n ≤ 1000000) :
    Calls Try.prog 31 #[.slice A n c] w fun e w' => e = .returned (.string ⟨(putL xs).toArray⟩) ∧ Below w.heap.size w w' := by
  subst hn
  go_enter Try.func31, Try.ntmps31
  go_wp2
  go_loopw [3, 4] (fun v i wr => ∃ k : Nat, k ≤ xs.length ∧ i = .int .i64 k ∧ v = .string ⟨(putL (xs.take k)).toArray⟩ ∧ Below w.heap.size w wr) (fun _ i _ => xs.length - (intOf i).toNat)
  case atStart => exact ⟨0, Nat.zero_le _, rfl, rfl, Below.refl _ _⟩
  case round =>
    obtain ⟨k, hk, rfl, rfl, hb⟩ := hrel
    by_cases hlt : k < xs.length
    · obtain ⟨ad, rfl, hc⟩ := (hA.below hb).at_ hlt
      obtain ⟨x, hxk⟩ : ∃ x, x = xs.getD k 0 := ⟨_, rfl⟩
      have hX : x ∈ xs := by rw [hxk]; simp [hlt, List.getD]
      obtain ⟨h0, h1⟩ := hx x hX
      have hlz := vb_zz_len x h0 h1
      have hstep := putL_step xs k hlt
      obtain ⟨L, hL⟩ : ∃ L, L = putL (xs.take k) := ⟨_, rfl⟩
      have hlL : L.length ≤ 10000000 := by
        have h := putL_len (xs.take k) fun n hn => hx n (List.mem_of_mem_take hn)
        rw [hL]
        simp only [List.length_take] at h
        omega
      rw [← hL, ← hxk] at hstep
      rw [← hxk] at hc
      rw [← hL]
      have HS := Lib.hid hstep
      clear hxk hX hA hstep hL
      go_wp2_with (go_at_call 41; refine (one_any _ _ h0 h1).mono ?_; rintro e w1 ⟨rfl, hb1⟩)
      go_roundw
      case rel => exact ⟨k + 1, by omega, by go_num, by rw [HS.out, ba_append], hb.trans (hb1.mono hb.size)⟩
      case measure => simp [intOf]; omega
    · go_wp2
      go_ret
      exact ⟨ret_string (by rw [List.take_of_length_le (by omega)]), hb⟩

set_option maxRecDepth 100000 in
set_option maxHeartbeats 400000 in
theorem refPutText_any (s : ByteArray) (w : World) (hs : s.size ≤ 1000000000000) :
    Calls Try.prog 32 #[.string s] w fun e w' => e = .returned (.string ⟨(vb (2 * s.size) ++ s.data.toList).toArray⟩) ∧ Below w.heap.size w w' := by
  have hz : zz (s.size : Int) = 2 * s.size := by unfold zz; split <;> omega
  have hl := vb_zz_len (s.size : Int) (by omega) (by omega)
  rw [hz] at hl
  have HZ := Lib.hid hz
  clear hz
  go_enter Try.func32, Try.ntmps32
  go_wp2_with (go_at_call 41; refine (one_any _ _ (by omega) (by omega)).mono ?_; rintro e w1 ⟨rfl, hb1⟩; rw [HZ.out])
  go_ret
  exact ⟨ret_str_of (by rw [← ba_append, ba_of]), hb1⟩
theorem sum_conv (s : Nat) (w : World) (h : s < 4294967296) : (convert 76 9 (.slice (some ⟨w.heap.size, 0, none⟩) 4 4)).run Try.prog (w.alloc (.cells #[.int .u8 ((s : Int) % 256), .int .u8 ((s : Int) / 256 % 256), .int .u8 ((s : Int) / 65536 % 256), .int .u8 ((s : Int) / 16777216)] 5)) = .ok (.string (sumB s)) (w.alloc (.cells #[.int .u8 ((s : Int) % 256), .int .u8 ((s : Int) / 256 % 256), .int .u8 ((s : Int) / 65536 % 256), .int .u8 ((s : Int) / 16777216)] 5)) := by
    have h2 := run_convert_bytes_arg (P := Try.prog) (w.alloc (.cells #[.int .u8 ((s : Int) % 256), .int .u8 ((s : Int) / 256 % 256), .int .u8 ((s : Int) / 65536 % 256), .int .u8 ((s : Int) / 16777216)] 5)) 76 5 Try.underlying76 Try.underlying5 w.heap.size 0 4 4 [(s : Int) % 256, (s : Int) / 256 % 256, (s : Int) / 65536 % 256, (s : Int) / 16777216] rfl (fun i hi => by
      rw [World.cell?_alloc_mark]
      rcases (show i = 0 ∨ i = 1 ∨ i = 2 ∨ i = 3 by omega) with rfl | rfl | rfl | rfl <;> rfl) 9 Try.underlying9
    rw [h2]
    unfold sumB
    rw [bytes4 s, show (s : Int) / 16777216 % 256 = (s : Int) / 16777216 by omega]
    rfl
set_option maxRecDepth 100000 in
set_option maxHeartbeats 1000000 in
theorem refSum_any (s : ByteArray) (w : World) (hsz : s.size ≤ maxLen) : Calls Try.prog 42 #[.string s] w fun e w' => e = .returned (.int .u32 (crc s.data.toList : Int)) ∧ w = w' := by
  unfold maxLen at hsz
  go_enter Try.func42, Try.ntmps42
  go_wp2
  go_loop [3, 4, 5, 6] (fun r i _ _ => ∃ k x : Nat, k ≤ s.size ∧ x = run ones (s.data.toList.take k) ∧ i = .int .i64 k ∧ r = .int .u32 x) (fun _ i _ _ => s.size - (intOf i).toNat)
  case atStart => exact ⟨0, ones, by omega, rfl, rfl, rfl⟩
  case round =>
    obtain ⟨k, x, hk, hx, rfl, rfl⟩ := hrel
    have hx32 : x < 4294967296 := by rw [hx]; exact run_lt _ _ ones_lt
    have HX := Lib.hid hx
    clear hx
    by_cases hlt : k < s.size
    · obtain ⟨y, hy⟩ : ∃ y, y = x ^^^ (s[k]'hlt).toNat := ⟨_, rfl⟩
      have hc256 : (s[k]'hlt).toNat < 256 := UInt8.toNat_lt _
      have hy32 : y < 4294967296 := by rw [hy]; exact Nat.xor_lt_two_pow (n := 32) hx32 (by omega)
      have hxb : bits .xor .u32 (x : Int) ((s[k]'hlt).toNat : Int) = (y : Int) := by
        rw [hy]
        exact u32_xor_nat x (s[k]'hlt).toNat hx32 (by omega)
      have HY := Lib.hid hy
      clear hy
      go_wp2
      go_loop [3, 5, 6] (fun r j _ => ∃ n q : Nat, n ≤ 8 ∧ q = stepN n y ∧ j = .int .i64 n ∧ r = .int .u32 q) (fun _ j _ => 8 - (intOf j).toNat)
      case atStart => exact ⟨0, y, by omega, rfl, rfl, by first | rfl | rw [hxb]⟩
      case round =>
        obtain ⟨n, q, hn, hq, rfl, rfl⟩ := hrel
        have hlr : q < 4294967296 := by rw [hq]; exact stepN_lt n y hy32
        have hst : stepN (n + 1) y = Crc.step q := by rw [hq]; rfl
        have hlow := low_bit q hlr
        have htur := turned q hlr
        have HQ := Lib.hid hq
        have HS := Lib.hid hst
        have HU := Lib.hid htur
        clear hq hst htur
        by_cases hln : n < 8
        · by_cases hodd : q % 2 = 1
          · have ho : (bits .and .u32 (q : Int) 1 == 1) = true := by rw [hlow]; simp [hodd]
            clear hlow
            go_wp2
            go_round
            case rel => exact ⟨n + 1, q / 2 ^^^ poly, by omega, by rw [HS.out, step_odd hodd], by go_num, by rw [HU.out]⟩
            case measure => simp [intOf]; omega
          · have ho : (bits .and .u32 (q : Int) 1 == 1) = false := by rw [hlow]; simp; omega
            clear hlow
            go_wp2
            go_round
            case rel => exact ⟨n + 1, q / 2, by omega, by rw [HS.out, step_no hodd], by go_num, by go_num⟩
            case measure => simp [intOf]; omega
        · clear hlow
          go_wp2
          go_round
          case rel =>
            obtain rfl : n = 8 := by omega
            exact ⟨k + 1, q, by omega, by rw [take_snoc_b s k hlt, run_snoc, ← HX.out, HQ.out, HY.out]; rfl, by go_num, rfl⟩
          case measure => simp [intOf]; omega
    · have hmq : bits .xor .u32 (x : Int) 4294967295 = ((x ^^^ ones : Nat) : Int) := u32_xor_nat x 4294967295 hx32 (by omega)
      go_wp2
      go_ret
      exact ⟨by rw [HX.out, List.take_of_length_le (show s.data.toList.length ≤ k by have : s.data.toList.length = s.size := rfl; omega)]; rfl, rfl⟩
def wrapP (s : ByteArray) : ByteArray × Int := if 4096 < s.size then (ByteArray.empty, 16) else (s ++ sumB (crc s.data.toList), 0)
set_option maxRecDepth 100000 in
set_option maxHeartbeats 1000000 in
theorem refWrap_any (s : ByteArray) (w : World) (hsz : s.size ≤ maxLen) : Calls Try.prog 34 #[.string s] w fun e w' => e = .returned (.agg #[.string (wrapP s).1, .int .i64 (wrapP s).2]) ∧ Below w.heap.size w w' := by
  by_cases h : 4096 < s.size
  · have hp : wrapP s = (ByteArray.empty, 16) := if_pos h
    rw [hp]
    clear hp
    go_enter Try.func34, Try.ntmps34
    go_wp2
    refine bodyPost_ret (v := .agg #[.string ByteArray.empty, .int .i64 16]) ?_ rfl ⟨rfl, ?_⟩
    · simp [results, Try.results34, go_sem]
      rfl
    · exact (Below.refl _ _).alloc (Nat.le_refl _) _
  · have hp : wrapP s = (s ++ sumB (crc s.data.toList), 0) := if_neg h
    rw [hp]
    clear hp
    have h4 : ∀ n, (sumB n).size = 4 := fun n => rfl
    have hcl := crc_lt s.data.toList
    have hrs := refSum_any s (w.alloc (.cells #[.string ByteArray.empty, .int .i64 0] 70)) hsz
    generalize crc s.data.toList = n at hcl hrs ⊢
    have hsn := h4 n
    have hconv : (convert 76 9 (.slice (some ⟨(w.alloc (.cells #[.string ByteArray.empty, .int .i64 0] 70)).heap.size, 0, none⟩) 4 4)).run Try.prog ((w.alloc (.cells #[.string ByteArray.empty, .int .i64 0] 70)).alloc (.cells #[.int .u8 ((n : Int) % 256), .int .u8 ((n : Int) / 256 % 256), .int .u8 ((n : Int) / 65536 % 256), .int .u8 ((n : Int) / 16777216)] 5)) = .ok (.string (sumB n)) ((w.alloc (.cells #[.string ByteArray.empty, .int .i64 0] 70)).alloc (.cells #[.int .u8 ((n : Int) % 256), .int .u8 ((n : Int) / 256 % 256), .int .u8 ((n : Int) / 65536 % 256), .int .u8 ((n : Int) / 16777216)] 5)) := sum_conv n _ hcl
    rw [World.size_alloc] at hconv
    clear h4
    go_enter Try.func34, Try.ntmps34
    go_wp2_with fail
    refine hrs.mono ?_
    rintro e w1 ⟨rfl, rfl⟩
    go_wp2_with fail
    refine bodyPost_ret (v := .agg #[.string (s ++ sumB n), .int .i64 0]) ?_ rfl ⟨rfl, ?_⟩
    · simp [results, Try.results34, go_sem]
    · exact ((Below.refl _ _).alloc (Nat.le_refl _) _).alloc (by simp) _
end Go.Proofs.Ytfficdloekfpcaa
