/- The document's numbers: one, Put: walked. -/
import Derived.Test.YtpjafocgabhieaaPutN
namespace Go.Proofs.Ytpjafocgabhieaa
open Go.RowKit Nums
set_option maxRecDepth 100000 in
set_option maxHeartbeats 400000 in
theorem one_any (n : Int) (w : World) (h0 : -9223372036854775808 ≤ n) (h1 : n ≤ 9223372036854775807) :
    Calls Try.prog 48 #[.int .i64 n] w fun e w' => e = .returned (.string ⟨(vb (zz n)).toArray⟩) ∧ Below w.heap.size w w' := by
  have kc := one_byte (P := Try.prog) 45 9 5 Try.underlying45 Try.underlying5 Try.underlying9
  have HZ := Lib.hid (zz_lt n h0 h1)
  by_cases hn : n < 0
  all_goals
    have e : ((zz n : Nat) : Int) = if n < 0 then 2 * -(n + 1) + 1 else 2 * n := by unfold zz; split <;> omega
    first
      | rw [if_pos hn] at e
      | rw [if_neg hn] at e
    have E := Lib.hid e
    clear e
    go_enter Try.func48, Try.ntmps48
    go_wp2
    go_loopw [3, 4] (fun u s wr => ∃ (k : Nat) (acc : List UInt8), (k : Int) ≤ 18446744073709551615 ∧ u = .int .u64 k ∧ s = .string ⟨acc.toArray⟩ ∧ acc ++ vb k = vb (zz n) ∧ Below w.heap.size w wr) (fun u _ _ => (intOf u).toNat)
    case atStart => exact ⟨zz n, [], by have := HZ.out; omega, by rw [E.out], rfl, rfl, Below.refl _ _⟩
    case round =>
      obtain ⟨k, acc, hk, rfl, rfl, hv, hb⟩ := hrel
      have HV := Lib.hid hv
      clear hv
      have hl : acc.length ≤ 10 := by have := congrArg List.length HV.out; have := vb_zz_len n h0 h1; simp at *; omega
      by_cases hlt : k < 128
      · go_wp2
        go_ret
        exact ⟨congrArg _ (str_snoc _ _ _ (by rw [← HV.out, vb_small hlt])), hb.alloc hb.size _⟩
      · go_wp2
        go_roundw
        case rel => exact ⟨k / 128, acc ++ [UInt8.ofNat (k % 128 + 128)], by omega, by go_num, str_snoc _ _ _ (by simp), by rw [← HV.out, vb_great hlt]; simp, hb.alloc hb.size _⟩
        case measure => simp [intOf]; omega

set_option maxRecDepth 100000 in
set_option maxHeartbeats 400000 in
theorem refPut_any (A : Option Addr) (n c : Nat) (xs : List Int) (w : World) (hn : xs.length = n) (hA : Ints w A xs) (hx : Fit xs) (hlen : n ≤ 1000000) :
    Calls Try.prog 21 #[.slice A n c] w fun e w' => e = .returned (.string ⟨(putL xs).toArray⟩) ∧ Below w.heap.size w w' := by
  subst hn
  go_enter Try.func21, Try.ntmps21
  go_wp2
  go_loopw [3, 4] (fun v i wr => ∃ k : Nat, k ≤ xs.length ∧ i = .int .i64 k ∧ v = .string ⟨(putL (xs.take k)).toArray⟩ ∧ Below w.heap.size w wr) (fun _ i _ => xs.length - (intOf i).toNat)
  case atStart => exact ⟨0, Nat.zero_le _, rfl, rfl, Below.refl _ _⟩
  case round =>
    obtain ⟨k, hk, rfl, rfl, hb⟩ := hrel
    by_cases hlt : k < xs.length
    · obtain ⟨ad, rfl, hc⟩ := (hA.below hb).at_ hlt
      obtain ⟨x, hxk⟩ : ∃ x, x = xs.getD k 0 := ⟨_, rfl⟩
      have hX : x ∈ xs := by rw [hxk]; simp [hlt, List.getD]
      obtain ⟨h0, h1⟩ := hx x hX
      have hlz := vb_zz_len x h0 h1
      have hstep := putL_step xs k hlt
      obtain ⟨L, hL⟩ : ∃ L, L = putL (xs.take k) := ⟨_, rfl⟩
      have hlL : L.length ≤ 10000000 := by
        have h := putL_len (xs.take k) fun n hn => hx n (List.mem_of_mem_take hn)
        rw [hL]
        simp only [List.length_take] at h
        omega
      rw [← hL, ← hxk] at hstep
      rw [← hxk] at hc
      rw [← hL]
      have HS := Lib.hid hstep
      clear hxk hX hA hstep hL
      go_wp2_with (go_at_call 48; refine (one_any _ _ h0 h1).mono ?_; rintro e w1 ⟨rfl, hb1⟩)
      go_roundw
      case rel => exact ⟨k + 1, by omega, by go_num, by rw [HS.out, ba_append], hb.trans (hb1.mono hb.size)⟩
      case measure => simp [intOf]; omega
    · go_wp2
      go_ret
      exact ⟨ret_string (by rw [List.take_of_length_le (by omega)]), hb⟩
end Go.Proofs.Ytpjafocgabhieaa
