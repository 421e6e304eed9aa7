/- nums.Put, walked (PutW without PutText): what they tell is the plain bytes of XNumsP, for any numbers. -/
import Derived.Test.YtpjafocgabhieaaBytesL
import Derived.Test.YtpjafocgabhieaaNumsP
namespace Go.Proofs.Ytpjafocgabhieaa
open Go.RowKit Nums

theorem xor_ones64 (a : Nat) (h : a < 18446744073709551616) : a ^^^ 18446744073709551615 = 18446744073709551615 - a := by
  have e : BitVec.ofNat 64 a ^^^ BitVec.allOnes 64 = ~~~ (BitVec.ofNat 64 a) := BitVec.xor_allOnes
  have := congrArg BitVec.toNat e
  rw [BitVec.toNat_xor, BitVec.toNat_not, BitVec.toNat_allOnes, BitVec.toNat_ofNat, Nat.mod_eq_of_lt (by omega)] at this
  exact this

/-- What the program folds is the fold. -/
theorem zig (x : Int) (h0 : -9223372036854775808 ≤ x) (h1 : x ≤ 9223372036854775807) :
    bits .xor .u64 (IntKind.u64.wrap (IntKind.u64.wrap x * 2)) (IntKind.u64.wrap (x / 9223372036854775808)) = (zz x : Nat) := by
  by_cases hx : 0 ≤ x
  · have e1 : IntKind.u64.wrap (IntKind.u64.wrap x * 2) = ((2 * x.toNat : Nat) : Int) := by simp only [IntKind.wrap_u64]; omega
    have e2 : IntKind.u64.wrap (x / 9223372036854775808) = ((0 : Nat) : Int) := by simp only [IntKind.wrap_u64]; omega
    rw [e1, e2, u64_xor_nat _ _ (by omega) (by omega), Nat.xor_zero]
    unfold zz; rw [if_pos hx]; omega
  · have e1 : IntKind.u64.wrap (IntKind.u64.wrap x * 2) = (((2 * x + 18446744073709551616).toNat : Nat) : Int) := by simp only [IntKind.wrap_u64]; omega
    have e2 : IntKind.u64.wrap (x / 9223372036854775808) = ((18446744073709551615 : Nat) : Int) := by simp only [IntKind.wrap_u64]; omega
    rw [e1, e2, u64_xor_nat _ _ (by omega) (by omega), xor_ones64 _ (by omega)]
    unfold zz; rw [if_neg hx]; omega

theorem more_bit (m : Nat) : bits .or .u8 ((m : Int) % 256) 128 = ((UInt8.ofNat (m % 128 + 128)).toNat : Int) := by
  have h := u8_or_nat (m % 256) 128 (by omega) (by omega)
  rw [show ((128 : Nat) : Int) = 128 from rfl, show ((m % 256 : Nat) : Int) = (m : Int) % 256 from by omega] at h
  rw [h]
  have e : (UInt8.ofNat (m % 128 + 128)).toNat = m % 128 + 128 := by simp; omega
  rw [e]
  have hd : ∀ x : Fin 256, x.val ||| 128 = x.val % 128 + 128 := by decide +kernel
  have := hd ⟨m % 256, by omega⟩
  simp only at this
  rw [this]
  omega

theorem own_snoc {w : World} {base : Nat} {e : TypeId} {v : Value} {acc : List UInt8} {z : Int} (b : UInt8) (h : w.ownsRow base e 1 v (acc.length + 1) (acc.map bv ++ [.int .u8 z])) (hz : z = (b.toNat : Int)) :
    w.ownsRow base e 1 v (acc ++ [b]).length ((acc ++ [b]).map bv) := by
  subst hz
  simpa [bv] using h

theorem putL_step (xs : List Int) (k : Nat) (hk : k < xs.length) : putL (xs.take (k + 1)) = putL (xs.take k) ++ vb (zz (xs.getD k 0)) := by
  rw [List.take_succ_eq_append_getElem hk, putL_append, putL_one]
  simp [List.getD, hk]

theorem Try.info5 : (Try.prog.info? 5).map (fun i => (i.zero, i.size, i.bytes)) = some (some (.int .u8 0), 1, 1) := by kernel_rfl

set_option maxRecDepth 100000 in
set_option maxHeartbeats 400000 in
theorem put_any (A : Option Addr) (n c : Nat) (xs : List Int) (w : World) (hn : xs.length = n) (hA : Ints w A xs) (hx : Fit xs) (hlen : n ≤ 1000000) :
    Calls Try.prog 17 #[.slice A n c] w fun e w' => e = .returned (.string ⟨(putL xs).toArray⟩) ∧ Below w.heap.size w w' := by
  obtain ⟨i0, hi, hz0, hz1, hz2⟩ := info_parts Try.info5
  subst hn
  go_enter Try.func17, Try.ntmps17
  go_wp2
  go_loopw [3, 9] (fun v i wr => ∃ (k : Nat) (L : List UInt8), k ≤ xs.length ∧ i = .int .i64 k ∧ L = putL (xs.take k) ∧ wr.ownsRow w.heap.size 5 1 v L.length (L.map bv) ∧ Below w.heap.size w wr) (fun _ i _ => xs.length - (intOf i).toNat)
  case atStart => exact ⟨0, [], Nat.zero_le _, rfl, rfl, World.ownsRow_nil _ _ _ _, Below.refl _ _⟩
  case round =>
    obtain ⟨k, L, hk, rfl, hL, hown, hb⟩ := hrel
    have HL := Lib.hid hL
    clear hL
    by_cases hlt : k < xs.length
    · obtain ⟨ad, rfl, hc⟩ := (hA.below hb).at_ hlt
      obtain ⟨x, hxk⟩ : ∃ x, x = xs.getD k 0 := ⟨_, rfl⟩
      have hX : x ∈ xs := by rw [hxk]; simp [hlt, List.getD]
      obtain ⟨h0, h1⟩ := hx x hX
      have hz := zz_lt x h0 h1
      have hzig := zig x h0 h1
      have hlz := vb_zz_len x h0 h1
      have hlL : L.length ≤ 10000000 := by
        have h := putL_len (xs.take k) fun n hn => hx n (List.mem_of_mem_take hn)
        rw [HL.out]
        simp only [List.length_take] at h
        omega
      rw [← hxk] at hc
      have HX := Lib.hid hxk
      have HZ := Lib.hid hz
      have HG := Lib.hid hzig
      clear hxk hX hA hz h0 h1 hzig
      go_wp2
      obtain ⟨wo, rfl⟩ : ∃ wo : World, wo = wr := ⟨_, rfl⟩
      go_loopw [3, 6] (fun v u wr => ∃ (m : Nat) (acc : List UInt8), (m : Int) ≤ 18446744073709551615 ∧ u = .int .u64 m ∧ acc ++ vb m = L ++ vb (zz x) ∧ wr.ownsRow w.heap.size 5 1 v acc.length (acc.map bv) ∧ Below w.heap.size w wr) (fun _ u _ => (intOf u).toNat)
      case atStart => exact ⟨zz x, L, by have := HZ.out; omega, by rw [HG.out], rfl, hown, hb⟩
      case round =>
        clear hown hb
        obtain ⟨m, acc, hm, rfl, hv, hown, hb⟩ := hrel
        have HV := Lib.hid hv
        clear hv
        have hacc : acc.length ≤ 10000010 := by
          have h1 := congrArg List.length HV.out
          simp only [List.length_append] at h1
          omega
        have hbs := hb.size
        by_cases hlm : m < 128
        · go_wp2_with (at_builtin; refine wpList_append_own _ rfl _ _ 45 rfl w.heap.size 5 i0 (.int .u8 0) 1 1 Try.underlying45 hi hz0 hz1 hz2 rfl (by decide) _ _ _ rfl (hown.alloc _) ⟨wr.heap.size, 0, none⟩ 1 1 [_] rfl rfl (cell_one_new _ _ _) (fun u hu => by simp at hu; subst hu; rfl) (by unfold maxLen; omega) (by omega) (by simp; omega) ?_; intro v' w1 hown' hgrow _)
          have hb2 : Below w.heap.size w w1 := (hb.alloc hb.size _).grown hgrow (by simp; omega) (fun q hq => (hown.lt q hq).1)
          have hown2 := own_snoc (UInt8.ofNat m) hown' (by simp; omega)
          clear hown' hgrow hown hb
          go_wp2
          go_roundw
          case rel => exact ⟨k + 1, acc ++ [UInt8.ofNat m], by omega, by go_num, by rw [putL_step xs k hlt, ← HL.out, ← HX.out, ← HV.out, vb_small hlm], hown2, hb2⟩
          case measure => simp [intOf]; omega
        · go_wp2_with (at_builtin; refine wpList_append_own _ rfl _ _ 45 rfl w.heap.size 5 i0 (.int .u8 0) 1 1 Try.underlying45 hi hz0 hz1 hz2 rfl (by decide) _ _ _ rfl (hown.alloc _) ⟨wr.heap.size, 0, none⟩ 1 1 [_] rfl rfl (cell_one_new _ _ _) (fun u hu => by simp at hu; subst hu; rfl) (by unfold maxLen; omega) (by omega) (by simp; omega) ?_; intro v' w1 hown' hgrow _)
          have hb2 : Below w.heap.size w w1 := (hb.alloc hb.size _).grown hgrow (by simp; omega) (fun q hq => (hown.lt q hq).1)
          have hown2 := own_snoc (UInt8.ofNat (m % 128 + 128)) hown' (more_bit m)
          clear hown' hgrow hown hb
          go_wp2
          go_roundw
          case rel => exact ⟨m / 128, acc ++ [UInt8.ofNat (m % 128 + 128)], by omega, by go_num, by rw [← HV.out, vb_great hlm]; simp, hown2, hb2⟩
          case measure => simp [intOf]; omega
    · have hconv := conv_own (P := Try.prog) (src := 45) (dst := 9) Try.underlying45 Try.underlying5 Try.underlying9 hown
      go_wp2
      go_ret
      exact ⟨ret_string (by rw [HL.out, List.take_of_length_le (by omega)]), hb⟩
end Go.Proofs.Ytpjafocgabhieaa
