/- (api.Errno).Error, walked: a number's digits behind a fixed text. -/
import Derived.Test.YtcmepnninlocmaaDoorBytesL
import Derived.Deep.Cut
import Derived.Deep.CutRange
namespace Go.Proofs.YtcmepnninlocmaaDoor
open Go.RowKit
/-- A number's digits. -/
def digL (n : Nat) : List UInt8 := if _h : n < 10 then [UInt8.ofNat (48 + n)] else digL (n / 10) ++ [UInt8.ofNat (48 + n % 10)]
  termination_by n
  decreasing_by omega
theorem digL_small {n : Nat} (h : n < 10) : digL n = [UInt8.ofNat (48 + n)] := by rw [digL, dif_pos h]
theorem digL_great {n : Nat} (h : ¬ n < 10) : digL n = digL (n / 10) ++ [UInt8.ofNat (48 + n % 10)] := by rw [digL, dif_neg h]
/-- What stands ahead of a number's last digit. -/
def digH (n : Nat) : List UInt8 := if n < 10 then [] else digL (n / 10)
theorem digL_split (n : Nat) : digL n = digH n ++ [UInt8.ofNat (48 + n % 10)] := by
  unfold digH
  by_cases h : n < 10
  · rw [if_pos h, digL_small h, Nat.mod_eq_of_lt h]; rfl
  · rw [if_neg h, digL_great h]
theorem digL_len : ∀ (k n : Nat), n < 10 ^ k → 0 < k → (digL n).length ≤ k
  | 0, n, h, h0 => by omega
  | k + 1, n, h, _ => by
    by_cases hn : n < 10
    · rw [digL_small hn]; simp
    · have hk : 0 < k := by
        rcases Nat.eq_zero_or_pos k with rfl | hk
        · simp at h; omega
        · exact hk
      rw [digL_great hn, List.length_append]
      have := digL_len k (n / 10) (by rw [Nat.pow_succ] at h; omega) hk
      simp
      omega
/-- An error's text. -/
def errHead : List UInt8 := [108, 121, 99, 101, 117, 109, 58, 32, 101, 114, 114, 111, 114, 32]
def errL (c : Int) : List UInt8 := errHead ++ (if c < 0 then [45] else []) ++ digL c.natAbs
theorem errL_len (c : Int) (h : -9223372036854775808 ≤ c ∧ c ≤ 9223372036854775807) : 15 ≤ (errL c).length ∧ (errL c).length ≤ 40 := by
  unfold errL
  rw [List.length_append, List.length_append]
  have h1 := digL_len 20 c.natAbs (by omega) (by omega)
  have h2 : errHead.length = 14 := rfl
  have h3 : 0 < (digL c.natAbs).length := by rw [digL_split]; simp
  have h4 : (if c < 0 then [(45 : UInt8)] else []).length ≤ 1 := by split <;> simp
  omega
theorem dig_byte (n : Nat) : UInt8.ofNat (IntKind.u8.wrap ((48 : Int) + ((n : Int) % 10))).toNat = UInt8.ofNat (48 + n % 10) := by
  rw [IntKind.wrap_u8]
  congr 1
  omega
theorem byte_dig (n : Nat) : UInt8.ofNat ((48 : Int) + (n : Int) % 10).toNat = UInt8.ofNat (48 + n % 10) := by
  congr 1
theorem str_cons48 (x : Nat) (acc : List UInt8) : Value.string (⟨#[48 + UInt8.ofNat x]⟩ ++ ⟨acc.toArray⟩) = .string ⟨(UInt8.ofNat (48 + x) :: acc).toArray⟩ := by
  have e : (48 : UInt8) + UInt8.ofNat x = UInt8.ofNat (48 + x) := by
    apply UInt8.toNat_inj.1
    simp
  rw [e, show (⟨#[UInt8.ofNat (48 + x)]⟩ : ByteArray) = ⟨[UInt8.ofNat (48 + x)].toArray⟩ from rfl, ba_append]
  rfl
theorem dig_step {k : Nat} {acc l : List UInt8} (h : digH k ++ acc = l) (hk : ¬ k < 10) : digH (k / 10) ++ (UInt8.ofNat (48 + k / 10 % 10) :: acc) = l := by
  rw [← h]
  have e : digH k = digH (k / 10) ++ [UInt8.ofNat (48 + k / 10 % 10)] := by
    rw [← digL_split]
    unfold digH
    rw [if_neg hk]
  rw [e, List.append_assoc]
  rfl
set_option maxRecDepth 100000 in
set_option maxHeartbeats 1000000 in
theorem errno_any (c : Int) (w : World) (h0 : -9223372036854775808 ≤ c) (h1 : c ≤ 9223372036854775807) :
    Calls Tryd.prog 70 #[.int .i64 c] w fun e w' => e = .returned (.string ⟨(errL c).toArray⟩) ∧ Below w.heap.size w w' := by
  have kc := one_byte (P := Tryd.prog) 54 9 5 Tryd.underlying54 Tryd.underlying5 Tryd.underlying9
  by_cases hn : c < 0
  · obtain ⟨m, hm⟩ : ∃ m : Nat, m = c.natAbs := ⟨_, rfl⟩
    have hw : IntKind.u64.wrap (-IntKind.u64.wrap c) = (m : Int) := by
      rw [IntKind.wrap_u64, IntKind.wrap_u64]
      omega
    have hmx : (m : Int) ≤ 9223372036854775808 := by omega
    have hcl := digL_len 20 m (by omega) (by omega)
    have hel : errL c = errHead ++ [45] ++ digL m := by
      show errHead ++ (if c < 0 then [45] else []) ++ digL c.natAbs = _
      rw [if_pos hn, ← hm]
    have HE := Lib.hid hel
    clear hel hm
    go_enter Tryd.func70, Tryd.ntmps70
    go_wp2
    go_loopw [3, 5] (fun u s wr => ∃ (k : Nat) (acc : List UInt8), (k : Int) ≤ 9223372036854775808 ∧ u = .int .u64 k ∧ s = .string ⟨acc.toArray⟩ ∧ digH k ++ acc = digL m ∧ Below w.heap.size w wr) (fun u _ _ => (intOf u).toNat)
    case atStart => exact ⟨m, [UInt8.ofNat (48 + m % 10)], hmx, by first | rfl | rw [hw], by rw [← byte_dig], (digL_split _).symm, (Below.refl _ _).alloc (Nat.le_refl _) _⟩
    case round =>
      obtain ⟨k, acc, hk, rfl, rfl, hv, hb⟩ := hrel
      have HV := Lib.hid hv
      clear hv hw
      have hl : acc.length ≤ 20 := by have := congrArg List.length HV.out; simp at *; omega
      by_cases hlt : k < 10
      · go_wp2
        go_ret
        exact ⟨ret_str_of (by
          have h := HV.out
          unfold digH at h
          rw [if_pos hlt] at h
          rw [HE.out, ← h, ← ba_append, ← ba_append]
          rfl), hb⟩
      · go_wp2
        go_roundw
        case rel => exact ⟨k / 10, UInt8.ofNat (48 + k / 10 % 10) :: acc, by omega, by go_num, str_cons48 _ _, dig_step HV.out hlt, hb.alloc hb.size _⟩
        case measure => simp [intOf]; omega
  · obtain ⟨m, rfl⟩ := Int.eq_ofNat_of_zero_le (show 0 ≤ c by omega)
    have hcl := digL_len 20 m (by omega) (by omega)
    have hel : errL (m : Nat) = errHead ++ [] ++ digL m := by
      show errHead ++ (if ((m : Nat) : Int) < 0 then [45] else []) ++ digL ((m : Nat) : Int).natAbs = _
      rw [if_neg hn, Int.natAbs_natCast]
    have HE := Lib.hid hel
    clear hel hn
    go_enter Tryd.func70, Tryd.ntmps70
    go_wp2
    go_loopw [3, 5] (fun u s wr => ∃ (k : Nat) (acc : List UInt8), (k : Int) ≤ 9223372036854775808 ∧ u = .int .u64 k ∧ s = .string ⟨acc.toArray⟩ ∧ digH k ++ acc = digL m ∧ Below w.heap.size w wr) (fun u _ _ => (intOf u).toNat)
    case atStart => exact ⟨m, [UInt8.ofNat (48 + m % 10)], by omega, rfl, by rw [← byte_dig], (digL_split _).symm, (Below.refl _ _).alloc (Nat.le_refl _) _⟩
    case round =>
      obtain ⟨k, acc, hk, rfl, rfl, hv, hb⟩ := hrel
      have HV := Lib.hid hv
      clear hv
      have hl : acc.length ≤ 20 := by have := congrArg List.length HV.out; simp at *; omega
      by_cases hlt : k < 10
      · go_wp2
        go_ret
        exact ⟨ret_str_of (by
          have h := HV.out
          unfold digH at h
          rw [if_pos hlt] at h
          rw [HE.out, ← h, ← ba_append, ← ba_append]
          rfl), hb⟩
      · go_wp2
        go_roundw
        case rel => exact ⟨k / 10, UInt8.ofNat (48 + k / 10 % 10) :: acc, by omega, by go_num, str_cons48 _ _, dig_step HV.out hlt, hb.alloc hb.size _⟩
        case measure => simp [intOf]; omega
end Go.Proofs.YtcmepnninlocmaaDoor
