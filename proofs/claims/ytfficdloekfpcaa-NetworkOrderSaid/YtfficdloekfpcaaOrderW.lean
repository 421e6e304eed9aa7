/- NetworkOrder, walked. (Types and functions by this seat's numbers.) -/
import Derived.Test.YtfficdloekfpcaaTakeW
import Derived.Test.YtfficdloekfpcaaOutW
import Derived.Deep.RegionHeld3
import Derived.BigQuiet
import Derived.Deep.QuietTactic
namespace Go.Proofs.Ytfficdloekfpcaa
open Go.RowKit Go.Maps
/-- The packet numbered i. -/
def pkOf (i : Nat) : Int × Int × ByteArray := (1, 2, (⟨#[97, 98, 99, 100, 101, 102, 103, 104, 105, 106, 107, 108]⟩ : ByteArray).extract i (i + 1))
/-- The first k packets. -/
def pksUpto (k : Nat) : List (Int × Int × ByteArray) := (List.range k).map pkOf
theorem pks_succ (k : Nat) : pksUpto (k + 1) = pksUpto k ++ [pkOf k] := by simp [pksUpto, List.range_succ]
/-- How many go from 1 to 2. -/
def onWay (k : Nat) : Int → Int → Int := fun a c => if a = 1 ∧ c = 2 then (k : Int) else 0
theorem onWay_zero : onWay 0 = fun _ _ => 0 := by funext a c; unfold onWay; split <;> rfl
theorem onWay_at (k : Nat) : onWay k 1 2 = k := by simp [onWay]
theorem onWay_put (k j : Nat) : setF (onWay k) 1 2 (j : Int) = onWay j := by
  funext a c
  unfold setF onWay
  split <;> rfl
theorem pks_len (k : Nat) : (pksUpto k).length = k := by simp [pksUpto]
/-- The numbers from i on below m, but for j. -/
def remN (m j i : Nat) : List Nat := (List.range' i (m - i)).filter fun x => decide (x ≠ j)
theorem rem_end (m j : Nat) : remN m j m = [] := by simp [remN]
theorem rem_step {m j i : Nat} (h : i < m) : remN m j i = if i = j then remN m j (i + 1) else i :: remN m j (i + 1) := by
  unfold remN
  rw [show m - i = (m - (i + 1)) + 1 from by omega, List.range'_succ, List.filter_cons]
  by_cases hij : i = j <;> simp [hij]
theorem erase_range' : ∀ (n s j : Nat), (List.range' s n).eraseIdx j = (List.range' s n).filter fun x => decide (x ≠ s + j)
  | 0, s, j => by simp
  | n + 1, s, 0 => by
    rw [List.range'_succ, List.eraseIdx_cons_zero, List.filter_cons]
    simp only [Nat.add_zero, ne_eq, not_true_eq_false, decide_false, Bool.false_eq_true, if_false]
    symm
    rw [List.filter_eq_self]
    intro x hx
    have := List.mem_range'_1.1 hx
    simp
    omega
  | n + 1, s, j + 1 => by
    rw [List.range'_succ, List.eraseIdx_cons_succ, List.filter_cons, erase_range' n (s + 1) j, show s + 1 + j = s + (j + 1) from by omega]
    simp
theorem map_erase {α β : Type} (f : α → β) : ∀ (l : List α) (j : Nat), (l.map f).eraseIdx j = (l.eraseIdx j).map f
  | [], _ => rfl
  | _ :: _, 0 => rfl
  | a :: l, j + 1 => by
    rw [List.map_cons, List.eraseIdx_cons_succ, List.eraseIdx_cons_succ, List.map_cons, map_erase f l j]
theorem pks_erase (m j : Nat) : (pksUpto m).eraseIdx j = (remN m j 0).map pkOf := by
  unfold pksUpto remN
  rw [map_erase, List.range_eq_range', erase_range', Nat.zero_add, Nat.sub_zero]
theorem rem_len_le (m j i : Nat) : (remN m j i).length ≤ m - i := by
  unfold remN
  have := List.length_filter_le (fun x => decide (x ≠ j)) (List.range' i (m - i))
  simpa using this
theorem pks_erase_len {m j : Nat} (h : j < m) : ((remN m j 0).map pkOf).length = m - 1 := by
  rw [← pks_erase, List.length_eraseIdx, if_pos (by rw [pks_len]; omega), pks_len]
def HeldO (w1 : World) (nn : Nat) (w : World) : Prop := NetAt w w1.heap.size nn 12 [] 0 (onWay 0) ∧ Below w1.heap.size w1 w
theorem HeldO.net {w1 w : World} {nn : Nat} (h : HeldO w1 nn w) : NetAt w w1.heap.size nn 12 [] 0 (onWay 0) := h.1
theorem HeldO.keep {w1 w w' : World} {nn : Nat} (h : HeldO w1 nn w) (hN : NetAt w' w1.heap.size nn 12 [] 0 (onWay 0)) (hb : Below w.heap.size w w') : HeldO w1 nn w' := ⟨hN, h.2.trans (hb.mono h.2.size)⟩
set_option maxRecDepth 100000 in
set_option maxHeartbeats 4000000 in
theorem networkOrder_walk (many at_ : Int) (w : World) : Calls Try.prog 3 #[.int .i64 many, .int .i64 at_] w fun e w' => e = .returned (.bool true) ∧ Below w.heap.size w w' := by
  go_enter Try.func3, Try.ntmps3
  go_wp2_with fail
  refine (awake_net w).mono ?_
  rintro e w1 ⟨rfl, hb1⟩
  have htm := Int.tmod_lt_of_pos many (show (0 : Int) < 12 by omega)
  have htm2 : -12 < many.tmod 12 := by
    have h := Int.tmod_lt_of_pos (-many) (show (0 : Int) < 12 by omega)
    rw [Int.neg_tmod] at h
    omega
  obtain ⟨mm, hm, hm1, hm2⟩ : ∃ mm : Nat, 1 + (many.tmod 12 + 12) % 12 = (mm : Int) ∧ 1 ≤ mm ∧ mm ≤ 12 := ⟨(1 + (many.tmod 12 + 12) % 12).toNat, by omega, by omega, by omega⟩
  have HM := Lib.hid hm
  clear hm
  go_upto_region 2 with fail
  go_cut [6] from 18 to 132 (fun s6 wx => s6 = .int .i64 (mm : Nat) ∧ wx = w1)
  case first =>
    go_wp2_with fail
    go_meet
    exact ⟨congrArg (Value.int .i64) (by first | exact HM.out | (have h := HM.out; simp only [← h]; omega) | (rw [← HM.out]; omega)), rfl⟩
  case rest =>
  obtain ⟨rfl, rfl⟩ := hcut
  generalize wc = w1 at hb1 ⊢
  clear htm htm2 HM
  go_wp2_with fail
  refine (new_net 12 w1).mono ?_
  rintro e w2 ⟨rfl, hN2, hb2⟩
  rw [← onWay_zero] at hN2
  go_wp2_with fail
  obtain ⟨B0, hB0⟩ : ∃ B0, B0 = w1.heap.size := ⟨_, rfl⟩
  go_loopw [9] (fun i wr => ∃ k : Nat, k ≤ mm ∧ i = .int .i64 (k : Nat) ∧ NetAt wr w1.heap.size (2 * k) 12 (pksUpto k) 0 (onWay k) ∧ Below w1.heap.size w1 wr) (fun i _ => mm - (intOf i).toNat)
  case atStart => exact ⟨0, by omega, rfl, hN2, hb2⟩
  case round =>
    obtain ⟨k, hk, rfl, hN, hbr⟩ := hrel
    by_cases hlt : k < mm
    · have hext : (⟨#[97, 98, 99, 100, 101, 102, 103, 104, 105, 106, 107, 108]⟩ : ByteArray).size = 12 := rfl
      have q0 : (0 : Int) ≤ (k : Int) := by omega
      have q1 : (k : Int) ≤ (k : Int) + 1 := by omega
      have q2 : (k : Int) + 1 ≤ 12 := by omega
      go_wp2_with fail
      refine (send_ok w1.heap.size (2 * k) 12 (pksUpto k) 0 (onWay k) 1 2 ((⟨#[97, 98, 99, 100, 101, 102, 103, 104, 105, 106, 107, 108]⟩ : ByteArray).extract k (k + 1)) wr hN (by omega) (by rw [pks_len]; omega) (by omega) (by omega) (by omega) (by rw [ByteArray.size_extract]; omega) (by rw [onWay_at]; omega) (by rw [onWay_at]; omega)).mono ?_
      rintro e w3 ⟨rfl, hN3, hb3⟩
      have hN3' : NetAt w3 w1.heap.size (2 * (k + 1)) 12 (pksUpto (k + 1)) 0 (onWay (k + 1)) := by
        rw [pks_succ]
        rw [onWay_at, show (k : Int) + 1 = ((k + 1 : Nat) : Int) from by omega, onWay_put] at hN3
        exact hN3
      clear hN hN3
      go_wp2_with fail
      go_roundw
      case rel => exact ⟨k + 1, by omega, by go_num, hN3', hbr.trans hb3⟩
      case measure => simp [intOf]; omega
    · obtain rfl : k = mm := by omega
      obtain ⟨ht0, ht1⟩ : -(k : Int) < at_.tmod (k : Int) ∧ at_.tmod (k : Int) < k := by
        have h1 := Int.tmod_lt_of_pos at_ (show (0 : Int) < (k : Int) by omega)
        have h2 := Int.tmod_lt_of_pos (-at_) (show (0 : Int) < (k : Int) by omega)
        rw [Int.neg_tmod] at h2
        omega
      obtain ⟨j, hj, hjk⟩ : ∃ j : Nat, (at_.tmod (k : Int) + (k : Int)) % (k : Int) = (j : Int) ∧ j < k := by
        have h1 := Int.emod_nonneg (at_.tmod (k : Int) + (k : Int)) (show (k : Int) ≠ 0 by omega)
        have h2 := Int.emod_lt_of_pos (at_.tmod (k : Int) + (k : Int)) (show 0 < (k : Int) by omega)
        exact ⟨_, (Int.toNat_of_nonneg h1).symm, by omega⟩
      have HJ := Lib.hid hj
      clear hj
      go_upto_region 12 with fail
      go_cut [10] from 18 to 132 (fun s10 wx => s10 = .int .i64 (j : Nat) ∧ wx = wr)
      case first =>
        go_wp2_with fail
        go_meet
        exact ⟨congrArg (Value.int .i64) HJ.out, rfl⟩
      case rest =>
      obtain ⟨rfl, rfl⟩ := hcut
      clear HJ ht0 ht1 hN2 hb2
      have hpj : (pksUpto k)[j]? = some (1, 2, (⟨#[97, 98, 99, 100, 101, 102, 103, 104, 105, 106, 107, 108]⟩ : ByteArray).extract j (j + 1)) := by simp [pksUpto, hjk, pkOf]
      go_wp2_with fail
      refine (take_any w1.heap.size (2 * k) 12 0 (pksUpto k) (onWay k) j 1 2 ((⟨#[97, 98, 99, 100, 101, 102, 103, 104, 105, 106, 107, 108]⟩ : ByteArray).extract j (j + 1)) _ hN (by rw [pks_len]; omega) hpj (by omega) (by rw [pks_len]; omega) (by omega) (by omega) (by rw [onWay_at]; omega)).mono ?_
      rintro e w4 ⟨rfl, hN4, hb4⟩
      have hlen0 := pks_erase_len hjk
      have hN5 : NetAt w4 w1.heap.size (2 * k + 2) 12 ((remN k j 0).map pkOf) 0 (onWay (remN k j 0).length) := by
        rw [List.length_map] at hlen0
        rw [onWay_at, show (k : Int) - 1 = ((k - 1 : Nat) : Int) from by omega, onWay_put, pks_erase, ← hlen0] at hN4
        exact hN4
      clear hN4 hN hpj
      have hP4 := Blk.new w4 27 #[.int .i64 1, .int .i64 2, .string ((⟨#[97, 98, 99, 100, 101, 102, 103, 104, 105, 106, 107, 108]⟩ : ByteArray).extract j (j + 1))]
      have hN6 := hN5.alloc (.cells #[.int .i64 1, .int .i64 2, .string ((⟨#[97, 98, 99, 100, 101, 102, 103, 104, 105, 106, 107, 108]⟩ : ByteArray).extract j (j + 1))] 27)
      have hb5 := hb4.alloc (show w1.heap.size ≤ w4.heap.size by have := hN5.lt; omega) (.cells #[.int .i64 1, .int .i64 2, .string ((⟨#[97, 98, 99, 100, 101, 102, 103, 104, 105, 106, 107, 108]⟩ : ByteArray).extract j (j + 1))] 27)
      have p2 : (w4.alloc (.cells #[.int .i64 1, .int .i64 2, .string ((⟨#[97, 98, 99, 100, 101, 102, 103, 104, 105, 106, 107, 108]⟩ : ByteArray).extract j (j + 1))] 27)).cell? ⟨w4.heap.size, 2, none⟩ = some (.string ((⟨#[97, 98, 99, 100, 101, 102, 103, 104, 105, 106, 107, 108]⟩ : ByteArray).extract j (j + 1))) := hP4.cell 2
      have q0 : (0 : Int) ≤ (j : Int) := by omega
      have q1 : (j : Int) ≤ (j : Int) + 1 := by omega
      have q2 : (j : Int) + 1 ≤ 12 := by omega
      have hsj : IntKind.i64.wrap ((j : Int) + 1) = (j : Int) + 1 := by rw [IntKind.wrap_i64]; omega
      have hsk : IntKind.i64.wrap ((k : Int) - 1) = (k : Int) - 1 := by rw [IntKind.wrap_i64]; omega
      go_upto_region 14 with fail
      have hltA : w4.heap.size < (w4.alloc (.cells #[.int .i64 1, .int .i64 2, .string ((⟨#[97, 98, 99, 100, 101, 102, 103, 104, 105, 106, 107, 108]⟩ : ByteArray).extract j (j + 1))] 27)).heap.size := by simp
      generalize hA : w4.alloc (.cells #[.int .i64 1, .int .i64 2, .string ((⟨#[97, 98, 99, 100, 101, 102, 103, 104, 105, 106, 107, 108]⟩ : ByteArray).extract j (j + 1))] 27) = w5 at hN6 hb5 p2 hltA ⊢
      clear hA hP4
      have hN5d : NetAt w5.drew w1.heap.size (2 * k + 2) 12 ((remN k j 0).map pkOf) 0 (onWay (remN k j 0).length) := hN6
      go_cut [72] from 18 to 132 (fun s72 wx => s72 = .bool false ∧ wx = w5.drew)
      case first =>
        go_region_held3 (fun w' => w'.cell? ⟨w4.heap.size, 2, none⟩ = some (.string ((⟨#[97, 98, 99, 100, 101, 102, 103, 104, 105, 106, 107, 108]⟩ : ByteArray).extract j (j + 1))) ∧ w' = w5.drew) (exact ⟨p2, rfl⟩) (first | (go_at_call 10; refine (len_any _ _ _ _ _ _ _ hN5d).mono ?_; rintro e w6 ⟨rfl, rfl⟩))
        all_goals (go_wp2_with fail; go_meet; exact ⟨by simp; omega, rfl⟩)
      case rest =>
      obtain ⟨rfl, rfl⟩ := hcut
      clear p2 hsj hsk q0 q1 q2 hlen0
      go_wp2_with fail
      go_loopw [13] (fun i wr => ∃ i' : Nat, i' ≤ k ∧ i = .int .i64 (i' : Nat) ∧ (∃ nn, nn ≤ 2 * k + 2 + 2 * i' ∧ NetAt wr w1.heap.size nn 12 ((remN k j i').map pkOf) 0 (onWay (remN k j i').length)) ∧ Below w1.heap.size w1 wr) (fun i _ => k - (intOf i).toNat)
      case atStart => exact ⟨0, by omega, rfl, ⟨_, by omega, hN5d⟩, (hbr.trans hb5).drew⟩
      case round =>
        obtain ⟨i, hi, rfl, ⟨nn, hnn, hN⟩, hbr⟩ := hrel
        clear hN5d hb5 hN6 hltA
        by_cases hlt : i < k
        · by_cases hij : i = j
          · subst hij
            have hst := rem_step (j := i) hlt
            rw [if_pos rfl] at hst
            rw [hst] at hN
            clear hst
            go_wp2_with fail
            go_roundw
            case rel => exact ⟨i + 1, by omega, by go_num, ⟨nn, by omega, hN⟩, hbr⟩
            case measure => simp [intOf]; omega
          · have hst := rem_step (j := j) hlt
            rw [if_neg hij] at hst
            rw [hst] at hN
            have hll : ((i :: remN k j (i + 1)).map pkOf).length = (remN k j (i + 1)).length + 1 := by simp
            have hl12 := rem_len_le k j (i + 1)
            have hbe : ((i : Int) == (j : Int)) = false := by simp; omega
            have d0 : decide (i = j) = false := decide_eq_false hij
            clear hst
            go_wp2_with fail
            refine (take_any w1.heap.size nn 12 0 ((i :: remN k j (i + 1)).map pkOf) (onWay (i :: remN k j (i + 1)).length) 0 1 2 ((⟨#[97, 98, 99, 100, 101, 102, 103, 104, 105, 106, 107, 108]⟩ : ByteArray).extract i (i + 1)) _ hN (by omega) rfl (by omega) (by omega) (by omega) (by omega) (by rw [onWay_at, List.length_cons]; omega)).mono ?_
            rintro e w6 ⟨rfl, hN6, hb6⟩
            have hN7 : NetAt w6 w1.heap.size (nn + 2) 12 ((remN k j (i + 1)).map pkOf) 0 (onWay (remN k j (i + 1)).length) := by
              rw [onWay_at, List.length_cons, show (((remN k j (i + 1)).length + 1 : Nat) : Int) - 1 = ((remN k j (i + 1)).length : Nat) from by omega, onWay_put] at hN6
              exact hN6
            clear hN6 hN
            have hP6 := Blk.new w6 27 #[.int .i64 1, .int .i64 2, .string ((⟨#[97, 98, 99, 100, 101, 102, 103, 104, 105, 106, 107, 108]⟩ : ByteArray).extract i (i + 1))]
            have hN8 := hN7.alloc (.cells #[.int .i64 1, .int .i64 2, .string ((⟨#[97, 98, 99, 100, 101, 102, 103, 104, 105, 106, 107, 108]⟩ : ByteArray).extract i (i + 1))] 27)
            have hb8 := (hbr.trans hb6).alloc (show w1.heap.size ≤ w6.heap.size by have := hN7.lt; omega) (.cells #[.int .i64 1, .int .i64 2, .string ((⟨#[97, 98, 99, 100, 101, 102, 103, 104, 105, 106, 107, 108]⟩ : ByteArray).extract i (i + 1))] 27)
            have p0 : (w6.alloc (.cells #[.int .i64 1, .int .i64 2, .string ((⟨#[97, 98, 99, 100, 101, 102, 103, 104, 105, 106, 107, 108]⟩ : ByteArray).extract i (i + 1))] 27)).cell? ⟨w6.heap.size, 0, none⟩ = some (.int .i64 1) := hP6.cell 0
            have p1 : (w6.alloc (.cells #[.int .i64 1, .int .i64 2, .string ((⟨#[97, 98, 99, 100, 101, 102, 103, 104, 105, 106, 107, 108]⟩ : ByteArray).extract i (i + 1))] 27)).cell? ⟨w6.heap.size, 1, none⟩ = some (.int .i64 2) := hP6.cell 1
            have p2 : (w6.alloc (.cells #[.int .i64 1, .int .i64 2, .string ((⟨#[97, 98, 99, 100, 101, 102, 103, 104, 105, 106, 107, 108]⟩ : ByteArray).extract i (i + 1))] 27)).cell? ⟨w6.heap.size, 2, none⟩ = some (.string ((⟨#[97, 98, 99, 100, 101, 102, 103, 104, 105, 106, 107, 108]⟩ : ByteArray).extract i (i + 1))) := hP6.cell 2
            have q0 : (0 : Int) ≤ (i : Int) := by omega
            have q1 : (i : Int) ≤ (i : Int) + 1 := by omega
            have q2 : (i : Int) + 1 ≤ 12 := by omega
            have hsi : IntKind.i64.wrap ((i : Int) + 1) = (i : Int) + 1 := by rw [IntKind.wrap_i64]; omega
            go_upto_region 21 with fail
            have hltA : w6.heap.size < (w6.alloc (.cells #[.int .i64 1, .int .i64 2, .string ((⟨#[97, 98, 99, 100, 101, 102, 103, 104, 105, 106, 107, 108]⟩ : ByteArray).extract i (i + 1))] 27)).heap.size := by simp
            generalize hA : w6.alloc (.cells #[.int .i64 1, .int .i64 2, .string ((⟨#[97, 98, 99, 100, 101, 102, 103, 104, 105, 106, 107, 108]⟩ : ByteArray).extract i (i + 1))] 27) = w7 at hN8 hb8 p0 p1 p2 hltA ⊢
            clear hA hP6
            go_cut [107] from 73 to 107 (fun s107 wx => s107 = .bool false ∧ wx = w7.drew)
            case first =>
              go_region_held3 (fun w' => w'.cell? ⟨w6.heap.size, 0, none⟩ = some (.int .i64 1) ∧ w'.cell? ⟨w6.heap.size, 1, none⟩ = some (.int .i64 2) ∧ w'.cell? ⟨w6.heap.size, 2, none⟩ = some (.string ((⟨#[97, 98, 99, 100, 101, 102, 103, 104, 105, 106, 107, 108]⟩ : ByteArray).extract i (i + 1))) ∧ w' = w7.drew) (exact ⟨p0, p1, p2, rfl⟩) (fail)
              all_goals (go_wp2_with fail; go_meet; exact ⟨by simp, rfl⟩)
            case rest =>
            obtain ⟨rfl, rfl⟩ := hcut
            clear p0 p1 p2 hsi q0 q1 q2
            go_wp2_with fail
            go_roundw
            case rel => exact ⟨i + 1, by omega, by go_num, ⟨nn + 2, by omega, hN8⟩, hb8.drew⟩
            case measure => simp [intOf]; omega
        · obtain rfl : i = k := by omega
          rw [rem_end] at hN
          go_wp2_with fail
          refine (take_out _ _ _ _ _ _ 0 _ hN (.inr (by simp))).mono ?_
          rintro e w6 ⟨rfl, hN6, hb6⟩
          have hS0 : HeldO w1 nn (w6.alloc (.cells #[.int .i64 0, .int .i64 0, .string ⟨#[]⟩] 27)) := ⟨(hN6.alloc _), ((hbr.trans (hb6.mono (show w1.heap.size ≤ wr.heap.size by have := hN.lt; omega))).alloc (show w1.heap.size ≤ w6.heap.size by have := hN6.lt; omega) _)⟩
          clear hN6 hb6 hN hbr
          go_wp2_with fail
          refine (between_any w1.heap.size nn 12 0 [] (onWay 0) 1 2 _ hS0.net ⟨by omega, by omega⟩ ⟨by omega, by omega⟩).mono ?_
          rintro e w8 ⟨rfl, rfl⟩
          rw [onWay_at]
          go_wp2_with fail
          refine (drop_out w1.heap.size nn 12 0 [] (onWay 0) 0 _ hS0.net (.inr (by simp))).mono ?_
          rintro e w9 ⟨rfl, hN9, hb9⟩
          have hS9 := hS0.keep hN9 hb9
          go_wp2_with fail
          refine (copy_out w1.heap.size nn 12 0 [] (onWay 0) 0 _ hS9.net (.inr (by simp))).mono ?_
          rintro e w10 ⟨rfl, hN10, hb10⟩
          have hS10 := hS9.keep hN10 hb10
          go_wp2_with fail
          go_ret
          exact ⟨by simp, hb1.trans (hS10.2.mono hb1.size)⟩
end Go.Proofs.Ytfficdloekfpcaa
