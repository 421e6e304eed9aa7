/- The document's Check of a grid: walked (for DiffTells). -/
import Derived.Test.YtpjafocgabhieaaGrdR
namespace Go.Proofs.Ytpjafocgabhieaa
open Go.RowKit Go.Sort
theorem gridP_no {x y : Int} {l : List Cl} (h : sizeP x y = false) : gridP x y l = false := by
  unfold gridP
  rw [h]
  rfl
theorem gridP_len {wn hn m : Nat} {l : List Cl} (hm : m = wn * hn) (h : ¬ l.length = m) : gridP (wn : Int) (hn : Int) l = false := by
  unfold gridP
  rw [Int.toNat_natCast, Int.toNat_natCast, ← hm, decide_eq_false h, Bool.and_false, Bool.false_and]
theorem gridP_row {wn hn k : Nat} {l : List Cl} (hk : k < hn) (h : rightP (rowAt l wn k) = false) : gridP (wn : Int) (hn : Int) l = false := by
  unfold gridP
  rw [Int.toNat_natCast, Int.toNat_natCast]
  rw [Bool.and_eq_false_iff]
  refine .inr ?_
  rw [Bool.eq_false_iff]
  intro h1
  rw [List.all_eq_true] at h1
  have := h1 k (List.mem_range.2 hk)
  unfold rowAt at h
  rw [h] at this
  cases this
theorem gridP_yes {wn hn n : Nat} {l : List Cl} (hs : sizeP (wn : Int) (hn : Int) = true) (hl : l.length = n) (hn' : n = wn * hn) (h : ∀ k, k < hn → rightP (rowAt l wn k) = true) : gridP (wn : Int) (hn : Int) l = true := by
  unfold gridP
  rw [Int.toNat_natCast, Int.toNat_natCast, hs, hl, decide_eq_true hn', Bool.true_and, Bool.true_and, List.all_eq_true]
  exact fun k hk => h k (List.mem_range.1 hk)
theorem size_parts {x y : Int} (h : sizeP x y = true) : ∃ wn hn : Nat, x = (wn : Int) ∧ y = (hn : Int) ∧ 1 ≤ wn ∧ wn ≤ 200 ∧ 1 ≤ hn ∧ hn ≤ 60 := by
  unfold sizeP at h
  simp only [Bool.and_eq_true, decide_eq_true_eq] at h
  exact ⟨x.toNat, y.toNat, by omega, by omega, by omega, by omega, by omega, by omega⟩
/-- What a right grid is. -/
theorem gridP_parts {x y : Int} {l : List Cl} (h : gridP x y l = true) : ∃ wn hn : Nat, x = (wn : Int) ∧ y = (hn : Int) ∧ 1 ≤ wn ∧ wn ≤ 200 ∧ 1 ≤ hn ∧ hn ≤ 60 ∧ l.length = wn * hn ∧ ∀ k, k < hn → rightP (rowAt l wn k) = true := by
  unfold gridP at h
  rw [Bool.and_eq_true, Bool.and_eq_true, List.all_eq_true] at h
  obtain ⟨wn, hn, rfl, rfl, h1, h2, h3, h4⟩ := size_parts h.1.1
  have h5 := of_decide_eq_true h.1.2
  rw [Int.toNat_natCast, Int.toNat_natCast] at h5
  refine ⟨wn, hn, rfl, rfl, h1, h2, h3, h4, h5, fun k hk => ?_⟩
  have := h.2 k (List.mem_range.2 (by simpa using hk))
  rw [Int.toNat_natCast] at this
  exact this
theorem mul_facts {wn hn m : Nat} (hw2 : wn ≤ 200) (hh : hn ≤ 60) (hm : m = wn * hn) : wrap64 ((wn : Int) * (hn : Int)) = (m : Int) ∧ m ≤ 12000 := by
  have h2 : wn * hn ≤ 200 * 60 := Nat.mul_le_mul hw2 hh
  have h3 : (wn : Int) * (hn : Int) = ((wn * hn : Nat) : Int) := (Int.natCast_mul _ _).symm
  rw [h3, ← hm]
  rw [← hm] at h2
  clear h3 hm
  refine ⟨?_, by omega⟩
  unfold wrap64
  omega
set_option maxRecDepth 100000 in
set_option maxHeartbeats 4000000 in
theorem checkRG_gen (x y : Int) (A : Option Addr) (n c : Nat) (l : List Cl) (w : World) (hS : RowS w A n c l) :
    Calls Try.prog 20 #[grv x y A n c] w fun e w' => e = .returned (.bool (gridP x y l)) ∧ Below w.heap.size w w' := by
  have HS := Lib.hid hS
  have hlen := hS.len
  have hN := Blk.new w 32 #[.int .i64 x, .int .i64 y, .slice A n c]
  have hb0 := (Below.refl w.heap.size w).alloc (Nat.le_refl _) (.cells #[.int .i64 x, .int .i64 y, .slice A n c] 32)
  have hsz := fun W => sizeR_any x y W
  have k0 : (w.alloc (.cells #[.int .i64 x, .int .i64 y, .slice A n c] 32)).cell? ⟨w.heap.size, 0, none⟩ = some (.int .i64 x) := hN.cell 0
  have k1 : (w.alloc (.cells #[.int .i64 x, .int .i64 y, .slice A n c] 32)).cell? ⟨w.heap.size, 1, none⟩ = some (.int .i64 y) := hN.cell 1
  have k2 : (w.alloc (.cells #[.int .i64 x, .int .i64 y, .slice A n c] 32)).cell? ⟨w.heap.size, 2, none⟩ = some (.slice A n c) := hN.cell 2
  clear hS
  cases hz : sizeP x y with
  | false =>
    have HP := Lib.hid (gridP_no (l := l) hz)
    rw [hz] at hsz
    clear hz hlen
    go_enter Try.func20, Try.ntmps20
    go_wp2_with (go_at_call 36; refine (hsz _).mono ?_; rintro e w1 ⟨rfl, rfl⟩)
    go_ret
    exact ⟨ret_bool HP.out.symm, hb0⟩
  | true =>
    obtain ⟨wn, hh, rfl, rfl, hw1, hw2, hh1, hh2⟩ := size_parts hz
    rw [hz] at hsz
    obtain ⟨m, hm⟩ : ∃ m, m = wn * hh := ⟨_, rfl⟩
    obtain ⟨hmul, hm12⟩ := mul_facts hw2 hh2 hm
    by_cases hnm : n = m
    · have HM := Lib.hid (hnm.trans hm)
      have HZ := Lib.hid hz
      subst hnm
      clear hm hz
      obtain ⟨ad, rfl⟩ : ∃ ad, A = some ad := by
        have h1 := HS.out.nil'
        cases A with
        | some ad => exact ⟨ad, rfl⟩
        | none =>
          have h2 := (h1 rfl).1
          have h3 := HM.out
          have h4 := Nat.mul_le_mul hw1 hh1
          omega
      go_enter Try.func20, Try.ntmps20
      go_wp2_with (go_at_call 36; refine (hsz _).mono ?_; rintro e w1 ⟨rfl, rfl⟩)
      go_loopw [4] (fun s4 wr => ∃ k : Nat, k ≤ hh ∧ s4 = .int .i64 (k : Nat) ∧ RowKit.Hid (∀ j, j < k → rightP (rowAt l wn j) = true) ∧ Blk wr w.heap.size 32 #[.int .i64 (wn : Int), .int .i64 (hh : Int), .slice (some ad) n c] ∧ Below w.heap.size w wr) (fun s4 _ => hh - (intOf s4).toNat)
      case atStart => exact ⟨0, by omega, rfl, Lib.hid (fun j hj => by omega), hN, hb0⟩
      case round =>
        clear k0 k1 k2 hN hb0 hmul
        obtain ⟨k, hk, rfl, HD, hNr, hbr⟩ := hrel
        have k0 : wr.cell? ⟨w.heap.size, 0, none⟩ = some (.int .i64 (wn : Int)) := hNr.cell 0
        have k1 : wr.cell? ⟨w.heap.size, 1, none⟩ = some (.int .i64 (hh : Int)) := hNr.cell 1
        have k2 : wr.cell? ⟨w.heap.size, 2, none⟩ = some (.slice (some ad) n c) := hNr.cell 2
        by_cases hlt : k < hh
        · have d1 : decide ((k : Int) < (hh : Int)) = true := decide_eq_true (by omega)
          have d2 : decide (k < hh) = true := decide_eq_true hlt
          have hrow := rowR_gen ad n c wn hh k l wr hw1 hw2 hh2 HM.out hlt (HS.out.below hbr)
          go_wp2_with fail
          refine hrow.mono ?_
          rintro e w2 ⟨A', c', rfl, hR2, hb2⟩
          have hN2 := hNr.below hb2 hNr.lt
          have hbr2 := hbr.trans (hb2.mono hbr.size)
          have hright := fun W (h : RowS W A' wn c' (rowAt l wn k)) => rightR_gen A' wn c' (rowAt l wn k) W h.len (by omega) h.row
          clear k0 k1 k2 hrow hNr hb2
          cases hq : rightP (rowAt l wn k) with
          | true =>
            have HY := Lib.hid (show ∀ j, j < k + 1 → rightP (rowAt l wn j) = true from fun j hj => by
              rcases Nat.lt_succ_iff_lt_or_eq.1 hj with h | rfl
              · exact HD.out j h
              · exact hq)
            rw [right_ref] at hq
            rw [hq] at hright
            clear hq
            go_wp2_with fail
            refine (hright _ hR2).mono ?_
            rintro e w3 ⟨rfl, hb3⟩
            have hN3 := hN2.below hb3 hN2.lt
            have hbr3 := hbr2.trans (hb3.mono hbr2.size)
            clear hright hR2 hN2 hb3
            go_wp2_with fail
            go_roundw
            case rel => exact ⟨k + 1, hlt, by go_num, HY, hN3, hbr3⟩
            case measure => simp [intOf]; omega
          | false =>
            have HP := Lib.hid (gridP_row (l := l) hlt hq)
            rw [right_ref] at hq
            rw [hq] at hright
            clear hq
            go_wp2_with fail
            refine (hright _ hR2).mono ?_
            rintro e w3 ⟨rfl, hb3⟩
            have hbr3 := hbr2.trans (hb3.mono hbr2.size)
            clear hright hR2 hN2 hb3
            go_wp2_with fail
            go_ret
            exact ⟨ret_bool HP.out.symm, hbr3⟩
        · have d1 : decide ((k : Int) < (hh : Int)) = false := decide_eq_false (by omega)
          have d2 : decide (k < hh) = false := decide_eq_false hlt
          have HP := Lib.hid (gridP_yes HZ.out hlen HM.out (fun j hj => HD.out j (by omega)))
          go_wp2_with fail
          go_ret
          exact ⟨ret_bool HP.out.symm, hbr⟩
    · have HP := Lib.hid (gridP_len (l := l) hm (by rw [hlen]; exact hnm))
      have e1 : ((n : Int) == (m : Int)) = false := by
        rw [beq_eq_false_iff_ne]
        omega
      have e2 : (n == m) = false := by
        rw [beq_eq_false_iff_ne]
        exact hnm
      clear hm hz hlen
      go_enter Try.func20, Try.ntmps20
      go_wp2_with (go_at_call 36; refine (hsz _).mono ?_; rintro e w1 ⟨rfl, rfl⟩)
      go_ret
      exact ⟨ret_bool HP.out.symm, hb0⟩
end Go.Proofs.Ytpjafocgabhieaa
