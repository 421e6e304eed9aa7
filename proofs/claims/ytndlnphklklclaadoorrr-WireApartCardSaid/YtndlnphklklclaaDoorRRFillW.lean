/- (*check.Summer).fill, walked: the table holds what a register of one byte becomes when eight bits go out. -/
import Derived.Test.YtndlnphklklclaaDoorRRBlkL
import Derived.Test.YtndlnphklklclaaDoorRRCrcP
namespace Go.Proofs.YtndlnphklklclaaDoorRR
open Go.RowKit Crc

/-- Some bits out. -/
def stepN : Nat → Nat → Nat
  | 0, r => r
  | j + 1, r => Crc.step (stepN j r)
theorem stepN_lt (j r : Nat) (h : r < 4294967296) : stepN j r < 4294967296 := by
  induction j with
  | zero => exact h
  | succ j ih => exact step_lt ih
theorem low_bit (r : Nat) (h : r < 4294967296) : bits .and .u32 (r : Int) 1 = ((r % 2 : Nat) : Int) := by
  have e := u32_and_nat r 1 h (by omega)
  rw [nat_mask1] at e
  exact e
theorem turned (r : Nat) (h : r < 4294967296) : bits .xor .u32 ((r : Int) / 2) 2197175160 = ((r / 2 ^^^ poly : Nat) : Int) := by
  have e := u32_xor_nat (r / 2) 2197175160 (by omega) (by omega)
  rw [show ((r / 2 : Nat) : Int) = (r : Int) / 2 from by omega] at e
  exact e
theorem step_odd {r : Nat} (h : r % 2 = 1) : Crc.step r = r / 2 ^^^ poly := by unfold Crc.step; rw [if_pos h, Nat.shiftRight_eq_div_pow]
theorem step_no {r : Nat} (h : ¬ r % 2 = 1) : Crc.step r = r / 2 := by unfold Crc.step; rw [if_neg h, Nat.shiftRight_eq_div_pow]

set_option maxRecDepth 100000 in
set_option maxHeartbeats 1000000 in
theorem fill_any (b : Nat) (cs : Array Value) (w : World) (hB : Blk w b 87 cs) (hs : cs.size = 257) :
    Calls Tryd.prog 34 #[.pointer (some ⟨b, 0, none⟩)] w fun e w' => e = .returned (.tuple #[]) ∧ ∃ cs' : Array Value, Blk w' b 87 cs' ∧ cs'.size = 257 ∧ (∀ i, i < 256 → cs'[i]? = some (.int .u32 (eight i))) ∧ cs'[256]? = cs[256]? ∧ Only b w w' := by
  go_enter Tryd.func34, Tryd.ntmps34
  go_wp2
  go_loopw [5] (fun i wr => ∃ (k : Nat) (cs' : Array Value), k ≤ 256 ∧ i = .int .i64 k ∧ Blk wr b 87 cs' ∧ cs'.size = 257 ∧ (∀ i, i < k → cs'[i]? = some (.int .u32 (eight i))) ∧ cs'[256]? = cs[256]? ∧ Only b w wr) (fun i _ => 256 - (intOf i).toNat)
  case atStart => exact ⟨0, cs, by omega, rfl, hB, hs, fun i hi => absurd hi (by omega), rfl, only_refl _ _⟩
  case round =>
    obtain ⟨k, cs', hk, rfl, hB', hs', ht', hl', hO⟩ := hrel
    have HT := Lib.hid ht'
    have HL := Lib.hid hl'
    clear ht' hl'
    by_cases hlt : k < 256
    · go_wp2
      obtain ⟨wo, rfl⟩ : ∃ wo : World, wo = wr := ⟨_, rfl⟩
      go_loop [3, 10] (fun r j => ∃ n q : Nat, n ≤ 8 ∧ q = stepN n k ∧ j = .int .i64 n ∧ r = .int .u32 q) (fun _ j => 8 - (intOf j).toNat)
      case atStart => exact ⟨0, k, by omega, rfl, rfl, rfl⟩
      case round =>
        obtain ⟨n, q, hn, hq, rfl, rfl⟩ := hrel
        have hlr : q < 4294967296 := by rw [hq]; exact stepN_lt n k (by omega)
        have hst : stepN (n + 1) k = Crc.step q := by rw [hq]; rfl
        have hlow := low_bit q hlr
        have htur := turned q hlr
        have HQ := Lib.hid hq
        have HS := Lib.hid hst
        have HU := Lib.hid htur
        clear hq hst htur
        by_cases hln : n < 8
        · by_cases hodd : q % 2 = 1
          · have ho : (bits .and .u32 (q : Int) 1 == 1) = true := by rw [hlow]; simp [hodd]
            clear hlow
            go_wp2
            go_round
            case rel => exact ⟨n + 1, q / 2 ^^^ poly, by omega, by rw [HS.out, step_odd hodd], by go_num, by rw [HU.out]⟩
            case measure => simp [intOf]; omega
          · have ho : (bits .and .u32 (q : Int) 1 == 1) = false := by rw [hlow]; simp; omega
            clear hlow
            go_wp2
            go_round
            case rel => exact ⟨n + 1, q / 2, by omega, by rw [HS.out, step_no hodd], by go_num, by go_num⟩
            case measure => simp [intOf]; omega
        · have hcell : wo.cell? ⟨b, k, none⟩ = some (cs'.getD k undef) := by rw [hB'.cell k, Array.getD_eq_getD_getElem?, Array.getElem?_eq_getElem (by omega)]; rfl
          have hfree := hB'.free k
          clear hlow
          go_wp2
          go_roundw
          case rel =>
            refine ⟨k + 1, cs'.setIfInBounds k (.int .u32 q), by omega, by go_num, hB'.set k _, by simpa using hs', ?_, ?_, only_set hO k _⟩
            · intro i hi
              by_cases he : i = k
              · subst he
                obtain rfl : n = 8 := by omega
                rw [Array.getElem?_setIfInBounds_self_of_lt (by omega), HQ.out]
                rfl
              · rw [Array.getElem?_setIfInBounds_ne (by omega)]
                exact HT.out i (by omega)
            · rw [Array.getElem?_setIfInBounds_ne (by omega)]
              exact HL.out
          case measure => simp [intOf]; omega
    · go_wp2
      obtain rfl : k = 256 := by omega
      go_end0
      exact ⟨rfl, cs', hB', hs', HT.out, HL.out, hO⟩
end Go.Proofs.YtndlnphklklclaaDoorRR
