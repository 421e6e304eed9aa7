/- CheckDiffer, walked: bytes within four beside one another that are turned turn the sum. -/
import Derived.Test.YtopcohfkfpjecaaMutL
import Derived.Test.YtopcohfkfpjecaaCheckLaw
import Derived.RegionTactic
import Derived.ChangeAlike
import Derived.BigRegion
namespace Go.Proofs.Ytopcohfkfpjecaa
open Go.RowKit Crc
def turn (l : List UInt8) (k : Nat) (bs : List UInt8) : Nat → List UInt8
  | 0 => l
  | i + 1 => (turn l k bs i).set (k + i) ((turn l k bs i).getD (k + i) 0 ^^^ bs.getD i 0)
theorem turn_len (l : List UInt8) (k : Nat) (bs : List UInt8) (i : Nat) : (turn l k bs i).length = l.length := by
  induction i with
  | zero => rfl
  | succ i ih => simp [turn, ih]

theorem turn4 (p q : List UInt8) (a b c d e f g h : UInt8) : turn (p ++ [a, b, c, d] ++ q) p.length [e, f, g, h] 4 = p ++ [a ^^^ e, b ^^^ f, c ^^^ g, d ^^^ h] ++ q := by
  simp [turn, List.getD]
theorem four_more {m : List UInt8} (h : 4 ≤ m.length) : ∃ a b c d q, m = [a, b, c, d] ++ q := by
  match m, h with
  | a :: b :: c :: d :: q, _ => exact ⟨a, b, c, d, q, rfl⟩
theorem xor_eq_self {a b : UInt8} (h : a ^^^ b = a) : b = 0 := by
  have h2 : a ^^^ (a ^^^ b) = a ^^^ a := by rw [h]
  rw [← UInt8.xor_assoc, UInt8.xor_self, UInt8.zero_xor] at h2
  exact h2
theorem compare (l : List UInt8) (k : Nat) (bs : List UInt8) (hb : bs.length = 4) (hk : k + 4 ≤ l.length) : ((crc (turn l k bs 4) : Int) == (crc l : Int)) = (bs.take 4).all (· == 0) := by
  obtain ⟨p, m, rfl, rfl⟩ : ∃ p m, l = p ++ m ∧ k = p.length := ⟨l.take k, l.drop k, (List.take_append_drop k l).symm, by rw [List.length_take]; omega⟩
  rw [List.length_append] at hk
  obtain ⟨a, b, c, d, q, rfl⟩ := four_more (show 4 ≤ m.length by omega)
  obtain ⟨e, f, g, h, r, rfl⟩ := four_more (show 4 ≤ bs.length by omega)
  obtain rfl : r = [] := by simpa using hb
  rw [List.append_nil, ← List.append_assoc, turn4]
  by_cases h0 : e = 0 ∧ f = 0 ∧ g = 0 ∧ h = 0
  · obtain ⟨rfl, rfl, rfl, rfl⟩ := h0
    simp
  · have e1 : ([e, f, g, h].take 4).all (· == 0) = false := by
      rw [Bool.eq_false_iff]
      intro h1
      simp at h1
      exact h0 h1
    rw [e1, beq_eq_false_iff_ne]
    intro h2
    obtain ⟨h3, h4, h5, h6⟩ := Crc.differ p q _ _ _ _ _ _ _ _ (Int.ofNat.inj h2)
    exact h0 ⟨xor_eq_self h3, xor_eq_self h4, xor_eq_self h5, xor_eq_self h6⟩
theorem tmod_in (a m : Int) (h : 0 < m) : -m < a.tmod m ∧ a.tmod m < m := by
  have h1 := Int.tmod_lt_of_pos a h
  have h2 := Int.tmod_lt_of_pos (-a) h
  rw [Int.neg_tmod] at h2
  omega
set_option maxRecDepth 100000 in
set_option maxHeartbeats 1000000 in
theorem checkDiffer_walk (s : ByteArray) (at_ : Int) (bs : List UInt8) (w : World) (hb4 : bs.length = 4) (hat : -9223372036854775808 ≤ at_ ∧ at_ ≤ 9223372036854775807) :
    Calls Try.prog 3 #[.string s, .int .i64 at_, .agg (bs.map bv).toArray] w fun e w' => e = .returned (.bool true) ∧ Below w.heap.size w w' := by
  have hxs : (cutB s 299).size ≤ 299 := by rw [cutB_size]; omega
  obtain ⟨hat0, hat1⟩ := hat
  have HB := Lib.hid hb4
  obtain ⟨B, hB⟩ : ∃ B, B = (bs.map bv).toArray := ⟨_, rfl⟩
  rw [← hB]
  have HBB := Lib.hid hB
  clear hB hb4
  go_enter Try.func3, Try.ntmps3
  go_wp2_with fail
  refine (awake_any _).mono ?_
  rintro e w1 ⟨rfl, hb1⟩
  have hltw : w.heap.size < w1.heap.size := by have := hb1.size; simp at this; omega
  go_wp2_with fail
  refine (short_any s 299 _).mono ?_
  rintro e w2 ⟨rfl, rfl⟩
  generalize cutB s 299 = x at hxs ⊢
  obtain ⟨cap, w2, hrun, hBy, hb2, hlt, hcap⟩ := bytes_of (P := Try.prog) w1 9 24 5 (x ++ ⟨#[102, 111, 117, 114]⟩) Try.underlying9 Try.underlying24 Try.underlying5
  obtain ⟨n, hn⟩ : ∃ n, n = (x ++ ⟨#[102, 111, 117, 114]⟩ : ByteArray).size := ⟨_, rfl⟩
  have hn4 : 4 ≤ n ∧ n ≤ 303 := by rw [hn, ByteArray.size_append, show (⟨#[102, 111, 117, 114]⟩ : ByteArray).size = 4 from rfl]; omega
  rw [← hn] at hrun hcap
  obtain ⟨l, hl⟩ : ∃ l, l = (x ++ ⟨#[102, 111, 117, 114]⟩ : ByteArray).data.toList := ⟨_, rfl⟩
  have hln : l.length = n := by rw [hl, hn]; rfl
  rw [← hl] at hBy
  have hstr := string_of (P := Try.prog) (src := 24) (dst := 9) hBy cap Try.underlying24 Try.underlying5 Try.underlying9
  rw [hln] at hstr
  obtain ⟨hn4, hn303⟩ := hn4
  have HLN := Lib.hid hln
  clear hl hn hln
  go_wp2_with fail
  refine (sum_any ⟨l.toArray⟩ _ (by show l.toArray.size ≤ _; rw [List.size_toArray, HLN.out]; unfold maxLen; omega)).mono ?_
  rintro e w3 ⟨rfl, hb3⟩
  have hBy3 := hBy.below hb3 hlt
  clear hrun hstr hBy
  have htm := tmod_in at_ ((n : Int) - 3) (by omega)
  obtain ⟨ht0, ht1⟩ := htm
  go_wp2
  obtain ⟨k, hk, hkn⟩ : ∃ k : Nat, (at_.tmod ((n : Int) - 3) + (n : Int) - 3) % ((n : Int) - 3) = (k : Int) ∧ k + 4 ≤ n := by
    have h1 := Int.emod_nonneg (at_.tmod ((n : Int) - 3) + (n : Int) - 3) (show (n : Int) - 3 ≠ 0 by omega)
    have h2 := Int.emod_lt_of_pos (at_.tmod ((n : Int) - 3) + (n : Int) - 3) (show 0 < (n : Int) - 3 by omega)
    exact ⟨_, (Int.toNat_of_nonneg h1).symm, by omega⟩
  rw [hk]
  have HK := Lib.hid hk
  clear hk ht0 ht1
  have hby : ∀ j, j < 4 → w3.cell? ⟨w.heap.size, j, none⟩ = some (bv (bs.getD j 0)) := fun j hj => by
    have h1 : (w.alloc (.cells B 22)).cell? ⟨w.heap.size, j, none⟩ = some (bv (bs.getD j 0)) := by
      refine (World.cell?_alloc_mark w B 22 (0, 0) j).trans ?_
      rw [HBB.out]
      simp [List.getD, show j < bs.length by have := HB.out; omega]
    exact ((later hb2 hb3).cell (p := ⟨w.heap.size, j, none⟩) hltw).trans ((hb1.cell (p := ⟨w.heap.size, j, none⟩) (by simp)).trans h1)
  obtain ⟨wo, hwo⟩ : ∃ wo : World, wo = w3 := ⟨_, rfl⟩
  go_loopw [11, 12] (fun b i wr => ∃ j : Nat, j ≤ 4 ∧ i = .int .i64 j ∧ b = .bool ((bs.take j).all (· == 0)) ∧ Bytes wr w1.heap.size (turn l k bs j) ∧ Only w1.heap.size w3 wr) (fun _ i _ => 4 - (intOf i).toNat)
  case atStart => exact ⟨0, by omega, rfl, rfl, hBy3, only_refl _ _⟩
  case round =>
    obtain ⟨j, hj, rfl, rfl, hBr, hO⟩ := hrel
    by_cases hlt4 : j < 4
    · have hc2 : wr.cell? ⟨w.heap.size, j, none⟩ = some (bv (bs.getD j 0)) := (hO.cell' (p := ⟨w.heap.size, j, none⟩) (by have := hb3.size; have := hb2.size; simp; omega) (by simp; omega)).trans (hby j hlt4)
      have hlk : k + j < (turn l k bs j).length := by rw [turn_len]; have := HLN.out; omega
      obtain ⟨hc1, hf1⟩ := hBr (k + j) _ (List.getElem?_eq_getElem hlk)
      obtain ⟨u, hu⟩ : ∃ u, u = (turn l k bs j)[k + j] := ⟨_, rfl⟩
      rw [← hu] at hc1
      obtain ⟨v, hv⟩ : ∃ v, v = bs.getD j 0 := ⟨_, rfl⟩
      rw [← hv] at hc2
      have HU := Lib.hid hu
      have HV := Lib.hid hv
      have hxr := xor_byte u v
      unfold bv at hc1 hc2
      have hstep : (bs.take (j + 1)).all (· == 0) = ((bs.take j).all (· == 0) && v == 0) := by
        rw [HV.out, List.take_succ_eq_append_getElem (by have := HB.out; omega), List.all_append]
        simp [List.getD, show j < bs.length by have := HB.out; omega]
      have HST := Lib.hid hstep
      have hturn : turn l k bs (j + 1) = (turn l k bs j).set (k + j) (u ^^^ v) := by
        rw [HU.out, HV.out]
        show (turn l k bs j).set (k + j) ((turn l k bs j).getD (k + j) 0 ^^^ bs.getD j 0) = _
        rw [List.getD, List.getElem?_eq_getElem hlk]
        rfl
      have HTU := Lib.hid hturn
      have hset := hBr.set (k + j) (u ^^^ v)
      rw [← hturn] at hset
      have hO2 := only_set hO (k + j) (bv (u ^^^ v))
      rw [show bv (u ^^^ v) = .int .u8 ((u.toNat ^^^ v.toNat : Nat) : Int) from by simp [bv]] at hset hO2
      have hB2 := Lib.hid hset
      have hO3 := Lib.hid hO2
      clear hu hv hby hstep hturn hset hO2 hBr hO
      obtain ⟨q, hq⟩ : ∃ q, q = (bs.take j).all (· == 0) := ⟨_, rfl⟩
      rw [← hq] at HST ⊢
      clear hq
      by_cases hv0 : v = 0
      · have hvb : ((v.toNat : Int) == 0) = true := by rw [hv0]; rfl
        have HV0 := Lib.hid hv0
        clear hv0
        cases q
        all_goals
          go_wp2
          go_region
          all_goals
            go_wp2
            go_roundw
            case rel => exact ⟨j + 1, by omega, by go_num, by rw [HST.out]; simp [HV0.out], hB2.out, only_drew hO3.out⟩
            case measure => simp [intOf]; omega
      · have hvb : ((v.toNat : Int) == 0) = false := by
          simp only [beq_eq_false_iff_ne]
          intro h
          exact hv0 (UInt8.toNat_inj.1 (by simpa using h))
        have HV0 := Lib.hid hv0
        clear hv0
        cases q
        all_goals
          go_wp2
          go_region
          all_goals
            go_wp2
            go_roundw
            case rel => exact ⟨j + 1, by omega, by go_num, by rw [HST.out]; simp [HV0.out], hB2.out, only_drew hO3.out⟩
            case measure => simp [intOf]; omega
    · have hstr2 := string_of (P := Try.prog) (src := 24) (dst := 9) hBr cap Try.underlying24 Try.underlying5 Try.underlying9
      rw [turn_len, HLN.out] at hstr2
      obtain rfl : j = 4 := by omega
      go_wp2_with fail
      refine (sum_any ⟨(turn l k bs 4).toArray⟩ _ (by show (turn l k bs 4).toArray.size ≤ _; rw [List.size_toArray, turn_len, HLN.out]; unfold maxLen; omega)).mono ?_
      rintro e w4 ⟨rfl, hb4⟩
      have hcmp := compare l k bs HB.out (by rw [HLN.out]; exact hkn)
      rw [show (⟨(turn l k bs 4).toArray⟩ : ByteArray).data.toList = turn l k bs 4 from rfl]
      go_wp2_with fail
      go_ret
      have hW3 : Below w.heap.size w w3 := later_alloc _ (later hb1 (later hb2 hb3))
      have hWr : Below w.heap.size w wr := hW3.trans (only_below hO (Nat.le_of_lt hltw) hW3.size)
      exact ⟨rfl, later hWr hb4⟩
end Go.Proofs.Ytopcohfkfpjecaa
