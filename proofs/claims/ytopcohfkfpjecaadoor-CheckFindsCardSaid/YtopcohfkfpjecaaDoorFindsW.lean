/- CheckFinds, walked. -/
import Derived.Test.YtopcohfkfpjecaaDoorFoundL
import Derived.RegionTactic
import Derived.ChangeAlike
import Derived.BigRegion
namespace Go.Proofs.YtopcohfkfpjecaaDoor
open Go.RowKit Crc
set_option maxRecDepth 100000 in
set_option maxHeartbeats 1000000 in
theorem checkFinds_walk (s : ByteArray) (at_ : Int) (bs : List UInt8) (w : World) (hb4 : bs.length = 4) (hat : -9223372036854775808 ≤ at_ ∧ at_ ≤ 9223372036854775807) (hg : ErrT w) :
    Calls Tryd.prog 4 #[.string s, .int .i64 at_, .agg (bs.map bv).toArray] w fun e w' => e = .returned (.bool true) ∧ Below w.heap.size w w' := by
  have h300 : (cutB s 300).size ≤ 300 := by rw [cutB_size]; omega
  obtain ⟨x, hx⟩ : ∃ x, x = cutB s 300 := ⟨_, rfl⟩
  rw [← hx] at h300
  obtain ⟨W, hWe, hW, hop, hwr⟩ := wrap_open x (by omega)
  obtain ⟨l, hl⟩ : ∃ l, l = W.data.toList := ⟨_, rfl⟩
  obtain ⟨n, hn⟩ : ∃ n, n = W.size := ⟨_, rfl⟩
  have hln : l.length = n := by rw [hl, hn]; rfl
  have hn4 : 4 ≤ n := by omega
  have hn303 : n ≤ 304 := by omega
  have hfound : ∀ k, k + 4 ≤ n → openP ⟨(turn l k bs 4).toArray⟩ = if (bs.take 4).all (· == 0) = true then (x, 0) else (ByteArray.empty, 17) := fun k hk => found x (by omega) l (by rw [hl, hWe]) k bs hb4 (by omega)
  have HF := Lib.hid hfound
  have HX := Lib.hid hx
  have HLN := Lib.hid hln
  have HL := Lib.hid hl
  have HN := Lib.hid hn
  obtain ⟨hat0, hat1⟩ := hat
  have HB := Lib.hid hb4
  obtain ⟨B, hB⟩ : ∃ B, B = (bs.map bv).toArray := ⟨_, rfl⟩
  rw [← hB]
  have HBB := Lib.hid hB
  clear hB hb4 hop hfound hx hWe hln hl hW hn
  go_enter Tryd.func4, Tryd.ntmps4
  go_wp2_with fail
  refine (awake_any _).mono ?_
  rintro e w1 ⟨rfl, hb1⟩
  have hltw : w.heap.size < w1.heap.size := by have := hb1.size; simp at this; omega
  go_wp2_with fail
  refine (short_any s 300 _).mono ?_
  rintro e w2 ⟨rfl, rfl⟩
  rw [← HX.out]
  go_wp2_with fail
  refine (hwr _).mono ?_
  rintro e w2 ⟨rfl, hb2⟩
  go_wp2_with fail
  refine (code_nil _).mono ?_
  rintro e w3 ⟨rfl, hb3⟩
  have hWn : W.size = n := HN.out.symm
  obtain ⟨cap, w4, hrun, hBy, hb4, hlt, hcap⟩ := bytes_of (P := Tryd.prog) w3 9 24 5 W Tryd.underlying9 Tryd.underlying24 Tryd.underlying5
  rw [← HL.out] at hBy
  rw [hWn] at hrun hcap
  obtain ⟨ht0, ht1⟩ := tmod_in at_ ((n : Int) - 3) (by omega)
  go_upto_region 7 with fail
  obtain ⟨k, hk, hkn⟩ : ∃ k : Nat, (at_.tmod ((n : Int) - 3) + (n : Int) - 3) % ((n : Int) - 3) = (k : Int) ∧ k + 4 ≤ n := by
    have h1 := Int.emod_nonneg (at_.tmod ((n : Int) - 3) + (n : Int) - 3) (show (n : Int) - 3 ≠ 0 by omega)
    have h2 := Int.emod_lt_of_pos (at_.tmod ((n : Int) - 3) + (n : Int) - 3) (show 0 < (n : Int) - 3 by omega)
    exact ⟨_, (Int.toNat_of_nonneg h1).symm, by omega⟩
  rw [hk]
  have HK := Lib.hid hk
  clear hk ht0 ht1 hrun
  have hltw3 : w.heap.size < w3.heap.size := by have := hb3.size; have := hb2.size; omega
  have hgw : ErrT w4 := hg.below (later_alloc _ (later hb1 (later hb2 (later hb3 hb4))))
  have hg0 := hg.lt
  go_wp2_with fail
  have hby : ∀ j, j < 4 → w4.cell? ⟨w.heap.size, j, none⟩ = some (bv (bs.getD j 0)) := fun j hj => by
    have h1 : (w.alloc (.cells B 29)).cell? ⟨w.heap.size, j, none⟩ = some (bv (bs.getD j 0)) := by
      refine (World.cell?_alloc_mark w B 29 (0, 0) j).trans ?_
      rw [HBB.out]
      simp [List.getD, show j < bs.length by have := HB.out; omega]
    exact ((later hb2 (later hb3 hb4)).cell (p := ⟨w.heap.size, j, none⟩) hltw).trans ((hb1.cell (p := ⟨w.heap.size, j, none⟩) (by simp)).trans h1)
  obtain ⟨wo, hwo⟩ : ∃ wo : World, wo = w4 := ⟨_, rfl⟩
  go_loopw [12, 13] (fun b i wr => ∃ j : Nat, j ≤ 4 ∧ i = .int .i64 j ∧ b = .bool ((bs.take j).all (· == 0)) ∧ Bytes wr w3.heap.size (turn l k bs j) ∧ Only w3.heap.size w4 wr) (fun _ i _ => 4 - (intOf i).toNat)
  case atStart => exact ⟨0, by omega, rfl, rfl, hBy, only_refl _ _⟩
  case round =>
    obtain ⟨j, hj, rfl, rfl, hBr, hO⟩ := hrel
    by_cases hlt4 : j < 4
    · have hc2 : wr.cell? ⟨w.heap.size, j, none⟩ = some (bv (bs.getD j 0)) := (hO.cell' (p := ⟨w.heap.size, j, none⟩) (by have := hb4.size; have := hb3.size; have := hb2.size; simp; omega) (by have := hb3.size; have := hb2.size; simp; omega)).trans (hby j hlt4)
      have hlk : k + j < (turn l k bs j).length := by rw [turn_len]; have := HLN.out; omega
      obtain ⟨hc1, hf1⟩ := hBr (k + j) _ (List.getElem?_eq_getElem hlk)
      obtain ⟨u, hu⟩ : ∃ u, u = (turn l k bs j)[k + j] := ⟨_, rfl⟩
      rw [← hu] at hc1
      obtain ⟨v, hv⟩ : ∃ v, v = bs.getD j 0 := ⟨_, rfl⟩
      rw [← hv] at hc2
      have HU := Lib.hid hu
      have HV := Lib.hid hv
      have hxr := xor_byte u v
      unfold bv at hc1 hc2
      have hstep : (bs.take (j + 1)).all (· == 0) = ((bs.take j).all (· == 0) && v == 0) := by
        rw [HV.out, List.take_succ_eq_append_getElem (by have := HB.out; omega), List.all_append]
        simp [List.getD, show j < bs.length by have := HB.out; omega]
      have HST := Lib.hid hstep
      have hturn : turn l k bs (j + 1) = (turn l k bs j).set (k + j) (u ^^^ v) := by
        rw [HU.out, HV.out]
        show (turn l k bs j).set (k + j) ((turn l k bs j).getD (k + j) 0 ^^^ bs.getD j 0) = _
        rw [List.getD, List.getElem?_eq_getElem hlk]
        rfl
      have HTU := Lib.hid hturn
      have hset := hBr.set (k + j) (u ^^^ v)
      rw [← hturn] at hset
      have hO2 := only_set hO (k + j) (bv (u ^^^ v))
      rw [show bv (u ^^^ v) = .int .u8 ((u.toNat ^^^ v.toNat : Nat) : Int) from by simp [bv]] at hset hO2
      have hB2 := Lib.hid hset
      have hO3 := Lib.hid hO2
      clear hu hv hby hstep hturn hset hO2 hBr hO
      obtain ⟨q, hq⟩ : ∃ q, q = (bs.take j).all (· == 0) := ⟨_, rfl⟩
      rw [← hq] at HST ⊢
      clear hq
      by_cases hv0 : v = 0
      · have hvb : ((v.toNat : Int) == 0) = true := by rw [hv0]; rfl
        have HV0 := Lib.hid hv0
        clear hv0
        cases q
        all_goals
          go_wp2
          go_region
          all_goals
            go_wp2
            go_roundw
            case rel => exact ⟨j + 1, by omega, by go_num, by rw [HST.out]; simp [HV0.out], hB2.out, only_drew hO3.out⟩
            case measure => simp [intOf]; omega
      · have hvb : ((v.toNat : Int) == 0) = false := by
          simp only [beq_eq_false_iff_ne]
          intro h
          exact hv0 (UInt8.toNat_inj.1 (by simpa using h))
        have HV0 := Lib.hid hv0
        clear hv0
        cases q
        all_goals
          go_wp2
          go_region
          all_goals
            go_wp2
            go_roundw
            case rel => exact ⟨j + 1, by omega, by go_num, by rw [HST.out]; simp [HV0.out], hB2.out, only_drew hO3.out⟩
            case measure => simp [intOf]; omega
    · have hstr2 := string_of (P := Tryd.prog) (src := 24) (dst := 9) hBr cap Tryd.underlying24 Tryd.underlying5 Tryd.underlying9
      rw [turn_len, HLN.out] at hstr2
      obtain rfl : j = 4 := by omega
      have hgr : ErrT wr := (hO.cell' (p := ⟨0, 0, none⟩) hgw.lt (by have := hb3.size; have := hb2.size; simp; omega)).trans hgw
      have hW4 : Below w.heap.size w w4 := later_alloc _ (later hb1 (later hb2 (later hb3 hb4)))
      have hWr : Below w.heap.size w wr := hW4.trans (only_below hO (by have := hb3.size; have := hb2.size; omega) hW4.size)
      have hsz : (⟨(turn l k bs 4).toArray⟩ : ByteArray).size ≤ maxLen := by
        show (turn l k bs 4).toArray.size ≤ _
        rw [List.size_toArray, turn_len, HLN.out]
        unfold maxLen
        omega
      have hfd := HF.out k hkn
      obtain ⟨q, hq⟩ : ∃ q, q = (bs.take 4).all (· == 0) := ⟨_, rfl⟩
      rw [← hq] at hfd ⊢
      clear hq hby hBr hO
      cases q
      · have hfd' : openP ⟨(turn l k bs 4).toArray⟩ = (ByteArray.empty, 17) := by rw [hfd]; rfl
        have HFD := Lib.hid hfd'
        clear hfd hfd'
        go_wp2_with fail
        refine (open_at _ _ hsz ByteArray.empty 17 (.iface 34 (.int .i64 17)) HFD.out rfl).mono ?_
        rintro e w5 ⟨rfl, hb5⟩
        have hg5 := hgr.below hb5
        go_wp2_with fail
        refine (code_hit 17 _ hg5).mono ?_
        rintro e w6 ⟨rfl, hb6⟩
        go_wp2_with fail
        go_ret
        exact ⟨rfl, later hWr (later hb5 hb6)⟩
      · have hfd' : openP ⟨(turn l k bs 4).toArray⟩ = (x, 0) := by rw [hfd]; rfl
        have HFD := Lib.hid hfd'
        clear hfd hfd'
        go_wp2_with fail
        refine (open_at _ _ hsz x 0 .nilIface HFD.out rfl).mono ?_
        rintro e w5 ⟨rfl, hb5⟩
        go_wp2_with fail
        refine (code_nil _).mono ?_
        rintro e w6 ⟨rfl, hb6⟩
        go_wp2_with fail
        refine (short_any s 300 _).mono ?_
        rintro e w7 ⟨rfl, rfl⟩
        rw [← HX.out]
        go_wp2_with fail
        go_ret
        exact ⟨rfl, later hWr (later hb5 hb6)⟩
end Go.Proofs.YtopcohfkfpjecaaDoor
