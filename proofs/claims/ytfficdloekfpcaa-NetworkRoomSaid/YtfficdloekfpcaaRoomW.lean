/- NetworkRoom, walked. (Types and functions by this seat's numbers.) -/
import Derived.Test.YtfficdloekfpcaaRoomC
import Derived.Test.YtfficdloekfpcaaMsgN
import Derived.Deep.CutBlock
namespace Go.Proofs.Ytfficdloekfpcaa
open Go.RowKit Go.Maps
/-- The slice at A has n steps. -/
def OpsAt (w : World) (A : Option Addr) (n : Nat) : Prop := ∀ i, i < n → ∃ ad, A = some ad ∧ ∃ (kd fr tt ix at_ b0 b1 b2 b3 : Int) (s : ByteArray) (far : Bool), ∀ j u, (opC kd fr tt ix at_ b0 b1 b2 b3 s far)[j]? = some u → w.cell? ((ad.add (i * 11)).add j) = some u
theorem OpsAt.below {w w' : World} {A : Option Addr} {n : Nat} (h : OpsAt w A n) {B : Nat} (hb : Below B w w') (hB : w.heap.size ≤ B) : OpsAt w' A n := by
  intro i hi
  obtain ⟨ad, he, kd, fr, tt, ix, at_, b0, b1, b2, b3, s, far, hc⟩ := h i hi
  refine ⟨ad, he, kd, fr, tt, ix, at_, b0, b1, b2, b3, s, far, fun j u hj => ?_⟩
  have h1 := hc j u hj
  have h2 := World.block_lt_of_cell? w _ h1
  exact (hb.cell (by omega)).trans h1
set_option maxRecDepth 100000 in
set_option maxHeartbeats 4000000 in
theorem networkRoom_walk (r : Int) (A : Option Addr) (n c : Nat) (w : World) (hA : OpsAt w A n) (hn : n ≤ maxLen) : Calls Try.prog 4 #[.int .i64 r, .slice A n c] w fun e w' => e = .returned (.bool true) ∧ Below w.heap.size w w' := by
  unfold maxLen at hn
  go_enter Try.func4, Try.ntmps4
  go_wp2_with fail
  refine (awake_net w).mono ?_
  rintro e w1 ⟨rfl, hb1⟩
  have hA1 := hA.below hb1 (Nat.le_refl _)
  go_wp2_with fail
  refine (new_net r w1).mono ?_
  rintro e w2 ⟨rfl, hN2, hb2⟩
  have hA2 := hA1.below hb2 (Nat.le_refl _)
  obtain ⟨most, hmost⟩ : ∃ x, x = min (max r 1) 12 := ⟨_, rfl⟩
  rw [← hmost] at hN2
  have HM := Lib.hid hmost
  have hm12 : 1 ≤ most ∧ most ≤ 12 := by omega
  clear hmost
  go_upto_region 5 with fail
  go_cut [7] from 19 to 135 (fun s7 wx => s7 = .int .i64 most ∧ wx = w2)
  case first =>
    clear hm12
    rcases (show r < 1 ∨ (1 ≤ r ∧ 12 < r) ∨ (1 ≤ r ∧ r ≤ 12) by omega) with h | ⟨h, h2⟩ | ⟨h, h2⟩
    all_goals
      go_wp2_with fail
      all_goals
        go_meet
        exact ⟨congrArg (Value.int .i64) (by have := HM.out; omega), rfl⟩
  case rest =>
  obtain ⟨rfl, rfl⟩ := hcut
  have h23 : Net23 wc w1.heap.size 0 most 0 := ⟨0, [], _, 0, hN2, InvW.nil (by omega), rfl, by omega, by omega, by omega⟩
  have hmlt := h23.lt
  clear hN2 HM
  go_wp2_with fail
  go_loopw [8, 9, 10] (fun s8 s9 s10 wr => ∃ k N g : Nat, k ≤ 80 ∧ k ≤ n ∧ s10 = .int .i64 (k : Nat) ∧ s8 = .int .i64 ((g + N : Nat) : Int) ∧ s9 = .int .i64 (g : Nat) ∧ g + N ≤ k ∧ Net23 wr w1.heap.size k most N ∧ Below w1.heap.size w1 wr) (fun _ _ i _ => n - (intOf i).toNat)
  case atStart => exact ⟨0, 0, 0, by omega, by omega, rfl, rfl, rfl, by omega, h23, hb2⟩
  case round =>
    obtain ⟨k, N, g, hk80, hkn, rfl, rfl, rfl, hgk, hN, hbr⟩ := hrel
    by_cases hlt : k < n ∧ k < 80
    · obtain ⟨hlt, hl80⟩ := hlt
      have hAr := hA1.below hbr (by omega)
      obtain ⟨ad, rfl, kd, fr, tt, ix, at_, b0, b1, b2, b3, s, far, hc⟩ := hAr k hlt
      have c0 : wr.cell? (ad.add (k * 11)) = some (.int .i64 kd) := hc 0 _ rfl
      have c1 : wr.cell? ⟨(ad.add (k * 11)).block, (ad.add (k * 11)).off + 1, none⟩ = some (.int .i64 fr) := hc 1 _ rfl
      have c2 : wr.cell? ⟨(ad.add (k * 11)).block, (ad.add (k * 11)).off + 2, none⟩ = some (.int .i64 tt) := hc 2 _ rfl
      have c3 : wr.cell? ⟨(ad.add (k * 11)).block, (ad.add (k * 11)).off + 3, none⟩ = some (.int .i64 ix) := hc 3 _ rfl
      have c4 : wr.cell? ⟨(ad.add (k * 11)).block, (ad.add (k * 11)).off + 4, none⟩ = some (.int .i64 at_) := hc 4 _ rfl
      have c5 : wr.cell? ⟨(ad.add (k * 11)).block, (ad.add (k * 11)).off + 5, none⟩ = some (.int .u8 b0) := hc 5 _ rfl
      have c6 : wr.cell? ⟨(ad.add (k * 11)).block, (ad.add (k * 11)).off + 6, none⟩ = some (.int .u8 b1) := hc 6 _ rfl
      have c7 : wr.cell? ⟨(ad.add (k * 11)).block, (ad.add (k * 11)).off + 7, none⟩ = some (.int .u8 b2) := hc 7 _ rfl
      have c8 : wr.cell? ⟨(ad.add (k * 11)).block, (ad.add (k * 11)).off + 8, none⟩ = some (.int .u8 b3) := hc 8 _ rfl
      have c9 : wr.cell? ⟨(ad.add (k * 11)).block, (ad.add (k * 11)).off + 9, none⟩ = some (.string s) := hc 9 _ rfl
      have c10 : wr.cell? ⟨(ad.add (k * 11)).block, (ad.add (k * 11)).off + 10, none⟩ = some (.bool far) := hc 10 _ rfl
      have hP := Blk.new wr 37 (opC kd fr tt ix at_ b0 b1 b2 b3 s false)
      have hNa := hN.below ((Below.refl _ _).alloc (Nat.le_refl _) (.cells (opC kd fr tt ix at_ b0 b1 b2 b3 s false) 37))
      have hba := hbr.alloc hbr.size (.cells (opC kd fr tt ix at_ b0 b1 b2 b3 s false) 37)
      obtain ⟨kk, hkk, hek⟩ := and_low kd 15 15 rfl (by omega)
      have hH : w1.heap.size ≤ wr.heap.size := hbr.size
      go_upto_block 2 with (fail)
      clear c0 c1 c2 c3 c4 c5 c6 c7 c8 c9 c10 hc hAr hA2 hA1 hA
      generalize wr.alloc (.cells (opC kd fr tt ix at_ b0 b1 b2 b3 s false) 37) = w3 at hP hNa hba ⊢
      go_cut [9, 12, 13, 14] from 27 to 134 (fun s9 s12 _ _ wx => ∃ (ok : Bool) (N' g' : Nat), s9 = .int .i64 (g' : Nat) ∧ s12 = .bool ok ∧ g' + N' = g + N + ok.toNat ∧ Net23 wx w1.heap.size (k + 1) most N' ∧ Below w1.heap.size w1 wx)
      case first =>
        clear hek
        have c0 : w3.cell? ⟨wr.heap.size, 0, none⟩ = some (.int .i64 kd) := hP.cell 0
        have c1 : w3.cell? ⟨wr.heap.size, 1, none⟩ = some (.int .i64 fr) := hP.cell 1
        have c2 : w3.cell? ⟨wr.heap.size, 2, none⟩ = some (.int .i64 tt) := hP.cell 2
        have c3 : w3.cell? ⟨wr.heap.size, 3, none⟩ = some (.int .i64 ix) := hP.cell 3
        have c4 : w3.cell? ⟨wr.heap.size, 4, none⟩ = some (.int .i64 at_) := hP.cell 4
        have c5 : w3.cell? ⟨wr.heap.size, 5, none⟩ = some (.int .u8 b0) := hP.cell 5
        have c6 : w3.cell? ⟨wr.heap.size, 6, none⟩ = some (.int .u8 b1) := hP.cell 6
        have c7 : w3.cell? ⟨wr.heap.size, 7, none⟩ = some (.int .u8 b2) := hP.cell 7
        have c8 : w3.cell? ⟨wr.heap.size, 8, none⟩ = some (.int .u8 b3) := hP.cell 8
        have c9 : w3.cell? ⟨wr.heap.size, 9, none⟩ = some (.string s) := hP.cell 9
        have c10 : w3.cell? ⟨wr.heap.size, 10, none⟩ = some (.bool false) := hP.cell 10
        have hw3 := hP.lt
        rcases (show (kk = 0 ∨ kk = 1 ∨ kk = 2 ∨ kk = 3 ∨ kk = 4) ∨ kk = 5 ∨ (kk = 6 ∨ kk = 7) ∨ kk = 8 ∨ (kk = 9 ∨ kk = 10) ∨ (kk = 11 ∨ kk = 12 ∨ kk = 13 ∨ kk = 14 ∨ kk = 15) by omega) with h | rfl | h | rfl | h | h
        · rcases h with rfl | rfl | rfl | rfl | rfl
          all_goals
            go_wp2_with fail
            refine (packet_any kd fr tt ix at_ b0 b1 b2 b3 s w3).mono ?_
            rintro e w4 ⟨⟨a, c, s', ha, hc, hs', rfl⟩, hb4⟩
            have hN4 := hNa.below hb4
            go_wp2_with fail
            refine (send23 w1.heap.size k most N a c s' w4 hN4 (by omega) (by omega) ha hc hs').mono ?_
            rintro e w5 ⟨ok, rfl, hN5, hb5⟩
            go_wp2_with fail
            go_meet
            exact ⟨ok, N + ok.toNat, g, rfl, rfl, by omega, hN5, (hba.trans (hb4.mono (by omega))).trans hb5⟩
        · go_wp2_with fail
          refine (packet_any kd fr tt ix at_ b0 b1 b2 b3 s w3).mono ?_
          rintro e w4 ⟨⟨a, c, s', ha, hc, hs', rfl⟩, hb4⟩
          have hN4 := hNa.below hb4
          go_wp2_with fail
          refine (inject23 w1.heap.size k most N a c s' w4 hN4 (by omega) (by omega) ha hc hs').mono ?_
          rintro e w5 ⟨ok, rfl, hN5, hb5⟩
          go_wp2_with fail
          go_meet
          exact ⟨ok, N + ok.toNat, g, rfl, rfl, by omega, hN5, (hba.trans (hb4.mono (by omega))).trans hb5⟩
        · rcases h with rfl | rfl
          all_goals
            go_wp2_with fail
            refine (at_any kd fr tt ix at_ b0 b1 b2 b3 s w3).mono ?_
            rintro e w4 ⟨⟨j, hj, rfl⟩, hb4⟩
            have hN4 := hNa.below hb4
            go_wp2_with fail
            refine (take23 w1.heap.size k most N j w4 hN4 (by omega) (by omega)).mono ?_
            rintro e w5 ⟨ok, a, c, s', rfl, hok, hN5, hb5⟩
            have hl5 := hN5.lt
            have hb6 := ((hba.trans (hb4.mono (by omega))).trans hb5).alloc (show w1.heap.size ≤ w5.heap.size by omega) (.cells #[.int .i64 a, .int .i64 c, .string s'] 27)
            have hN6 := hN5.below ((Below.refl _ _).alloc (Nat.le_refl _) (.cells #[.int .i64 a, .int .i64 c, .string s'] 27))
            cases ok
            · go_wp2_with fail
              go_meet
              exact ⟨false, N, g, rfl, rfl, rfl, hN6, hb6⟩
            · have h1N : 1 ≤ N := hok
              go_wp2_with fail
              go_meet
              exact ⟨false, N - 1, g + 1, by go_num, rfl, by simp; omega, hN6, hb6⟩
        · go_wp2_with fail
          refine (at_any kd fr tt ix at_ b0 b1 b2 b3 s w3).mono ?_
          rintro e w4 ⟨⟨j, hj, rfl⟩, hb4⟩
          have hN4 := hNa.below hb4
          go_wp2_with fail
          refine (drop23 w1.heap.size k most N j w4 hN4 (by omega) (by omega)).mono ?_
          rintro e w5 ⟨ok, rfl, hok, hN5, hb5⟩
          have hb6 := (hba.trans (hb4.mono (by omega))).trans hb5
          cases ok
          · go_wp2_with fail
            go_meet
            exact ⟨false, N, g, rfl, rfl, rfl, hN5, hb6⟩
          · have h1N : 1 ≤ N := hok
            go_wp2_with fail
            go_meet
            exact ⟨false, N - 1, g + 1, by go_num, rfl, by simp; omega, hN5, hb6⟩
        · rcases h with rfl | rfl
          all_goals
            go_wp2_with fail
            refine (at_any kd fr tt ix at_ b0 b1 b2 b3 s w3).mono ?_
            rintro e w4 ⟨⟨j, hj, rfl⟩, hb4⟩
            have hN4 := hNa.below hb4
            go_wp2_with fail
            refine (copy23 w1.heap.size k most N j w4 hN4 (by omega) (by omega)).mono ?_
            rintro e w5 ⟨ok, rfl, hN5, hb5⟩
            go_wp2_with fail
            go_meet
            exact ⟨ok, N + ok.toNat, g, rfl, rfl, by omega, hN5, (hba.trans (hb4.mono (by omega))).trans hb5⟩
        · rcases h with rfl | rfl | rfl | rfl | rfl
          all_goals
            go_wp2_with fail
            go_meet
            exact ⟨false, N, g, rfl, rfl, rfl, hNa.more, hba⟩
      case rest =>
      obtain ⟨ok, N', g', rfl, rfl, hgN, hN3, hb3⟩ := hcut
      have hok1 : ok.toNat ≤ 1 := Bool.toNat_le ok
      clear hP hNa hba hN hbr h23 hek hb2
      go_upto_if 89 with fail
      go_cut [8] from 27 to 134 (fun s8 wx => s8 = .int .i64 ((g' + N' : Nat) : Int) ∧ wx = wc)
      case first =>
        cases ok
        · have hgN' : g' + N' = g + N := hgN
          have HG := Lib.hid hgN'
          clear hgN hgN'
          go_wp2_with fail
          go_meet
          exact ⟨by rw [HG.out], rfl⟩
        · have hgN' : g' + N' = g + N + 1 := hgN
          have HG := Lib.hid hgN'
          clear hgN hgN'
          go_wp2_with fail
          go_meet
          exact ⟨by rw [HG.out]; go_num, rfl⟩
      case rest =>
      obtain ⟨rfl, rfl⟩ := hcut
      obtain ⟨nn, ps, f, lost, hN4, hI, hpl, _, _, _⟩ := hN3
      have hin := hI.sum
      have HI := Lib.hid hin
      have HPL := Lib.hid hpl
      have HGN := Lib.hid hgN
      clear hin hgN hpl
      go_wp2_with fail
      go_loop [15, 16, 17, 18] (fun s15 s16 _ _ => ∃ x : Nat, x ≤ 4 ∧ s16 = .int .i64 (x : Nat) ∧ s15 = .int .i64 (sumTo f (4 * x))) (fun _ s16 _ _ => 4 - (intOf s16).toNat)
      case atStart => exact ⟨0, by omega, rfl, rfl⟩
      case round =>
        obtain ⟨x, hx, rfl, rfl⟩ := hrel
        by_cases hx4 : x < 4
        · go_wp2_with fail
          go_loop [15, 17, 18] (fun s15 s17 _ => ∃ t : Nat, t ≤ 4 ∧ s17 = .int .i64 (t : Nat) ∧ s15 = .int .i64 (sumTo f (4 * x + t))) (fun _ s17 _ => 4 - (intOf s17).toNat)
          case atStart => exact ⟨0, by omega, rfl, rfl⟩
          case round =>
            obtain ⟨t, ht, rfl, rfl⟩ := hrel
            by_cases ht4 : t < 4
            · obtain ⟨v, hv⟩ : ∃ v, v = f (x : Nat) (t : Nat) := ⟨_, rfl⟩
              obtain ⟨S, hS⟩ : ∃ S, S = sumTo f (4 * x + t) := ⟨_, rfl⟩
              have hv0 : 0 ≤ v := by rw [hv]; exact hI.pos _ _
              have hv1 : v ≤ most := by rw [hv]; exact hI.most _ _
              have hSb := sumTo_le f 12 (fun a c => ⟨hI.pos a c, by have := hI.most a c; omega⟩) (4 * x + t)
              rw [← hS] at hSb
              have hS0 : 0 ≤ S := hSb.1
              have hS1 : S ≤ 192 := by omega
              have hnext : sumTo f (4 * x + (t + 1)) = S + v := by
                rw [hS, hv]
                show sumTo f (4 * x + t) + f (((4 * x + t) / 4 : Nat) : Int) (((4 * x + t) % 4 : Nat) : Int) = _
                rw [show (4 * x + t) / 4 = x from by omega, show (4 * x + t) % 4 = t from by omega]
              have hv2 : v ≤ 12 := by omega
              have hdiag : x = t → v = 0 := fun h => by rw [hv, h]; exact hI.diag _
              have d1 : decide (v < 0) = false := decide_eq_false (by omega)
              have d2 : decide (most < v) = false := decide_eq_false (by omega)
              have d3 : decide (v > most) = false := decide_eq_false (by omega)
              have hbt := between_any w1.heap.size nn most lost ps f (x : Nat) (t : Nat) wc hN4 ⟨by omega, by omega⟩ ⟨by omega, by omega⟩
              rw [← hv] at hbt
              rw [← hS]
              have HN := Lib.hid hnext
              clear hnext hv hS hSb hm12
              by_cases hxt : x = t
              · have hv' := hdiag hxt
                have HV := Lib.hid hv'
                have d4 : decide (0 < v) = false := decide_eq_false (by omega)
                have d5 : decide (v > 0) = false := decide_eq_false (by omega)
                clear hv' hdiag
                subst hxt
                go_wp2_with fail
                refine hbt.mono ?_
                rintro e w9 ⟨rfl, rfl⟩
                clear hbt
                go_wp2_with fail
                go_round
                case rel => exact ⟨x + 1, by omega, by go_num, by rw [HN.out]⟩
                case measure => simp [intOf]; omega
              · have d4 : ((x : Int) == (t : Int)) = false := by simp; omega
                have d5 : decide (x = t) = false := decide_eq_false hxt
                clear hdiag
                go_wp2_with fail
                refine hbt.mono ?_
                rintro e w9 ⟨rfl, rfl⟩
                clear hbt
                go_wp2_with fail
                go_round
                case rel => exact ⟨t + 1, by omega, by go_num, by rw [HN.out]⟩
                case measure => simp [intOf]; omega
            · obtain rfl : t = 4 := by omega
              go_wp2_with fail
              go_round
              case rel =>
                refine ⟨_, _, _, ⟨x + 1, by omega, ?_, ?_⟩, rfl, rfl, rfl⟩
                · go_num
                · rw [show 4 * (x + 1) = 4 * x + 4 from by omega]
              case measure => simp [intOf]; omega
        · obtain rfl : x = 4 := by omega
          rw [show 4 * 4 = 16 from rfl, HI.out]
          have hsub : (wrap64 ((g' : Int) + (N' : Int) - (g' : Int)) != ((ps.length : Nat) : Int)) = false := by
            rw [HPL.out]
            have e : wrap64 ((g' : Int) + (N' : Int) - (g' : Int)) = (N' : Nat) := by
              have := HGN.out
              unfold wrap64
              omega
            rw [e]
            simp
          have hlen := len_any w1.heap.size nn most lost ps f wc hN4
          have HS := Lib.hid hsub
          clear hsub
          go_wp2_with fail
          refine hlen.mono ?_
          rintro e w9 ⟨rfl, rfl⟩
          have hsub := HS.out
          clear HS
          go_wp2_with fail
          refine hlen.mono ?_
          rintro e w9 ⟨rfl, rfl⟩
          go_wp2_with fail
          have hg1 := HGN.out
          refine ⟨⟨k + 1, N', g', by omega, by omega, by go_num, by go_num, rfl, by omega, ⟨nn, ps, f, lost, hN4, hI, HPL.out, by omega, by omega, by omega⟩, hb3⟩, ?_⟩
          simp [intOf]
          omega
    · go_wp2_with fail
      all_goals
        go_ret
        exact ⟨rfl, hb1.trans (hbr.mono hb1.size)⟩
end Go.Proofs.Ytfficdloekfpcaa
