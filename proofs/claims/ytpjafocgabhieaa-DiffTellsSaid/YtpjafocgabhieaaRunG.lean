/- cell.runs of any row (a range over a function): the iterator's contract (for DiffTells). -/
import Derived.Test.YtpjafocgabhieaaBytR
import Derived.Test.YtpjafocgabhieaaRngL
namespace Go.Proofs.Ytpjafocgabhieaa
open Go.RowKit Go.Shelf
attribute [local go_sem] Oper.semAt_some
set_option maxRecDepth 100000 in
theorem runs_any (A : Option Addr) (n c : Nat) (w : World) : Calls Try.prog 41 #[.slice A n c] w fun e w' => e = .returned (.func (.func 61) #[] #[.pointer (some ⟨w.heap.size, 0, none⟩)]) ∧ w' = w.alloc (.cells #[.slice A n c] 30) := by
  go_enter Try.func41, Try.ntmps41
  go_wp2_with fail
  go_ret
  exact ⟨rfl, rfl⟩
abbrev encRun {L : List (Nat × Cl)} (p : Sub L) : Array Value := #[.int .i64 (p.1.1 : Nat), .agg p.1.2.a]
theorem drop_cons {T : Type} {L R : List T} {j : Nat} {x : T} (h : L.drop j = x :: R) : L[j]? = some x ∧ L.drop (j + 1) = R := by
  have h1 : (L.drop j)[0]? = some x := by rw [h]; rfl
  rw [List.getElem?_drop, Nat.add_zero] at h1
  refine ⟨h1, ?_⟩
  rw [← List.drop_drop, h]
  rfl
set_option maxRecDepth 100000 in
set_option maxHeartbeats 4000000 in
theorem runs_stops (q : Nat) (hq : 1 ≤ q) (S : Nat → Prop) (B n cp : Nat) (ad : Addr) (l : List Cl) (w : World) (hn : n ≤ 12000) (hl : l.length = n) (hSB : S B) (hSa : S ad.block) (hbox : Blk w B 30 #[.slice (some ad) n cp]) (hC : Cels w ad l) :
    SeqStopsK Fence.wide q Try.prog 61 #[.pointer (some ⟨B, 0, none⟩)] (encRun (L := encB l 0)) (KpS S) (fun xs => xs = allS (encB l 0)) (fun pre => pre <+: allS (encB l 0)) (encB l 0).length w := fun lo J Jx W hW hJ hJx hY hJ0 => by
  refine callsIn_of_wp Try.func61 rfl trivial ?_ rfl
  simp only [Try.ntmps61, List.size_toArray, List.length_cons, List.length_nil, Nat.reduceAdd, Nat.reduceSub, Array.replicate_succ, Array.replicate_zero, List.push_toArray, List.append_toArray, List.nil_append, List.cons_append]
  have hboxW := hbox.below hW hbox.lt
  have hCW := hC.below hW
  have hl2 := Lib.hid hl
  clear hbox hC hl
  gi_wp2
  gi_loopw [3] (fun s3 wr => ∃ k j : Nat, k ≤ n + 1 ∧ s3 = .int .i64 (k : Nat) ∧ RowKit.Hid ((encB l 0).drop j = encB l k) ∧ j ≤ (encB l 0).length ∧ J ((allS (encB l 0)).take j) wr ∧ Blk wr B 30 #[.slice (some ad) n cp] ∧ Cels wr ad l ∧ W.heap.size ≤ wr.heap.size) (fun s3 _ => n + 1 - (intOf s3).toNat)
  case atStart => exact ⟨0, 0, by omega, rfl, Lib.hid rfl, by omega, hJ0, hboxW, hCW, Nat.le_refl _⟩
  case round =>
    clear hboxW hCW hJ0
    obtain ⟨k, j, hk, rfl, HJ, hj, hJr, hBr, hCr, hsz⟩ := hrel
    have b0 : wr.cell? ⟨B, 0, none⟩ = some (.slice (some ad) n cp) := hBr.cell 0
    by_cases hlt : k < n
    · have d1 : decide ((k : Int) < (n : Int)) = true := decide_eq_true (by omega)
      have d2 : decide (k < n) = true := decide_eq_true hlt
      obtain ⟨c, hc⟩ : ∃ c, l[k]? = some c := ⟨_, List.getElem?_eq_getElem (by rw [hl2.out]; exact hlt)⟩
      obtain ⟨⟨c0, c1, c2, c3⟩, ok⟩ := hCr k c hc
      obtain ⟨hjx, hjd⟩ := drop_cons (HJ.out.trans (encB_go hc))
      have hjl := (List.getElem?_eq_some_iff.1 hjx).1
      obtain ⟨⟨⟨sn, sc⟩, hsm⟩, hs, _, htk⟩ := all_at hjx
      simp only at hs
      have htl := take_len hjx
      have HX := Lib.hid hjd
      have HS := Lib.hid hs
      have HT := Lib.hid htk
      clear hjd hjx hs htk
      have hM := Blk.new wr 55 c.a
      have hbm := (Below.refl wr.heap.size wr).alloc (Nat.le_refl _) (.cells c.a 55)
      obtain ⟨m, hm⟩ : ∃ m, m = wr.heap.size := ⟨_, rfl⟩
      rw [← hm] at hM
      gi_wp2
      rw [← hm]
      clear hm
      gi_loopw [3, 5] (fun s3 s5 wi => ∃ k' m' : Nat, k' ≤ n + 1 ∧ m' ≤ k' ∧ s3 = .int .i64 (k' : Nat) ∧ s5 = .int .i64 (m' : Nat) ∧ RowKit.Hid (runEnd l c k = runEnd l c k') ∧ RowKit.Hid (runCnt l c k = runCnt l c k' + m') ∧ Blk wi m 55 c.a ∧ Below wr.heap.size wr wi) (fun s3 _ _ => n + 1 - (intOf s3).toNat)
      case atStart => exact ⟨k, 0, hk, by omega, rfl, rfl, Lib.hid rfl, Lib.hid rfl, hM, hbm⟩
      case round =>
        clear hM hbm c0 c1 c2 c3 b0
        obtain ⟨k', m', hk', hmk, rfl, rfl, HE, HN, hMi, hbi⟩ := hrel
        have hBq := hBr.below hbi hBr.lt
        have b0 : wr.cell? ⟨B, 0, none⟩ = some (.slice (some ad) n cp) := hBq.cell 0
        have x0 : wr.cell? ⟨m, 0, none⟩ = some (.int .i32 c.r) := hMi.cell 0
        have x1 : wr.cell? ⟨m, 1, none⟩ = some (.int .u8 (c.f : Int)) := hMi.cell 1
        have x2 : wr.cell? ⟨m, 2, none⟩ = some (.int .u8 (c.b : Int)) := hMi.cell 2
        have x3 : wr.cell? ⟨m, 3, none⟩ = some (.int .u8 (c.x : Int)) := hMi.cell 3
        by_cases hlt' : k' < n
        · have d3 : decide ((k' : Int) < (n : Int)) = true := decide_eq_true (by omega)
          have d4 : decide (k' < n) = true := decide_eq_true hlt'
          have d5 : (k' : Int) < (n : Int) := by omega
          obtain ⟨d, hd⟩ : ∃ d, l[k']? = some d := ⟨_, List.getElem?_eq_getElem (by rw [hl2.out]; exact hlt')⟩
          obtain ⟨⟨e0, e1, e2, e3⟩, _⟩ := hCr.below hbi k' d hd
          have hqe := fun W => eql_cell c d W
          by_cases hdc : d = c
          · have HE2 := Lib.hid (HE.out.trans (runEnd_go (show l[k']? = some c by rw [hd, hdc])))
            have HN2 := Lib.hid (HN.out.trans (by rw [runCnt_go (show l[k']? = some c by rw [hd, hdc])]))
            rw [decide_eq_true hdc] at hqe
            clear hdc
            have hsz2 := fun W => size_gen c ok W
            cases hw : wideC c with
            | false =>
              rw [show stepC c = 1 by unfold stepC; rw [hw]; rfl] at HE2 HN2
              rw [hw] at hsz2
              simp only [Bool.false_eq_true, if_false] at hsz2
              gi_wp2
              gi_big_quiet_th (fail)
              gi_wp2
              refine ⟨trivial, (callsIn_wide.2 (hsz2 _)).mono ?_⟩
              rintro e w5 ⟨rfl, hb5⟩
              have hb6 := (below_drewN hbi nq).trans (hb5.mono hbi.size)
              have hM6 := (hMi.drewN nq).below hb5 hMi.lt
              clear hsz2 hqe b0 x0 x1 x2 x3 e0 e1 e2 e3
              gi_wp2
              go_roundw
              case rel => exact ⟨k' + 1, m' + 1, by omega, by omega, by go_num, by go_num, HE2, Lib.hid (by rw [HN2.out]; omega), hM6, hb6⟩
              case measure => simp [intOf]; omega
            | true =>
              rw [show stepC c = 2 by unfold stepC; rw [hw]; rfl] at HE2 HN2
              rw [hw] at hsz2
              simp only [if_true] at hsz2
              gi_wp2
              gi_big_quiet_th (fail)
              gi_wp2
              refine ⟨trivial, (callsIn_wide.2 (hsz2 _)).mono ?_⟩
              rintro e w5 ⟨rfl, hb5⟩
              have hb6 := (below_drewN hbi nq).trans (hb5.mono hbi.size)
              have hM6 := (hMi.drewN nq).below hb5 hMi.lt
              clear hsz2 hqe b0 x0 x1 x2 x3 e0 e1 e2 e3
              gi_wp2
              go_roundw
              case rel => exact ⟨k' + 2, m' + 1, by omega, by omega, by go_num, by go_num, HE2, Lib.hid (by rw [HN2.out]; omega), hM6, hb6⟩
              case measure => simp [intOf]; omega
          · rw [decide_eq_false hdc] at hqe
            have hdc := Lib.hid (show ¬ l[k']? = some c by rw [hd]; simpa using hdc)
            gi_wp2
            gi_big_quiet_th (fail)
            have hbi := below_drewN hbi nq
            have hMi := hMi.drewN nq
            generalize wr.drewN nq = wi at hbi hMi ⊢
            clear d3 d4 d5 b0 x0 x1 x2 x3 hBq hqe e0 e1 e2 e3
            have HN2 := Lib.hid (show runCnt l c k = m' by rw [HN.out, runCnt_stop hdc.out]; omega)
            have HE2 := Lib.hid (show runEnd l c k = k' by rw [HE.out, runEnd_stop hdc.out])
            have hkk : k < k' := by
              have h1 := HE2.out
              have h2 := runEnd_gt hc
              omega
            obtain ⟨rfl, rfl⟩ : sn = m' ∧ sc = c := by
              have h1 := HS.out
              simp only [Prod.mk.injEq] at h1
              exact ⟨h1.1.trans HN2.out, h1.2⟩
            have z0 : wi.cell? ⟨m, 0, none⟩ = some (.int .i32 sc.r) := hMi.cell 0
            have z1 : wi.cell? ⟨m, 1, none⟩ = some (.int .u8 (sc.f : Int)) := hMi.cell 1
            have z2 : wi.cell? ⟨m, 2, none⟩ = some (.int .u8 (sc.b : Int)) := hMi.cell 2
            have z3 : wi.cell? ⟨m, 3, none⟩ = some (.int .u8 (sc.x : Int)) := hMi.cell 3
            have hJ2 := hJ _ _ wi none hJr (grown_none' hbi) (fun r e => by cases e)
            have hBi := hBr.below hbi hBr.lt
            have hCi := hCr.below hbi
            obtain ⟨fn, tmps, assign, body, hyy, hR⟩ := hY _ ⟨(sn, sc), hsm⟩ _ hJ2 (by rw [htl]; exact hjl)
            dsimp only [encRun] at hyy
            gi_wp2
            refine hR.mono ?_
            rintro e W' (⟨rfl, hJ3, hk3⟩ | ⟨rfl, hJx3⟩)
            · have hB3 := hk3.blk hSB hBi
              have hC3 := hk3.cels hSa hCi
              have hsz3 := Nat.le_trans hsz (Nat.le_trans hbi.size hk3.1)
              have HX2 := Lib.hid (show (encB l 0).drop (j + 1) = encB l k' by rw [HX.out, HE2.out])
              rw [← HT.out] at hJ3
              clear hyy hR z0 z1 z2 z3 hJ2
              gi_wp2
              go_roundw
              case rel => exact ⟨k', j + 1, hk', rfl, HX2, hjl, hJ3, hB3, hC3, hsz3⟩
              case measure => simp [intOf]; omega
            · gi_wp2
              refine bodyPost_ret (results_none rfl _ _ _) rfl ?_
              exact ⟨⟨_, rfl⟩, .inr ⟨_, take_prefix _ (j + 1), by rw [HT.out]; exact hJx3⟩⟩
        · have d3 : decide ((k' : Int) < (n : Int)) = false := decide_eq_false (by omega)
          have d4 : decide (k' < n) = false := decide_eq_false hlt'
          have d5 : ¬ (k' : Int) < (n : Int) := by omega
          have hdc := Lib.hid (show ¬ l[k']? = some c by rw [List.getElem?_eq_none (by rw [hl2.out]; omega)]; simp)
          gi_wp2
          gi_big_quiet_th (fail)
          have hbi := below_drewN hbi nq
          have hMi := hMi.drewN nq
          generalize wr.drewN nq = wi at hbi hMi ⊢
          clear d3 d4 d5 b0 x0 x1 x2 x3 hBq
          have HN2 := Lib.hid (show runCnt l c k = m' by rw [HN.out, runCnt_stop hdc.out]; omega)
          have HE2 := Lib.hid (show runEnd l c k = k' by rw [HE.out, runEnd_stop hdc.out])
          have hkk : k < k' := by
            have h1 := HE2.out
            have h2 := runEnd_gt hc
            omega
          obtain ⟨rfl, rfl⟩ : sn = m' ∧ sc = c := by
            have h1 := HS.out
            simp only [Prod.mk.injEq] at h1
            exact ⟨h1.1.trans HN2.out, h1.2⟩
          have z0 : wi.cell? ⟨m, 0, none⟩ = some (.int .i32 sc.r) := hMi.cell 0
          have z1 : wi.cell? ⟨m, 1, none⟩ = some (.int .u8 (sc.f : Int)) := hMi.cell 1
          have z2 : wi.cell? ⟨m, 2, none⟩ = some (.int .u8 (sc.b : Int)) := hMi.cell 2
          have z3 : wi.cell? ⟨m, 3, none⟩ = some (.int .u8 (sc.x : Int)) := hMi.cell 3
          have hJ2 := hJ _ _ wi none hJr (grown_none' hbi) (fun r e => by cases e)
          have hBi := hBr.below hbi hBr.lt
          have hCi := hCr.below hbi
          obtain ⟨fn, tmps, assign, body, hyy, hR⟩ := hY _ ⟨(sn, sc), hsm⟩ _ hJ2 (by rw [htl]; exact hjl)
          dsimp only [encRun] at hyy
          gi_wp2
          refine hR.mono ?_
          rintro e W' (⟨rfl, hJ3, hk3⟩ | ⟨rfl, hJx3⟩)
          · have hB3 := hk3.blk hSB hBi
            have hC3 := hk3.cels hSa hCi
            have hsz3 := Nat.le_trans hsz (Nat.le_trans hbi.size hk3.1)
            have HX2 := Lib.hid (show (encB l 0).drop (j + 1) = encB l k' by rw [HX.out, HE2.out])
            rw [← HT.out] at hJ3
            clear hyy hR z0 z1 z2 z3 hJ2
            gi_wp2
            go_roundw
            case rel => exact ⟨k', j + 1, hk', rfl, HX2, hjl, hJ3, hB3, hC3, hsz3⟩
            case measure => simp [intOf]; omega
          · gi_wp2
            refine bodyPost_ret (results_none rfl _ _ _) rfl ?_
            exact ⟨⟨_, rfl⟩, .inr ⟨_, take_prefix _ (j + 1), by rw [HT.out]; exact hJx3⟩⟩
    · have d1 : decide ((k : Int) < (n : Int)) = false := decide_eq_false (by omega)
      have d2 : decide (k < n) = false := decide_eq_false hlt
      have HE := Lib.hid (show (allS (encB l 0)).take j = allS (encB l 0) by
        have h1 := HJ.out
        rw [encB_stop (l := l) (i := k) (by rw [hl2.out]; omega)] at h1
        exact List.take_of_length_le (by rw [all_len]; simpa using h1))
      rw [HE.out] at hJr
      gi_wp2
      go_end0
      exact ⟨⟨_, rfl⟩, .inl ⟨_, rfl, hJr⟩⟩
end Go.Proofs.Ytpjafocgabhieaa
