/- The document's Bytes of a row: walked (for DiffTells). -/
import Derived.Test.YtpjafocgabhieaaCelE
import Derived.Test.YtpjafocgabhieaaMgP
import Derived.Test.YtpjafocgabhieaaRefO
namespace Go.Proofs.Ytpjafocgabhieaa
open Go.RowKit Go.Sort Nums
theorem runN_fit {p : Nat × Cl} (h : OkC p.2) (h1 : p.1 ≤ 1000000) : Fit (runN p) := fun n hn => by
  have := h.r0
  have := h.r1
  have := h.f
  have := h.b
  have := h.x
  simp only [runN, List.mem_cons, List.not_mem_nil, or_false] at hn
  rcases hn with rfl | rfl | rfl | rfl | rfl <;> omega
theorem putR_len : ∀ (L : List (Nat × Cl)), (∀ p ∈ L, OkC p.2 ∧ p.1 ≤ 1000000) → (putR L).length ≤ 50 * L.length
  | [], _ => by simp [putR]
  | p :: L, h => by
    have h1 := putR_len L (fun q hq => h q (by simp [hq]))
    have h2 := putL_len (runN p) (runN_fit (h p (by simp)).1 (h p (by simp)).2)
    rw [putR_cons, List.length_append, List.length_cons]
    simp only [runN, List.length_cons, List.length_nil] at h2
    simp only [runN]
    omega
theorem enc_len {l : List Cl} (hok : OkL l) (hn : l.length ≤ 12000) (i : Nat) : (putR (encB l i)).length ≤ 600000 := by
  have h1 := putR_len (encB l i) (fun p hp => by
    have := encB_mem l i p hp
    exact ⟨hok _ this.1, by omega⟩)
  have h2 := encB_len l i
  omega
theorem bytesP_len {l : List Cl} (hok : OkL l) (hn : l.length ≤ 12000) : (bytesP l).length ≤ 600000 := by
  unfold bytesP
  split
  · exact enc_len hok hn 0
  · simp
theorem ok_wrap {c : Cl} (h : OkC c) : wrap64 c.r = c.r ∧ wrap64 (c.f : Int) = (c.f : Int) ∧ wrap64 (c.b : Int) = (c.b : Int) ∧ wrap64 (c.x : Int) = (c.x : Int) := by
  obtain ⟨h0, h1, h2, h3, h4⟩ := h
  refine ⟨?_, ?_, ?_, ?_⟩ <;> (unfold wrap64; omega)
theorem cell_eqb {l : List Cl} {k : Nat} {c d : Cl} (h : l[k]? = some d) : decide (l[k]? = some c) = decide (d = c) := by
  rw [h]
  simp
set_option maxRecDepth 100000 in
set_option maxHeartbeats 4000000 in
theorem bytesR_gen (A : Option Addr) (n cp : Nat) (l : List Cl) (w : World) (hn : n ≤ 12000) (hS : RowS w A n cp l) :
    Calls Try.prog 22 #[.slice A n cp] w fun e w' => e = .returned (.string ⟨(bytesP l).toArray⟩) ∧ Below w.heap.size w w' := by
  have hright := fun W h => rightR_gen A n cp l W hS.len (by omega) h
  have HS := Lib.hid hS
  have HT := Lib.hid (enc_len hS.ok (by rw [hS.len]; exact hn) 0)
  rw [← right_ref] at hright
  have hr0 := hS.row
  clear hS
  cases hq : rightP l with
  | false =>
    have HP := Lib.hid (show bytesP l = [] by unfold bytesP; rw [hq]; rfl)
    rw [hq] at hright
    clear hq
    go_enter Try.func22, Try.ntmps22
    go_wp2_with fail
    refine (hright _ hr0).mono ?_
    rintro e w1 ⟨rfl, hb1⟩
    go_wp2_with fail
    go_loopw [4, 5] (fun s4 s5 wr => s4 = .string ⟨#[]⟩ ∧ s5 = .int .i64 0 ∧ Below w.heap.size w wr) (fun _ _ _ => 0)
    case atStart => exact ⟨rfl, rfl, hb1⟩
    case round =>
      obtain ⟨rfl, rfl, hbr⟩ := hrel
      by_cases h0 : 0 < n
      · have d1 : decide ((0 : Int) < (n : Int)) = true := decide_eq_true (by omega)
        have d2 : decide (0 < n) = true := decide_eq_true h0
        go_wp2_with fail
        go_ret
        exact ⟨ret_string HP.out.symm, hbr⟩
      · have d1 : decide ((0 : Int) < (n : Int)) = false := decide_eq_false (by omega)
        have d2 : decide (0 < n) = false := decide_eq_false h0
        go_wp2_with fail
        go_ret
        exact ⟨ret_string HP.out.symm, hbr⟩
  | true =>
    have HP := Lib.hid (show bytesP l = putR (encB l 0) by unfold bytesP; rw [hq]; rfl)
    rw [hq] at hright
    clear hq
    go_enter Try.func22, Try.ntmps22
    go_wp2_with fail
    refine (hright _ hr0).mono ?_
    rintro e w1 ⟨rfl, hb1⟩
    clear hright hr0
    go_wp2_with fail
    go_loopw [4, 5] (fun s4 s5 wr => ∃ (k : Nat) (L : List UInt8), k ≤ n + 1 ∧ s4 = .string ⟨L.toArray⟩ ∧ s5 = .int .i64 (k : Nat) ∧ L ++ putR (encB l k) = putR (encB l 0) ∧ Below w.heap.size w wr) (fun _ s5 _ => n - (intOf s5).toNat)
    case atStart => exact ⟨0, [], by omega, rfl, rfl, rfl, hb1⟩
    case round =>
      clear hb1
      obtain ⟨k, L, hk, rfl, rfl, hL, hbr⟩ := hrel
      have HL := Lib.hid hL
      have hLl : L.length ≤ 600000 := by
        have h1 := congrArg List.length hL
        have h2 := HT.out
        rw [List.length_append] at h1
        omega
      clear hL
      by_cases hlt : k < n
      · have d1 : decide ((k : Int) < (n : Int)) = true := decide_eq_true (by omega)
        have d2 : decide (k < n) = true := decide_eq_true hlt
        obtain ⟨ad, rfl, hC⟩ := HS.out.row (by rw [HS.out.len]; omega)
        obtain ⟨c, hc⟩ : ∃ c, l[k]? = some c := ⟨_, List.getElem?_eq_getElem (by rw [HS.out.len]; exact hlt)⟩
        obtain ⟨⟨c0, c1, c2, c3⟩, ok⟩ := hC.below hbr k c hc
        have hM := (Blk.new wr 55 c.a)
        have hbm := hbr.alloc hbr.size (.cells c.a 55)
        have hwd := fun W => wideR_gen c ok W
        have hkm := hbr.size
        obtain ⟨m, hm⟩ : ∃ m, m = wr.heap.size := ⟨_, rfl⟩
        rw [← hm] at hM hkm
        cases hw : wideC c with
        | false =>
          rw [hw] at hwd
          go_wp2_with fail
          refine (hwd _).mono ?_
          rintro e w2 ⟨rfl, hb2⟩
          have hM2 := hM.below hb2 hM.lt
          have hbm2 := hbm.trans (hb2.mono hbm.size)
          clear hwd hM hbm hb2
          go_wp2_with fail
          rw [← hm]
          clear hm
          go_loopw [5, 8] (fun s5 s8 wi => ∃ k' m' : Nat, k' ≤ n + 1 ∧ m' ≤ k' ∧ s5 = .int .i64 (k' : Nat) ∧ s8 = .int .i64 (m' : Nat) ∧ RowKit.Hid (runEnd l c k = runEnd l c k') ∧ RowKit.Hid (runCnt l c k = runCnt l c k' + m') ∧ Blk wi m 55 c.a ∧ Below w.heap.size w wi) (fun s5 _ _ => n + 1 - (intOf s5).toNat)
          case atStart => exact ⟨k, 0, hk, by omega, rfl, rfl, Lib.hid rfl, Lib.hid rfl, hM2, hbm2⟩
          case round =>
            clear hM2 hbm2
            obtain ⟨k', m', hk', hmk, rfl, rfl, HE, HN, hMi, hbi⟩ := hrel
            by_cases hlt' : k' < n
            · have d3 : decide ((k' : Int) < (n : Int)) = true := decide_eq_true (by omega)
              have d4 : decide (k' < n) = true := decide_eq_true hlt'
              have d5 : (k' : Int) < (n : Int) := by omega
              obtain ⟨d, hd⟩ : ∃ d, l[k']? = some d := ⟨_, List.getElem?_eq_getElem (by rw [HS.out.len]; exact hlt')⟩
              obtain ⟨⟨e0, e1, e2, e3⟩, _⟩ := hC.below hbi k' d hd
              have y0 := cell_regrown e0
              have y1 := cell_regrown e1
              have y2 := cell_regrown e2
              have y3 := cell_regrown e3
              have x0 : ∀ d os, (grow (redrawn wr d) os).cell? ⟨m, 0, none⟩ = some (.int .i32 c.r) := cell_regrown (hMi.cell 0)
              have x1 : ∀ d os, (grow (redrawn wr d) os).cell? ⟨m, 1, none⟩ = some (.int .u8 (c.f : Int)) := cell_regrown (hMi.cell 1)
              have x2 : ∀ d os, (grow (redrawn wr d) os).cell? ⟨m, 2, none⟩ = some (.int .u8 (c.b : Int)) := cell_regrown (hMi.cell 2)
              have x3 : ∀ d os, (grow (redrawn wr d) os).cell? ⟨m, 3, none⟩ = some (.int .u8 (c.x : Int)) := cell_regrown (hMi.cell 3)
              have hqe := fun W => eql_cell c d W
              by_cases hdc : d = c
              · have HE2 := Lib.hid (HE.out.trans (runEnd_go (show l[k']? = some c by rw [hd, hdc])))
                have HN2 := Lib.hid (HN.out.trans (by rw [runCnt_go (show l[k']? = some c by rw [hd, hdc])]))
                rw [show stepC c = 1 by unfold stepC; rw [hw]; rfl] at HE2 HN2
                rw [decide_eq_true hdc] at hqe
                clear hdc
                go_upto_region 10 with fail
                refine wp_region_quiet_below (by kernel_rfl) (by kernel_rfl) ?_
                repeat (first | go_big_quiet_step (fail) | quiet_step (fail))
                refine wpQuiet_nil ?_
                intro _ hw'
                obtain ⟨⟨dq, osq⟩, hw''⟩ := hw'
                subst hw''
                have hb7 := hbi.trans ((below_regrown _ dq osq).mono hbi.size)
                have hM7 := hMi.below (below_regrown _ dq osq) hMi.lt
                clear x0 x1 x2 x3 y0 y1 y2 y3 hqe
                go_wp2_with fail
                go_roundw
                case rel => exact ⟨k' + 1, m' + 1, by omega, by omega, by go_num, by go_num, HE2, Lib.hid (by rw [HN2.out]; omega), hM7, hb7⟩
                case measure => simp [intOf]; omega
              · rw [decide_eq_false hdc] at hqe
                have hdc := Lib.hid (show ¬ l[k']? = some c by rw [hd]; simpa using hdc)
                go_upto_region 10 with fail
                refine wp_region_quiet_below (by kernel_rfl) (by kernel_rfl) ?_
                repeat (first | go_big_quiet_step (fail) | quiet_step (fail))
                refine wpQuiet_nil ?_
                intro _ hw'
                obtain ⟨⟨dq, osq⟩, hw''⟩ := hw'
                subst hw''
                have hb7 := hbi.trans ((below_regrown _ dq osq).mono hbi.size)
                have hM7 := hMi.below (below_regrown _ dq osq) hMi.lt
                clear x0 x1 x2 x3 y0 y1 y2 y3 e0 e1 e2 e3 hqe hbi hMi d3 d4 d5
                generalize grow (redrawn wr dq) osq = wi at hb7 hM7 ⊢
                have hbi := hb7
                have hMi := hM7
                clear hb7 hM7
                have HN2 := Lib.hid (show runCnt l c k = m' by rw [HN.out, runCnt_stop (by first | exact hdc.out | exact hdc)]; omega)
                have HE2 := Lib.hid (show runEnd l c k = k' by rw [HE.out, runEnd_stop (by first | exact hdc.out | exact hdc)])
                have hm0 : 1 ≤ m' := by
                  have h1 := HN2.out
                  have h2 := runCnt_pos hc
                  omega
                have hkk : k < k' := by
                  have h1 := HE2.out
                  have h2 := runEnd_gt hc
                  omega
                have i1 : wrap64 ((m' : Int) - 1) = (m' : Int) - 1 := by
                  unfold wrap64
                  omega
                have z0 : wi.cell? ⟨m, 0, none⟩ = some (.int .i32 c.r) := hMi.cell 0
                have z1 : wi.cell? ⟨m, 1, none⟩ = some (.int .u8 (c.f : Int)) := hMi.cell 1
                have z2 : wi.cell? ⟨m, 2, none⟩ = some (.int .u8 (c.b : Int)) := hMi.cell 2
                have z3 : wi.cell? ⟨m, 3, none⟩ = some (.int .u8 (c.x : Int)) := hMi.cell 3
                have hput : ∀ W : World, Calls Try.prog 21 #[.slice (some ⟨W.heap.size, 0, none⟩) 5 5] (W.alloc (.cells #[.int .i64 ((m' : Int) - 1), .int .i64 c.r, .int .i64 (c.f : Int), .int .i64 (c.b : Int), .int .i64 (c.x : Int)] 3)) fun e w' => e = .returned (.string ⟨(putL (runN (m', c))).toArray⟩) ∧ Below (W.alloc (.cells #[.int .i64 ((m' : Int) - 1), .int .i64 c.r, .int .i64 (c.f : Int), .int .i64 (c.b : Int), .int .i64 (c.x : Int)] 3)).heap.size (W.alloc (.cells #[.int .i64 ((m' : Int) - 1), .int .i64 c.r, .int .i64 (c.f : Int), .int .i64 (c.b : Int), .int .i64 (c.x : Int)] 3)) w' := fun W =>
                  refPut_any _ 5 5 (runN (m', c)) _ rfl (Ints.new W (runN (m', c)) 3) (runN_fit ok (by simp only; omega)) (by omega)
                have hpl : (putL (runN (m', c))).length ≤ 50 := putL_len (runN (m', c)) (runN_fit ok (by simp only; omega))
                have hLn : L ++ putL (runN (m', c)) ++ putR (encB l k') = putR (encB l 0) := by
                  rw [← HL.out, encB_go hc, putR_cons, HN2.out, HE2.out, List.append_assoc]
                have HLn := Lib.hid hLn
                have hbA := hbi.alloc hbi.size (.cells #[.int .i64 ((m' : Int) - 1), .int .i64 c.r, .int .i64 (c.f : Int), .int .i64 (c.b : Int), .int .i64 (c.x : Int)] 3)
                generalize putL (runN (m', c)) = pl at hput hpl hLn HLn
                clear hLn
                obtain ⟨v0, v1, v2, v3⟩ := ok_wrap ok
                go_wp2_with fail
                refine (hput _).mono ?_
                rintro e w5 ⟨rfl, hb5⟩
                have hb6 := hbA.trans (hb5.mono hbA.size)
                clear hput z0 z1 z2 z3
                go_wp2_with fail
                go_roundw
                case rel => exact ⟨k', L ++ pl, hk', by rw [ba_append], rfl, HLn.out, hb6⟩
                case measure => simp [intOf]; omega
            · have d3 : decide ((k' : Int) < (n : Int)) = false := decide_eq_false (by omega)
              have d4 : decide (k' < n) = false := decide_eq_false hlt'
              have d5 : ¬ (k' : Int) < (n : Int) := by omega
              have hdc := Lib.hid (show ¬ l[k']? = some c by rw [List.getElem?_eq_none (by rw [HS.out.len]; omega)]; simp)
              go_upto_region 10 with fail
              refine wp_region_quiet_below (by kernel_rfl) (by kernel_rfl) ?_
              repeat (first | go_big_quiet_step (fail) | quiet_step (fail))
              refine wpQuiet_nil ?_
              intro _ hw'
              obtain ⟨⟨dq, osq⟩, hw''⟩ := hw'
              subst hw''
              have hb7 := hbi.trans ((below_regrown _ dq osq).mono hbi.size)
              have hM7 := hMi.below (below_regrown _ dq osq) hMi.lt
              clear hbi hMi d3 d4 d5
              generalize grow (redrawn wr dq) osq = wi at hb7 hM7 ⊢
              have hbi := hb7
              have hMi := hM7
              clear hb7 hM7
              have HN2 := Lib.hid (show runCnt l c k = m' by rw [HN.out, runCnt_stop (by first | exact hdc.out | exact hdc)]; omega)
              have HE2 := Lib.hid (show runEnd l c k = k' by rw [HE.out, runEnd_stop (by first | exact hdc.out | exact hdc)])
              have hm0 : 1 ≤ m' := by
                have h1 := HN2.out
                have h2 := runCnt_pos hc
                omega
              have hkk : k < k' := by
                have h1 := HE2.out
                have h2 := runEnd_gt hc
                omega
              have i1 : wrap64 ((m' : Int) - 1) = (m' : Int) - 1 := by
                unfold wrap64
                omega
              have z0 : wi.cell? ⟨m, 0, none⟩ = some (.int .i32 c.r) := hMi.cell 0
              have z1 : wi.cell? ⟨m, 1, none⟩ = some (.int .u8 (c.f : Int)) := hMi.cell 1
              have z2 : wi.cell? ⟨m, 2, none⟩ = some (.int .u8 (c.b : Int)) := hMi.cell 2
              have z3 : wi.cell? ⟨m, 3, none⟩ = some (.int .u8 (c.x : Int)) := hMi.cell 3
              have hput : ∀ W : World, Calls Try.prog 21 #[.slice (some ⟨W.heap.size, 0, none⟩) 5 5] (W.alloc (.cells #[.int .i64 ((m' : Int) - 1), .int .i64 c.r, .int .i64 (c.f : Int), .int .i64 (c.b : Int), .int .i64 (c.x : Int)] 3)) fun e w' => e = .returned (.string ⟨(putL (runN (m', c))).toArray⟩) ∧ Below (W.alloc (.cells #[.int .i64 ((m' : Int) - 1), .int .i64 c.r, .int .i64 (c.f : Int), .int .i64 (c.b : Int), .int .i64 (c.x : Int)] 3)).heap.size (W.alloc (.cells #[.int .i64 ((m' : Int) - 1), .int .i64 c.r, .int .i64 (c.f : Int), .int .i64 (c.b : Int), .int .i64 (c.x : Int)] 3)) w' := fun W =>
                refPut_any _ 5 5 (runN (m', c)) _ rfl (Ints.new W (runN (m', c)) 3) (runN_fit ok (by simp only; omega)) (by omega)
              have hpl : (putL (runN (m', c))).length ≤ 50 := putL_len (runN (m', c)) (runN_fit ok (by simp only; omega))
              have hLn : L ++ putL (runN (m', c)) ++ putR (encB l k') = putR (encB l 0) := by
                rw [← HL.out, encB_go hc, putR_cons, HN2.out, HE2.out, List.append_assoc]
              have HLn := Lib.hid hLn
              have hbA := hbi.alloc hbi.size (.cells #[.int .i64 ((m' : Int) - 1), .int .i64 c.r, .int .i64 (c.f : Int), .int .i64 (c.b : Int), .int .i64 (c.x : Int)] 3)
              generalize putL (runN (m', c)) = pl at hput hpl hLn HLn
              clear hLn
              obtain ⟨v0, v1, v2, v3⟩ := ok_wrap ok
              go_wp2_with fail
              refine (hput _).mono ?_
              rintro e w5 ⟨rfl, hb5⟩
              have hb6 := hbA.trans (hb5.mono hbA.size)
              clear hput z0 z1 z2 z3
              go_wp2_with fail
              go_roundw
              case rel => exact ⟨k', L ++ pl, hk', by rw [ba_append], rfl, HLn.out, hb6⟩
              case measure => simp [intOf]; omega
        | true =>
          rw [hw] at hwd
          go_wp2_with fail
          refine (hwd _).mono ?_
          rintro e w2 ⟨rfl, hb2⟩
          have hM2 := hM.below hb2 hM.lt
          have hbm2 := hbm.trans (hb2.mono hbm.size)
          clear hwd hM hbm hb2
          go_wp2_with fail
          rw [← hm]
          clear hm
          go_loopw [5, 8] (fun s5 s8 wi => ∃ k' m' : Nat, k' ≤ n + 1 ∧ m' ≤ k' ∧ s5 = .int .i64 (k' : Nat) ∧ s8 = .int .i64 (m' : Nat) ∧ RowKit.Hid (runEnd l c k = runEnd l c k') ∧ RowKit.Hid (runCnt l c k = runCnt l c k' + m') ∧ Blk wi m 55 c.a ∧ Below w.heap.size w wi) (fun s5 _ _ => n + 1 - (intOf s5).toNat)
          case atStart => exact ⟨k, 0, hk, by omega, rfl, rfl, Lib.hid rfl, Lib.hid rfl, hM2, hbm2⟩
          case round =>
            clear hM2 hbm2
            obtain ⟨k', m', hk', hmk, rfl, rfl, HE, HN, hMi, hbi⟩ := hrel
            by_cases hlt' : k' < n
            · have d3 : decide ((k' : Int) < (n : Int)) = true := decide_eq_true (by omega)
              have d4 : decide (k' < n) = true := decide_eq_true hlt'
              have d5 : (k' : Int) < (n : Int) := by omega
              obtain ⟨d, hd⟩ : ∃ d, l[k']? = some d := ⟨_, List.getElem?_eq_getElem (by rw [HS.out.len]; exact hlt')⟩
              obtain ⟨⟨e0, e1, e2, e3⟩, _⟩ := hC.below hbi k' d hd
              have y0 := cell_regrown e0
              have y1 := cell_regrown e1
              have y2 := cell_regrown e2
              have y3 := cell_regrown e3
              have x0 : ∀ d os, (grow (redrawn wr d) os).cell? ⟨m, 0, none⟩ = some (.int .i32 c.r) := cell_regrown (hMi.cell 0)
              have x1 : ∀ d os, (grow (redrawn wr d) os).cell? ⟨m, 1, none⟩ = some (.int .u8 (c.f : Int)) := cell_regrown (hMi.cell 1)
              have x2 : ∀ d os, (grow (redrawn wr d) os).cell? ⟨m, 2, none⟩ = some (.int .u8 (c.b : Int)) := cell_regrown (hMi.cell 2)
              have x3 : ∀ d os, (grow (redrawn wr d) os).cell? ⟨m, 3, none⟩ = some (.int .u8 (c.x : Int)) := cell_regrown (hMi.cell 3)
              have hqe := fun W => eql_cell c d W
              by_cases hdc : d = c
              · have HE2 := Lib.hid (HE.out.trans (runEnd_go (show l[k']? = some c by rw [hd, hdc])))
                have HN2 := Lib.hid (HN.out.trans (by rw [runCnt_go (show l[k']? = some c by rw [hd, hdc])]))
                rw [show stepC c = 2 by unfold stepC; rw [hw]; rfl] at HE2 HN2
                rw [decide_eq_true hdc] at hqe
                clear hdc
                go_upto_region 10 with fail
                refine wp_region_quiet_below (by kernel_rfl) (by kernel_rfl) ?_
                repeat (first | go_big_quiet_step (fail) | quiet_step (fail))
                refine wpQuiet_nil ?_
                intro _ hw'
                obtain ⟨⟨dq, osq⟩, hw''⟩ := hw'
                subst hw''
                have hb7 := hbi.trans ((below_regrown _ dq osq).mono hbi.size)
                have hM7 := hMi.below (below_regrown _ dq osq) hMi.lt
                clear x0 x1 x2 x3 y0 y1 y2 y3 hqe
                go_wp2_with fail
                go_roundw
                case rel => exact ⟨k' + 2, m' + 1, by omega, by omega, by go_num, by go_num, HE2, Lib.hid (by rw [HN2.out]; omega), hM7, hb7⟩
                case measure => simp [intOf]; omega
              · rw [decide_eq_false hdc] at hqe
                have hdc := Lib.hid (show ¬ l[k']? = some c by rw [hd]; simpa using hdc)
                go_upto_region 10 with fail
                refine wp_region_quiet_below (by kernel_rfl) (by kernel_rfl) ?_
                repeat (first | go_big_quiet_step (fail) | quiet_step (fail))
                refine wpQuiet_nil ?_
                intro _ hw'
                obtain ⟨⟨dq, osq⟩, hw''⟩ := hw'
                subst hw''
                have hb7 := hbi.trans ((below_regrown _ dq osq).mono hbi.size)
                have hM7 := hMi.below (below_regrown _ dq osq) hMi.lt
                clear x0 x1 x2 x3 y0 y1 y2 y3 e0 e1 e2 e3 hqe hbi hMi d3 d4 d5
                generalize grow (redrawn wr dq) osq = wi at hb7 hM7 ⊢
                have hbi := hb7
                have hMi := hM7
                clear hb7 hM7
                have HN2 := Lib.hid (show runCnt l c k = m' by rw [HN.out, runCnt_stop (by first | exact hdc.out | exact hdc)]; omega)
                have HE2 := Lib.hid (show runEnd l c k = k' by rw [HE.out, runEnd_stop (by first | exact hdc.out | exact hdc)])
                have hm0 : 1 ≤ m' := by
                  have h1 := HN2.out
                  have h2 := runCnt_pos hc
                  omega
                have hkk : k < k' := by
                  have h1 := HE2.out
                  have h2 := runEnd_gt hc
                  omega
                have i1 : wrap64 ((m' : Int) - 1) = (m' : Int) - 1 := by
                  unfold wrap64
                  omega
                have z0 : wi.cell? ⟨m, 0, none⟩ = some (.int .i32 c.r) := hMi.cell 0
                have z1 : wi.cell? ⟨m, 1, none⟩ = some (.int .u8 (c.f : Int)) := hMi.cell 1
                have z2 : wi.cell? ⟨m, 2, none⟩ = some (.int .u8 (c.b : Int)) := hMi.cell 2
                have z3 : wi.cell? ⟨m, 3, none⟩ = some (.int .u8 (c.x : Int)) := hMi.cell 3
                have hput : ∀ W : World, Calls Try.prog 21 #[.slice (some ⟨W.heap.size, 0, none⟩) 5 5] (W.alloc (.cells #[.int .i64 ((m' : Int) - 1), .int .i64 c.r, .int .i64 (c.f : Int), .int .i64 (c.b : Int), .int .i64 (c.x : Int)] 3)) fun e w' => e = .returned (.string ⟨(putL (runN (m', c))).toArray⟩) ∧ Below (W.alloc (.cells #[.int .i64 ((m' : Int) - 1), .int .i64 c.r, .int .i64 (c.f : Int), .int .i64 (c.b : Int), .int .i64 (c.x : Int)] 3)).heap.size (W.alloc (.cells #[.int .i64 ((m' : Int) - 1), .int .i64 c.r, .int .i64 (c.f : Int), .int .i64 (c.b : Int), .int .i64 (c.x : Int)] 3)) w' := fun W =>
                  refPut_any _ 5 5 (runN (m', c)) _ rfl (Ints.new W (runN (m', c)) 3) (runN_fit ok (by simp only; omega)) (by omega)
                have hpl : (putL (runN (m', c))).length ≤ 50 := putL_len (runN (m', c)) (runN_fit ok (by simp only; omega))
                have hLn : L ++ putL (runN (m', c)) ++ putR (encB l k') = putR (encB l 0) := by
                  rw [← HL.out, encB_go hc, putR_cons, HN2.out, HE2.out, List.append_assoc]
                have HLn := Lib.hid hLn
                have hbA := hbi.alloc hbi.size (.cells #[.int .i64 ((m' : Int) - 1), .int .i64 c.r, .int .i64 (c.f : Int), .int .i64 (c.b : Int), .int .i64 (c.x : Int)] 3)
                generalize putL (runN (m', c)) = pl at hput hpl hLn HLn
                clear hLn
                obtain ⟨v0, v1, v2, v3⟩ := ok_wrap ok
                go_wp2_with fail
                refine (hput _).mono ?_
                rintro e w5 ⟨rfl, hb5⟩
                have hb6 := hbA.trans (hb5.mono hbA.size)
                clear hput z0 z1 z2 z3
                go_wp2_with fail
                go_roundw
                case rel => exact ⟨k', L ++ pl, hk', by rw [ba_append], rfl, HLn.out, hb6⟩
                case measure => simp [intOf]; omega
            · have d3 : decide ((k' : Int) < (n : Int)) = false := decide_eq_false (by omega)
              have d4 : decide (k' < n) = false := decide_eq_false hlt'
              have d5 : ¬ (k' : Int) < (n : Int) := by omega
              have hdc := Lib.hid (show ¬ l[k']? = some c by rw [List.getElem?_eq_none (by rw [HS.out.len]; omega)]; simp)
              go_upto_region 10 with fail
              refine wp_region_quiet_below (by kernel_rfl) (by kernel_rfl) ?_
              repeat (first | go_big_quiet_step (fail) | quiet_step (fail))
              refine wpQuiet_nil ?_
              intro _ hw'
              obtain ⟨⟨dq, osq⟩, hw''⟩ := hw'
              subst hw''
              have hb7 := hbi.trans ((below_regrown _ dq osq).mono hbi.size)
              have hM7 := hMi.below (below_regrown _ dq osq) hMi.lt
              clear hbi hMi d3 d4 d5
              generalize grow (redrawn wr dq) osq = wi at hb7 hM7 ⊢
              have hbi := hb7
              have hMi := hM7
              clear hb7 hM7
              have HN2 := Lib.hid (show runCnt l c k = m' by rw [HN.out, runCnt_stop (by first | exact hdc.out | exact hdc)]; omega)
              have HE2 := Lib.hid (show runEnd l c k = k' by rw [HE.out, runEnd_stop (by first | exact hdc.out | exact hdc)])
              have hm0 : 1 ≤ m' := by
                have h1 := HN2.out
                have h2 := runCnt_pos hc
                omega
              have hkk : k < k' := by
                have h1 := HE2.out
                have h2 := runEnd_gt hc
                omega
              have i1 : wrap64 ((m' : Int) - 1) = (m' : Int) - 1 := by
                unfold wrap64
                omega
              have z0 : wi.cell? ⟨m, 0, none⟩ = some (.int .i32 c.r) := hMi.cell 0
              have z1 : wi.cell? ⟨m, 1, none⟩ = some (.int .u8 (c.f : Int)) := hMi.cell 1
              have z2 : wi.cell? ⟨m, 2, none⟩ = some (.int .u8 (c.b : Int)) := hMi.cell 2
              have z3 : wi.cell? ⟨m, 3, none⟩ = some (.int .u8 (c.x : Int)) := hMi.cell 3
              have hput : ∀ W : World, Calls Try.prog 21 #[.slice (some ⟨W.heap.size, 0, none⟩) 5 5] (W.alloc (.cells #[.int .i64 ((m' : Int) - 1), .int .i64 c.r, .int .i64 (c.f : Int), .int .i64 (c.b : Int), .int .i64 (c.x : Int)] 3)) fun e w' => e = .returned (.string ⟨(putL (runN (m', c))).toArray⟩) ∧ Below (W.alloc (.cells #[.int .i64 ((m' : Int) - 1), .int .i64 c.r, .int .i64 (c.f : Int), .int .i64 (c.b : Int), .int .i64 (c.x : Int)] 3)).heap.size (W.alloc (.cells #[.int .i64 ((m' : Int) - 1), .int .i64 c.r, .int .i64 (c.f : Int), .int .i64 (c.b : Int), .int .i64 (c.x : Int)] 3)) w' := fun W =>
                refPut_any _ 5 5 (runN (m', c)) _ rfl (Ints.new W (runN (m', c)) 3) (runN_fit ok (by simp only; omega)) (by omega)
              have hpl : (putL (runN (m', c))).length ≤ 50 := putL_len (runN (m', c)) (runN_fit ok (by simp only; omega))
              have hLn : L ++ putL (runN (m', c)) ++ putR (encB l k') = putR (encB l 0) := by
                rw [← HL.out, encB_go hc, putR_cons, HN2.out, HE2.out, List.append_assoc]
              have HLn := Lib.hid hLn
              have hbA := hbi.alloc hbi.size (.cells #[.int .i64 ((m' : Int) - 1), .int .i64 c.r, .int .i64 (c.f : Int), .int .i64 (c.b : Int), .int .i64 (c.x : Int)] 3)
              generalize putL (runN (m', c)) = pl at hput hpl hLn HLn
              clear hLn
              obtain ⟨v0, v1, v2, v3⟩ := ok_wrap ok
              go_wp2_with fail
              refine (hput _).mono ?_
              rintro e w5 ⟨rfl, hb5⟩
              have hb6 := hbA.trans (hb5.mono hbA.size)
              clear hput z0 z1 z2 z3
              go_wp2_with fail
              go_roundw
              case rel => exact ⟨k', L ++ pl, hk', by rw [ba_append], rfl, HLn.out, hb6⟩
              case measure => simp [intOf]; omega
      · have d1 : decide ((k : Int) < (n : Int)) = false := decide_eq_false (by omega)
        have d2 : decide (k < n) = false := decide_eq_false hlt
        go_wp2_with fail
        go_ret
        exact ⟨ret_string (by rw [HP.out, ← HL.out, encB_stop (by rw [HS.out.len]; omega)]; simp [putR]), hbr⟩
end Go.Proofs.Ytpjafocgabhieaa
