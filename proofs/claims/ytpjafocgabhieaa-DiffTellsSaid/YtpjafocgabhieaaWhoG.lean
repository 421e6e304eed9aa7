/- diff.Whole of a grid: walked (for DiffTells). -/
import Derived.Test.YtpjafocgabhieaaWhoR
import Derived.Test.YtpjafocgabhieaaBytG
import Derived.Test.YtpjafocgabhieaaAppS
namespace Go.Proofs.Ytpjafocgabhieaa
open Go.RowKit Go.Sort Nums
set_option maxRecDepth 100000 in
set_option maxHeartbeats 4000000 in
theorem wholeG_gen (x y : Int) (A : Option Addr) (n c : Nat) (l : List Cl) (w : World) (hS : RowS w A n c l) :
    Calls Try.prog 7 #[grv x y A n c] w fun e w' => e = .returned (.string ⟨(wholeP x y l).toArray⟩) ∧ Below w.heap.size w w' := by
  have HS := Lib.hid hS
  have hN := Blk.new w 32 #[.int .i64 x, .int .i64 y, .slice A n c]
  have hb0 := (Below.refl w.heap.size w).alloc (Nat.le_refl _) (.cells #[.int .i64 x, .int .i64 y, .slice A n c] 32)
  have hchk := checkG_gen x y A n c l _ (hS.below hb0)
  have k0 : (w.alloc (.cells #[.int .i64 x, .int .i64 y, .slice A n c] 32)).cell? ⟨w.heap.size, 0, none⟩ = some (.int .i64 x) := hN.cell 0
  have k1 : (w.alloc (.cells #[.int .i64 x, .int .i64 y, .slice A n c] 32)).cell? ⟨w.heap.size, 1, none⟩ = some (.int .i64 y) := hN.cell 1
  have k2 : (w.alloc (.cells #[.int .i64 x, .int .i64 y, .slice A n c] 32)).cell? ⟨w.heap.size, 2, none⟩ = some (.slice A n c) := hN.cell 2
  clear hS
  cases hq : gridP x y l with
  | false =>
    have HP := Lib.hid (show wholeP x y l = [] by unfold wholeP; rw [hq]; rfl)
    rw [hq] at hchk
    clear hq
    go_enter Try.func7, Try.ntmps7
    go_wp2_with fail
    refine hchk.mono ?_
    rintro e w1 ⟨rfl, hb1⟩
    go_wp2_with fail
    go_ret
    exact ⟨ret_string HP.out.symm, hb0.trans (hb1.mono hb0.size)⟩
  | true =>
    obtain ⟨wn, hh, rfl, rfl, hw1, hw2, hh1, hh2, hlen, _⟩ := gridP_parts hq
    have HP := Lib.hid (show wholeP (wn : Int) (hh : Int) l = putL [(wn : Int), (hh : Int)] ++ rowsB l wn hh by unfold wholeP; rw [hq]; rfl)
    rw [hq] at hchk
    have hnl := HS.out.len
    have HM := Lib.hid (show n = wn * hh from hnl.symm.trans hlen)
    obtain ⟨ad, rfl⟩ : ∃ ad, A = some ad := by
      have h1 := HS.out.nil'
      cases A with
      | some ad => exact ⟨ad, rfl⟩
      | none =>
        have h2 := (h1 rfl).1
        have h3 := HM.out
        have h4 := Nat.mul_le_mul hw1 hh1
        omega
    have hput : ∀ W : World, Calls Try.prog 17 #[.slice (some ⟨W.heap.size, 0, none⟩) 2 2] (W.alloc (.cells #[.int .i64 (wn : Int), .int .i64 (hh : Int)] 3)) fun e w' => e = .returned (.string ⟨(putL [(wn : Int), (hh : Int)]).toArray⟩) ∧ Below (W.alloc (.cells #[.int .i64 (wn : Int), .int .i64 (hh : Int)] 3)).heap.size (W.alloc (.cells #[.int .i64 (wn : Int), .int .i64 (hh : Int)] 3)) w' := fun W =>
      put_any _ 2 2 [(wn : Int), (hh : Int)] _ rfl (Ints.new W [(wn : Int), (hh : Int)] 3) (pair_fit hw2 hh2) (by omega)
    have hpl : (putL [(wn : Int), (hh : Int)]).length ≤ 20 := putL_len _ (pair_fit hw2 hh2)
    generalize putL [(wn : Int), (hh : Int)] = pl at hput hpl HP
    clear hq hlen hnl
    go_enter Try.func7, Try.ntmps7
    go_wp2_with fail
    refine hchk.mono ?_
    rintro e w1 ⟨rfl, hb1⟩
    have hN1 := hN.below hb1 hN.lt
    have hb2 := hb0.trans (hb1.mono hb0.size)
    have q0 : w1.cell? ⟨w.heap.size, 0, none⟩ = some (.int .i64 (wn : Int)) := hN1.cell 0
    have q1 : w1.cell? ⟨w.heap.size, 1, none⟩ = some (.int .i64 (hh : Int)) := hN1.cell 1
    clear hchk k0 k1 k2 hN hb0 hb1
    go_wp2_with fail
    refine (hput _).mono ?_
    rintro e w2 ⟨rfl, hb3⟩
    have hA := (Below.refl w1.heap.size w1).alloc (Nat.le_refl _) (.cells #[.int .i64 (wn : Int), .int .i64 (hh : Int)] 3)
    have hb4 := hA.trans (hb3.mono hA.size)
    have hN2 := hN1.below hb4 hN1.lt
    have hb5 := hb2.trans (hb4.mono hb2.size)
    clear hput q0 q1 hN1 hb2 hA hb3 hb4
    have hps : (⟨pl.toArray⟩ : ByteArray).size = pl.length := by simp [ByteArray.size]
    have kconv : (convert 9 45 (.string ⟨pl.toArray⟩)).run Try.prog w2 = .ok (.slice (some ⟨w2.heap.size, 0, none⟩) pl.length (grownCap w2 pl.length 0 5)) (Lib.bytesWorld w2 5 ⟨pl.toArray⟩) := by
      have h := Lib.run_convert_string_bytes (P := Try.prog) w2 9 45 5 ⟨pl.toArray⟩ Try.underlying9 Try.underlying45 Try.underlying5
      rw [hps] at h
      exact h
    obtain ⟨hRB, hbR⟩ := rowB_new w2 5 pl (by omega)
    have hN3 := hN2.below hbR hN2.lt
    have hb6 := hb5.trans (hbR.mono hb5.size)
    have hRB2 : RowB (Lib.bytesWorld w2 5 ⟨pl.toArray⟩) (w.heap.size + 1) 5 w2.heap.size (grownCap w2 pl.length 0 5) pl := { hRB with base := by have := hN2.lt; omega }
    have q2 : (Lib.bytesWorld w2 5 ⟨pl.toArray⟩).cell? ⟨w.heap.size, 1, none⟩ = some (.int .i64 (hh : Int)) := hN3.cell 1
    generalize grownCap w2 pl.length 0 5 = c0 at kconv hRB2
    generalize hg0 : w2.heap.size = g0 at kconv hRB2
    generalize Lib.bytesWorld w2 5 ⟨pl.toArray⟩ = w3 at kconv hRB2 hN3 hb6 q2
    clear hRB hbR hN2 hb5 hps hg0
    obtain ⟨i0, hi, hz0, hz1, hz2⟩ := info_parts Try.info5
    go_wp2_with fail
    go_loopw [3, 17] (fun s4 s5 wr => ∃ (k : Nat) (L : List UInt8) (g cap : Nat), k ≤ hh ∧ s4 = .slice (some ⟨g, 0, none⟩) L.length cap ∧ s5 = .int .i64 (k : Nat) ∧ RowKit.Hid (L = pl ++ rowsB l wn k) ∧ RowB wr (w.heap.size + 1) 5 g cap L ∧ Blk wr w.heap.size 32 #[.int .i64 (wn : Int), .int .i64 (hh : Int), .slice (some ad) n c] ∧ Below w.heap.size w wr) (fun _ s5 _ => hh - (intOf s5).toNat)
    case atStart => exact ⟨0, pl, g0, c0, by omega, rfl, rfl, Lib.hid (by simp [rowsB]), hRB2, hN3, hb6⟩
    case round =>
      clear hN3 hb6 hRB2 kconv q2
      obtain ⟨k, L, g, cap, hk, rfl, rfl, HL, hRr, hNr, hbr⟩ := hrel
      have k0 : wr.cell? ⟨w.heap.size, 0, none⟩ = some (.int .i64 (wn : Int)) := hNr.cell 0
      have k1 : wr.cell? ⟨w.heap.size, 1, none⟩ = some (.int .i64 (hh : Int)) := hNr.cell 1
      have k2 : wr.cell? ⟨w.heap.size, 2, none⟩ = some (.slice (some ad) n c) := hNr.cell 2
      by_cases hlt : k < hh
      · have d1 : decide ((k : Int) < (hh : Int)) = true := decide_eq_true (by omega)
        have d2 : decide (k < hh) = true := decide_eq_true hlt
        have hrow := rowG_gen ad n c wn hh k l wr hw1 hw2 hh2 HM.out hlt (HS.out.below hbr)
        have hLl : L.length ≤ 36000020 := by
          have h1 := rowsB_len HS.out.ok hw2 k
          rw [HL.out, List.length_append]
          omega
        have hBl := bytesP_len (l := rowAt l wn k) (fun c hc => HS.out.ok c (rowAt_sub hc)) (by have := rowAt_le l wn k; omega)
        have HB := Lib.hid (show L ++ bytesP (rowAt l wn k) = pl ++ rowsB l wn (k + 1) by rw [HL.out, rowsB_succ, List.append_assoc])
        have hbyt := fun A' c' W h => bytesG_gen A' wn c' (rowAt l wn k) W hw1 (by omega) h
        generalize bytesP (rowAt l wn k) = B at hBl HB hbyt
        go_wp2_with fail
        refine hrow.mono ?_
        rintro e w2 ⟨A', c', rfl, hR2, hb2⟩
        have hN2 := hNr.below hb2 hNr.lt
        have hbr2 := hbr.trans (hb2.mono hbr.size)
        have hRr2 := hRr.below hb2
        clear k0 k1 k2 hrow hNr hb2 hRr
        go_wp2_with fail
        refine (hbyt _ _ _ hR2).mono ?_
        rintro e w3 ⟨rfl, hb3⟩
        have hN3 := hN2.below hb3 hN2.lt
        have hbr3 := hbr2.trans (hb3.mono hbr2.size)
        have hRr3 := hRr2.below hb3
        have hsz3 := hN3.lt
        clear hbyt hR2 hN2 hb3 hRr2
        go_wp2_with (at_builtin; refine wpList_append_rowB rfl (.tmp 20) (.tmp 24) 45 9 rfl i0 Try.underlying45 Try.underlying9 hi hz0 hz1 hz2 rfl hRr3 B rfl (by omega) hsz3 ?_)
        intro g' cap' w4 hRr4 hg4
        have hN4 := hN3.grown hg4 (fun e => by injection e with e; have := hRr3.base; omega)
        have hbr4 := hbr3.grown hg4 hbr3.size (fun q hq => by injection hq with hq; have := hRr3.base; omega)
        rw [HB.out] at hRr4
        go_wp2_with fail
        go_roundw
        case rel => exact ⟨k + 1, L ++ B, g', cap', hlt, by rw [List.length_append], by go_num, HB, by rw [HB.out]; exact hRr4, hN4, hbr4⟩
        case measure => simp [intOf]; omega
      · have d1 : decide ((k : Int) < (hh : Int)) = false := decide_eq_false (by omega)
        have d2 : decide (k < hh) = false := decide_eq_false hlt
        obtain rfl : k = hh := by omega
        have kback := conv_rowB (P := Try.prog) (src := 45) (dst := 9) Try.underlying45 Try.underlying5 Try.underlying9 hRr
        go_wp2_with fail
        go_ret
        exact ⟨ret_string (by rw [HP.out, HL.out]), hbr⟩
end Go.Proofs.Ytpjafocgabhieaa
