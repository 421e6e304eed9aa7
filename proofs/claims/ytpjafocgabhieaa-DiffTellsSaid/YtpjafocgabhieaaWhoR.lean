/- The document's Whole of a grid: walked (for DiffTells). -/
import Derived.Test.YtpjafocgabhieaaGrdC
import Derived.Test.YtpjafocgabhieaaBytR
namespace Go.Proofs.Ytpjafocgabhieaa
open Go.RowKit Go.Sort Nums
/-- The bytes of k rows. -/
def rowsB (l : List Cl) (wn k : Nat) : List UInt8 := (List.range k).flatMap fun j => bytesP (rowAt l wn j)
/-- A grid's bytes. -/
def wholeP (x y : Int) (l : List Cl) : List UInt8 := if gridP x y l then putL [x, y] ++ rowsB l x.toNat y.toNat else []
theorem rowsB_succ (l : List Cl) (wn k : Nat) : rowsB l wn (k + 1) = rowsB l wn k ++ bytesP (rowAt l wn k) := by
  unfold rowsB
  rw [List.range_succ, List.flatMap_append]
  simp
theorem rowAt_le (l : List Cl) (wn y : Nat) : (rowAt l wn y).length ≤ wn := by
  rw [rowAt_len]
  omega
theorem rowsB_len {l : List Cl} (hok : OkL l) {wn : Nat} (hw : wn ≤ 200) : ∀ k, (rowsB l wn k).length ≤ k * 600000
  | 0 => by simp [rowsB]
  | k + 1 => by
    rw [rowsB_succ, List.length_append]
    have h1 := rowsB_len hok hw k
    have h2 := rowAt_le l wn k
    have h3 := bytesP_len (l := rowAt l wn k) (fun c hc => hok c (rowAt_sub hc)) (by omega)
    omega
theorem pair_fit {wn hh : Nat} (hw : wn ≤ 200) (hh2 : hh ≤ 60) : Fit [(wn : Int), (hh : Int)] := fun n hn => by
  simp only [List.mem_cons, List.not_mem_nil, or_false] at hn
  rcases hn with rfl | rfl <;> omega
set_option maxRecDepth 100000 in
set_option maxHeartbeats 4000000 in
theorem wholeR_gen (x y : Int) (A : Option Addr) (n c : Nat) (l : List Cl) (w : World) (hS : RowS w A n c l) :
    Calls Try.prog 8 #[grv x y A n c] w fun e w' => e = .returned (.string ⟨(wholeP x y l).toArray⟩) ∧ Below w.heap.size w w' := by
  have HS := Lib.hid hS
  have hN := Blk.new w 32 #[.int .i64 x, .int .i64 y, .slice A n c]
  have hb0 := (Below.refl w.heap.size w).alloc (Nat.le_refl _) (.cells #[.int .i64 x, .int .i64 y, .slice A n c] 32)
  have hchk := checkRG_gen x y A n c l _ (hS.below hb0)
  have k0 : (w.alloc (.cells #[.int .i64 x, .int .i64 y, .slice A n c] 32)).cell? ⟨w.heap.size, 0, none⟩ = some (.int .i64 x) := hN.cell 0
  have k1 : (w.alloc (.cells #[.int .i64 x, .int .i64 y, .slice A n c] 32)).cell? ⟨w.heap.size, 1, none⟩ = some (.int .i64 y) := hN.cell 1
  have k2 : (w.alloc (.cells #[.int .i64 x, .int .i64 y, .slice A n c] 32)).cell? ⟨w.heap.size, 2, none⟩ = some (.slice A n c) := hN.cell 2
  clear hS
  cases hq : gridP x y l with
  | false =>
    have HP := Lib.hid (show wholeP x y l = [] by unfold wholeP; rw [hq]; rfl)
    rw [hq] at hchk
    clear hq
    go_enter Try.func8, Try.ntmps8
    go_wp2_with fail
    refine hchk.mono ?_
    rintro e w1 ⟨rfl, hb1⟩
    go_wp2_with fail
    go_ret
    exact ⟨ret_string HP.out.symm, hb0.trans (hb1.mono hb0.size)⟩
  | true =>
    obtain ⟨wn, hh, rfl, rfl, hw1, hw2, hh1, hh2, hlen, _⟩ := gridP_parts hq
    have HP := Lib.hid (show wholeP (wn : Int) (hh : Int) l = putL [(wn : Int), (hh : Int)] ++ rowsB l wn hh by unfold wholeP; rw [hq]; rfl)
    rw [hq] at hchk
    have hnl := HS.out.len
    have HM := Lib.hid (show n = wn * hh from hnl.symm.trans hlen)
    obtain ⟨ad, rfl⟩ : ∃ ad, A = some ad := by
      have h1 := HS.out.nil'
      cases A with
      | some ad => exact ⟨ad, rfl⟩
      | none =>
        have h2 := (h1 rfl).1
        have h3 := HM.out
        have h4 := Nat.mul_le_mul hw1 hh1
        omega
    have hput : ∀ W : World, Calls Try.prog 21 #[.slice (some ⟨W.heap.size, 0, none⟩) 2 2] (W.alloc (.cells #[.int .i64 (wn : Int), .int .i64 (hh : Int)] 3)) fun e w' => e = .returned (.string ⟨(putL [(wn : Int), (hh : Int)]).toArray⟩) ∧ Below (W.alloc (.cells #[.int .i64 (wn : Int), .int .i64 (hh : Int)] 3)).heap.size (W.alloc (.cells #[.int .i64 (wn : Int), .int .i64 (hh : Int)] 3)) w' := fun W =>
      refPut_any _ 2 2 [(wn : Int), (hh : Int)] _ rfl (Ints.new W [(wn : Int), (hh : Int)] 3) (pair_fit hw2 hh2) (by omega)
    have hpl : (putL [(wn : Int), (hh : Int)]).length ≤ 20 := putL_len _ (pair_fit hw2 hh2)
    generalize putL [(wn : Int), (hh : Int)] = pl at hput hpl HP
    clear hq hlen hnl
    go_enter Try.func8, Try.ntmps8
    go_wp2_with fail
    refine hchk.mono ?_
    rintro e w1 ⟨rfl, hb1⟩
    have hN1 := hN.below hb1 hN.lt
    have hb2 := hb0.trans (hb1.mono hb0.size)
    have q0 : w1.cell? ⟨w.heap.size, 0, none⟩ = some (.int .i64 (wn : Int)) := hN1.cell 0
    have q1 : w1.cell? ⟨w.heap.size, 1, none⟩ = some (.int .i64 (hh : Int)) := hN1.cell 1
    clear hchk k0 k1 k2 hN hb0 hb1
    go_wp2_with fail
    refine (hput _).mono ?_
    rintro e w2 ⟨rfl, hb3⟩
    have hA := (Below.refl w1.heap.size w1).alloc (Nat.le_refl _) (.cells #[.int .i64 (wn : Int), .int .i64 (hh : Int)] 3)
    have hb4 := hA.trans (hb3.mono hA.size)
    have hN2 := hN1.below hb4 hN1.lt
    have hb5 := hb2.trans (hb4.mono hb2.size)
    clear hput q0 q1 hN1 hb2 hA hb3 hb4
    go_wp2_with fail
    go_loopw [4, 5] (fun s4 s5 wr => ∃ (k : Nat) (L : List UInt8), k ≤ hh ∧ s4 = .string ⟨L.toArray⟩ ∧ s5 = .int .i64 (k : Nat) ∧ RowKit.Hid (L = pl ++ rowsB l wn k) ∧ Blk wr w.heap.size 32 #[.int .i64 (wn : Int), .int .i64 (hh : Int), .slice (some ad) n c] ∧ Below w.heap.size w wr) (fun _ s5 _ => hh - (intOf s5).toNat)
    case atStart => exact ⟨0, pl, by omega, rfl, rfl, Lib.hid (by simp [rowsB]), hN2, hb5⟩
    case round =>
      clear hN2 hb5
      obtain ⟨k, L, hk, rfl, rfl, HL, hNr, hbr⟩ := hrel
      have k0 : wr.cell? ⟨w.heap.size, 0, none⟩ = some (.int .i64 (wn : Int)) := hNr.cell 0
      have k1 : wr.cell? ⟨w.heap.size, 1, none⟩ = some (.int .i64 (hh : Int)) := hNr.cell 1
      have k2 : wr.cell? ⟨w.heap.size, 2, none⟩ = some (.slice (some ad) n c) := hNr.cell 2
      by_cases hlt : k < hh
      · have d1 : decide ((k : Int) < (hh : Int)) = true := decide_eq_true (by omega)
        have d2 : decide (k < hh) = true := decide_eq_true hlt
        have hrow := rowR_gen ad n c wn hh k l wr hw1 hw2 hh2 HM.out hlt (HS.out.below hbr)
        have hLl : L.length ≤ 36000020 := by
          have h1 := rowsB_len HS.out.ok hw2 k
          rw [HL.out, List.length_append]
          omega
        have hBl := bytesP_len (l := rowAt l wn k) (fun c hc => HS.out.ok c (rowAt_sub hc)) (by have := rowAt_le l wn k; omega)
        have HB := Lib.hid (show L ++ bytesP (rowAt l wn k) = pl ++ rowsB l wn (k + 1) by rw [HL.out, rowsB_succ, List.append_assoc])
        have hbyt := fun A' c' W h => bytesR_gen A' wn c' (rowAt l wn k) W (by omega) h
        generalize bytesP (rowAt l wn k) = B at hBl HB hbyt
        go_wp2_with fail
        refine hrow.mono ?_
        rintro e w2 ⟨A', c', rfl, hR2, hb2⟩
        have hN2 := hNr.below hb2 hNr.lt
        have hbr2 := hbr.trans (hb2.mono hbr.size)
        clear k0 k1 k2 hrow hNr hb2
        go_wp2_with fail
        refine (hbyt _ _ _ hR2).mono ?_
        rintro e w3 ⟨rfl, hb3⟩
        have hN3 := hN2.below hb3 hN2.lt
        have hbr3 := hbr2.trans (hb3.mono hbr2.size)
        clear hbyt hR2 hN2 hb3
        go_wp2_with fail
        go_roundw
        case rel => exact ⟨k + 1, L ++ B, hlt, by rw [ba_append], by go_num, HB, hN3, hbr3⟩
        case measure => simp [intOf]; omega
      · have d1 : decide ((k : Int) < (hh : Int)) = false := decide_eq_false (by omega)
        have d2 : decide (k < hh) = false := decide_eq_false hlt
        obtain rfl : k = hh := by omega
        go_wp2_with fail
        go_ret
        exact ⟨ret_string (by rw [HP.out, HL.out]), hbr⟩
end Go.Proofs.Ytpjafocgabhieaa
