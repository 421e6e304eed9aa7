/- slices.Clone of a row of cells, grid.whole, Row: walked (for DiffTells). -/
import Derived.Test.YtpjafocgabhieaaGrdX
namespace Go.Proofs.Ytpjafocgabhieaa
open Go.RowKit Go.Sort
set_option maxRecDepth 100000 in
set_option maxHeartbeats 4000000 in
theorem clone_gen (ad : Addr) (n c : Nat) (l : List Cl) (w : World) (hn : n ≤ 1000000) (hS : RowS w (some ad) n c l) :
    Calls Try.prog 45 #[.slice (some ad) n c] w fun e w' => ∃ A' c', e = .returned (.slice A' n c') ∧ RowS w' A' n c' l ∧ Below w.heap.size w w' := by
  obtain ⟨i1, ki, kz0, kz1, kz2⟩ := info_parts Try.info55
  have hb2 := (Below.refl w.heap.size w).alloc (Nat.le_refl _) (.cells #[] 55)
  have hsrc : Src (w.alloc (.cells #[] 55)) (some ad) (rowV l) := (hS.below hb2).src
  have hok := hS.ok
  have Hlen := Lib.hid (show (rowV l).length = n * 4 by rw [rowV_len, hS.len])
  have Hm1 := Lib.hid (show 0 + n ≤ maxLen by unfold maxLen; omega)
  have Hm2 := Lib.hid (show (0 + n) * 8 ≤ 140737488355328 by omega)
  have hq : ∀ W, (binOp .eql 30 (.slice (some ad) n c) (.slice none 0 0)).run Try.prog W = .ok (.bool false) W := fun W => Lib.run_eql_slice_nil W _ _ (some ad) n c 0 0 Try.underlying30
  clear hS hn
  go_enter Try.func45, Try.ntmps45
  go_wp2_with (at_builtin; refine wpList_append_src rfl (.tmp 5) (.tmp 6) 30 rfl w.heap.size 55 i1 _ 4 8 Try.underlying30 ki kz0 kz1 kz2 rfl (by decide) _ 0 [] rfl (own_empty w w.heap.size _ 4 (Nat.le_refl _)) (some ad) n c (rowV l) rfl Hlen.out hsrc (fun h => by cases h) (rowV_one _) Hm1.out Hm2.out hb2.size ?_)
  intro v' w2 hown hg
  obtain ⟨A', c', rfl, hRS⟩ := RowS.of_own hok (show w2.ownsRow w.heap.size 55 4 v' n (rowV l) by simpa using hown)
  have hb3 : Below w.heap.size w w2 := hb2.grown hg hb2.size (fun q hq => by
    obtain rfl : w.heap.size = q := by simpa [Value.ownBlock] using hq
    exact Nat.le_refl _)
  go_wp2_with fail
  go_ret
  exact ⟨_, _, rfl, hRS, hb3⟩
set_option maxRecDepth 100000 in
set_option maxHeartbeats 2000000 in
theorem whole_gen (A : Option Addr) (n c wn hn : Nat) (w : World) (hw : 1 ≤ wn) (hh : 1 ≤ hn) (hh2 : hn ≤ 60) (hnw : n = wn * hn) :
    Calls Try.prog 44 #[grv wn hn A n c] w fun e w' => e = .returned (.bool true) ∧ Below w.heap.size w w' := by
  obtain ⟨t4, t5⟩ := div_facts (show n / wn = hn by rw [hnw, Nat.mul_comm]; exact Nat.mul_div_cancel _ (by omega))
  have hN := Blk.new w 32 #[.int .i64 (wn : Int), .int .i64 (hn : Int), .slice A n c]
  have hb0 := (Below.refl w.heap.size w).alloc (Nat.le_refl _) (.cells #[.int .i64 (wn : Int), .int .i64 (hn : Int), .slice A n c] 32)
  clear hnw
  have t1 : decide ((1 : Int) ≤ (wn : Int)) = true := by
    clear t4 t5
    exact decide_eq_true (by omega)
  have t2 : decide ((1 : Int) ≤ (hn : Int)) = true := by
    clear t4 t5
    exact decide_eq_true (by omega)
  have t6 : ¬ (wn : Int) = 0 := by
    clear t4 t5
    omega
  have t7 : ((wn : Int) == 0) = false := by
    rw [beq_eq_false_iff_ne]
    exact t6
  have t8 : ¬ wn = 0 := by
    clear t4 t5
    omega
  have t9 : decide ((hn : Int) ≤ (hn : Int)) = true := decide_eq_true (Int.le_refl _)
  have t10 : wrap64 (hn : Int) = (hn : Int) := by
    clear t4 t5 t9
    unfold wrap64
    omega
  have t11 : decide ((hn : Int) ≤ wrap64 (hn : Int)) = true := by rw [t10]; exact t9
  go_enter Try.func44, Try.ntmps44
  go_upto_region 1 with fail
  have k0 : ∀ d os, (grow (redrawn (w.alloc (.cells #[.int .i64 (wn : Int), .int .i64 (hn : Int), .slice A n c] 32)) d) os).cell? ⟨w.heap.size, 0, none⟩ = some (.int .i64 (wn : Int)) := cell_regrown (hN.cell 0)
  have k1 : ∀ d os, (grow (redrawn (w.alloc (.cells #[.int .i64 (wn : Int), .int .i64 (hn : Int), .slice A n c] 32)) d) os).cell? ⟨w.heap.size, 1, none⟩ = some (.int .i64 (hn : Int)) := cell_regrown (hN.cell 1)
  have k2 : ∀ d os, (grow (redrawn (w.alloc (.cells #[.int .i64 (wn : Int), .int .i64 (hn : Int), .slice A n c] 32)) d) os).cell? ⟨w.heap.size, 2, none⟩ = some (.slice A n c) := cell_regrown (hN.cell 2)
  refine wp_region_quiet_below (by kernel_rfl) (by kernel_rfl) ?_
  repeat (first | go_big_quiet_step (fail) | quiet_step (fail))
  refine wpQuiet_nil ?_
  intro _ hw'
  obtain ⟨⟨dq, osq⟩, hw''⟩ := hw'
  subst hw''
  have hb1 := hb0.trans ((below_regrown _ dq osq).mono hb0.size)
  go_wp2_with fail
  go_ret
  exact ⟨rfl, hb1⟩
set_option maxRecDepth 100000 in
set_option maxHeartbeats 4000000 in
theorem rowG_gen (ad : Addr) (n c wn hn y : Nat) (l : List Cl) (w : World) (hw : 1 ≤ wn) (hw2 : wn ≤ 200) (hh : hn ≤ 60) (hnw : n = wn * hn) (hy : y < hn) (hS : RowS w (some ad) n c l) :
    Calls Try.prog 19 #[grv wn hn (some ad) n c, .int .i64 (y : Nat)] w fun e w' => ∃ A' c', e = .returned (.slice A' wn c') ∧ RowS w' A' wn c' (rowAt l wn y) ∧ Below w.heap.size w w' := by
  have hN := Blk.new w 32 #[.int .i64 (wn : Int), .int .i64 (hn : Int), .slice (some ad) n c]
  have hb0 := (Below.refl w.heap.size w).alloc (Nat.le_refl _) (.cells #[.int .i64 (wn : Int), .int .i64 (hn : Int), .slice (some ad) n c] 32)
  have hwh := fun W => whole_gen (some ad) n c wn hn W hw (by omega) hh hnw
  have hcut := fun W => cut_gen ad n c wn hn y W hw hw2 hh hnw hy hS.cap
  have hsub : ∀ W, RowS W (some ad) n c l → RowS W (some (ad.add (y * wn * 4))) wn wn (rowAt l wn y) := fun W h => by
    obtain ⟨yw, ye, h1, h2, h3, h4, _⟩ := cut_facts hw hw2 hh hnw hy
    obtain ⟨q1, _, q3, _⟩ := row_len h.len h1 h2 h3 hw
    refine ⟨q1, Nat.le_refl _, ?_, fun _ => ⟨_, rfl, ?_⟩, fun h => by cases h⟩
    · clear h1 hnw q1
      unfold maxLen
      omega
    · obtain ⟨ad', he, hC⟩ := h.row q3
      injection he with he
      subst he
      exact hC.sub (y * wn) wn
  have Hsub := Lib.hid hsub
  have HS := Lib.hid hS
  have t1 : decide ((y : Int) < 0) = false := decide_eq_false (by omega)
  have t2 : decide ((hn : Int) ≤ (y : Int)) = false := decide_eq_false (by omega)
  have t3 : decide (hn ≤ y) = false := decide_eq_false (by omega)
  have hw1 : wn ≤ 1000000 := by omega
  clear hnw hS hsub
  go_enter Try.func19, Try.ntmps19
  have k0 : (w.alloc (.cells #[.int .i64 (wn : Int), .int .i64 (hn : Int), .slice (some ad) n c] 32)).cell? ⟨w.heap.size, 0, none⟩ = some (.int .i64 (wn : Int)) := hN.cell 0
  have k1 : (w.alloc (.cells #[.int .i64 (wn : Int), .int .i64 (hn : Int), .slice (some ad) n c] 32)).cell? ⟨w.heap.size, 1, none⟩ = some (.int .i64 (hn : Int)) := hN.cell 1
  have k2 : (w.alloc (.cells #[.int .i64 (wn : Int), .int .i64 (hn : Int), .slice (some ad) n c] 32)).cell? ⟨w.heap.size, 2, none⟩ = some (.slice (some ad) n c) := hN.cell 2
  go_wp2_with fail
  refine (hwh _).mono ?_
  rintro e w1 ⟨rfl, hbw⟩
  have hb1 := hb0.trans (hbw.mono hb0.size)
  have hN1 := hN.below hbw hN.lt
  clear k0 k1 k2 hN hb0 hwh hbw
  have k0 : w1.cell? ⟨w.heap.size, 0, none⟩ = some (.int .i64 (wn : Int)) := hN1.cell 0
  have k1 : w1.cell? ⟨w.heap.size, 1, none⟩ = some (.int .i64 (hn : Int)) := hN1.cell 1
  have k2 : w1.cell? ⟨w.heap.size, 2, none⟩ = some (.slice (some ad) n c) := hN1.cell 2
  go_wp2_with fail
  refine (hcut _).mono ?_
  rintro e w2 ⟨rfl, hb2⟩
  have hb3 := hb1.trans (hb2.mono hb1.size)
  have hR := Hsub.out _ (HS.out.below hb3)
  clear hcut hN1 k0 k1 k2 hb2
  go_wp2_with fail
  refine (clone_gen _ wn wn _ _ hw1 hR).mono ?_
  rintro e w3 ⟨A', c', rfl, hR3, hb4⟩
  go_wp2_with fail
  go_ret
  exact ⟨_, _, rfl, hR3, hb3.trans (hb4.mono hb3.size)⟩
end Go.Proofs.Ytpjafocgabhieaa
