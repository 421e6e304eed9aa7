/- The document's Row of a grid: walked (for DiffTells). -/
import Derived.Test.YtpjafocgabhieaaGrdS
import Derived.Test.YtpjafocgabhieaaCelL
namespace Go.Proofs.Ytpjafocgabhieaa
open Go.RowKit Go.Sort
abbrev grv (x y : Int) (A : Option Addr) (n c : Nat) : Value := .agg #[.int .i64 x, .int .i64 y, .slice A n c]
theorem row_facts {wn hn n y : Nat} (hw : 1 ≤ wn) (hw2 : wn ≤ 200) (hh : hn ≤ 60) (hn' : n = wn * hn) (hy : y < hn) :
    ∃ yw ye : Nat, yw = y * wn ∧ ye = yw + wn ∧ ye ≤ n ∧ n ≤ 12000 ∧ wrap64 ((y : Int) * (wn : Int)) = (yw : Int) ∧ wrap64 ((yw : Int) + (wn : Int)) = (ye : Int) ∧ n / wn = hn := by
  have h1 : y * wn + wn ≤ hn * wn := by
    rw [← Nat.succ_mul]
    exact Nat.mul_le_mul_right _ hy
  have h2 : wn * hn ≤ 200 * 60 := Nat.mul_le_mul hw2 hh
  have h3 : (y : Int) * (wn : Int) = ((y * wn : Nat) : Int) := (Int.natCast_mul _ _).symm
  have h4 : hn * wn = wn * hn := Nat.mul_comm _ _
  refine ⟨y * wn, y * wn + wn, rfl, rfl, by omega, by omega, ?_, ?_, ?_⟩
  · rw [h3]
    unfold wrap64
    omega
  · unfold wrap64
    omega
  · rw [hn', Nat.mul_comm]
    exact Nat.mul_div_cancel _ (by omega)
theorem div_facts {n wn hn : Nat} (h : n / wn = hn) : (n : Int) / (wn : Int) = (hn : Int) ∧ (n : Int).tdiv (wn : Int) = (hn : Int) := by
  subst h
  refine ⟨(Int.natCast_ediv n wn).symm, ?_⟩
  rw [Int.tdiv_eq_ediv_of_nonneg (Int.natCast_nonneg n)]
  exact (Int.natCast_ediv n wn).symm
/-- A row of a grid's cells. -/
def rowAt (l : List Cl) (wn y : Nat) : List Cl := (l.drop (y * wn)).take wn
theorem rowAt_len (l : List Cl) (wn y : Nat) : (rowAt l wn y).length = min wn (l.length - y * wn) := by simp [rowAt]
theorem rowAt_sub {l : List Cl} {wn y : Nat} {x : Cl} (h : x ∈ rowAt l wn y) : x ∈ l := List.mem_of_mem_drop (List.mem_of_mem_take h)
theorem row_len {l : List Cl} {wn n y yw ye : Nat} (hl : l.length = n) (hyw : yw = y * wn) (hye : ye = yw + wn) (hle : ye ≤ n) (hw : 1 ≤ wn) : (rowAt l wn y).length = wn ∧ (rowV (rowAt l wn y)).length = (ye - yw) * 4 ∧ 0 < l.length ∧ ye - yw = wn ∧ yw < n := by
  have h1 : (rowAt l wn y).length = wn := by
    rw [rowAt_len, ← hyw]
    omega
  refine ⟨h1, by rw [rowV_len, h1]; congr 1; omega, by omega, by omega, by omega⟩
set_option maxRecDepth 100000 in
set_option maxHeartbeats 4000000 in
theorem rowR_gen (ad : Addr) (n c wn hn y : Nat) (l : List Cl) (w : World) (hw : 1 ≤ wn) (hw2 : wn ≤ 200) (hh : hn ≤ 60) (hnw : n = wn * hn) (hy : y < hn) (hS : RowS w (some ad) n c l) :
    Calls Try.prog 23 #[grv wn hn (some ad) n c, .int .i64 (y : Nat)] w fun e w' => ∃ A' c', e = .returned (.slice A' wn c') ∧ RowS w' A' wn c' (rowAt l wn y) ∧ Below w.heap.size w w' := by
  obtain ⟨i1, ki, kz0, kz1, kz2⟩ := info_parts Try.info55
  have Hcm := Lib.hid hS.cm
  have hnc := hS.cap
  have hln := hS.len
  obtain ⟨yw, ye, hyw, hye, hle, hn12, f1, f2, f3⟩ := row_facts hw hw2 hh hnw hy
  have hN := Blk.new w 32 #[.int .i64 (wn : Int), .int .i64 (hn : Int), .slice (some ad) n c]
  have hb0 := (Below.refl w.heap.size w).alloc (Nat.le_refl _) (.cells #[.int .i64 (wn : Int), .int .i64 (hn : Int), .slice (some ad) n c] 32)
  obtain ⟨t4, t5⟩ := div_facts f3
  have Hyw := Lib.hid hyw
  have Hye := Lib.hid hye
  have Hle := Lib.hid hle
  have F1 := Lib.hid f1
  have F2 := Lib.hid f2
  have T4 := Lib.hid t4
  have T5 := Lib.hid t5
  have HS := Lib.hid hS
  obtain ⟨_, q2, q3, q4, q5⟩ := row_len hln hyw hye hle hw
  have Hlen := Lib.hid q2
  have Hpos := Lib.hid q3
  have Hyx := Lib.hid q4
  have s7 : ¬ c = yw := by
    clear hyw hye hnw f3 f1 f2 t4 t5 q2 q3
    omega
  have Hm1 := Lib.hid (show 0 + (ye - yw) ≤ maxLen by
    clear hyw hye hnw f3 f1 f2 t4 t5 q2 q3
    rw [q4]
    unfold maxLen
    omega)
  have Hm2 := Lib.hid (show (0 + (ye - yw)) * 8 ≤ 140737488355328 by
    clear hyw hye hnw f3 f1 f2 t4 t5 q2 q3
    rw [q4]
    omega)
  clear hyw hye hnw f3 f1 f2 t4 t5 hS hln hw2 q2 q3 q4 q5
  have t1 : decide ((y : Int) < 0) = false := decide_eq_false (by omega)
  have t2 : decide ((hn : Int) ≤ (y : Int)) = false := decide_eq_false (by omega)
  have t3 : decide ((wn : Int) < 1) = false := decide_eq_false (by omega)
  have t2' : decide (hn ≤ y) = false := decide_eq_false (by omega)
  have t6 : ¬ (wn : Int) = 0 := by omega
  have t7 : ((wn : Int) == 0) = false := by
    rw [beq_eq_false_iff_ne]
    exact t6
  have t8 : ¬ wn = 0 := by omega
  have t9 : decide ((hn : Int) < (hn : Int)) = false := decide_eq_false (by omega)
  have s0 : yw ≤ ye := by rw [Hye.out]; exact Nat.le_add_right _ _
  have s2 : (ye : Int) ≤ (c : Int) := by omega
  have s1 : (yw : Int) ≤ (ye : Int) := by omega
  have s3 : decide ((yw : Int) ≤ (ye : Int)) = true := decide_eq_true s1
  have s4 : decide ((ye : Int) ≤ (c : Int)) = true := decide_eq_true s2
  have s6 : ye ≤ c := by omega
  have f1 := F1.out
  have f2 := F2.out
  have t4 := T4.out
  have t5 := T5.out
  go_enter Try.func23, Try.ntmps23
  go_upto_region 1 with fail
  have k0 : ∀ d os, (grow (redrawn (w.alloc (.cells #[.int .i64 (wn : Int), .int .i64 (hn : Int), .slice (some ad) n c] 32)) d) os).cell? ⟨w.heap.size, 0, none⟩ = some (.int .i64 (wn : Int)) := cell_regrown (hN.cell 0)
  have k1 : ∀ d os, (grow (redrawn (w.alloc (.cells #[.int .i64 (wn : Int), .int .i64 (hn : Int), .slice (some ad) n c] 32)) d) os).cell? ⟨w.heap.size, 1, none⟩ = some (.int .i64 (hn : Int)) := cell_regrown (hN.cell 1)
  have k2 : ∀ d os, (grow (redrawn (w.alloc (.cells #[.int .i64 (wn : Int), .int .i64 (hn : Int), .slice (some ad) n c] 32)) d) os).cell? ⟨w.heap.size, 2, none⟩ = some (.slice (some ad) n c) := cell_regrown (hN.cell 2)
  refine wp_region_quiet_below (by kernel_rfl) (by kernel_rfl) ?_
  repeat (first | go_big_quiet_step (fail) | quiet_step (fail))
  refine wpQuiet_nil ?_
  intro _ hw'
  obtain ⟨⟨dq, osq⟩, hw''⟩ := hw'
  subst hw''
  have hb1 := hb0.trans ((below_regrown _ dq osq).mono hb0.size)
  have hN1 := hN.below (below_regrown _ dq osq) hN.lt
  clear k0 k1 k2 hN hb0
  generalize grow (redrawn (w.alloc (.cells #[.int .i64 (wn : Int), .int .i64 (hn : Int), .slice (some ad) n c] 32)) dq) osq = w1 at hb1 hN1 ⊢
  have k0 : w1.cell? ⟨w.heap.size, 0, none⟩ = some (.int .i64 (wn : Int)) := hN1.cell 0
  have k2 : w1.cell? ⟨w.heap.size, 2, none⟩ = some (.slice (some ad) n c) := hN1.cell 2
  have hN2 := hN1.alloc (.cells #[] 55)
  have z0 : (w1.alloc (.cells #[] 55)).cell? ⟨w.heap.size, 0, none⟩ = some (.int .i64 (wn : Int)) := hN2.cell 0
  have z2 : (w1.alloc (.cells #[] 55)).cell? ⟨w.heap.size, 2, none⟩ = some (.slice (some ad) n c) := hN2.cell 2
  clear t4 t5 t1 t2 t3 t6 t7 t8 t9 t2'
  have hb2 := (Below.refl w1.heap.size w1).alloc (Nat.le_refl _) (.cells #[] 55)
  have hsrc : Src (w1.alloc (.cells #[] 55)) (some (ad.add (yw * 4))) (rowV (rowAt l wn y)) := fun _ => ⟨_, rfl, by
    obtain ⟨ad', he, hC⟩ := ((HS.out.below hb1).below hb2).row Hpos.out
    injection he with he
    subst he
    rw [Hyw.out]
    exact (hC.sub (y * wn) wn).src⟩
  have hok : OkL (rowAt l wn y) := fun x hx => HS.out.ok x (rowAt_sub hx)
  have Hg := Lib.hid (show w.heap.size ≤ (w1.alloc (.cells #[] 55)).heap.size from Nat.le_trans hb1.size (by simp))
  go_wp2_with (at_builtin; refine wpList_append_src rfl (.tmp 29) (.tmp 43) 30 rfl w.heap.size 55 i1 _ 4 8 Try.underlying30 ki kz0 kz1 kz2 rfl (by decide) _ 0 [] rfl (own_empty w1 w.heap.size _ 4 hb1.size) (some (ad.add (yw * 4))) (ye - yw) (c - yw) (rowV (rowAt l wn y)) rfl Hlen.out hsrc (fun h => by cases h) (rowV_one _) Hm1.out Hm2.out Hg.out ?_)
  intro v' w2 hown hg
  rw [Hyx.out] at hown
  obtain ⟨A', c', rfl, hRS⟩ := RowS.of_own hok hown
  have hb3 : Below w.heap.size w w2 := (hb1.alloc hb1.size (.cells #[] 55)).grown hg Hg.out (fun q hq => by
    obtain rfl : w1.heap.size = q := by simpa [Value.ownBlock] using hq
    exact hb1.size)
  go_wp2_with fail
  go_ret
  exact ⟨_, _, rfl, hRS, hb3⟩
end Go.Proofs.Ytpjafocgabhieaa
