/- diff.alike of two grids: walked (for DiffTells). -/
import Derived.Test.YtpjafocgabhieaaGrdX
namespace Go.Proofs.Ytpjafocgabhieaa
open Go.RowKit Go.Sort
/-- Are two grids right, and of one size? -/
def alikeP (xa ya xb yb : Int) (la lb : List Cl) : Bool := gridP xa ya la && gridP xb yb lb && decide (xa = xb) && decide (ya = yb)
set_option maxRecDepth 100000 in
set_option maxHeartbeats 4000000 in
theorem alike_gen (xa ya xb yb : Int) (A B : Option Addr) (na ca nb cb : Nat) (la lb : List Cl) (w : World) (hA : RowS w A na ca la) (hB : RowS w B nb cb lb) :
    Calls Try.prog 34 #[grv xa ya A na ca, grv xb yb B nb cb] w fun e w' => e = .returned (.bool (alikeP xa ya xb yb la lb)) ∧ Below w.heap.size w w' := by
  have HA := Lib.hid hA
  have HB := Lib.hid hB
  have hNa := (Blk.new w 32 #[.int .i64 xa, .int .i64 ya, .slice A na ca]).alloc (.cells #[.int .i64 xb, .int .i64 yb, .slice B nb cb] 32)
  have hNb := Blk.new (w.alloc (.cells #[.int .i64 xa, .int .i64 ya, .slice A na ca] 32)) 32 #[.int .i64 xb, .int .i64 yb, .slice B nb cb]
  rw [World.size_alloc] at hNb
  have hb0 := ((Below.refl w.heap.size w).alloc (Nat.le_refl _) (.cells #[.int .i64 xa, .int .i64 ya, .slice A na ca] 32)).alloc (by simp) (.cells #[.int .i64 xb, .int .i64 yb, .slice B nb cb] 32)
  obtain ⟨W0, hW0⟩ : ∃ W0, (w.alloc (.cells #[.int .i64 xa, .int .i64 ya, .slice A na ca] 32)).alloc (.cells #[.int .i64 xb, .int .i64 yb, .slice B nb cb] 32) = W0 := ⟨_, rfl⟩
  rw [hW0] at hNa hNb hb0
  have hca := checkG_gen xa ya A na ca la W0 (HA.out.below hb0)
  have ka2 : W0.cell? ⟨w.heap.size, 0, none⟩ = some (.int .i64 xa) := hNa.cell 0
  have ka1 : W0.cell? ⟨w.heap.size, 1, none⟩ = some (.int .i64 ya) := hNa.cell 1
  have ka0 : W0.cell? ⟨w.heap.size, 2, none⟩ = some (.slice A na ca) := hNa.cell 2
  clear hA hB
  cases hqa : gridP xa ya la with
  | false =>
    have HP := Lib.hid (show alikeP xa ya xb yb la lb = false by unfold alikeP; rw [hqa]; rfl)
    rw [hqa] at hca
    clear hqa
    go_enter Try.func34, Try.ntmps34
    go_wp2_with fail
    refine hca.mono ?_
    rintro e w1 ⟨rfl, hb1⟩
    go_wp2_with fail
    go_ret
    exact ⟨ret_bool HP.out.symm, hb0.trans (hb1.mono hb0.size)⟩
  | true =>
    rw [hqa] at hca
    go_enter Try.func34, Try.ntmps34
    go_wp2_with fail
    refine hca.mono ?_
    rintro e w1 ⟨rfl, hb1⟩
    have hNa1 := hNa.below hb1 hNa.lt
    have hNb1 := hNb.below hb1 hNb.lt
    have hb2 := hb0.trans (hb1.mono hb0.size)
    have hcb := checkG_gen xb yb B nb cb lb w1 (HB.out.below hb2)
    have kb2 : w1.cell? ⟨w.heap.size + 1, 0, none⟩ = some (.int .i64 xb) := hNb1.cell 0
    have kb1 : w1.cell? ⟨w.heap.size + 1, 1, none⟩ = some (.int .i64 yb) := hNb1.cell 1
    have kb0 : w1.cell? ⟨w.heap.size + 1, 2, none⟩ = some (.slice B nb cb) := hNb1.cell 2
    clear hca ka0 ka1 ka2 hNa hNb hb0 hb1
    cases hqb : gridP xb yb lb with
    | false =>
      have HP := Lib.hid (show alikeP xa ya xb yb la lb = false by unfold alikeP; rw [hqb]; simp)
      rw [hqb] at hcb
      clear hqb hqa
      go_wp2_with fail
      refine hcb.mono ?_
      rintro e w2 ⟨rfl, hb3⟩
      go_wp2_with fail
      go_ret
      exact ⟨ret_bool HP.out.symm, hb2.trans (hb3.mono hb2.size)⟩
    | true =>
      have HP := Lib.hid (show alikeP xa ya xb yb la lb = (decide (xa = xb) && decide (ya = yb)) by unfold alikeP; rw [hqa, hqb]; simp)
      rw [hqb] at hcb
      clear hqb hqa
      go_wp2_with fail
      refine hcb.mono ?_
      rintro e w2 ⟨rfl, hb3⟩
      have hNa2 := hNa1.below hb3 hNa1.lt
      have hNb2 := hNb1.below hb3 hNb1.lt
      have hb4 := hb2.trans (hb3.mono hb2.size)
      have k0 : w2.cell? ⟨w.heap.size, 0, none⟩ = some (.int .i64 xa) := hNa2.cell 0
      have k1 : w2.cell? ⟨w.heap.size, 1, none⟩ = some (.int .i64 ya) := hNa2.cell 1
      have j0 : w2.cell? ⟨w.heap.size + 1, 0, none⟩ = some (.int .i64 xb) := hNb2.cell 0
      have j1 : w2.cell? ⟨w.heap.size + 1, 1, none⟩ = some (.int .i64 yb) := hNb2.cell 1
      clear hcb kb0 kb1 kb2 hNa1 hNb1 hb2 hb3 hNa2 hNb2
      by_cases h1 : xa = xb
      · by_cases h2 : ya = yb
        · have HP2 := Lib.hid (HP.out.trans (show (decide (xa = xb) && decide (ya = yb)) = true by simp [h1, h2]))
          have e1 : (xa == xb) = true := by rw [beq_iff_eq]; exact h1
          have e2 : (ya == yb) = true := by rw [beq_iff_eq]; exact h2
          clear h1 h2
          go_wp2_with fail
          go_ret
          exact ⟨ret_bool HP2.out.symm, hb4⟩
        · have HP2 := Lib.hid (HP.out.trans (show (decide (xa = xb) && decide (ya = yb)) = false by simp [h2]))
          have e1 : (xa == xb) = true := by rw [beq_iff_eq]; exact h1
          have e2 : (ya == yb) = false := by rw [beq_eq_false_iff_ne]; exact h2
          clear h1 h2
          go_wp2_with fail
          go_ret
          exact ⟨ret_bool HP2.out.symm, hb4⟩
      · have HP2 := Lib.hid (HP.out.trans (show (decide (xa = xb) && decide (ya = yb)) = false by simp [h1]))
        have e1 : (xa == xb) = false := by rw [beq_eq_false_iff_ne]; exact h1
        clear h1
        go_wp2_with fail
        go_ret
        exact ⟨ret_bool HP2.out.symm, hb4⟩
end Go.Proofs.Ytpjafocgabhieaa
