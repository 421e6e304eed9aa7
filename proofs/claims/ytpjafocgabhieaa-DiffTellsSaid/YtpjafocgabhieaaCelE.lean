/- Are two cells the same: '==', '!=' (for DiffTells). -/
import Derived.Test.YtpjafocgabhieaaGrdY
import Derived.Laws.StructEq
namespace Go.Proofs.Ytpjafocgabhieaa
open Go.RowKit Go.Sort
set_option maxRecDepth 100000 in
theorem equal_cell (c d : Cl) (W : World) : (Op.equalIn 10000 55 (.agg d.a) (.agg c.a)).run Try.prog W = .ok (decide (d = c)) W := by
  obtain ⟨cr, cf, cb, cx⟩ := c
  obtain ⟨dr, df, db, dx⟩ := d
  have h : decide ((⟨dr, df, db, dx⟩ : Cl) = ⟨cr, cf, cb, cx⟩) = (dr == cr && (((df : Int) == (cf : Int)) && (((db : Int) == (cb : Int)) && ((dx : Int) == (cx : Int))))) := by
    rw [Bool.eq_iff_iff]
    simp
    omega
  rw [h]
  clear h
  simp only [Cl.a]
  by_cases h1 : dr = cr
  · subst h1
    by_cases h2 : (df : Int) = (cf : Int)
    · rw [h2]
      by_cases h3 : (db : Int) = (cb : Int)
      · rw [h3]
        by_cases h4 : (dx : Int) = (cx : Int)
        · rw [h4]
          simp [go_sem]
        · have e : ((dx : Int) == (cx : Int)) = false := by rw [beq_eq_false_iff_ne]; exact h4
          rw [e]
          simp [go_sem]
          omega
      · have e : ((db : Int) == (cb : Int)) = false := by rw [beq_eq_false_iff_ne]; exact h3
        rw [e]
        simp [go_sem]
        omega
    · have e : ((df : Int) == (cf : Int)) = false := by rw [beq_eq_false_iff_ne]; exact h2
      rw [e]
      simp [go_sem]
      omega
  · have e : (dr == cr) = false := by rw [beq_eq_false_iff_ne]; exact h1
    rw [e]
    simp [go_sem, h1]
theorem eql_cell (c d : Cl) (W : World) : (binOp .eql 55 (.agg d.a) (.agg c.a)).run Try.prog W = .ok (.bool (decide (d = c))) W := by
  rw [run_eql_struct, equal_cell]
  rfl
theorem neq_cell (c d : Cl) (W : World) : (binOp .neq 55 (.agg d.a) (.agg c.a)).run Try.prog W = .ok (.bool (!decide (d = c))) W := by
  rw [run_neq_struct, equal_cell]
  rfl
end Go.Proofs.Ytpjafocgabhieaa
