/- The document's cells: wide, tail, Tail, Check, pair, Right: walked (for DiffTells). -/
import Derived.Test.YtpjafocgabhieaaCelR
namespace Go.Proofs.Ytpjafocgabhieaa
open Go.RowKit Go.Sort
set_option maxRecDepth 100000 in
set_option maxHeartbeats 2000000 in
theorem wideR_gen (c : Cl) (h : OkC c) (w : World) : Calls Try.prog 49 #[.agg c.a] w fun e w' => e = .returned (.bool (wideC c)) ∧ Below w.heap.size w w' := by
  have hb0 := (Below.refl w.heap.size w).alloc (Nat.le_refl _) (.cells c.a 55)
  have hx := h.x
  go_enter Try.func49, Try.ntmps49
  go_wp2_with fail
  go_ret
  exact ⟨ret_bool (by
    unfold wideC
    rw [Bool.eq_iff_iff]
    simp only [beq_iff_eq, decide_eq_true_eq]
    omega), hb0⟩
set_option maxRecDepth 100000 in
set_option maxHeartbeats 2000000 in
theorem tailR_gen (c : Cl) (h : OkC c) (w : World) : Calls Try.prog 66 #[.agg c.a] w fun e w' => e = .returned (.bool (tailC c)) ∧ Below w.heap.size w w' := by
  have hb0 := (Below.refl w.heap.size w).alloc (Nat.le_refl _) (.cells c.a 55)
  have hx := h.x
  go_enter Try.func66, Try.ntmps66
  go_wp2_with fail
  go_ret
  exact ⟨ret_bool (by
    unfold tailC
    rw [Bool.eq_iff_iff]
    simp only [beq_iff_eq, decide_eq_true_eq]
    omega), hb0⟩
set_option maxRecDepth 100000 in
set_option maxHeartbeats 2000000 in
theorem tailOfR_gen (c : Cl) (w : World) : Calls Try.prog 54 #[.agg c.a] w fun e w' => e = .returned (.agg (tlC c).a) ∧ Below w.heap.size w w' := by
  go_enter Try.func54, Try.ntmps54
  go_wp2_with fail
  refine bodyPost_ret (v := .agg #[.int .i32 0, .int .u8 (c.f : Int), .int .u8 (c.b : Int), .int .u8 ((c.x : Int) % 64 + 128)]) ?_ rfl ⟨?_, ?_⟩
  · simp [results, Try.results54, go_sem]
  · rfl
  · exact (((Below.refl _ _).alloc (Nat.le_refl _) _).alloc (by simp) _)
set_option maxRecDepth 100000 in
set_option maxHeartbeats 4000000 in
theorem checkR_gen (c : Cl) (h : OkC c) (w : World) : Calls Try.prog 64 #[.agg c.a] w fun e w' => e = .returned (.bool (chkC c)) ∧ Below w.heap.size w w' := by
  have hN := Blk.new w 55 c.a
  have hb0 := (Below.refl w.heap.size w).alloc (Nat.le_refl _) (.cells c.a 55)
  have HC := Lib.hid (show chkC c = if tailC c then !wideC c && decide (c.r = 0) else if wideC c then decide (wid c.r = 2) else decide (wid c.r = 1) from rfl)
  have hwid := fun W => widthR_any c.r W h.r0 h.r1
  have hwd := fun W => wideR_gen c h W
  have htl := fun W => tailR_gen c h W
  clear h
  generalize chkC c = B at HC ⊢
  generalize wideC c = W at *
  generalize tailC c = T at *
  generalize wid c.r = k at *
  go_enter Try.func64, Try.ntmps64
  go_upto_region 2 with (go_at_call 53; refine (hwid _).mono ?_; rintro e w1 ⟨rfl, rfl⟩)
  go_upto_if 8 with (go_at_call 66; refine (htl _).mono ?_; rintro e w2 ⟨rfl, hb2⟩)
  have hN2 := hN.below hb2 hN.lt
  have hb02 := hb0.trans (hb2.mono hb0.size)
  clear hN hb0 hb2 htl hwid
  have k0 : w2.cell? ⟨w.heap.size, 0, none⟩ = some (.int .i32 c.r) := hN2.cell 0
  have k1 : w2.cell? ⟨w.heap.size, 1, none⟩ = some (.int .u8 (c.f : Int)) := hN2.cell 1
  have k2 : w2.cell? ⟨w.heap.size, 2, none⟩ = some (.int .u8 (c.b : Int)) := hN2.cell 2
  have k3 : w2.cell? ⟨w.heap.size, 3, none⟩ = some (.int .u8 (c.x : Int)) := hN2.cell 3
  have hkeep : ∀ W' : World, Below w2.heap.size w2 W' → (W'.cell? ⟨w.heap.size, 0, none⟩ = some (.int .i32 c.r) ∧ W'.cell? ⟨w.heap.size, 1, none⟩ = some (.int .u8 (c.f : Int)) ∧ W'.cell? ⟨w.heap.size, 2, none⟩ = some (.int .u8 (c.b : Int)) ∧ W'.cell? ⟨w.heap.size, 3, none⟩ = some (.int .u8 (c.x : Int))) := fun W' hW => by
    have h := hN2.below hW hN2.lt
    exact ⟨h.cell 0, h.cell 1, h.cell 2, h.cell 3⟩
  have HK := Lib.hid hkeep
  clear hkeep hN2
  cases T <;> simp only [Bool.false_eq_true, if_false, if_true] at HC
  · cases W <;> simp only [Bool.false_eq_true, if_false, if_true] at HC
    · by_cases e1 : k = 1
      · subst e1
        go_wp2_with (go_at_call 49; refine (hwd _).mono ?_; rintro e w3 ⟨rfl, hb3⟩; obtain ⟨z0, z1, z2, z3⟩ := HK.out _ hb3)
        go_ret
        exact ⟨ret_bool (by rw [HC.out]; rfl), hb02.trans (hb3.mono hb02.size)⟩
      · have n1 : ((k : Int) == 1) = false := by
          rw [beq_eq_false_iff_ne]
          omega
        have n2 : (k == 1) = false := by
          rw [beq_eq_false_iff_ne]
          exact e1
        rw [decide_eq_false e1] at HC
        by_cases e2 : k = 2
        · subst e2
          go_wp2_with (go_at_call 49; refine (hwd _).mono ?_; rintro e w3 ⟨rfl, hb3⟩; obtain ⟨z0, z1, z2, z3⟩ := HK.out _ hb3)
          go_ret
          exact ⟨ret_bool (by rw [HC.out]), hb02.trans (hb3.mono hb02.size)⟩
        · have n3 : ((k : Int) == 2) = false := by
            rw [beq_eq_false_iff_ne]
            omega
          have n4 : (k == 2) = false := by
            rw [beq_eq_false_iff_ne]
            exact e2
          go_wp2_with fail
          go_ret
          exact ⟨ret_bool (by rw [HC.out]), hb02⟩
    · by_cases e1 : k = 1
      · subst e1
        go_wp2_with (go_at_call 49; refine (hwd _).mono ?_; rintro e w3 ⟨rfl, hb3⟩; obtain ⟨z0, z1, z2, z3⟩ := HK.out _ hb3)
        go_ret
        exact ⟨ret_bool (by rw [HC.out]; rfl), hb02.trans (hb3.mono hb02.size)⟩
      · have n1 : ((k : Int) == 1) = false := by
          rw [beq_eq_false_iff_ne]
          omega
        have n2 : (k == 1) = false := by
          rw [beq_eq_false_iff_ne]
          exact e1
        by_cases e2 : k = 2
        · subst e2
          go_wp2_with (go_at_call 49; refine (hwd _).mono ?_; rintro e w3 ⟨rfl, hb3⟩; obtain ⟨z0, z1, z2, z3⟩ := HK.out _ hb3)
          go_ret
          exact ⟨ret_bool (by rw [HC.out]; rfl), hb02.trans (hb3.mono hb02.size)⟩
        · have n3 : ((k : Int) == 2) = false := by
            rw [beq_eq_false_iff_ne]
            omega
          have n4 : (k == 2) = false := by
            rw [beq_eq_false_iff_ne]
            exact e2
          rw [decide_eq_false e2] at HC
          go_wp2_with fail
          go_ret
          exact ⟨ret_bool (by rw [HC.out]), hb02⟩
  · cases W <;> simp only [Bool.not_false, Bool.not_true, Bool.true_and, Bool.false_and] at HC
    · by_cases e1 : c.r = 0
      · have n1 : (c.r == 0) = true := by
          rw [beq_iff_eq]
          exact e1
        rw [decide_eq_true e1] at HC
        clear e1
        go_wp2_with (go_at_call 49; refine (hwd _).mono ?_; rintro e w3 ⟨rfl, hb3⟩; obtain ⟨z0, z1, z2, z3⟩ := HK.out _ hb3)
        go_ret
        exact ⟨ret_bool (by rw [HC.out]), hb02.trans (hb3.mono hb02.size)⟩
      · have n1 : (c.r == 0) = false := by
          rw [beq_eq_false_iff_ne]
          exact e1
        rw [decide_eq_false e1] at HC
        clear e1
        go_wp2_with (go_at_call 49; refine (hwd _).mono ?_; rintro e w3 ⟨rfl, hb3⟩; obtain ⟨z0, z1, z2, z3⟩ := HK.out _ hb3)
        go_ret
        exact ⟨ret_bool (by rw [HC.out]), hb02.trans (hb3.mono hb02.size)⟩
    · go_wp2_with (go_at_call 49; refine (hwd _).mono ?_; rintro e w3 ⟨rfl, hb3⟩; obtain ⟨z0, z1, z2, z3⟩ := HK.out _ hb3)
      go_ret
      exact ⟨ret_bool (by rw [HC.out]), hb02.trans (hb3.mono hb02.size)⟩
end Go.Proofs.Ytpjafocgabhieaa
