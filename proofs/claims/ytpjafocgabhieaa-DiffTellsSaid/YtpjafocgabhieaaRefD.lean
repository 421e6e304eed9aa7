/- The document's pair, Right: walked (for DiffTells). -/
import Derived.Test.YtpjafocgabhieaaRefC
namespace Go.Proofs.Ytpjafocgabhieaa
open Go.RowKit Go.Sort
set_option maxRecDepth 100000 in
set_option maxHeartbeats 8000000 in
theorem pairR_gen (ad : Addr) (n cp i : Nat) (l : List Cl) (w : World) (hn : l.length = n) (hm : n ≤ 1000000) (hR : Cels w ad l) (c : Cl) (hc : l[i]? = some c) :
    Calls Try.prog 65 #[.slice (some ad) n cp, .int .i64 (i : Nat)] w fun e w' => e = .returned (.bool (refPair l i)) ∧ Below w.heap.size w w' := by
  have hi : i < n := by rw [← hn]; exact (List.getElem?_eq_some_iff.1 hc).1
  obtain ⟨⟨c0, c1, c2, c3⟩, ok⟩ := hR i c hc
  have d0 : decide ((0 : Int) ≤ (i : Int)) = true := decide_eq_true (by omega)
  have d1 : decide ((i : Int) < (n : Int)) = true := decide_eq_true (by omega)
  have d2 : decide (i < n) = true := decide_eq_true hi
  have i1 : wrap64 ((i : Int) + 1) = ((i + 1 : Nat) : Int) := by
    unfold wrap64
    omega
  have cC := quiet_c (w := w) (fun W => checkR_gen c ok W)
  have cW := quiet_c (w := w) (fun W => wideR_gen c ok W)
  have cT := quiet_c (w := w) (fun W => tailOfR_gen c W)
  have k0 := cell_regrown c0
  have k1 := cell_regrown c1
  have k2 := cell_regrown c2
  have k3 := cell_regrown c3
  by_cases hi2 : i + 1 < n
  · have i2 : decide (((i + 1 : Nat) : Int) < (n : Int)) = true := decide_eq_true (by omega)
    have i2' : decide ((i : Int) + 1 < (n : Int)) = true := decide_eq_true (by omega)
    have i5 : (i : Int) + 1 < (n : Int) := by omega
    have i4 : ((i : Int) + 1).toNat = i + 1 := by omega
    have i3 : (0 : Int) ≤ (i : Int) + 1 := by omega
    obtain ⟨d, hd⟩ : ∃ d, l[i + 1]? = some d := ⟨_, List.getElem?_eq_getElem (by omega)⟩
    obtain ⟨⟨e0, e1, e2, e3⟩, _⟩ := hR (i + 1) d hd
    have y0 := cell_regrown e0
    have y1 := cell_regrown e1
    have y2 := cell_regrown e2
    have y3 := cell_regrown e3
    have HQ := Lib.hid (show refPair l i = (wideC c && chkC c && decide (d = tlC c)) by
      unfold refPair
      rw [hc, hd]
      rfl)
    clear hR hc hd e0 e1 e2 e3
    generalize hk : chkC c = K at *
    cases K with
    | false =>
      have HP := Lib.hid (show refPair l i = false by rw [HQ.out, Bool.and_false, Bool.false_and])
      clear HQ hk
      go_enter Try.func65, Try.ntmps65
      go_upto_region 1 with fail
      refine wp_region_quiet_below (by kernel_rfl) (by kernel_rfl) ?_
      repeat (first | go_big_quiet_step (exact cC _ _) | quiet_step (exact cC _ _))
      refine wpQuiet_nil ?_
      intro _ hw'
      obtain ⟨⟨dq, osq⟩, hw''⟩ := hw'
      subst hw''
      go_wp2_with fail
      go_ret
      exact ⟨ret_bool HP.out.symm, below_regrown _ dq osq⟩
    | true =>
      generalize hw : wideC c = W at *
      cases W with
      | false =>
        have HP := Lib.hid (show refPair l i = false by rw [HQ.out, Bool.false_and, Bool.false_and])
        clear HQ hk hw
        go_enter Try.func65, Try.ntmps65
        go_upto_region 1 with fail
        refine wp_region_quiet_below (by kernel_rfl) (by kernel_rfl) ?_
        repeat (first | go_big_quiet_step (first | with_reducible exact cC _ _ | with_reducible exact cW _ _) | quiet_step (first | with_reducible exact cC _ _ | with_reducible exact cW _ _))
        refine wpQuiet_nil ?_
        intro _ hw'
        obtain ⟨⟨dq, osq⟩, hw''⟩ := hw'
        subst hw''
        go_wp2_with fail
        go_ret
        exact ⟨ret_bool HP.out.symm, below_regrown _ dq osq⟩
      | true =>
        have cT' : ∀ d os, Calls Try.prog 54 #[.agg c.a] (grow (redrawn w d) os) fun e w'' => e = .returned (.agg #[.int .i32 0, .int .u8 (c.f : Int), .int .u8 (c.b : Int), .int .u8 ((c.x % 64 + 128 : Nat) : Int)]) ∧ ∃ p : Regrown, w'' = grow (redrawn w p.d) p.os := cT
        generalize hy : c.x % 64 + 128 = y at cT'
        have HP2 := Lib.hid (show refPair l i = (decide (d.r = 0) && decide (d.f = c.f) && decide (d.b = c.b) && decide (d.x = y)) by
          rw [HQ.out]
          subst hy
          obtain ⟨dr, df, db, dx⟩ := d
          simp only [tlC, Cl.mk.injEq, Bool.decide_and, Bool.and_assoc, Bool.true_and])
        clear HQ hk hw cT hy
        obtain ⟨dr, df, db, dx⟩ := d
        simp only at HP2 y0 y1 y2 y3
        by_cases g1 : dr = 0
        · subst g1
          by_cases g2 : df = c.f
          · subst g2
            by_cases g3 : db = c.b
            · subst g3
              by_cases g4 : dx = y
              · subst g4
                have HP := Lib.hid (show refPair l i = true by rw [HP2.out]; simp)
                clear HP2
                go_enter Try.func65, Try.ntmps65
                go_upto_region 1 with fail
                refine wp_region_quiet_below (by kernel_rfl) (by kernel_rfl) ?_
                repeat (first | go_big_quiet_step (first | with_reducible exact cC _ _ | with_reducible exact cW _ _ | with_reducible exact cT' _ _) | quiet_step (first | with_reducible exact cC _ _ | with_reducible exact cW _ _ | with_reducible exact cT' _ _))
                refine wpQuiet_nil ?_
                intro _ hw'
                obtain ⟨⟨dq, osq⟩, hw''⟩ := hw'
                subst hw''
                go_wp2_with fail
                go_ret
                exact ⟨ret_bool HP.out.symm, below_regrown _ dq osq⟩
              · have HP := Lib.hid (show refPair l i = false by rw [HP2.out]; simp [g4])
                clear HP2
                go_enter Try.func65, Try.ntmps65
                go_upto_region 1 with fail
                refine wp_region_quiet_below (by kernel_rfl) (by kernel_rfl) ?_
                repeat (first | go_big_quiet_step (first | with_reducible exact cC _ _ | with_reducible exact cW _ _ | with_reducible exact cT' _ _) | quiet_step (first | with_reducible exact cC _ _ | with_reducible exact cW _ _ | with_reducible exact cT' _ _))
                refine wpQuiet_nil ?_
                intro _ hw'
                obtain ⟨⟨dq, osq⟩, hw''⟩ := hw'
                subst hw''
                go_wp2_with fail
                go_ret
                exact ⟨ret_bool HP.out.symm, below_regrown _ dq osq⟩
            · have HP := Lib.hid (show refPair l i = false by rw [HP2.out]; simp [g3])
              clear HP2
              go_enter Try.func65, Try.ntmps65
              go_upto_region 1 with fail
              refine wp_region_quiet_below (by kernel_rfl) (by kernel_rfl) ?_
              repeat (first | go_big_quiet_step (first | with_reducible exact cC _ _ | with_reducible exact cW _ _ | with_reducible exact cT' _ _) | quiet_step (first | with_reducible exact cC _ _ | with_reducible exact cW _ _ | with_reducible exact cT' _ _))
              refine wpQuiet_nil ?_
              intro _ hw'
              obtain ⟨⟨dq, osq⟩, hw''⟩ := hw'
              subst hw''
              go_wp2_with fail
              go_ret
              exact ⟨ret_bool HP.out.symm, below_regrown _ dq osq⟩
          · have HP := Lib.hid (show refPair l i = false by rw [HP2.out]; simp [g2])
            clear HP2
            go_enter Try.func65, Try.ntmps65
            go_upto_region 1 with fail
            refine wp_region_quiet_below (by kernel_rfl) (by kernel_rfl) ?_
            repeat (first | go_big_quiet_step (first | with_reducible exact cC _ _ | with_reducible exact cW _ _ | with_reducible exact cT' _ _) | quiet_step (first | with_reducible exact cC _ _ | with_reducible exact cW _ _ | with_reducible exact cT' _ _))
            refine wpQuiet_nil ?_
            intro _ hw'
            obtain ⟨⟨dq, osq⟩, hw''⟩ := hw'
            subst hw''
            go_wp2_with fail
            go_ret
            exact ⟨ret_bool HP.out.symm, below_regrown _ dq osq⟩
        · have HP := Lib.hid (show refPair l i = false by rw [HP2.out]; simp [g1])
          clear HP2
          go_enter Try.func65, Try.ntmps65
          go_upto_region 1 with fail
          refine wp_region_quiet_below (by kernel_rfl) (by kernel_rfl) ?_
          repeat (first | go_big_quiet_step (first | with_reducible exact cC _ _ | with_reducible exact cW _ _ | with_reducible exact cT' _ _) | quiet_step (first | with_reducible exact cC _ _ | with_reducible exact cW _ _ | with_reducible exact cT' _ _))
          refine wpQuiet_nil ?_
          intro _ hw'
          obtain ⟨⟨dq, osq⟩, hw''⟩ := hw'
          subst hw''
          go_wp2_with fail
          go_ret
          exact ⟨ret_bool HP.out.symm, below_regrown _ dq osq⟩
  · have i2 : decide (((i + 1 : Nat) : Int) < (n : Int)) = false := decide_eq_false (by omega)
    have i2' : decide ((i : Int) + 1 < (n : Int)) = false := decide_eq_false (by omega)
    have HP := Lib.hid (show refPair l i = false by
      unfold refPair
      rw [hc, List.getElem?_eq_none (by omega)])
    clear hR hc cC cW cT
    go_enter Try.func65, Try.ntmps65
    go_upto_region 1 with fail
    refine wp_region_quiet_below (by kernel_rfl) (by kernel_rfl) ?_
    repeat (first | go_big_quiet_step (fail) | quiet_step (fail))
    refine wpQuiet_nil ?_
    intro _ hw'
    obtain ⟨⟨dq, osq⟩, hw''⟩ := hw'
    subst hw''
    go_wp2_with fail
    go_ret
    exact ⟨ret_bool HP.out.symm, below_regrown _ dq osq⟩
set_option maxRecDepth 100000 in
theorem pairR_none (A : Option Addr) (n cp : Nat) (w : World) : Calls Try.prog 65 #[.slice A n cp, .int .i64 (-1)] w fun e w' => e = .returned (.bool false) ∧ Below w.heap.size w w' := by
  go_enter Try.func65, Try.ntmps65
  go_upto_region 1 with fail
  refine wp_region_quiet_below (by kernel_rfl) (by kernel_rfl) ?_
  repeat (first | go_big_quiet_step (fail) | quiet_step (fail))
  refine wpQuiet_nil ?_
  intro _ hw'
  obtain ⟨⟨dq, osq⟩, hw''⟩ := hw'
  subst hw''
  go_wp2_with fail
  go_ret
  exact ⟨rfl, below_regrown _ dq osq⟩
end Go.Proofs.Ytpjafocgabhieaa
