/- cell.Check, tailOf, single, paired of any cells: walked (for DiffTells). -/
import Derived.Test.YtpjafocgabhieaaMgP
import Derived.Test.YtpjafocgabhieaaBlkL
import Derived.Deep.QuietTactic
import Derived.BigQuiet
import Derived.Deep.RegionHeld3
import Derived.Lib.QuietBelow
namespace Go.Proofs.Ytpjafocgabhieaa
open Go.RowKit Go.Sort
theorem below_drewN {B : Nat} {a w : World} (h : Below B a w) (n : Nat) : Below B a (w.drewN n) := ⟨h.os, h.tape, h.output, h.size, h.block⟩
theorem keepc {w w' : World} (hb : Below w.heap.size w w') {p : Addr} {v : Value} (h : w.cell? p = some v) : w'.cell? p = some v := (hb.cell (World.block_lt_of_cell? w p h)).trans h
abbrev Cl.a (c : Cl) : Array Value := #[.int .i32 c.r, .int .u8 (c.f : Int), .int .u8 (c.b : Int), .int .u8 (c.x : Int)]
/-- A cell as it may lie in memory. -/
structure OkC (c : Cl) : Prop where
  r0 : -2147483648 ≤ c.r
  r1 : c.r ≤ 2147483647
  f : c.f < 256
  b : c.b < 256
  x : c.x < 256
theorem and64 : ∀ x : Fin 256, x.val &&& 64 = x.val / 64 % 2 * 64 := by decide +kernel
theorem and128 : ∀ x : Fin 256, x.val &&& 128 = x.val / 128 % 2 * 128 := by decide +kernel
theorem and192 : ∀ x : Fin 256, x.val &&& 192 = x.val / 64 * 64 := by decide +kernel
theorem bits64 {c : Cl} (h : OkC c) : bits .and .u8 (c.x : Int) 64 = if wideC c then 64 else 0 := by
  have h1 := u8_and_nat c.x 64 h.x (by decide)
  rw [and64 ⟨c.x, h.x⟩] at h1
  refine h1.trans ?_
  unfold wideC
  split <;> rename_i h2 <;> simp only [decide_eq_true_eq] at h2 <;> simp only <;> omega
theorem bits128 {c : Cl} (h : OkC c) : bits .and .u8 (c.x : Int) 128 = if tailC c then 128 else 0 := by
  have h1 := u8_and_nat c.x 128 h.x (by decide)
  rw [and128 ⟨c.x, h.x⟩] at h1
  refine h1.trans ?_
  unfold tailC
  split <;> rename_i h2 <;> simp only [decide_eq_true_eq] at h2 <;> simp only <;> omega
set_option maxRecDepth 100000 in
set_option maxHeartbeats 4000000 in
theorem check_gen (c : Cl) (h : OkC c) (w : World) : Calls Try.prog 72 #[.agg c.a] w fun e w' => e = .returned (.bool (chkC c)) ∧ Below w.heap.size w w' := by
  have h1 := bits64 h
  have h2 := bits128 h
  have hb0 := (Below.refl w.heap.size w).alloc (Nat.le_refl _) (.cells c.a 55)
  have HC := Lib.hid (show chkC c = if tailC c then !wideC c && decide (c.r = 0) else if wideC c then decide (wid c.r = 2) else decide (wid c.r = 1) from rfl)
  have hwid := fun W => width_any c.r W h.r0 h.r1
  clear h
  generalize chkC c = B at HC ⊢
  generalize hw : wideC c = W at *
  generalize ht : tailC c = T at *
  clear hw ht
  obtain ⟨r, f, b, x⟩ := c
  simp only at hwid h1 h2 HC hb0 ⊢
  generalize hk : wid r = k at *
  clear hk
  cases T <;> cases W <;> simp only [Bool.false_eq_true, if_false, if_true, Bool.not_false, Bool.not_true, Bool.true_and, Bool.false_and] at h1 h2 HC
  · by_cases hk : k = 1
    · subst hk
      go_enter Try.func72, Try.ntmps72
      go_wp2_with fail
      go_quiet (fail)
      go_wp2_with fail
      refine (hwid _).mono ?_
      rintro e w1 ⟨rfl, hb1⟩
      go_wp2_with fail
      go_ret
      exact ⟨ret_bool (by rw [HC.out]; rfl), (below_drewN hb0 _).trans (hb1.mono hb0.size)⟩
    · have e1 : ((k : Int) == 1) = false := by
        rw [beq_eq_false_iff_ne]
        omega
      have e2 : (k == 1) = false := by
        rw [beq_eq_false_iff_ne]
        exact hk
      rw [decide_eq_false hk] at HC
      go_enter Try.func72, Try.ntmps72
      go_wp2_with fail
      go_quiet (fail)
      go_wp2_with fail
      refine (hwid _).mono ?_
      rintro e w1 ⟨rfl, hb1⟩
      go_wp2_with fail
      go_ret
      exact ⟨ret_bool (by rw [HC.out]), (below_drewN hb0 _).trans (hb1.mono hb0.size)⟩
  · by_cases hk : k = 2
    · subst hk
      go_enter Try.func72, Try.ntmps72
      go_wp2_with fail
      go_quiet (fail)
      go_wp2_with fail
      refine (hwid _).mono ?_
      rintro e w1 ⟨rfl, hb1⟩
      go_wp2_with fail
      go_ret
      exact ⟨ret_bool (by rw [HC.out]; rfl), (below_drewN hb0 _).trans (hb1.mono hb0.size)⟩
    · have e1 : ((k : Int) == 2) = false := by
        rw [beq_eq_false_iff_ne]
        omega
      have e2 : (k == 2) = false := by
        rw [beq_eq_false_iff_ne]
        exact hk
      rw [decide_eq_false hk] at HC
      go_enter Try.func72, Try.ntmps72
      go_wp2_with fail
      go_quiet (fail)
      go_wp2_with fail
      refine (hwid _).mono ?_
      rintro e w1 ⟨rfl, hb1⟩
      go_wp2_with fail
      go_ret
      exact ⟨ret_bool (by rw [HC.out]), (below_drewN hb0 _).trans (hb1.mono hb0.size)⟩
  · by_cases hr : r = 0
    · subst hr
      go_enter Try.func72, Try.ntmps72
      go_wp2_with fail
      go_quiet (fail)
      go_wp2_with fail
      go_ret
      exact ⟨ret_bool (by rw [HC.out]; rfl), below_drewN hb0 _⟩
    · have e1 : (r == 0) = false := by
        rw [beq_eq_false_iff_ne]
        exact hr
      rw [decide_eq_false hr] at HC
      go_enter Try.func72, Try.ntmps72
      go_wp2_with fail
      go_quiet (fail)
      go_wp2_with fail
      go_ret
      exact ⟨ret_bool (by rw [HC.out]), below_drewN hb0 _⟩
  · go_enter Try.func72, Try.ntmps72
    go_wp2_with fail
    go_quiet (fail)
    go_wp2_with fail
    go_ret
    exact ⟨ret_bool (by rw [HC.out]), below_drewN hb0 _⟩
theorem tail_bits : ∀ x : Fin 256, x.val / 64 = 1 → bits .or .u8 (bits .andNot .u8 (x.val : Nat) 64) 128 = ((x.val % 64 + 128 : Nat) : Int) := by decide +kernel
set_option maxRecDepth 100000 in
set_option maxHeartbeats 2000000 in
theorem tailOf_any (r f b x y : Int) (w : World) (h : bits .or .u8 (bits .andNot .u8 x 64) 128 = y) :
    Calls Try.prog 73 #[.agg #[.int .i32 r, .int .u8 f, .int .u8 b, .int .u8 x]] w fun e w' => e = .returned (.agg #[.int .i32 0, .int .u8 f, .int .u8 b, .int .u8 y]) ∧ Below w.heap.size w w' := by
  go_enter Try.func73, Try.ntmps73
  go_wp2_with fail
  refine bodyPost_ret (v := .agg #[.int .i32 0, .int .u8 f, .int .u8 b, .int .u8 y]) ?_ rfl ⟨rfl, ?_⟩
  · simp [results, Try.results73, go_sem]
  · exact ((((((Below.refl _ _).alloc (Nat.le_refl _) _).alloc (by simp) _))))
theorem tailOf_gen (c : Cl) (h : OkC c) (hw : wideC c = true) (ht : tailC c = false) (w : World) : Calls Try.prog 73 #[.agg c.a] w fun e w' => e = .returned (.agg (tlC c).a) ∧ Below w.heap.size w w' :=
  tailOf_any c.r c.f c.b c.x _ w (tail_bits ⟨c.x, h.x⟩ (wide_of c h.x hw ht))
/-- A cell as it lies at a place. -/
structure CelAt (w : World) (p : Addr) (c : Cl) : Prop where
  c0 : w.cell? p = some (.int .i32 c.r)
  c1 : w.cell? ⟨p.block, p.off + 1, none⟩ = some (.int .u8 (c.f : Int))
  c2 : w.cell? ⟨p.block, p.off + 2, none⟩ = some (.int .u8 (c.b : Int))
  c3 : w.cell? ⟨p.block, p.off + 3, none⟩ = some (.int .u8 (c.x : Int))
theorem CelAt.below {w w' : World} {p : Addr} {c : Cl} (h : CelAt w p c) (hb : Below w.heap.size w w') : CelAt w' p c := ⟨keepc hb h.c0, keepc hb h.c1, keepc hb h.c2, keepc hb h.c3⟩
/-- A row of cells as it lies from an address on. -/
def Cels (w : World) (ad : Addr) (l : List Cl) : Prop := ∀ (k : Nat) (c : Cl), l[k]? = some c → CelAt w (ad.add (k * 4)) c ∧ OkC c
theorem Cels.below {w w' : World} {ad : Addr} {l : List Cl} (h : Cels w ad l) (hb : Below w.heap.size w w') : Cels w' ad l := fun k c hc => ⟨(h k c hc).1.below hb, (h k c hc).2⟩
theorem quiet_c {w : World} {f : FuncId} {args : Array Value} {v : Value} (h : ∀ W, Calls Try.prog f args W fun e w' => e = .returned v ∧ Below W.heap.size W w') : ∀ d os, Calls Try.prog f args (grow (redrawn w d) os) fun e w'' => e = .returned v ∧ ∃ p : Regrown, w'' = grow (redrawn w p.d) p.os := fun _ _ => Calls.regrown_of (h _)
set_option maxRecDepth 100000 in
set_option maxHeartbeats 4000000 in
theorem paired_gen (ad : Addr) (n cp i : Nat) (l : List Cl) (w : World) (hn : l.length = n) (hm : n ≤ 1000000) (hR : Cels w ad l) (c : Cl) (hc : l[i]? = some c) :
    Calls Try.prog 59 #[.slice (some ad) n cp, .int .i64 (i : Nat)] w fun e w' => e = .returned (.bool (refPair l i)) ∧ Below w.heap.size w w' := by
  have hi : i < n := by rw [← hn]; exact (List.getElem?_eq_some_iff.1 hc).1
  obtain ⟨⟨c0, c1, c2, c3⟩, ok⟩ := hR i c hc
  have d1 : decide ((i : Int) < (n : Int)) = true := decide_eq_true (by omega)
  have d2 : decide (i < n) = true := decide_eq_true hi
  have h1 := bits64 ok
  have hchk := fun W => check_gen c ok W
  have hN := Blk.new w 55 c.a
  have hb0 := (Below.refl w.heap.size w).alloc (Nat.le_refl _) (.cells c.a 55)
  cases hw : wideC c with
  | false =>
    have HP := Lib.hid (show refPair l i = false by
      unfold refPair
      rw [hc]
      cases l[i + 1]? with
      | none => rfl
      | some d => exact pair_flat hw)
    rw [hw] at h1
    simp only [Bool.false_eq_true, if_false] at h1
    clear hchk hc hw hR
    go_enter Try.func59, Try.ntmps59
    go_upto_region 2 with fail
    have k0 : ∀ d os, (grow (redrawn (w.alloc (.cells c.a 55)) d) os).cell? ⟨w.heap.size, 0, none⟩ = some (.int .i32 c.r) := cell_regrown (hN.cell 0)
    have k1 : ∀ d os, (grow (redrawn (w.alloc (.cells c.a 55)) d) os).cell? ⟨w.heap.size, 1, none⟩ = some (.int .u8 (c.f : Int)) := cell_regrown (hN.cell 1)
    have k2 : ∀ d os, (grow (redrawn (w.alloc (.cells c.a 55)) d) os).cell? ⟨w.heap.size, 2, none⟩ = some (.int .u8 (c.b : Int)) := cell_regrown (hN.cell 2)
    have k3 : ∀ d os, (grow (redrawn (w.alloc (.cells c.a 55)) d) os).cell? ⟨w.heap.size, 3, none⟩ = some (.int .u8 (c.x : Int)) := cell_regrown (hN.cell 3)
    refine wp_region_quiet_below (by kernel_rfl) (by kernel_rfl) ?_
    repeat (first | go_big_quiet_step (fail) | quiet_step (fail))
    refine wpQuiet_nil ?_
    intro _ hw'
    obtain ⟨⟨dq, osq⟩, hw''⟩ := hw'
    subst hw''
    go_wp2_with fail
    go_ret
    exact ⟨ret_bool HP.out.symm, hb0.trans ((below_regrown _ dq osq).mono hb0.size)⟩
  | true =>
    rw [hw] at h1
    simp only [if_true] at h1
    cases hk : chkC c with
    | false =>
      have HP := Lib.hid (show refPair l i = false by
        unfold refPair
        rw [hc]
        cases l[i + 1]? with
        | none => rfl
        | some d => simp only [pairC, hk, Bool.and_false, Bool.false_and])
      have cC := quiet_c (w := w.alloc (.cells c.a 55)) hchk
      rw [hk] at cC
      clear hchk hc hw hR hk
      go_enter Try.func59, Try.ntmps59
      go_upto_region 2 with fail
      have k0 : ∀ d os, (grow (redrawn (w.alloc (.cells c.a 55)) d) os).cell? ⟨w.heap.size, 0, none⟩ = some (.int .i32 c.r) := cell_regrown (hN.cell 0)
      have k1 : ∀ d os, (grow (redrawn (w.alloc (.cells c.a 55)) d) os).cell? ⟨w.heap.size, 1, none⟩ = some (.int .u8 (c.f : Int)) := cell_regrown (hN.cell 1)
      have k2 : ∀ d os, (grow (redrawn (w.alloc (.cells c.a 55)) d) os).cell? ⟨w.heap.size, 2, none⟩ = some (.int .u8 (c.b : Int)) := cell_regrown (hN.cell 2)
      have k3 : ∀ d os, (grow (redrawn (w.alloc (.cells c.a 55)) d) os).cell? ⟨w.heap.size, 3, none⟩ = some (.int .u8 (c.x : Int)) := cell_regrown (hN.cell 3)
      refine wp_region_quiet_below (by kernel_rfl) (by kernel_rfl) ?_
      repeat (first | go_big_quiet_step (exact cC _ _) | quiet_step (exact cC _ _))
      refine wpQuiet_nil ?_
      intro _ hw'
      obtain ⟨⟨dq, osq⟩, hw''⟩ := hw'
      subst hw''
      go_wp2_with fail
      go_ret
      exact ⟨ret_bool HP.out.symm, hb0.trans ((below_regrown _ dq osq).mono hb0.size)⟩
    | true =>
      have ht := wide_flat hk hw
      have cC := quiet_c (w := w.alloc (.cells c.a 55)) hchk
      have cT := quiet_c (w := w.alloc (.cells c.a 55)) (fun W => tailOf_gen c ok hw ht W)
      rw [hk] at cC
      by_cases hi2 : i + 1 < n
      · obtain ⟨d, hd⟩ : ∃ d, l[i + 1]? = some d := ⟨_, List.getElem?_eq_getElem (by omega)⟩
        obtain ⟨⟨e0, e1, e2, e3⟩, _⟩ := hR (i + 1) d hd
        have e0' := keepc hb0 e0
        have e1' := keepc hb0 e1
        have e2' := keepc hb0 e2
        have e3' := keepc hb0 e3
        have y0 := cell_regrown e0'
        have y1 := cell_regrown e1'
        have y2 := cell_regrown e2'
        have y3 := cell_regrown e3'
        have i1 : wrap64 ((i : Int) + 1) = ((i + 1 : Nat) : Int) := by
          unfold wrap64
          omega
        have i2 : decide (((i + 1 : Nat) : Int) < (n : Int)) = true := decide_eq_true (by omega)
        have i2' : decide ((i : Int) + 1 < (n : Int)) = true := decide_eq_true (by omega)
        have i5 : (i : Int) + 1 < (n : Int) := by omega
        have i4 : ((i : Int) + 1).toNat = i + 1 := by omega
        have i3 : (0 : Int) ≤ (i : Int) + 1 := by omega
        have HP := Lib.hid (show refPair l i = decide (d = tlC c) by
          unfold refPair
          rw [hc, hd]
          simp [pairC, hw, hk])
        have cT' : ∀ d os, Calls Try.prog 73 #[.agg c.a] (grow (redrawn (w.alloc (.cells c.a 55)) d) os) fun e w'' => e = .returned (.agg #[.int .i32 0, .int .u8 (c.f : Int), .int .u8 (c.b : Int), .int .u8 ((c.x % 64 + 128 : Nat) : Int)]) ∧ ∃ p : Regrown, w'' = grow (redrawn (w.alloc (.cells c.a 55)) p.d) p.os := cT
        generalize hy : c.x % 64 + 128 = y at cT'
        have HP2 := Lib.hid (show refPair l i = (decide (d.r = 0) && decide (d.f = c.f) && decide (d.b = c.b) && decide (d.x = y)) by
          rw [HP.out]
          subst hy
          obtain ⟨dr, df, db, dx⟩ := d
          simp only [tlC, Cl.mk.injEq, Bool.decide_and, Bool.and_assoc])
        clear HP hchk hc hw hR hk hd ht e0 e1 e2 e3 e0' e1' e2' e3' cT hy
        obtain ⟨dr, df, db, dx⟩ := d
        simp only at HP2 y0 y1 y2 y3
        have k0 : ∀ d os, (grow (redrawn (w.alloc (.cells c.a 55)) d) os).cell? ⟨w.heap.size, 0, none⟩ = some (.int .i32 c.r) := cell_regrown (hN.cell 0)
        have k1 : ∀ d os, (grow (redrawn (w.alloc (.cells c.a 55)) d) os).cell? ⟨w.heap.size, 1, none⟩ = some (.int .u8 (c.f : Int)) := cell_regrown (hN.cell 1)
        have k2 : ∀ d os, (grow (redrawn (w.alloc (.cells c.a 55)) d) os).cell? ⟨w.heap.size, 2, none⟩ = some (.int .u8 (c.b : Int)) := cell_regrown (hN.cell 2)
        have k3 : ∀ d os, (grow (redrawn (w.alloc (.cells c.a 55)) d) os).cell? ⟨w.heap.size, 3, none⟩ = some (.int .u8 (c.x : Int)) := cell_regrown (hN.cell 3)
        by_cases g1 : dr = 0
        · subst g1
          by_cases g2 : df = c.f
          · subst g2
            by_cases g3 : db = c.b
            · subst g3
              by_cases g4 : dx = y
              · subst g4
                have HP := Lib.hid (show refPair l i = true by rw [HP2.out]; simp)
                clear HP2
                go_enter Try.func59, Try.ntmps59
                go_upto_region 2 with fail
                refine wp_region_quiet_below (by kernel_rfl) (by kernel_rfl) ?_
                repeat (first | go_big_quiet_step (first | with_reducible exact cC _ _ | with_reducible exact cT' _ _) | quiet_step (first | with_reducible exact cC _ _ | with_reducible exact cT' _ _))
                refine wpQuiet_nil ?_
                intro _ hw'
                obtain ⟨⟨dq, osq⟩, hw''⟩ := hw'
                subst hw''
                go_wp2_with fail
                go_ret
                exact ⟨ret_bool HP.out.symm, hb0.trans ((below_regrown _ dq osq).mono hb0.size)⟩
              · have HP := Lib.hid (show refPair l i = false by rw [HP2.out]; simp [g4])
                clear HP2
                go_enter Try.func59, Try.ntmps59
                go_upto_region 2 with fail
                refine wp_region_quiet_below (by kernel_rfl) (by kernel_rfl) ?_
                repeat (first | go_big_quiet_step (first | with_reducible exact cC _ _ | with_reducible exact cT' _ _) | quiet_step (first | with_reducible exact cC _ _ | with_reducible exact cT' _ _))
                refine wpQuiet_nil ?_
                intro _ hw'
                obtain ⟨⟨dq, osq⟩, hw''⟩ := hw'
                subst hw''
                go_wp2_with fail
                go_ret
                exact ⟨ret_bool HP.out.symm, hb0.trans ((below_regrown _ dq osq).mono hb0.size)⟩
            · have HP := Lib.hid (show refPair l i = false by rw [HP2.out]; simp [g3])
              clear HP2
              go_enter Try.func59, Try.ntmps59
              go_upto_region 2 with fail
              refine wp_region_quiet_below (by kernel_rfl) (by kernel_rfl) ?_
              repeat (first | go_big_quiet_step (first | with_reducible exact cC _ _ | with_reducible exact cT' _ _) | quiet_step (first | with_reducible exact cC _ _ | with_reducible exact cT' _ _))
              refine wpQuiet_nil ?_
              intro _ hw'
              obtain ⟨⟨dq, osq⟩, hw''⟩ := hw'
              subst hw''
              go_wp2_with fail
              go_ret
              exact ⟨ret_bool HP.out.symm, hb0.trans ((below_regrown _ dq osq).mono hb0.size)⟩
          · have HP := Lib.hid (show refPair l i = false by rw [HP2.out]; simp [g2])
            clear HP2
            go_enter Try.func59, Try.ntmps59
            go_upto_region 2 with fail
            refine wp_region_quiet_below (by kernel_rfl) (by kernel_rfl) ?_
            repeat (first | go_big_quiet_step (first | with_reducible exact cC _ _ | with_reducible exact cT' _ _) | quiet_step (first | with_reducible exact cC _ _ | with_reducible exact cT' _ _))
            refine wpQuiet_nil ?_
            intro _ hw'
            obtain ⟨⟨dq, osq⟩, hw''⟩ := hw'
            subst hw''
            go_wp2_with fail
            go_ret
            exact ⟨ret_bool HP.out.symm, hb0.trans ((below_regrown _ dq osq).mono hb0.size)⟩
        · have HP := Lib.hid (show refPair l i = false by rw [HP2.out]; simp [g1])
          clear HP2
          go_enter Try.func59, Try.ntmps59
          go_upto_region 2 with fail
          refine wp_region_quiet_below (by kernel_rfl) (by kernel_rfl) ?_
          repeat (first | go_big_quiet_step (first | with_reducible exact cC _ _ | with_reducible exact cT' _ _) | quiet_step (first | with_reducible exact cC _ _ | with_reducible exact cT' _ _))
          refine wpQuiet_nil ?_
          intro _ hw'
          obtain ⟨⟨dq, osq⟩, hw''⟩ := hw'
          subst hw''
          go_wp2_with fail
          go_ret
          exact ⟨ret_bool HP.out.symm, hb0.trans ((below_regrown _ dq osq).mono hb0.size)⟩
      · have HP := Lib.hid (show refPair l i = false by
          unfold refPair
          rw [hc, List.getElem?_eq_none (by omega)])
        have i1 : wrap64 ((i : Int) + 1) = ((i + 1 : Nat) : Int) := by
          unfold wrap64
          omega
        have i2 : decide (((i + 1 : Nat) : Int) < (n : Int)) = false := decide_eq_false (by omega)
        have i2' : decide ((i : Int) + 1 < (n : Int)) = false := decide_eq_false (by omega)
        clear hchk hc hw hR hk ht cT
        go_enter Try.func59, Try.ntmps59
        go_upto_region 2 with fail
        have k0 : ∀ d os, (grow (redrawn (w.alloc (.cells c.a 55)) d) os).cell? ⟨w.heap.size, 0, none⟩ = some (.int .i32 c.r) := cell_regrown (hN.cell 0)
        have k1 : ∀ d os, (grow (redrawn (w.alloc (.cells c.a 55)) d) os).cell? ⟨w.heap.size, 1, none⟩ = some (.int .u8 (c.f : Int)) := cell_regrown (hN.cell 1)
        have k2 : ∀ d os, (grow (redrawn (w.alloc (.cells c.a 55)) d) os).cell? ⟨w.heap.size, 2, none⟩ = some (.int .u8 (c.b : Int)) := cell_regrown (hN.cell 2)
        have k3 : ∀ d os, (grow (redrawn (w.alloc (.cells c.a 55)) d) os).cell? ⟨w.heap.size, 3, none⟩ = some (.int .u8 (c.x : Int)) := cell_regrown (hN.cell 3)
        refine wp_region_quiet_below (by kernel_rfl) (by kernel_rfl) ?_
        repeat (first | go_big_quiet_step (exact cC _ _) | quiet_step (exact cC _ _))
        refine wpQuiet_nil ?_
        intro _ hw'
        obtain ⟨⟨dq, osq⟩, hw''⟩ := hw'
        subst hw''
        go_wp2_with fail
        go_ret
        exact ⟨ret_bool HP.out.symm, hb0.trans ((below_regrown _ dq osq).mono hb0.size)⟩
end Go.Proofs.Ytpjafocgabhieaa
