/- Does a tree fit: walked. -/
import Derived.Test.YtmdgjmmkegkonaaDoorCutW
import Derived.Lib.QuietBelow
namespace Go.Proofs.YtmdgjmmkegkonaaDoor
open Go.RowKit Go.Sort
theorem ret_bool {a b : Bool} (h : a = b) : Ending.returned (.bool a) = .returned (.bool b) := by rw [h]
set_option maxRecDepth 100000 in
set_option maxHeartbeats 4000000 in
theorem fits_any : ∀ (t : Tr) (r : Rc) (w : World), TrAt w t → RcOk r → Nums t →
    Calls Tryd.prog 31 #[ptr t.g, r.a] w fun e w' => e = .returned (.bool (fitsP t r)) ∧ Below w.heap.size w w' := by
  intro t
  induction t with
  | pane g id =>
    intro r w h hr hN
    show Calls Tryd.prog 31 #[.pointer (some ⟨g, 0, none⟩), r.a] w _
    have hb0 := (Below.refl w.heap.size w).alloc (Nat.le_refl _) (.cells r.v 41)
    go_enter Tryd.func31, Tryd.ntmps31
    go_wp2_with fail
    refine (pane_any (.pane g id) _ (h.later hb0)).mono ?_
    rintro e w1 ⟨rfl, rfl⟩
    go_wp2_with fail
    go_ret
    exact ⟨rfl, hb0⟩
  | split g a p q l r' ihl ihr =>
    intro r w h hr hN
    obtain ⟨hp, hpq, hq, hNl, hNr⟩ := hN
    show Calls Tryd.prog 31 #[.pointer (some ⟨g, 0, none⟩), r.a] w _
    have hb0 := (Below.refl w.heap.size w).alloc (Nat.le_refl _) (.cells r.v 41)
    have hB := Blk.new w 41 r.v
    go_enter Tryd.func31, Tryd.ntmps31
    go_wp2_with fail
    refine (pane_any (.split g a p q l r') _ (h.later hb0)).mono ?_
    rintro e w1 ⟨rfl, rfl⟩
    go_upto_region 3 with fail
    have hT := h.later hb0
    have k0 := cell_regrown (hB.cell 0)
    have k1 := cell_regrown (hB.cell 1)
    have k2 := cell_regrown (hB.cell 2)
    have k3 := cell_regrown (hB.cell 3)
    have k4 := cell_regrown (hT.1.cell 1)
    have cL : ∀ d os, Calls Tryd.prog 25 #[r.a, .bool a] (grow (redrawn (w.alloc (.cells r.v 41)) d) os) fun e w'' => e = .returned (.int .i64 (lenR r a)) ∧ ∃ p : Regrown, w'' = grow (redrawn (w.alloc (.cells r.v 41)) p.d) p.os := fun d os => Calls.regrown_of (length_any r a _)
    refine wp_region_quiet_below (by kernel_rfl) (by kernel_rfl) ?_
    repeat (first | go_big_quiet_step (exact cL _ _) | quiet_step (exact cL _ _))
    refine wpQuiet_nil ?_
    intro _ hw'
    obtain ⟨⟨dq, osq⟩, hw''⟩ := hw'
    subst hw''
    clear k0 k1 k2 k3 k4 cL
    have hb1 := hb0.trans ((below_regrown (w.alloc (.cells r.v 41)) dq osq).mono hb0.size)
    have hT1 := hT.later (below_regrown (w.alloc (.cells r.v 41)) dq osq)
    have hB1 := hB.below (below_regrown (w.alloc (.cells r.v 41)) dq osq) hB.lt
    generalize grow (redrawn (w.alloc (.cells r.v 41)) dq) osq = w1 at hb1 hT1 hB1 ⊢
    clear hT hB hb0
    by_cases hn : lenR r a < 3
    · have hd : decide (lenR r a < 3) = true := decide_eq_true hn
      have HF := Lib.hid (show fitsP (.split g a p q l r') r = false from by unfold fitsP; rw [if_pos hn])
      go_wp2_with fail
      go_ret
      exact ⟨ret_bool HF.out.symm, hb1⟩
    · have hd : decide (lenR r a < 3) = false := decide_eq_false hn
      have hsb := shr_bd (n := lenR r a) (p := p) (q := q) (by omega)
      have hr1 := cut1_ok hr a hsb.1 hsb.2
      have hr2 := cut2_ok hr a hsb.1 hsb.2
      have HF := Lib.hid (show fitsP (.split g a p q l r') r = (fitsP l (cut1 a (shr (lenR r a) p q) r) && fitsP r' (cut2 a (shr (lenR r a) p q) r)) from by rw [fitsP, if_neg hn])
      have hcut := cut_any g a p q r w1 hT1.1.lt (hT1.1.cell 1) (hT1.1.cell 2) (hT1.1.cell 3) hr (by omega) hp hpq hq
      generalize cut1 a (shr (lenR r a) p q) r = r1 at *
      generalize cut2 a (shr (lenR r a) p q) r = r2 at *
      generalize cutM a (shr (lenR r a) p q) r = rm at *
      have c0 : w1.cell? ⟨w.heap.size, 0, none⟩ = some (.int .i64 r.x) := hB1.cell 0
      have c1 : w1.cell? ⟨w.heap.size, 1, none⟩ = some (.int .i64 r.y) := hB1.cell 1
      have c2 : w1.cell? ⟨w.heap.size, 2, none⟩ = some (.int .i64 r.w) := hB1.cell 2
      have c3 : w1.cell? ⟨w.heap.size, 3, none⟩ = some (.int .i64 r.h) := hB1.cell 3
      go_wp2_with fail
      refine hcut.mono ?_
      clear hcut c0 c1 c2 c3 hsb
      rintro e w2 ⟨rfl, hb2⟩
      have hb2' := hb1.trans (hb2.mono hb1.size)
      have hT2 := hT1.later hb2
      clear hb1 hT1 hB1 hb2
      go_upto_region 6 with fail
      have hb3 := (((Below.refl w2.heap.size w2).alloc (Nat.le_refl _) (.cells r1.v 41)).alloc (by simp) (.cells rm.v 41)).alloc (by simp; omega) (.cells r2.v 41)
      have hC1 := ((Blk.new w2 41 r1.v).alloc (.cells rm.v 41)).alloc (.cells r2.v 41)
      have hC2 := Blk.new ((w2.alloc (.cells r1.v 41)).alloc (.cells rm.v 41)) 41 r2.v
      simp only [World.size_alloc] at hC2
      generalize ((w2.alloc (.cells r1.v 41)).alloc (.cells rm.v 41)).alloc (.cells r2.v 41) = w3 at hb3 hC1 hC2 ⊢
      have hT3 := hT2.later hb3
      have hb3' := hb2'.trans (hb3.mono hb2'.size)
      have k0 := cell_regrown (hC1.cell 0)
      have k1 := cell_regrown (hC1.cell 1)
      have k2 := cell_regrown (hC1.cell 2)
      have k3 := cell_regrown (hC1.cell 3)
      have k4 := cell_regrown (hT3.1.cell 4)
      have j0 := cell_regrown (hC2.cell 0)
      have j1 := cell_regrown (hC2.cell 1)
      have j2 := cell_regrown (hC2.cell 2)
      have j3 := cell_regrown (hC2.cell 3)
      have j4 := cell_regrown (hT3.1.cell 5)
      have cL : ∀ d os, Calls Tryd.prog 31 #[.pointer (some ⟨l.g, 0, none⟩), r1.a] (grow (redrawn w3 d) os) fun e w'' => e = .returned (.bool (fitsP l r1)) ∧ ∃ p : Regrown, w'' = grow (redrawn w3 p.d) p.os := fun d os => Calls.regrown_of (ihl r1 _ (TrAt.later hT3.2.1 (below_regrown w3 d os)) hr1 hNl)
      have cR : ∀ d os, Calls Tryd.prog 31 #[.pointer (some ⟨r'.g, 0, none⟩), r2.a] (grow (redrawn w3 d) os) fun e w'' => e = .returned (.bool (fitsP r' r2)) ∧ ∃ p : Regrown, w'' = grow (redrawn w3 p.d) p.os := fun d os => Calls.regrown_of (ihr r2 _ (TrAt.later hT3.2.2 (below_regrown w3 d os)) hr2 hNr)
      clear hb3 hb2' hT2 hC1 hC2 hT3
      generalize fitsP l r1 = bl at *
      generalize fitsP r' r2 = br at *
      cases bl
      · refine wp_region_quiet_below (by kernel_rfl) (by kernel_rfl) ?_
        repeat (first | go_big_quiet_step (exact cL _ _) | quiet_step (exact cL _ _))
        refine wpQuiet_nil ?_
        intro _ hw'
        obtain ⟨⟨dq, osq⟩, hw''⟩ := hw'
        subst hw''
        go_wp2_with fail
        go_ret
        exact ⟨ret_bool HF.out.symm, hb3'.trans ((below_regrown w3 dq osq).mono hb3'.size)⟩
      · refine wp_region_quiet_below (by kernel_rfl) (by kernel_rfl) ?_
        repeat (first | go_big_quiet_step (first | with_reducible exact cL _ _ | with_reducible exact cR _ _) | quiet_step (first | with_reducible exact cL _ _ | with_reducible exact cR _ _))
        refine wpQuiet_nil ?_
        intro _ hw'
        obtain ⟨⟨dq, osq⟩, hw''⟩ := hw'
        subst hw''
        go_wp2_with fail
        go_ret
        exact ⟨ret_bool (by rw [HF.out]; rfl), hb3'.trans ((below_regrown w3 dq osq).mono hb3'.size)⟩
end Go.Proofs.YtmdgjmmkegkonaaDoor
