/- At: walked. -/
import Derived.Test.YtmdgjmmkegkonaaDoorBorW
import Derived.Scope
namespace Go.Proofs.YtmdgjmmkegkonaaDoor
open Go.RowKit Go.Shelf
attribute [local go_sem] Oper.semAt_some
/-- Does a place lie in a rectangle? -/
def inR (r : Rc) (x y : Int) : Bool := decide (r.x ≤ x) && decide (x < r.x + r.w) && decide (r.y ≤ y) && decide (y < r.y + r.h)
def hitN (x y : Int) : Nd → Option Int
  | (.pane _ i, r) => if inR r x y then some i else none
  | (.split _ _ _ _ _ _, _) => none
def atP (t : Tr) (r : Rc) (x y : Int) : Int := ((nds t r).findSome? (hitN x y)).getD 0
theorem wpIn_scope {n : Nat} {P : Program} {c : Code} {Q : Exit → Act → World → Prop} {a : Act} {w : World} (h : c.wpIn Fence.wide n P (Exit.noGoto Q) a w) : (Code.scope c).wpIn Fence.wide n P Q a w := wpIn_wide.2 (wp_scope_straight (wpIn_wide.1 h))
theorem hit_out {tx : Tr} {rx : Rc} {x y : Int} (h : inR rx x y = false) : hitN x y (tx, rx) = none := by
  cases tx <;> simp [hitN, h]
theorem find_pre {x y i : Int} {pre rest : List Nd} {z : Nd} (h : ∀ u ∈ pre, hitN x y u = none) (hz : hitN x y z = some i) : (pre ++ z :: rest).findSome? (hitN x y) = some i := by
  induction pre with
  | nil => simp [hz]
  | cons u pre ih =>
    rw [List.cons_append, List.findSome?_cons, h u (by simp)]
    exact ih (fun v hv => h v (by simp [hv]))
theorem find_none {x y : Int} {l : List Nd} (h : ∀ u ∈ l, hitN x y u = none) : l.findSome? (hitN x y) = none := by
  rw [List.findSome?_eq_none_iff]
  exact h
theorem blk_own {X Y : World} {g : Nat} {T : TypeId} {cs : Array Value} {row : Option Nat} (h : Blk X g T cs) (hg : X.grownBy Y row) (hr : ∀ r, row = some r → ∃ o : Obj, X.heap[r]? = some o ∧ o.isCells = false) : Blk Y g T cs :=
  h.grown hg (fun e => by
    obtain ⟨o, ho, hc⟩ := hr g e.symm
    unfold Blk at h
    rw [h] at ho
    cases ho
    cases hc)
/-- Between two rounds: nothing was found. -/
def AtI (w W0 : World) (H B : Nat) (t : Tr) (r : Rc) (x y : Int) (pre : List (Sub (nds t r))) (W : World) : Prop :=
  Blk W B 3 #[.int .i64 0] ∧ (∀ z ∈ pre, hitN x y z.1 = none) ∧ Blk W H 3 #[.int .i64 x] ∧ Blk W (H + 1) 3 #[.int .i64 y] ∧ TrAt W t ∧ Below H w W ∧ W0.heap.size ≤ W.heap.size
/-- A round has left: something was found. -/
def AtX (w W0 : World) (H B : Nat) (t : Tr) (r : Rc) (x y : Int) (c : Code) (pre : List (Sub (nds t r))) (W : World) : Prop :=
  c = .exit 0 ∧ (∃ (i : Int) (z : Sub (nds t r)) (pre' : List (Sub (nds t r))), pre = pre' ++ [z] ∧ (∀ u ∈ pre', hitN x y u.1 = none) ∧ hitN x y z.1 = some i ∧ Blk W B 3 #[.int .i64 i]) ∧ Below H w W ∧ W0.heap.size ≤ W.heap.size
set_option maxRecDepth 100000 in
set_option maxHeartbeats 2000000 in
theorem at_any (b : Nat) (t : Tr) (r : Rc) (nw x y : Int) (w : World) (h : LAt w b t r nw) (hr : RcOk r) (hN : Nums t) (hf : fitsP t r = true) :
    Calls Tryd.prog 19 #[.pointer (some ⟨b, 0, none⟩), .int .i64 x, .int .i64 y] w fun e w' => e = .returned (.int .i64 (atP t r x y)) ∧ Below w.heap.size w w' := by
  refine (callsIn_wide (n := 4)).1 ?_
  refine callsIn_of_wp_marks Tryd.func19 rfl trivial ?_ rfl
  simp only [Tryd.ntmps19, List.size_toArray, List.length_cons, List.length_nil, Nat.reduceAdd, Nat.reduceSub, Array.replicate_succ, Array.replicate_zero, List.push_toArray, List.append_toArray, List.nil_append, List.cons_append]
  gi_wp2_with fail
  have hb1 := ((Below.refl w.heap.size w).alloc (Nat.le_refl _) (.cells #[.int .i64 x] 3)).alloc (by simp) (.cells #[.int .i64 y] 3)
  have hX := (Blk.new w 3 #[.int .i64 x]).alloc (.cells #[.int .i64 y] 3)
  have hY := Blk.new (w.alloc (.cells #[.int .i64 x] 3)) 3 #[.int .i64 y]
  rw [World.size_alloc] at hY
  have hL1 := h.later hb1
  generalize (w.alloc (.cells #[.int .i64 x] 3)).alloc (.cells #[.int .i64 y] 3) = w1 at hb1 hX hY hL1 ⊢
  have hnone := none_any b t r nw w1 hL1
  refine wpIn_scope ?_
  gi_upto_region 3 with (first | (refine ⟨trivial, (callsIn_wide.2 hnone).mono ?_⟩; rintro e w4 ⟨rfl, rfl⟩))
  gi_wp2_with fail
  have hF := Blk.new w1 3 #[.int .i64 0]
  have hb2 := (Below.refl w1.heap.size w1).alloc (Nat.le_refl _) (.cells #[.int .i64 0] 3)
  have hL2 := hL1.later hb2
  have hX2 := hX.below hb2 hX.lt
  have hY2 := hY.below hb2 hY.lt
  have hs2 : (w1.alloc (.cells #[.int .i64 0] 3)).heap.size = w1.heap.size + 1 := by simp
  generalize w1.alloc (.cells #[.int .i64 0] 3) = w2 at hF hb2 hL2 hX2 hY2 hs2 ⊢
  have c0 : w2.drew.cell? ⟨b, 0, none⟩ = some (.pointer (some ⟨t.g, 0, none⟩)) := hL2.blk.cell 0
  have c1 : w2.drew.cell? ⟨b, 1, none⟩ = some (.int .i64 r.x) := hL2.blk.cell 1
  have c2 : w2.drew.cell? ⟨b, 2, none⟩ = some (.int .i64 r.y) := hL2.blk.cell 2
  have c3 : w2.drew.cell? ⟨b, 3, none⟩ = some (.int .i64 r.w) := hL2.blk.cell 3
  have c4 : w2.drew.cell? ⟨b, 4, none⟩ = some (.int .i64 r.h) := hL2.blk.cell 4
  have hall := all_any t.g r w2.drew
  refine wpIn_label ?_
  gi_wp2_with fail
  apply wpIn_to
  case h =>
    gi_region_with (first | (refine ⟨trivial, (callsIn_wide.2 hall).mono ?_⟩; rintro e w4 ⟨rfl, rfl⟩))
    all_goals exact ⟨rfl, rfl⟩
  clear hall c0 c1 c2 c3 c4
  have hP1 := ((Blk.new w2 57 #[ptr t.g]).alloc (.cells r.v 41)).drew
  have hP2 := (Blk.new (w2.alloc (.cells #[ptr t.g] 57)) 41 r.v).drew
  have hbd := (((Below.refl w2.heap.size w2).alloc (Nat.le_refl _) (.cells #[ptr t.g] 57)).alloc (by simp) (.cells r.v 41)).drew
  have hs0 : ((w2.alloc (.cells #[ptr t.g] 57)).alloc (.cells r.v 41)).drew.heap.size = w2.heap.size + 2 := by simp
  simp only [World.size_alloc] at hP2
  have hF0 := hF.below hbd hF.lt
  have hX0 := hX2.below hbd hX2.lt
  have hY0 := hY2.below hbd hY2.lt
  have hT0 := hL2.tree.later hbd
  have hbl : ∀ k ∈ t.bl, k < w.heap.size := h.tree.lt t
  gi_wp2
  generalize ((w2.alloc (.cells #[ptr t.g] 57)).alloc (.cells r.v 41)).drew = W0 at hP1 hP2 hbd hs0 hF0 hX0 hY0 hT0 ⊢
  have hbW := hb1.trans ((hb2.trans (hbd.mono hb2.size)).mono hb1.size)
  rw [hs2] at hP1 hP2 hs0
  have hw1 := hb1.size
  have hHB : w.heap.size + 1 < w1.heap.size := hY.lt
  have hbb : b < w.heap.size := h.blk.lt
  clear hF hX hY hL1 hL2 hX2 hY2 hbd hb2 hb1 hs2
  obtain ⟨B, hBe⟩ : ∃ B, B = w1.heap.size := ⟨_, rfl⟩
  rw [← hBe] at hP1 hP2 hs0 hF0 hw1 hHB ⊢
  obtain ⟨H, hHe⟩ : ∃ H, H = w.heap.size := ⟨_, rfl⟩
  rw [← hHe] at hX0 hY0 hw1 hHB hbb hbl hbW ⊢
  have HHe := Lib.hid hHe
  clear hBe hHe h
  have hP1' := hP1.cell 0
  generalize hgt : t.g = gt at hP1 hP1' ⊢
  refine wpIn_rangeFunc_ownH (F := Fence.wide) rfl (by omega) (gf := 33) (lb := #[.pointer (some ⟨B + 1, 0, none⟩), .pointer (some ⟨B + 1 + 1, 0, none⟩)]) rfl trivial (enters_of Tryd.func33 (by kernel_rfl) rfl)
    (all1_stops 3 H B (B + 1) t r W0 (by rw [hgt]; exact hP1') hP2 hT0 hbl (by omega) hr hN hf (by omega) (fun g hg => by
      obtain ⟨n1, c1, h1⟩ := hg
      rw [hF0.cell 0] at h1
      cases h1)) KpB.trans (KpB.putObj (by omega) (by omega)) (Below.refl _ _) (fun _ => rfl)
    (AtI w W0 H B t r x y)
    (AtX w W0 H B t r x y)
    (fun pre X Y row hs hg hrw => by
      obtain ⟨h1, h2, h3, h4, h5, h6, h7⟩ := hs
      have hrc := fun r e => (hrw r e).2
      have hb : Below H X Y := (Below.refl H X).grown hg (by omega) (fun k e => by have := (hrw k e).1; omega)
      exact ⟨blk_own h1 hg hrc, h2, blk_own h3 hg hrc, blk_own h4 hg hrc, h5.below hb hbl, h6.trans hb, Nat.le_trans h7 hg.size⟩)
    (fun c pre X Y row hs hg hrw => by
      obtain ⟨h1, ⟨i, z, pre', e1, e2, e3, h4⟩, h6, h7⟩ := hs
      have hrc := fun r e => (hrw r e).2
      have hb : Below H X Y := (Below.refl H X).grown hg (by omega) (fun k e => by have := (hrw k e).1; omega)
      exact ⟨h1, ⟨i, z, pre', e1, e2, e3, blk_own h4 hg hrc⟩, h6.trans hb, Nat.le_trans h7 hg.size⟩)
    ⟨hF0, fun _ h => (by cases h), hX0, hY0, hT0, hbW, Nat.le_refl _⟩
    (fun z a' W => ∃ Bx, B + 2 < Bx ∧ Blk W Bx 41 z.1.2.v ∧ a' = { tmps := #[.pointer (some ⟨b, 0, none⟩), .int .i64 x, .int .i64 y, undef, .pointer (some ⟨H, 0, none⟩), .pointer (some ⟨H + 1, 0, none⟩), .int .i64 0, .pointer (some ⟨B, 0, none⟩), ptr z.1.1.g, .pointer (some ⟨Bx, 0, none⟩), .pointer (some ⟨b, 0, none⟩), .bool false, .pointer (some ⟨b, 0, none⟩), .pointer (some ⟨b, 0, none⟩), .pointer (some ⟨b, 0, none⟩), .pointer (some ⟨gt, 0, none⟩), .pointer (some ⟨b, 0, none⟩), .pointer (some ⟨b, 0, none⟩), .pointer (some ⟨b, 1, none⟩), .agg #[.int .i64 r.x, .int .i64 r.y, .int .i64 r.w, .int .i64 r.h], .func (.func 33) #[] #[.pointer (some ⟨B + 1, 0, none⟩), .pointer (some ⟨B + 1 + 1, 0, none⟩)], ptr z.1.1.g, z.1.2.a, undef, undef, undef, undef, undef, undef, undef, undef, undef, undef, undef, undef, undef, undef, undef, undef, undef, undef, undef, undef, undef, undef, undef, undef, undef, undef, undef, undef, undef, undef, undef, undef, undef, undef, undef, undef, undef], defers := [] })
    (fun z a' _ X Y row hs hg hrw => by
      obtain ⟨Bx, h1, h2, h3⟩ := hs
      exact ⟨Bx, h1, blk_own h2 hg (fun r e => (hrw r e).2), h3⟩)
    ?assign ?body ?done ?stop
  case assign =>
    rintro l pre z W K ⟨h1, h2, h3, h4, h5, h6, h7⟩ hK
    gi_wp2
    have hW := (Below.refl W.heap.size W).alloc (Nat.le_refl _) (.cells z.1.2.v 41)
    exact hK _ _ ((KeepsOthers.alloc _ _).from _) (KpB.of_below hW (by omega) (by omega)) ⟨h1.alloc _, h2, h3.alloc _, h4.alloc _, h5.later hW, h6.alloc (by omega) _, Nat.le_trans h7 hW.size⟩ ⟨W.heap.size, by omega, Blk.new W _ _, rfl⟩
  case body =>
    rintro l pre ⟨⟨tx, rx⟩, hmem⟩ a' W hl ⟨rl, hrl⟩ ⟨h1, h2, h3, h4, h5, h6, h7⟩ ⟨Bx, hBx, hbx, rfl⟩ hlt
    have hT : TrAt W tx := nds_at t r h5 _ hmem
    have hrx : RcOk rx := (nds_ok t r hr hN hf _ hmem).1
    obtain ⟨rx1, rx2, rx3, rx4, rx5, rx6⟩ := hrx
    have m0 := h3.cell 0
    have m1 := h4.cell 0
    have k0 := hbx.cell 0
    have k1 := hbx.cell 1
    have k2 := hbx.cell 2
    have k3 := hbx.cell 3
    have hgo : hitN x y (tx, rx) = none → ∀ u ∈ pre ++ [(⟨(tx, rx), hmem⟩ : Sub (nds t r))], hitN x y u.1 = none := fun hn u hu => by
      rcases List.mem_append.1 hu with hu | hu
      · exact h2 u hu
      · rw [List.mem_singleton.1 hu]
        exact hn
    have hlow : B < W.heap.size ∧ H ≤ W.heap.size := ⟨by omega, by omega⟩
    have Hgo := Lib.hid hgo
    have H2 := Lib.hid h2
    clear hgo h2
    dsimp only
    have hw1 : wrap64 (rx.x + rx.w) = rx.x + rx.w := by unfold wrap64; omega
    have hw2 : wrap64 (rx.y + rx.h) = rx.y + rx.h := by unfold wrap64; omega
    by_cases d1 : x < rx.x
    · have e1 : decide (x < rx.x) = true := decide_eq_true d1
      have HO := Lib.hid (show inR rx x y = false by simp [inR]; omega)
      clear d1
      gi_wp2
      exact ⟨(KeepsOthers.refl _).from _, KpB.of_below (Below.refl _ _) hlow.2 hlow.1, h1, Hgo.out (hit_out HO.out), h3, h4, h5, h6, h7⟩
    · have e1 : decide (x < rx.x) = false := decide_eq_false d1
      by_cases d2 : rx.x + rx.w ≤ x
      · have e2 : decide (rx.x + rx.w ≤ x) = true := decide_eq_true d2
        have HO := Lib.hid (show inR rx x y = false by simp [inR]; omega)
        clear d2
        gi_wp2
        exact ⟨(KeepsOthers.refl _).from _, KpB.of_below (Below.refl _ _) hlow.2 hlow.1, h1, Hgo.out (hit_out HO.out), h3, h4, h5, h6, h7⟩
      · have e2 : decide (rx.x + rx.w ≤ x) = false := decide_eq_false d2
        by_cases d3 : y < rx.y
        · have e3 : decide (y < rx.y) = true := decide_eq_true d3
          have HO := Lib.hid (show inR rx x y = false by simp [inR]; omega)
          clear d3
          gi_wp2
          exact ⟨(KeepsOthers.refl _).from _, KpB.of_below (Below.refl _ _) hlow.2 hlow.1, h1, Hgo.out (hit_out HO.out), h3, h4, h5, h6, h7⟩
        · have e3 : decide (y < rx.y) = false := decide_eq_false d3
          by_cases d4 : rx.y + rx.h ≤ y
          · have e4 : decide (rx.y + rx.h ≤ y) = true := decide_eq_true d4
            have HO := Lib.hid (show inR rx x y = false by simp [inR]; omega)
            clear d4
            gi_wp2
            exact ⟨(KeepsOthers.refl _).from _, KpB.of_below (Below.refl _ _) hlow.2 hlow.1, h1, Hgo.out (hit_out HO.out), h3, h4, h5, h6, h7⟩
          · have e4 : decide (rx.y + rx.h ≤ y) = false := decide_eq_false d4
            have HI := Lib.hid (show inR rx x y = true by simp [inR]; omega)
            clear d1 d2 d3 d4
            gi_wp2
            refine ⟨trivial, (CallsIn.inRound l (callsIn_wide.2 (pane_any tx W hT))).mono ?_⟩
            rintro e W1 ⟨rfl, rfl⟩
            clear k0 k1 k2 k3 m0 m1 e1 e2 e3 e4 hw1 hw2
            cases tx with
            | split g a p q tl tr =>
              gi_wp2
              exact ⟨(KeepsOthers.refl _).from _, KpB.of_below (Below.refl _ _) hlow.2 hlow.1, h1, Hgo.out rfl, h3, h4, h5, h6, h7⟩
            | pane g i =>
              have hT' : Blk W g 59 (paneC i) := hT
              have g0 : W.cell? ⟨(Tr.pane g i).g, 0, none⟩ = some (.int .i64 i) := hT'.cell 0
              have n0 := h1.cell 0
              have f0 := h1.free 0
              gi_wp2
              refine ⟨(KeepsOthers.setCell _ _ _).from _, rfl, ⟨i, ⟨(.pane g i, rx), hmem⟩, pre, rfl, H2.out, ?_, h1.set 0 _⟩, h6.setCell (p := ⟨B, 0, none⟩) (by omega) _, by simpa [World.setCell] using h7⟩
              show (if inR rx x y = true then some i else none) = some i
              rw [if_pos HI.out]
  case done =>
    rintro D ys W hD rfl ⟨h1, h2, h3, h4, h5, h6, h7⟩ hK
    have q0 := h1.cell 0
    have hnone : (nds t r).findSome? (hitN x y) = none := find_none (fun u hu => h2 ⟨u, hu⟩ (by
      simp
      exact hu))
    have HA := Lib.hid (show (0 : Int) = atP t r x y by unfold atP; rw [hnone]; rfl)
    clear hnone h2
    gi_wp2
    rw [Exit.noGoto_ret]
    refine ⟨by simp, .inl ⟨_, _, rfl, run_takeDeferred hK, ?_⟩⟩
    have hKB := belowK_b (w := w) (Nat.le_refl _) W D _ (.deferred none) (by have := HHe.out; omega) hK rfl rfl
    rw [HHe.out] at h6
    exact ⟨_, results_tmp rfl _ _ _, (by rw [← HA.out]; rfl), h6.trans hKB⟩
  case stop =>
    rintro D c pre W hD hpre ⟨rfl, ⟨i, z, pre', rfl, e2, e3, h1⟩, h6, h7⟩ hK
    have q0 := h1.cell 0
    have hsome : (nds t r).findSome? (hitN x y) = some i := by
      obtain ⟨rest, hrest⟩ := hpre
      have hm : (allS t r).map (fun x => x.1) = nds t r := List.attachWith_map_subtype_val _
      rw [← hm, ← hrest]
      simp only [List.map_append, List.map_cons, List.append_assoc, List.cons_append, List.nil_append]
      exact find_pre (fun u hu => by
        obtain ⟨v, hv, rfl⟩ := List.mem_map.1 hu
        exact e2 v hv) e3
    have HA := Lib.hid (show i = atP t r x y by unfold atP; rw [hsome]; rfl)
    clear hsome e2 e3 hpre
    gi_wp2
    rw [Exit.noGoto_ret]
    refine ⟨by simp, .inl ⟨_, _, rfl, run_takeDeferred hK, ?_⟩⟩
    have hKB := belowK_b (w := w) (Nat.le_refl _) W D _ (.deferred none) (by have := HHe.out; omega) hK rfl rfl
    rw [HHe.out] at h6
    exact ⟨_, results_tmp rfl _ _ _, (by rw [← HA.out]; rfl), h6.trans hKB⟩
end Go.Proofs.YtmdgjmmkegkonaaDoor
