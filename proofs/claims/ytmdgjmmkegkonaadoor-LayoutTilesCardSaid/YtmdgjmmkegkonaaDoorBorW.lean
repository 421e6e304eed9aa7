/- Borders: walked. -/
import Derived.Test.YtmdgjmmkegkonaaDoorPanesW
import Derived.Maps.OwnIn
namespace Go.Proofs.YtmdgjmmkegkonaaDoor
open Go.RowKit Go.Shelf
attribute [local go_sem] Oper.semAt_some
/-- The borders, in order. -/
def bordOf : Nd → Option Rc
  | (.pane _ _, _) => none
  | (.split _ a p q _ _, r) => some (cutM a (shr (lenR r a) p q) r)
abbrev bordersP (t : Tr) (r : Rc) : List Rc := (nds t r).filterMap bordOf
abbrev rectV (x : Rc) : List Value := [.int .i64 x.x, .int .i64 x.y, .int .i64 x.w, .int .i64 x.h]
set_option maxRecDepth 100000 in
set_option maxHeartbeats 2000000 in
theorem borders_any (b : Nat) (t : Tr) (r : Rc) (nw : Int) (w : World) (h : LAt w b t r nw) (hr : RcOk r) (hN : Nums t) (hf : fitsP t r = true) (hl : (nds t r).length ≤ 1000) :
    Calls Tryd.prog 18 #[.pointer (some ⟨b, 0, none⟩)] w fun e w' => (∃ v, e = .returned v ∧ w'.ownsRow w.heap.size 41 4 v (bordersP t r).length ((bordersP t r).flatMap rectV)) ∧ Below w.heap.size w w' := by
  refine (callsIn_wide (n := 4)).1 ?_
  refine callsIn_of_wp_marks Tryd.func18 rfl trivial ?_ rfl
  simp only [Tryd.ntmps18, List.size_toArray, List.length_cons, List.length_nil, Nat.reduceAdd, Nat.reduceSub, Array.replicate_succ, Array.replicate_zero, List.push_toArray, List.append_toArray, List.nil_append, List.cons_append]
  gi_upto_region 2 with fail
  have hb1 := (Below.refl w.heap.size w).alloc (Nat.le_refl _) (.cells #[.slice none 0 0] 53)
  have hB := Blk.new w 53 #[.slice none 0 0]
  have hL1 := h.later hb1
  generalize hw1 : w.alloc (.cells #[.slice none 0 0] 53) = w1 at hb1 hB hL1 ⊢
  have hs1 : w1.heap.size = w.heap.size + 1 := by rw [← hw1]; simp
  clear hw1
  gi_wp2
  refine ⟨trivial, (callsIn_wide.2 (none_any b t r nw w1 hL1)).mono ?_⟩
  rintro e w2 ⟨rfl, rfl⟩
  gi_upto_region 4 with fail
  have c0 : w1.drew.cell? ⟨b, 0, none⟩ = some (.pointer (some ⟨t.g, 0, none⟩)) := hL1.blk.cell 0
  have c1 : w1.drew.cell? ⟨b, 1, none⟩ = some (.int .i64 r.x) := hL1.blk.cell 1
  have c2 : w1.drew.cell? ⟨b, 2, none⟩ = some (.int .i64 r.y) := hL1.blk.cell 2
  have c3 : w1.drew.cell? ⟨b, 3, none⟩ = some (.int .i64 r.w) := hL1.blk.cell 3
  have c4 : w1.drew.cell? ⟨b, 4, none⟩ = some (.int .i64 r.h) := hL1.blk.cell 4
  have hall := all_any t.g r w1.drew
  apply wpIn_to
  case h =>
    gi_region_with (first | (refine ⟨trivial, (callsIn_wide.2 hall).mono ?_⟩; rintro e w4 ⟨rfl, rfl⟩))
    all_goals exact ⟨rfl, rfl⟩
  clear hall c0 c1 c2 c3 c4
  have hP1 := ((Blk.new w1 57 #[ptr t.g]).alloc (.cells r.v 41)).drew
  have hP2 := (Blk.new (w1.alloc (.cells #[ptr t.g] 57)) 41 r.v).drew
  have hbd := (((Below.refl w1.heap.size w1).alloc (Nat.le_refl _) (.cells #[ptr t.g] 57)).alloc (by simp) (.cells r.v 41)).drew
  have hs0 : ((w1.alloc (.cells #[ptr t.g] 57)).alloc (.cells r.v 41)).drew.heap.size = w1.heap.size + 2 := by simp
  simp only [World.size_alloc] at hP2
  have hB0 := hB.below hbd hB.lt
  have hT0 := hL1.tree.later hbd
  have hbl : ∀ k ∈ t.bl, k < w.heap.size := h.tree.lt t
  gi_wp2
  generalize ((w1.alloc (.cells #[ptr t.g] 57)).alloc (.cells r.v 41)).drew = W0 at hP1 hP2 hbd hs0 hB0 hT0 ⊢
  have hbW := hb1.trans (hbd.mono hb1.size)
  rw [hs1] at hP1 hP2 hs0
  clear hB hL1 hbd hb1 hs1
  obtain ⟨B, hBe⟩ : ∃ B, B = w.heap.size := ⟨_, rfl⟩
  have hbl' : ∀ k ∈ t.bl, k < B := fun k hk => by rw [hBe]; exact hbl k hk
  have hbB : b < B := by rw [hBe]; exact h.blk.lt
  rw [← hBe] at hP1 hP2 hs0 hB0 ⊢
  have HBe := Lib.hid hBe
  clear hBe hbl
  have hP1' := hP1.cell 0
  obtain ⟨i0, hi, hz0, hz1, hz2⟩ := info_parts (show (Tryd.prog.info? 41).map (fun i => (i.zero, i.size, i.bytes)) = some (some (.agg #[.int .i64 0, .int .i64 0, .int .i64 0, .int .i64 0]), 4, 32) from by kernel_rfl)
  refine wpIn_rangeFunc_ownH (F := Fence.wide) rfl (by omega) (gf := 33) (lb := #[.pointer (some ⟨B + 1, 0, none⟩), .pointer (some ⟨B + 1 + 1, 0, none⟩)]) rfl trivial (enters_of Tryd.func33 (by kernel_rfl) rfl)
    (all1_stops 3 B B (B + 1) t r W0 hP1' hP2 hT0 hbl' (by omega) hr hN hf (by omega) (fun g hg => by
      obtain ⟨n1, c1, h1⟩ := hg
      rw [hB0.cell 0] at h1
      cases h1)) KpB.trans (KpB.putObj (by omega) (by omega)) (Below.refl _ _) (fun _ => rfl)
    (fun pre W => (∃ v, Blk W B 53 #[v] ∧ W.ownsRow B 41 4 v (pre.filterMap (fun x => bordOf x.1)).length ((pre.filterMap (fun x => bordOf x.1)).flatMap rectV)) ∧ TrAt W t ∧ Below B w W ∧ W0.heap.size ≤ W.heap.size)
    (fun _ _ _ => False)
    (fun pre X Y row hs hg hr => by
      obtain ⟨⟨v, h1, h2⟩, h3, h4, h5⟩ := hs
      have hne : ∀ k cs e, X.heap[k]? = some (.cells cs e (0, 0)) → some k ≠ row := fun k cs e hk he => by
        obtain ⟨o, ho, hc⟩ := (hr k he.symm).2
        rw [hk] at ho
        cases ho
        cases hc
      have hb : Below B X Y := (Below.refl B X).grown hg (by rw [HBe.out]; exact h4.size) (fun k e => by have := (hr k e).1; omega)
      exact ⟨⟨v, h1.grown hg (hne _ _ _ h1), own_grown h2 hg (fun r e => (hr r e).2)⟩, h3.below hb hbl', h4.trans hb, Nat.le_trans h5 hg.size⟩)
    (fun _ _ _ _ _ hs _ _ => hs)
    ⟨⟨_, hB0, World.ownsRow_nil _ _ _ _⟩, hT0, by rw [HBe.out]; exact hbW, Nat.le_refl _⟩
    (fun x a' W => ∃ Bx, B + 2 < Bx ∧ Blk W Bx 41 x.1.2.v ∧ a' = { tmps := #[.pointer (some ⟨b, 0, none⟩), undef, .slice none 0 0, .pointer (some ⟨B, 0, none⟩), ptr x.1.1.g, .pointer (some ⟨Bx, 0, none⟩), undef, undef, undef, .pointer (some ⟨b, 0, none⟩), .bool false, undef, .pointer (some ⟨b, 0, none⟩), .pointer (some ⟨b, 0, none⟩), .pointer (some ⟨b, 0, none⟩), .pointer (some ⟨t.g, 0, none⟩), .pointer (some ⟨b, 0, none⟩), .pointer (some ⟨b, 0, none⟩), .pointer (some ⟨b, 1, none⟩), .agg #[.int .i64 r.x, .int .i64 r.y, .int .i64 r.w, .int .i64 r.h], .func (.func 33) #[] #[.pointer (some ⟨B + 1, 0, none⟩), .pointer (some ⟨B + 1 + 1, 0, none⟩)], ptr x.1.1.g, x.1.2.a, undef, undef, undef, undef, undef, undef, undef, undef, undef, undef, undef, undef, undef, undef, undef], defers := [] })
    (fun x a' _ X Y row hs hg hr => by
      obtain ⟨Bx, h1, h2, h3⟩ := hs
      refine ⟨Bx, h1, h2.grown hg (fun e => ?_), h3⟩
      obtain ⟨o, ho, hc⟩ := (hr Bx e.symm).2
      unfold Blk at h2
      rw [h2] at ho
      cases ho
      cases hc)
    ?assign ?body ?done ?stop
  case assign =>
    rintro l pre x W K ⟨⟨v, h1, h2⟩, h3, h4, h5⟩ hK
    gi_wp2
    have hW := (Below.refl W.heap.size W).alloc (Nat.le_refl _) (.cells x.1.2.v 41)
    exact hK _ _ ((KeepsOthers.alloc _ _).from _) (KpB.of_below hW (by omega) (by omega)) ⟨⟨v, h1.alloc _, own_below h2 hW⟩, h3.later hW, h4.alloc (by omega) _, Nat.le_trans h5 hW.size⟩ ⟨W.heap.size, by omega, Blk.new W _ _, rfl⟩
  case body =>
    rintro l pre ⟨⟨tx, rx⟩, hmem⟩ a' W hl ⟨rl, hrl⟩ ⟨⟨v, h1, h2⟩, h3, h4, h5⟩ ⟨Bx, hBx, hbx, rfl⟩ hlt
    have hT : TrAt W tx := nds_at t r h3 _ hmem
    have hpl : (pre.filterMap (fun x => bordOf x.1)).length ≤ 1000 := Nat.le_trans (List.length_filterMap_le _ _) (by omega)
    dsimp only
    gi_wp2
    refine ⟨trivial, (CallsIn.inRound l (callsIn_wide.2 (pane_any tx W hT))).mono ?_⟩
    rintro e W1 ⟨rfl, rfl⟩
    generalize t.g = gt
    cases tx with
    | pane g i =>
      gi_wp2
      refine ⟨(KeepsOthers.refl _).from _, KpB.of_below (Below.refl _ _) (by omega) (by omega), ⟨v, h1, ?_⟩, h3, h4, h5⟩
      simpa [List.filterMap_append, bordOf] using h2
    | split g a p q tl tr =>
      obtain ⟨A, c, rfl⟩ := own_slice h2
      dsimp only [Tr.g]
      have hok := nds_ok t r hr hN hf _ hmem
      obtain ⟨hrx, hNx, hfx⟩ := hok
      have hn3 : ¬ lenR rx a < 3 := fun hn => by
        have h6 := hfx
        unfold fitsP at h6
        rw [if_pos hn] at h6
        cases h6
      have hcut := cut_any g a p q rx W hT.1.lt (hT.1.cell 1) (hT.1.cell 2) (hT.1.cell 3) hrx (by omega) hNx.1 hNx.2.1 hNx.2.2.1
      have q2 : W.cell? ⟨Bx, 0, none⟩ = some (.int .i64 rx.x) := hbx.cell 0
      have q3 : W.cell? ⟨Bx, 1, none⟩ = some (.int .i64 rx.y) := hbx.cell 1
      have q4 : W.cell? ⟨Bx, 2, none⟩ = some (.int .i64 rx.w) := hbx.cell 2
      have q5 : W.cell? ⟨Bx, 3, none⟩ = some (.int .i64 rx.h) := hbx.cell 3
      generalize hPn : pre.filterMap (fun x => bordOf x.1) = pn at h1 h2 hpl
      have HPn := Lib.hid hPn
      clear hPn
      generalize hcm : cutM a (shr (lenR rx a) p q) rx = rm at hcut
      have Hcm := Lib.hid hcm
      clear hcm
      generalize cut1 a (shr (lenR rx a) p q) rx = ra at hcut
      generalize cut2 a (shr (lenR rx a) p q) rx = rb at hcut
      gi_upto_region 9 with (refine ⟨trivial, (CallsIn.inRound l (callsIn_wide.2 hcut)).mono ?_⟩; clear hcut; rintro e w2 ⟨rfl, hb2⟩)
      clear q2 q3 q4 q5
      have h23 := (((Below.refl w2.heap.size w2).alloc (Nat.le_refl _) (.cells ra.v 41)).alloc (by simp) (.cells rm.v 41)).alloc (by simp; omega) (.cells rb.v 41)
      have hbm := (Blk.new (w2.alloc (.cells ra.v 41)) 41 rm.v).alloc (.cells rb.v 41)
      rw [World.size_alloc] at hbm
      generalize ((w2.alloc (.cells ra.v 41)).alloc (.cells rm.v 41)).alloc (.cells rb.v 41) = w3 at h23 hbm ⊢
      have h03 := hb2.trans (h23.mono hb2.size)
      have q0 : w3.cell? ⟨B, 0, none⟩ = some (.slice A pn.length c) := keepc h03 (h1.cell 0)
      have q1 : w3.cell? ⟨w2.heap.size + 1, 0, none⟩ = some (.int .i64 rm.x) := hbm.cell 0
      have q2 : w3.cell? ⟨w2.heap.size + 1, 1, none⟩ = some (.int .i64 rm.y) := hbm.cell 1
      have q3 : w3.cell? ⟨w2.heap.size + 1, 2, none⟩ = some (.int .i64 rm.w) := hbm.cell 2
      have q4 : w3.cell? ⟨w2.heap.size + 1, 3, none⟩ = some (.int .i64 rm.h) := hbm.cell 3
      have h06 := h03.alloc h03.size (.cells rm.v 41)
      have hO6 := own_below h2 h06
      have hsrc := World.news_of_block (Blk.new w3 41 rm.v)
      have hWs : B ≤ W.heap.size := by omega
      have hlen3 := h06.size
      gi_wp2_with (gi_at_builtin; refine wpListIn_append_own_at _ rfl (.tmp 33) (.tmp 35) 53 rfl B 41 i0 _ 4 32 Tryd.underlying53 hi hz0 hz1 hz2 rfl (by decide) (.slice A pn.length c) pn.length _ rfl hO6 ⟨w3.heap.size, 0, none⟩ 1 1 (rectV rm) rfl rfl hsrc (by simp [Value.oneCell']) (by unfold maxLen; omega) (by omega) (Nat.le_trans hWs hlen3) ?_; intro v7 w7 hO7 hg7 _ hfr; obtain ⟨A7, c7, rfl⟩ := own_slice hO7; have hB7 := box_kept (T := 53) (e := 41) (by decide) h1 h2 h06 hg7; have q7 := hB7.cell 0; have f7 := hB7.free 0)
      have hnew : ∀ g', (Value.slice A7 (pn.length + 1) c7).ownBlock = some g' → (Value.slice A pn.length c).ownBlock = some g' ∨ W.heap.size ≤ g' := fun g' hg' => by
        rcases hfr with hfr | hfr
        · exact .inl (hfr ▸ hg')
        · rw [hfr] at hg'
          have h8 := Option.some.inj hg'
          exact .inr (h8 ▸ hlen3)
      obtain ⟨hs1, hs2, hs3, hs4⟩ := box_step (T := 53) (e := 41) (by decide) hWs (Nat.le_refl _) h1 h2 h06 hg7 hO7 hnew
      have he : (pre ++ [(⟨(Tr.split g a p q tl tr, rx), hmem⟩ : Sub (nds t r))]).filterMap (fun x => bordOf x.1) = pn ++ [rm] := by
        rw [List.filterMap_append, HPn.out, ← Hcm.out]
        rfl
      refine ⟨hs1.from _, hs2, ⟨_, hs3, ?_⟩, h3.below hs2.below hbl', h4.trans hs2.below, (by have h9 := Nat.le_trans h5 hs2.below.size; omega)⟩
      have he2 : List.filterMap bordOf (pre ++ [(⟨(Tr.split g a p q tl tr, rx), hmem⟩ : Sub (nds t r))]).unattach = pn ++ [rm] := by
        rw [List.unattach, List.filterMap_map]
        exact he
      rw [he2]
      simpa using hs4
  case done =>
    rintro D ys W hD rfl ⟨⟨v, h1, h2⟩, h3, h4, h5⟩ hK
    obtain ⟨A, c, rfl⟩ := own_slice h2
    have q0 := h1.cell 0
    have hpe : (allS t r).filterMap (fun x => bordOf x.1) = bordersP t r := by
      have h := List.filterMap_map (f := fun x : Sub (nds t r) => x.1) (g := bordOf) (l := allS t r)
      rw [show (allS t r).map (fun x => x.1) = nds t r from List.attachWith_map_subtype_val _] at h
      exact h.symm
    rw [hpe] at h2 q0
    have HE := Lib.hid (hpe)
    clear hpe
    gi_wp2
    refine ⟨by simp, .inl ⟨_, _, rfl, run_takeDeferred hK, ?_⟩⟩
    have hKB := belowK_b (w := w) (Nat.le_refl _) W D _ (.deferred none) (by have := HBe.out; omega) hK rfl rfl
    have h2' := ownsRow_putObj h2 (.deferred none) hK rfl
    rw [HBe.out] at h4 h2'
    exact ⟨_, results_tmp rfl _ _ _, ⟨.slice A (bordersP t r).length c, rfl, h2'⟩, h4.trans hKB⟩
  case stop =>
    rintro D c pre W _ _ h _
    exact h.elim
end Go.Proofs.YtmdgjmmkegkonaaDoor
