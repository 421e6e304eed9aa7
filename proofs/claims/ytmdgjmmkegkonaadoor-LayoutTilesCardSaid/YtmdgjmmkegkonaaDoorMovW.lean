/- Move: walked. -/
import Derived.Test.YtmdgjmmkegkonaaDoorResW
namespace Go.Proofs.YtmdgjmmkegkonaaDoor
open Go.RowKit
/-- What Move says and does. -/
def MoveOk (w w' : World) (b : Nat) (t : Tr) (r : Rc) (nw id : Int) (e : Ending) : Prop :=
  (∃ c : Int, c ≠ 0 ∧ (c = 12 ↔ id ∉ t.ids) ∧ e = .returned (.iface 37 (.int .i64 c)) ∧ Below w.heap.size w w') ∨
  (∃ (cx : Cx) (g : Nat) (a : Bool) (p q p' q' : Int) (l tr : Tr), t = cx.plug (.split g a p q l tr) ∧ id ∈ t.ids ∧ e = .returned .nilIface ∧ Lay w' b (cx.plug (.split g a p' q' l tr)) r nw ∧ But [g] w w')
/-- What stands on the way. -/
theorem spine_at (s : Tr) : ∀ (cx : Cx) (r : Rc) (k : Nat) (x : Nat × Rc), (cx.spine r)[k]? = some x → ∃ (c : Cx) (a : Bool) (p q : Int) (tl tr : Tr), cx.plug s = c.plug (.split x.1 a p q tl tr) ∧ x.2 = c.rect r
  | .here, r, k, x, h => by simp [Cx.spine] at h
  | .left g a p q c t, r, 0, x, h => by
    simp [Cx.spine] at h
    subst h
    exact ⟨.here, a, p, q, c.plug s, t, rfl, rfl⟩
  | .right g a p q l c, r, 0, x, h => by
    simp [Cx.spine] at h
    subst h
    exact ⟨.here, a, p, q, l, c.plug s, rfl, rfl⟩
  | .left g a p q c t, r, k + 1, x, h => by
    simp [Cx.spine] at h
    obtain ⟨c', a', p', q', tl, tr, h1, h2⟩ := spine_at s c _ k x h
    exact ⟨.left g a p q c' t, a', p', q', tl, tr, by simp [Cx.plug, h1], h2⟩
  | .right g a p q l c, r, k + 1, x, h => by
    simp [Cx.spine] at h
    obtain ⟨c', a', p', q', tl, tr, h1, h2⟩ := spine_at s c _ k x h
    exact ⟨.right g a p q l c', a', p', q', tl, tr, by simp [Cx.plug, h1], h2⟩
theorem move_tree {w w' : World} {b : Nat} {cx : Cx} {g : Nat} {a : Bool} {p q p' q' : Int} {l tr : Tr} {r : Rc} {nw : Int} (h : Lay w b (cx.plug (.split g a p q l tr)) r nw) (hk : ∀ k, k < w.heap.size → k ≠ g → w'.heap[k]? = w.heap[k]?) (hg : Blk w' g 59 (splitC a p' q' l.g tr.g)) : TrAt w' (cx.plug (.split g a p' q' l tr)) := by
  have hsub := plug_sub cx h.mem.tree
  have hnd2 := plug_nodup.1 h.nd
  have hnd3 := hnd2.2.1
  simp only [Tr.bl] at hnd3
  rw [List.nodup_cons] at hnd3
  have hs : TrAt w' (.split g a p' q' l tr) := ⟨hg, TrAt.keep l hsub.2.1 (fun k h1 => hk k (hsub.2.1.lt l k h1) (fun e => hnd3.1 (by rw [← e]; simp [h1]))), TrAt.keep tr hsub.2.2 (fun k h1 => hk k (hsub.2.2.lt tr k h1) (fun e => hnd3.1 (by rw [← e]; simp [h1])))⟩
  exact plug_at (s := .split g a p q l tr) (s' := .split g a p' q' l tr) rfl hs cx h.mem.tree (fun k h1 => hk k (h.mem.tree.lt _ k (plug_mem.2 (.inl h1))) (fun e => hnd2.2.2 k h1 (by rw [e]; simp [Tr.bl])))
/-- A layout with a border moved. -/
theorem Lay.move {w w' : World} {b : Nat} {cx : Cx} {g : Nat} {a : Bool} {p q p' q' : Int} {l tr : Tr} {r : Rc} {nw : Int} (h : Lay w b (cx.plug (.split g a p q l tr)) r nw) (hk : ∀ k, k < w.heap.size → k ≠ g → w'.heap[k]? = w.heap[k]?) (hg : Blk w' g 59 (splitC a p' q' l.g tr.g)) (hp : 1 ≤ p' ∧ p' < q' ∧ q' ≤ 200) (hf : fitsP (cx.plug (.split g a p' q' l tr)) r = true) : Lay w' b (cx.plug (.split g a p' q' l tr)) r nw := by
  obtain ⟨hm, hnd, hidnd, hidle, hrc, hnums, hfits, hfew, hpos⟩ := h
  have hsub := plug_sub cx hm.tree
  have hnd2 := plug_nodup.1 hnd
  have hnd3 := hnd2.2.1
  simp only [Tr.bl] at hnd3
  rw [List.nodup_cons] at hnd3
  have hgb : b ≠ g := Blk.type hm.blk hsub.1 (by decide)
  have hsn : Nums (.split g a p' q' l tr) := ⟨hp.1, hp.2.1, hp.2.2, ((plug_nums _ cx).1 hnums).2.2.2.2⟩
  have hs : TrAt w' (.split g a p' q' l tr) := ⟨hg, TrAt.keep l hsub.2.1 (fun k h1 => hk k (hsub.2.1.lt l k h1) (fun e => hnd3.1 (by rw [← e]; simp [h1]))), TrAt.keep tr hsub.2.2 (fun k h1 => hk k (hsub.2.2.lt tr k h1) (fun e => hnd3.1 (by rw [← e]; simp [h1])))⟩
  refine ⟨⟨?_, plug_at (s := .split g a p q l tr) (s' := .split g a p' q' l tr) rfl hs cx hm.tree (fun k h1 => hk k (hm.tree.lt _ k (plug_mem.2 (.inl h1))) (fun e => hnd2.2.2 k h1 (by rw [e]; simp [Tr.bl])))⟩, ?_, ?_, ?_, hrc, ?_, hf, ?_, hpos⟩
  · rw [plug_g (s := .split g a p q l tr) (s' := .split g a p' q' l tr) rfl cx]
    exact (hk b hm.blk.lt hgb).trans hm.blk
  · rw [plug_nodup] at hnd ⊢
    exact hnd
  · rw [plug_ids] at hidnd ⊢
    exact hidnd
  · rw [plug_ids] at hidle ⊢
    exact hidle
  · rw [plug_nums]
    exact ⟨((plug_nums _ cx).1 hnums).1, hsn⟩
  · rw [plug_ids] at hfew ⊢
    exact hfew
set_option maxRecDepth 100000 in
set_option maxHeartbeats 3000000 in
theorem move_any (b : Nat) (t : Tr) (r : Rc) (nw id : Int) (ac : Bool) (by' : Int) (w : World) (h : Lay w b t r nw) (hby : Fit64 by') :
    Calls Tryd.prog 16 #[.pointer (some ⟨b, 0, none⟩), .int .i64 id, .bool ac, .int .i64 by'] w fun e w' => MoveOk w w' b t r nw id e := by
  have hnone := none_any b t r nw w h.mem
  have hway := way_any id t r w.drew (TrAt.keep _ h.mem.tree (fun _ _ => rfl)) h.rc h.nums h.fits h.bl
  have c0 : w.drew.cell? ⟨b, 0, none⟩ = some (.pointer (some ⟨t.g, 0, none⟩)) := h.mem.blk.cell 0
  have c1 : w.drew.cell? ⟨b, 1, none⟩ = some (.int .i64 r.x) := h.mem.blk.cell 1
  have c2 : w.drew.cell? ⟨b, 2, none⟩ = some (.int .i64 r.y) := h.mem.blk.cell 2
  have c3 : w.drew.cell? ⟨b, 3, none⟩ = some (.int .i64 r.w) := h.mem.blk.cell 3
  have c4 : w.drew.cell? ⟨b, 4, none⟩ = some (.int .i64 r.h) := h.mem.blk.cell 4
  have hwl := wayP_len t r id
  have hbl := h.bl
  obtain ⟨hby1, hby2⟩ := hby
  go_enter Tryd.func16, Tryd.ntmps16
  go_upto_region 3 with (go_at_call 21; refine hnone.mono ?_; rintro e w2 ⟨rfl, rfl⟩)
  clear hnone
  go_cut [9] from 10 to 29 (fun s9 wx => ∃ A n c, s9 = .slice A n c ∧ Spots wx A n c (wayP t r id) ∧ Below w.heap.size w wx)
  case first =>
    go_region_with (first
      | (go_simp; go_at_call 29; refine hway.mono ?_; rintro e w4 ⟨⟨A, n, c, rfl, hSp⟩, hb4⟩))
    all_goals
      go_wp2_with fail
      go_meet
      exact ⟨_, _, _, rfl, hSp, (Below.refl _ _).drew.trans hb4⟩
  case rest =>
  clear hway c0 c1 c2 c3 c4
  obtain ⟨A, n, c, rfl, hSp, hb1⟩ := hcut
  by_cases hid : id ∈ t.ids
  · obtain ⟨cx, gp, rfl, hl1, hl2⟩ := h.plug hid
    have hwe : wayP (cx.plug (.pane gp id)) r id = cx.spine r ++ [(gp, cx.rect r)] := by
      rw [way_plug id (.pane gp id) (by simp [Tr.ids]) cx r hl1, show wayP (.pane gp id) (cx.rect r) id = [(gp, cx.rect r)] from by unfold wayP; rw [if_pos rfl]]
    rw [hwe] at hSp hwl
    have hn : n = (cx.spine r).length + 1 := by rw [hSp.len]; simp
    have hsp1 : (cx.spine r).length ≤ 1000 := by simp at hwl; omega
    obtain ⟨m, hm⟩ : ∃ m, (cx.spine r).length = m := ⟨_, rfl⟩
    rw [hm] at hn hsp1
    obtain ⟨ad, rfl, _⟩ := hSp.at (k := m) (x := (gp, cx.rect r)) (by rw [← hm]; simp)
    subst hn
    have hcap := hSp.cap
    have hbig := hSp.big
    have hd0 : (((m + 1 : Nat) : Int) == 0) = false := by simp; omega
    have hd1 : (m : Int) + 1 - 2 = (m : Int) - 1 := by omega
    have hat : ∀ k, k < m → ∃ (c : Cx) (g : Nat) (a : Bool) (p q : Int) (tl tr : Tr), cx.plug (.pane gp id) = c.plug (.split g a p q tl tr) ∧ wc.cell? (ad.add (k * 5)) = some (.pointer (some ⟨g, 0, none⟩)) ∧
        ∀ j u, [Value.int .i64 (c.rect r).x, .int .i64 (c.rect r).y, .int .i64 (c.rect r).w, .int .i64 (c.rect r).h][j]? = some u → wc.cell? ((ad.add (k * 5)).add (1 + j)) = some u := fun k hk => by
      have hx : (cx.spine r)[k]? = some (cx.spine r)[k] := List.getElem?_eq_getElem (by rw [hm]; exact hk)
      generalize (cx.spine r)[k] = y at hx
      obtain ⟨c', a, p, q, tl, tr, e1, e2⟩ := spine_at _ cx r k y hx
      obtain ⟨ad', e3, e4⟩ := hSp.at (k := k) (x := y) (by rw [List.getElem?_append_left (by rw [hm]; exact hk)]; exact hx)
      obtain rfl : ad = ad' := Option.some.inj e3
      refine ⟨c', y.1, a, p, q, tl, tr, e1, e4 0 _ rfl, fun j u hu => ?_⟩
      rw [← e2] at hu
      refine e4 (1 + j) u ?_
      rw [Nat.add_comm]
      exact hu
    have hL := h.later hb1
    have HH := Lib.hid h
    have HL := Lib.hid hL
    clear hSp hwl hwe hm h hL
    go_upto_block 0 with fail
    go_wp2_with fail
    go_loopw [10] (fun x wr => ∃ j : Nat, j ≤ m ∧ x = .int .i64 ((j : Int) - 1) ∧ wc = wr) (fun x _ => (intOf x + 1).toNat)
    case atStart => exact ⟨m, Nat.le_refl _, rfl, rfl⟩
    case round =>
      obtain ⟨j, hj, hx, rfl⟩ := hrel
      cases j with
      | zero =>
        obtain rfl : _ = Value.int .i64 (-1) := hx
        go_wp2_with (go_at_call 22; refine (faultNew_any 13 _ (by decide)).mono ?_; rintro e w5 ⟨rfl, rfl⟩)
        go_ret
        exact .inl ⟨13, by decide, by simp [hid], rfl, hb1⟩
      | succ i =>
        have hji : ((i + 1 : Nat) : Int) - 1 = (i : Int) := by omega
        rw [hji] at hx
        subst hx
        obtain ⟨c', g, a, p, q, tl, tr, e1, e2, e3⟩ := hat i (by omega)
        have hL := HL.out
        rw [e1] at hL
        have hsub := plug_sub c' hL.mem.tree
        have hnum := (plug_nums _ c').1 hL.nums
        have hfit := hL.fits
        rw [plug_fits, Bool.and_eq_true] at hfit
        have hrg := rect_ok c' r hL.rc hfit.1
        have hn3 : ¬ lenR (c'.rect r) a < 3 := fun hn => by
          have h1 := hfit.2
          unfold fitsP at h1
          rw [if_pos hn] at h1
          cases h1
        obtain ⟨hp1, hpq, hq2, _, _⟩ := hnum.2
        have q1 : wc.cell? ⟨(ad.add (i * 5)).block, (ad.add (i * 5)).off + 1, none⟩ = some (.int .i64 (c'.rect r).x) := e3 0 _ rfl
        have q2 : wc.cell? ⟨(ad.add (i * 5)).block, (ad.add (i * 5)).off + 2, none⟩ = some (.int .i64 (c'.rect r).y) := e3 1 _ rfl
        have q3 : wc.cell? ⟨(ad.add (i * 5)).block, (ad.add (i * 5)).off + 3, none⟩ = some (.int .i64 (c'.rect r).w) := e3 2 _ rfl
        have q4 : wc.cell? ⟨(ad.add (i * 5)).block, (ad.add (i * 5)).off + 4, none⟩ = some (.int .i64 (c'.rect r).h) := e3 3 _ rfl
        have g1 : wc.cell? ⟨g, 1, none⟩ = some (.bool a) := hsub.1.cell 1
        have g2 : wc.cell? ⟨g, 2, none⟩ = some (.int .i64 p) := hsub.1.cell 2
        have g3 : wc.cell? ⟨g, 3, none⟩ = some (.int .i64 q) := hsub.1.cell 3
        have hi1 : decide ((i : Int) < ((m + 1 : Nat) : Int)) = true := decide_eq_true (by omega)
        have hi2 : decide (i < m + 1) = true := decide_eq_true (by omega)
        have hi3 : decide ((0 : Int) ≤ (i : Int)) = true := decide_eq_true (by omega)
        clear hat e3
        by_cases hac : a = ac
        · subst hac
          have hlb := lenR_bd hrg a
          have hsb := shr_bd (n := lenR (c'.rect r) a) (p := p) (q := q) (by omega)
          have hlen := length_any (c'.rect r) a wc
          go_upto_region 12 with (go_at_call 25; refine hlen.mono ?_; rintro e w5 ⟨rfl, hb5⟩)
          have hsh := share_any g (lenR (c'.rect r) a) p q w5 (keepc hb5 g2) (keepc hb5 g3) (by omega) (by omega) hp1 hpq hq2
          go_cut [13] from 58 to 64 (fun s13 wx => ∃ v : Int, s13 = .int .i64 v ∧ -300 ≤ v ∧ v ≤ 500 ∧ Below w5.heap.size w5 wx)
          case first =>
            by_cases hl : by' < -200
            · go_wp2_with (go_at_call 30; refine hsh.mono ?_; rintro e w6 ⟨rfl, kk, rfl⟩)
              all_goals
                go_meet
                exact ⟨_, rfl, by omega, by omega, below_drewN (Below.refl _ _) _⟩
            · by_cases hh : 200 < by'
              · go_wp2_with (go_at_call 30; refine hsh.mono ?_; rintro e w6 ⟨rfl, kk, rfl⟩)
                all_goals
                  go_meet
                  exact ⟨_, rfl, by omega, by omega, below_drewN (Below.refl _ _) _⟩
              · go_wp2_with (go_at_call 30; refine hsh.mono ?_; rintro e w6 ⟨rfl, kk, rfl⟩)
                all_goals
                  go_meet
                  exact ⟨_, rfl, by omega, by omega, below_drewN (Below.refl _ _) _⟩
          case rest =>
          obtain ⟨v, rfl, hv1, hv2, hb6⟩ := hcut
          rename World => w6
          have hb16 := hb5.trans (hb6.mono hb5.size)
          have hG6 : Blk w6 g 59 (splitC a p q tl.g tr.g) := hsub.1.below hb16 hsub.1.lt
          have hL6 := hL.later hb16
          have k2 : w6.drew.cell? ⟨g, 2, none⟩ = some (.int .i64 p) := hG6.cell 2
          have k3 : w6.drew.cell? ⟨g, 3, none⟩ = some (.int .i64 q) := hG6.cell 3
          clear hlen hsh hb5 hb6 q1 q2 q3 q4 g1 g2 g3
          generalize hN : lenR (c'.rect r) a = N at *
          go_upto_region 13 with fail
          go_region
          go_upto_region 14 with fail
          clear k2 k3
          have hG7 := hG6.drew
          have hb7 := hb16.drew
          have hL7 := hL6.later (Below.refl w6.heap.size w6).drew
          clear hG6 hb16 hL6
          generalize w6.drew = w7 at hG7 hb7 hL7 ⊢
          have k2 : w7.cell? ⟨g, 2, none⟩ = some (.int .i64 p) := hG7.cell 2
          have k3 : w7.cell? ⟨g, 3, none⟩ = some (.int .i64 q) := hG7.cell 3
          have f2 : w7.frozen? ⟨g, 2, none⟩ = false := hG7.free 2
          have f3 : w7.frozen? ⟨g, 3, none⟩ = false := hG7.free 3
          go_cut [] from 73 to 85 (fun wx => ∃ p' : Int, 1 ≤ p' ∧ p' ≤ N - 2 ∧ wx = (w7.setCell ⟨g, 2, none⟩ (.int .i64 p')).setCell ⟨g, 3, none⟩ (.int .i64 (N - 1)))
          case first =>
            by_cases hl : v < 1
            · go_wp2_with fail
              all_goals
                go_meet
                exact ⟨_, by omega, by omega, rfl⟩
            · by_cases hh : N - 2 < v
              · go_wp2_with fail
                all_goals
                  go_meet
                  exact ⟨_, by omega, by omega, rfl⟩
              · go_wp2_with fail
                all_goals
                  go_meet
                  exact ⟨_, by omega, by omega, rfl⟩
          case rest =>
          obtain ⟨p', hp1', hp2', hw8⟩ := hcut
          rename World => w8
          have hset : ∀ k, k ≠ g → w8.heap[k]? = w7.heap[k]? := fun k hk => by
            rw [hw8]
            exact (Below.heap_setCell _ ⟨g, 3, none⟩ _ k hk).trans (Below.heap_setCell w7 ⟨g, 2, none⟩ _ k hk)
          have hG8 : Blk w8 g 59 (splitC a p' (N - 1) tl.g tr.g) := by
            rw [hw8]
            exact (hG7.set 2 _).set 3 _
          have hbt8 : But [g] w7 w8 := by
            rw [hw8]
            exact ((But.of_below (Below.refl _ _)).set (p := ⟨g, 2, none⟩) (.inl (by simp)) _).set (p := ⟨g, 3, none⟩) (.inl (by simp)) _
          clear hw8 k2 k3 f2 f3
          have hT8 := move_tree hL7 (fun k _ hk => hset k hk) hG8
          have hbg : b ≠ g := Blk.type hL7.mem.blk hG7 (by decide)
          have hB8 := hL7.mem.blk.but hbt8 (by simpa using hbg)
          have hN8 : Nums (c'.plug (.split g a p' (N - 1) tl tr)) := (plug_nums _ c').2 ⟨hnum.1, by omega, by omega, by omega, hnum.2.2.2.2⟩
          have hfits := fits_any _ r w8.drew (TrAt.keep _ hT8 (fun _ _ => rfl)) hL7.rc hN8
          rw [plug_g (s := .split g a p q tl tr) (s' := .split g a p' (N - 1) tl tr) rfl c'] at hfits
          have c0 : w8.drew.cell? ⟨b, 0, none⟩ = some (.pointer (some ⟨(c'.plug (.split g a p q tl tr)).g, 0, none⟩)) := hB8.cell 0
          have c1 : w8.drew.cell? ⟨b, 1, none⟩ = some (.int .i64 r.x) := hB8.cell 1
          have c2 : w8.drew.cell? ⟨b, 2, none⟩ = some (.int .i64 r.y) := hB8.cell 2
          have c3 : w8.drew.cell? ⟨b, 3, none⟩ = some (.int .i64 r.w) := hB8.cell 3
          have c4 : w8.drew.cell? ⟨b, 4, none⟩ = some (.int .i64 r.h) := hB8.cell 4
          generalize hfv : fitsP (c'.plug (.split g a p' (N - 1) tl tr)) r = fv at hfits
          have Hfv := Lib.hid hfv
          clear hfv
          go_upto_region 15 with fail
          go_region_with (first | (go_simp; go_at_call 31; refine hfits.mono ?_; rintro e w9 ⟨rfl, hb9⟩))
          all_goals
            have hb89 := (Below.refl w8.heap.size w8).drew.trans hb9
            have hG9 := hG8.below hb89 hG8.lt
            have h79 : ∀ k, k < w7.heap.size → k ≠ g → w9.heap[k]? = w7.heap[k]? := fun k hk hne => (hb89.block k (Nat.lt_of_lt_of_le hk hbt8.size)).trans (hset k hne)
            cases fv
            · have k2 : w9.cell? ⟨g, 2, none⟩ = some (.int .i64 p') := hG9.cell 2
              have k3 : w9.cell? ⟨g, 3, none⟩ = some (.int .i64 (N - 1)) := hG9.cell 3
              have f2 : w9.frozen? ⟨g, 2, none⟩ = false := hG9.free 2
              have f3 : w9.frozen? ⟨g, 3, none⟩ = false := hG9.free 3
              go_wp2_with (go_at_call 22; refine (faultNew_any 19 _ (by decide)).mono ?_; rintro e w10 ⟨rfl, rfl⟩)
              go_ret
              have hG10 : Blk ((w9.setCell ⟨g, 2, none⟩ (.int .i64 p)).setCell ⟨g, 3, none⟩ (.int .i64 q)) g 59 (splitC a p q tl.g tr.g) := (hG9.set 2 _).set 3 _
              have hb7s := hb7.size
              refine .inl ⟨19, by decide, by simp [hid], rfl, ?_⟩
              refine ⟨?_, ?_, ?_, ?_, fun k hk => ?_⟩
              · exact (hb89.os.trans hbt8.os).trans (hb1.trans (hb7.mono hb1.size)).os
              · exact (hb89.tape.trans hbt8.tape).trans (hb1.trans (hb7.mono hb1.size)).tape
              · exact (hb89.output.trans hbt8.output).trans (hb1.trans (hb7.mono hb1.size)).output
              · have h1 := (hb1.trans (hb7.mono hb1.size)).size
                have h2 := hbt8.size
                have h3 := hb89.size
                simp [World.setCell]
                omega
              · have h1 := (hb1.trans (hb7.mono hb1.size)).size
                by_cases hkg : k = g
                · subst hkg
                  exact (hG10.trans (Eq.symm hG7)).trans ((hb1.trans (hb7.mono hb1.size)).block k hk)
                · refine ((Below.heap_setCell _ ⟨g, 3, none⟩ _ k hkg).trans (Below.heap_setCell w9 ⟨g, 2, none⟩ _ k hkg)).trans ((h79 k (by omega) hkg).trans ((hb1.trans (hb7.mono hb1.size)).block k hk))
            · go_wp2_with fail
              go_ret
              have hb17 := hb1.trans (hb7.mono hb1.size)
              exact .inr ⟨c', g, a, p, q, p', N - 1, tl, tr, e1, hid, rfl, hL7.move h79 hG9 ⟨hp1', by omega, by omega⟩ Hfv.out, ((But.of_below hb17).trans hbt8).trans_below hb89⟩
        · have hab : (a == ac) = false := by simpa using hac
          have hab2 : (a != ac) = true := by simpa using hac
          go_wp2_with fail
          go_round
          case rel => exact ⟨i, by omega, rfl, trivial⟩
          case measure => simp [intOf]
  · rw [(way_nil id t r).2 hid] at hSp
    obtain rfl := hSp.nl.2 rfl
    obtain ⟨rfl, rfl⟩ := hSp.zero rfl
    go_wp2_with (go_at_call 22; refine (faultNew_any 12 _ (by decide)).mono ?_; rintro e w5 ⟨rfl, rfl⟩)
    go_ret
    exact .inl ⟨12, by decide, by simp [hid], rfl, hb1⟩
end Go.Proofs.YtmdgjmmkegkonaaDoor
