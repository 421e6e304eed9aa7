/- LayoutBack: walked. -/
import Derived.Test.YtmdgjmmkegkonaaDoorAwkL
namespace Go.Proofs.YtmdgjmmkegkonaaDoor
open Go.RowKit
def Fit64 (x : Int) : Prop := -9223372036854775808 ≤ x ∧ x ≤ 9223372036854775807
abbrev opC (kd id by' hi : Int) (a nr : Bool) : List Value := [.int .i64 kd, .int .i64 id, .int .i64 by', .int .i64 hi, .bool a, .bool nr]
/-- Steps as they lie in memory. -/
def OpsAt (w : World) (A : Option Addr) (n : Nat) : Prop := ∀ i, i < n → ∃ ad, A = some ad ∧ ∃ (kd id by' hi : Int) (a nr : Bool), (Fit64 kd ∧ Fit64 id ∧ Fit64 by' ∧ Fit64 hi) ∧ ∀ j u, (opC kd id by' hi a nr)[j]? = some u → w.cell? ((ad.add (i * 6)).add j) = some u
theorem OpsAt.below {w w' : World} {A : Option Addr} {n : Nat} (h : OpsAt w A n) (hb : Below w.heap.size w w') : OpsAt w' A n := fun i hi => by
  obtain ⟨ad, he, kd, id, by', h', a, nr, hf, hc⟩ := h i hi
  exact ⟨ad, he, kd, id, by', h', a, nr, hf, fun j u hu => keepc hb (hc j u hu)⟩
/-- A pane's number by a number. -/
theorem near_mod (x : Int) : ∃ m : Int, x.tmod 20 = m ∧ -20 < m ∧ m < 20 ∧ 0 ≤ (m + 20).tmod 20 ∧ (m + 20).tmod 20 < 20 := by
  have h1 := Int.tmod_lt_of_pos x (show (0 : Int) < 20 by omega)
  have h2 : -20 < x.tmod 20 := by
    have h3 := Int.tmod_lt_of_pos (-x) (show (0 : Int) < 20 by omega)
    rw [Int.neg_tmod] at h3
    omega
  refine ⟨_, rfl, h2, h1, Int.tmod_nonneg _ (by omega), Int.tmod_lt_of_pos _ (by omega)⟩
/-- Closing, as a plain function. -/
def closeT : Tr → Int → Tr
  | .pane g i, _ => .pane g i
  | .split g a p q l r, id => if l.ids = [id] then r.to g else if r.ids = [id] then l.to g else .split g a p q (closeT l id) (closeT r id)
theorem closeT_no : ∀ (t : Tr) (id : Int), id ∉ t.ids → closeT t id = t
  | .pane g i, id, _ => rfl
  | .split g a p q l r, id, h => by
    simp only [Tr.ids, List.mem_append, not_or] at h
    have h1 : l.ids ≠ [id] := fun e => h.1 (by rw [e]; simp)
    have h2 : r.ids ≠ [id] := fun e => h.2 (by rw [e]; simp)
    rw [closeT, if_neg h1, if_neg h2, closeT_no l id h.1, closeT_no r id h.2]
theorem closeT_plug (left : Bool) (gu : Nat) (a : Bool) (p q : Int) (gp : Nat) (id : Int) (o : Tr) (ho : id ∉ o.ids) : ∀ cx : Cx, id ∉ cx.lids → id ∉ cx.rids → closeT (cx.plug (sib left gu a p q gp id o)) id = cx.plug (o.to gu)
  | .here, _, _ => by
    have h1 : o.ids ≠ [id] := fun e => ho (by rw [e]; simp)
    cases left
    · simp [Cx.plug, sib, closeT, Tr.ids, h1]
    · simp [Cx.plug, sib, closeT, Tr.ids]
  | .left g b x y c r, hl, hr => by
    simp only [Cx.lids, Cx.rids, List.mem_append, not_or] at hl hr
    have h1 : (c.plug (sib left gu a p q gp id o)).ids ≠ [id] := fun e => by
      have h2 := congrArg List.length e
      rw [plug_ids, sib_ids] at h2
      have h3 := ids_pos o
      cases left <;> simp at h2 <;> omega
    have h2 : r.ids ≠ [id] := fun e => hr.2 (by rw [e]; simp)
    show closeT (.split g b x y (c.plug (sib left gu a p q gp id o)) r) id = .split g b x y (c.plug (o.to gu)) r
    rw [closeT, if_neg h1, if_neg h2, closeT_plug left gu a p q gp id o ho c hl hr.1, closeT_no r id hr.2]
  | .right g b x y l c, hl, hr => by
    simp only [Cx.lids, Cx.rids, List.mem_append, not_or] at hl hr
    have h1 : (c.plug (sib left gu a p q gp id o)).ids ≠ [id] := fun e => by
      have h2 := congrArg List.length e
      rw [plug_ids, sib_ids] at h2
      have h3 := ids_pos o
      cases left <;> simp at h2 <;> omega
    have h2 : l.ids ≠ [id] := fun e => hl.1 (by rw [e]; simp)
    show closeT (.split g b x y l (c.plug (sib left gu a p q gp id o))) id = .split g b x y l (c.plug (o.to gu))
    rw [closeT, if_neg h2, if_neg h1, closeT_plug left gu a p q gp id o ho c hl.2 hr, closeT_no l id hl.1]
theorem nodup_around {cx : Cx} {s : Tr} {id : Int} (h : (cx.plug s).ids.Nodup) (hs : id ∈ s.ids) : id ∉ cx.lids ∧ id ∉ cx.rids := by
  rw [plug_ids] at h
  have h1 := List.nodup_append.1 h
  have h2 := List.nodup_append.1 h1.2.1
  exact ⟨fun hm => h1.2.2 id hm id (by simp [hs]) rfl, fun hm => h2.2.2 id hs id hm rfl⟩
theorem sib_mem (left : Bool) (gu : Nat) (a : Bool) (p q : Int) (gp : Nat) (id : Int) (o : Tr) : id ∈ (sib left gu a p q gp id o).ids := by rw [sib_ids]; cases left <;> simp
/-- Closing what was split off. -/
theorem close_back {cx : Cx} {g g1 g2 : Nat} {a : Bool} {n id made : Int} (h : (splitT cx g a n g1 g2 id made).ids.Nodup) (hne : id ≠ made) : closeT (splitT cx g a n g1 g2 id made) made = cx.plug (.pane g id) := by
  have hs := sib_mem false g a (n / 2) (n - 1) g2 made (.pane g1 id)
  have h1 := nodup_around (s := sib false g a (n / 2) (n - 1) g2 made (.pane g1 id)) h hs
  exact closeT_plug false g a (n / 2) (n - 1) g2 made (.pane g1 id) (by simp [Tr.ids, Ne.symm hne]) cx h1.1 h1.2
/-- A step's split, told by halves. -/
theorem split_step {w w' : World} {b : Nat} {t : Tr} {r : Rc} {nw id : Int} {a : Bool} {e : Ending} {B0 : Nat} (h : Lay w b t r nw) (hl : Lo B0 b t) (hB : B0 ≤ w.heap.size) (hs : SplitOk w w' b t r nw id a e) : ∃ v, e = .returned v ∧ ∃ t' nw', Lay w' b t' r nw' ∧ Lo B0 b t' ∧ nw' ≤ nw + 1 ∧ Below B0 w w' := by
  rcases hs with ⟨c, _, _, _, rfl, hb⟩ | ⟨cx, g, g1, g2, rfl, _, rfl, hL, hbt, h1, h2⟩
  · exact ⟨_, rfl, t, nw, h.later hb, hl, by omega, hb.mono hB⟩
  · exact ⟨_, rfl, _, _, hL, hl.split (by omega) h2, by omega, hbt.below hB (fun k hk => by
      simp at hk
      rcases hk with rfl | rfl
      · exact hl.top
      · exact hl.g_split)⟩
theorem new_lay {w' : World} {b g : Nat} {p q : Nat} (h : LAt w' b (.pane g 1) ⟨0, 0, p, q⟩ 1) (hp : 1 ≤ p ∧ p ≤ 200) (hq : 1 ≤ q ∧ q ≤ 200) : Lay w' b (.pane g 1) ⟨0, 0, p, q⟩ 1 :=
  ⟨h, by simp [Tr.bl], by simp [Tr.ids], by simp [Tr.ids], ⟨by simp, by simp; omega, by simp, by simp; omega, by simp; omega, by simp; omega⟩, by simp [Nums], rfl, by simp [Tr.ids], by omega⟩
theorem Pn.but {w w' : World} {S : List Nat} {g n c : Nat} {l : List (Int × Rc)} (h : Pn w g n c l) (hb : But S w w') (hS : ∀ k ∈ S, ∃ T cs, T ≠ 43 ∧ Blk w k T cs) : Pn w' g n c l :=
  h.keep (hb.block g h.lt (fun hm => by
    obtain ⟨T, cs, hT, hk⟩ := hS g hm
    obtain ⟨cs', h1⟩ := h.blk
    unfold Blk at hk
    rw [hk] at h1
    injection h1 with h1
    injection h1 with _ h1
    exact hT h1))
theorem Lay.tb {w : World} {b : Nat} {t : Tr} {r : Rc} {nw : Int} (h : Lay w b t r nw) {k : Nat} (hk : k = b ∨ k ∈ t.bl) : ∃ T cs, T ≠ 43 ∧ Blk w k T cs := by
  rcases hk with rfl | hk
  · exact ⟨_, _, by decide, h.mem.blk⟩
  · obtain ⟨cs, hcs⟩ := TrAt.blk t h.mem.tree k hk
    exact ⟨_, cs, by decide, hcs⟩
/-- What was split off is closed again. -/
theorem close_split {w w' : World} {b : Nat} {cx : Cx} {g g1 g2 : Nat} {a : Bool} {n id made nw : Int} {r : Rc} {e : Ending} (h : Lay w b (splitT cx g a n g1 g2 id made) r nw) (hne : id ≠ made) (hc : CloseOk w w' b (splitT cx g a n g1 g2 id made) r nw made e) :
    e = .returned .nilIface ∧ Lay w' b (cx.plug (.pane g id)) r nw ∧ ∃ gu, gu ∈ (splitT cx g a n g1 g2 id made).bl ∧ But [gu] w w' := by
  have hm : made ∈ (splitT cx g a n g1 g2 id made).ids := by rw [plug_ids]; simp [Tr.ids]
  rcases hc with ⟨c, _, h2, h3, _, _⟩ | ⟨cx', left, gu, a', p', q', gp, o, h1, h2, h3, h4, h5, h6⟩
  · exfalso
    have h4 : (splitT cx g a n g1 g2 id made).ids.length ≠ 1 := by rw [plug_ids]; simp [Tr.ids]; omega
    exact (h2.1 (h3 h4)) hm
  · have hn := h.idnd
    have h7 := close_back hn hne
    rw [h1] at hn h7
    have h8 := nodup_around hn (sib_mem left gu a' p' q' gp made o)
    rw [closeT_plug left gu a' p' q' gp made o h3 cx' h8.1 h8.2] at h7
    rw [h7] at h5
    refine ⟨h4, h5, gu, ?_, h6⟩
    rw [h1]
    exact plug_mem.2 (.inr ((sib_bl left gu a' p' q' gp made o).mem_iff.2 (by simp)))
theorem split_len {cx : Cx} {g g1 g2 : Nat} {a : Bool} {n id made : Int} (r : Rc) : (panesP (splitT cx g a n g1 g2 id made) r).length = (panesP (cx.plug (.pane g id)) r).length + 1 := by
  rw [panes_len, panes_len, plug_ids, plug_ids]
  simp [Tr.ids]
  omega
set_option maxRecDepth 100000 in
set_option maxHeartbeats 4000000 in
theorem layoutBack_walk (x y : Int) (A : Option Addr) (n c : Nat) (kd id by' hi : Int) (ac nr : Bool) (w : World) (hA : OpsAt w A n) (hn : n ≤ maxLen) (hg : ErrT w) :
    Calls Tryd.prog 3 #[.agg #[.int .i64 x, .int .i64 y], .slice A n c, .agg #[.int .i64 kd, .int .i64 id, .int .i64 by', .int .i64 hi, .bool ac, .bool nr]] w fun e w' => e = .returned (.bool true) ∧ Below w.heap.size w w' := by
  unfold maxLen at hn
  have hb0 := ((Below.refl w.heap.size w).alloc (Nat.le_refl _) (.cells #[.int .i64 x, .int .i64 y] 22)).alloc (by simp) (.cells #[.int .i64 kd, .int .i64 id, .int .i64 by', .int .i64 hi, .bool ac, .bool nr] 25)
  have hq := (Blk.new w 22 #[.int .i64 x, .int .i64 y]).alloc (.cells #[.int .i64 kd, .int .i64 id, .int .i64 by', .int .i64 hi, .bool ac, .bool nr] 25)
  have ho := Blk.new (w.alloc (.cells #[.int .i64 x, .int .i64 y] 22)) 25 #[.int .i64 kd, .int .i64 id, .int .i64 by', .int .i64 hi, .bool ac, .bool nr]
  rw [World.size_alloc] at ho
  go_enter Tryd.func3, Tryd.ntmps3
  go_upto_region 1 with fail
  generalize (w.alloc (.cells #[.int .i64 x, .int .i64 y] 22)).alloc (.cells #[.int .i64 kd, .int .i64 id, .int .i64 by', .int .i64 hi, .bool ac, .bool nr] 25) = w0 at hb0 hq ho ⊢
  have hawk := awake_any w0
  go_upto_region 2 with (go_at_call 7; refine hawk.mono ?_; rintro e w1 ⟨rfl, hb1⟩)
  have hq1 := hq.below hb1 hq.lt
  have q0 := hq1.cell 0
  have q1 := hq1.cell 1
  have hsz := size_any x y w1
  go_upto_region 3 with (go_at_call 8; refine hsz.mono ?_; rintro e w2 ⟨⟨p, q, rfl, hp1, hp2, hq1', hq2⟩, hb2⟩)
  have hnew := new_any (p : Int) (q : Int) w2 ⟨by omega, by omega, by omega, by omega⟩
  go_upto_region 4 with (go_at_call 9; refine hnew.mono ?_; rintro e w3 ⟨rfl, hL3, hb3⟩)
  have hb02 := hb0.trans (((hb1.trans (hb2.mono hb1.size))).mono hb0.size)
  have hb03 := hb02.trans (hb3.mono hb02.size)
  have ho3 := ho.below (hb1.trans ((hb2.trans (hb3.mono hb2.size)).mono hb1.size)) ho.lt
  have hA3 := hA.below hb03
  have hg3 := hg.below hb03
  have hoB : w.heap.size + 1 < w2.heap.size := Nat.lt_of_lt_of_le (Nat.lt_of_lt_of_le ho.lt hb1.size) hb2.size
  have hLay := new_lay hL3 ⟨hp1, by omega⟩ ⟨hq1', by omega⟩
  have hLo : Lo w2.heap.size (w2.heap.size + 1) (.pane w2.heap.size 1) := ⟨by omega, fun k hk => by simp [Tr.bl] at hk; omega⟩
  have hws : w2.heap.size ≤ w3.heap.size := hb3.size
  clear hawk hsz hnew hq hq1 q0 q1 ho hL3 hb1 hb2 hb0 hb3
  generalize Tr.pane w2.heap.size 1 = t0 at hLay hLo
  generalize hb : w2.heap.size + 1 = b at hLay hLo ⊢
  obtain ⟨B0, hB0⟩ : ∃ B0, B0 = w2.heap.size := ⟨_, rfl⟩
  rw [← hB0] at hLo hws hoB
  have hwB0 : w.heap.size ≤ B0 := by rw [hB0]; exact hb02.size
  clear hb hb02 hB0
  generalize hrc : (⟨0, 0, (p : Int), (q : Int)⟩ : Rc) = rc at hLay
  clear hrc
  go_upto_block 0 with fail
  go_cut [10] from 11 to 55 (fun s10 wx => s10 = .pointer (some ⟨b, 0, none⟩) ∧ ∃ (t : Tr) (nw : Int), Lay wx b t rc nw ∧ Lo B0 b t ∧ nw ≤ 21 ∧ Below B0 w3 wx)
  case first =>
    go_wp2_with fail
    go_loopw [11] (fun x wr => ∃ (k : Nat) (t : Tr) (nw : Int), k ≤ 20 ∧ k ≤ n ∧ x = .int .i64 (k : Nat) ∧ Lay wr b t rc nw ∧ Lo B0 b t ∧ nw ≤ 1 + k ∧ Below B0 w3 wr) (fun x _ => 20 - (intOf x).toNat)
    case atStart => exact ⟨0, t0, 1, by omega, by omega, rfl, hLay, hLo, by omega, Below.refl _ _⟩
    case round =>
      obtain ⟨k, t, nw, hk20, hkn, rfl, hL, hO, hnw, hbr⟩ := hrel
      by_cases hlt : k < n ∧ k < 20
      · have hd1 : decide ((k : Int) < (n : Int)) = true := decide_eq_true (by omega)
        have hd2 : decide ((k : Int) < 20) = true := decide_eq_true (by omega)
        have hd3 : decide (k < n) = true := decide_eq_true hlt.1
        have hd4 : decide (k < 20) = true := decide_eq_true hlt.2
        obtain ⟨ad, rfl, kd', id', by'', hi', a', nr', hf, hc⟩ := hA k hlt.1
        have hwr : w.heap.size ≤ wr.heap.size := Nat.le_trans hwB0 (Nat.le_trans hws hbr.size)
        have hbw : Below w.heap.size w wr := hb03.trans (hbr.mono hwB0)
        have e1 : wr.drew.cell? ⟨(ad.add (k * 6)).block, (ad.add (k * 6)).off + 1, none⟩ = some (.int .i64 id') := keepc hbw (hc 1 _ rfl)
        have e4 : wr.drew.cell? ⟨(ad.add (k * 6)).block, (ad.add (k * 6)).off + 4, none⟩ = some (.bool a') := keepc hbw (hc 4 _ rfl)
        obtain ⟨m, hm, hm1, hm2, hm3, hm4⟩ := near_mod id'
        have hd20 : (20 : Int) ≠ 0 := by decide
        have hspl := fun i => split_any b t rc nw i a' wr.drew (hL.later (Below.refl wr.heap.size wr).drew) (by omega)
        clear hc hf hA hA3 hLay hLo
        go_upto_region 9 with fail
        go_region_with (first
          | (go_simp; go_at_call 10; refine (hspl _).mono ?_; intro e w4 hs4; obtain ⟨v, rfl, t', nw', hL', hO', hnw', hb'⟩ := split_step (hL.later (Below.refl wr.heap.size wr).drew) hO (Nat.le_trans hws hbr.size) hs4))
        all_goals
          go_wp2_with fail
          go_round
          case rel => exact ⟨k + 1, t', nw', by omega, by omega, by go_num, hL', hO', by omega, hbr.trans ((Below.refl B0 wr).drew.trans hb')⟩
          case measure => simp [intOf]; omega
      · by_cases hkn' : k < n
        · have hd1 : decide ((k : Int) < (n : Int)) = true := decide_eq_true (by omega)
          have hd2 : decide ((k : Int) < 20) = false := decide_eq_false (by omega)
          have hd3 : decide (k < n) = true := decide_eq_true hkn'
          have hd4 : decide (k < 20) = false := decide_eq_false (by omega)
          clear hA hA3 hLay hLo
          go_wp2_with fail
          go_meet
          exact ⟨rfl, t, nw, hL, hO, by omega, hbr⟩
        · have hd1 : decide ((k : Int) < (n : Int)) = false := decide_eq_false (by omega)
          have hd3 : decide (k < n) = false := decide_eq_false hkn'
          clear hA hA3 hLay hLo
          go_wp2_with fail
          go_meet
          exact ⟨rfl, t, nw, hL, hO, by omega, hbr⟩
  case rest =>
  clear hLay hLo hA hA3 hn
  obtain ⟨rfl, t, nw, hL, hO, hnw, hbc⟩ := hcut
  have hpan1 := panes_any b t rc nw wc hL.mem hL.rc hL.nums hL.fits hL.nl
  go_upto_region 11 with (go_at_call 11; refine hpan1.mono ?_; rintro e w4 ⟨⟨v, rfl, hv1⟩, hb4⟩; obtain ⟨r1, c1, rfl, _, hP1⟩ := Pn.of_own hv1 (panes_ne t rc))
  have hB4 := hbc.trans (hb4.mono (Nat.le_trans hws hbc.size))
  have hL4 := hL.later hb4
  have ho4 := ho3.below hB4 hoB
  have hg4 : ErrT w4 := (hB4.cell (p := ⟨0, 0, none⟩) (Nat.lt_of_lt_of_le (World.block_lt_of_cell? w _ hg) hwB0)).trans hg3
  have hws4 : B0 ≤ w4.heap.size := Nat.le_trans hws hB4.size
  have o1 := ho4.cell 1
  have o4 := ho4.cell 4
  obtain ⟨m, hm, hm1, hm2, hm3, hm4⟩ := near_mod id
  have hd20 : (20 : Int) ≠ 0 := by decide
  have hspl := fun i => split_any b t rc nw i ac w4 hL4 (by omega)
  clear hpan1 hv1 hL hbc ho3 hg3
  go_upto_region 12 with (go_at_call 10; refine (hspl _).mono ?_; intro e w5 hs5; rcases hs5 with ⟨cc, hcc, _, _, rfl, hb5⟩ | ⟨cx, g, g1, g2, rfl, hcl, rfl, hL5, hbt5, hg1, hg2⟩)
  · have hB5 := hB4.trans (hb5.mono hws4)
    have hco := code_hit cc w5 (hg4.below hb5)
    have hc1 : (cc == 0) = false := by simpa using hcc
    go_wp2_with (go_at_call 12; refine hco.mono ?_; rintro e w6 ⟨rfl, hb6⟩)
    go_ret
    exact ⟨rfl, hb03.trans ((hB5.trans (hb6.mono (Nat.le_trans hws4 hb5.size))).mono hwB0)⟩
  · have hO5 := hO.split (n := lenR (cx.rect rc) ac) (a := ac) (made := nw + 1) (Nat.le_trans hws4 hg1) hg2
    have hbw5 : Below B0 w4 w5 := hbt5.below hws4 (fun k hk => by
      simp at hk
      rcases hk with rfl | rfl
      · exact hO.top
      · exact hO.g_split)
    have hP5 := hP1.but hbt5 (fun k hk => by
      simp at hk
      exact hL4.tb (hk.imp (fun h => h) (fun h => by rw [h]; exact plug_mem.2 (.inr (by simp [Tr.bl])))))
    have hne : ∀ i, i ∈ (cx.plug (.pane g i)).ids := fun i => by rw [plug_ids]; simp [Tr.ids]
    have hne1 := hL4.idle _ (hne _)
    have hco := code_nil w5
    have hws5 : B0 ≤ w5.heap.size := Nat.le_trans hws4 hbw5.size
    go_upto_region 14 with (go_at_call 12; refine hco.mono ?_; rintro e w6 ⟨rfl, hb6⟩)
    have hL6 := hL5.later hb6
    have hP6 := hP5.later hb6
    have hws6 : B0 ≤ w6.heap.size := Nat.le_trans hws5 hb6.size
    have hpan2 := panes_any b _ rc (nw + 1) w6 hL6.mem hL6.rc hL6.nums hL6.fits hL6.nl
    go_upto_region 15 with (go_at_call 11; refine hpan2.mono ?_; rintro e w7 ⟨⟨v, rfl, hv2⟩, hb7⟩; obtain ⟨A2, c2, rfl⟩ := own_slice hv2)
    have hL7 := hL6.later hb7
    have hP7 := hP6.later hb7
    have hws7 : B0 ≤ w7.heap.size := Nat.le_trans hws6 hb7.size
    have hclo := close_any b _ rc (nw + 1) (nw + 1) w7 hL7
    have hlen := split_len (cx := cx) (g := g) (g1 := g1) (g2 := g2) (a := ac) (n := lenR (cx.rect rc) ac) (id := 1 + m % 20) (made := nw + 1) rc
    go_upto_region 16 with (go_at_call 13; refine hclo.mono ?_; intro e w8 hs8; obtain ⟨rfl, hL8, gu, hgu, hbt8⟩ := close_split hL7 (by omega) hs8)
    have hbw8 : Below B0 w7 w8 := hbt8.below hws7 (fun k hk => by
      simp at hk
      rw [hk]
      exact hO5.bl gu hgu)
    have hP8 := hP7.but hbt8 (fun k hk => by
      simp at hk
      exact hL7.tb (.inr (by rw [hk]; exact hgu)))
    have hws8 : B0 ≤ w8.heap.size := Nat.le_trans hws7 hbw8.size
    have hpan3 := panes_any b _ rc (nw + 1) w8 hL8.mem hL8.rc hL8.nums hL8.fits hL8.nl
    go_upto_region 17 with (go_at_call 11; refine hpan3.mono ?_; rintro e w9 ⟨⟨v, rfl, hv3⟩, hb9⟩; obtain ⟨r3, c3, rfl, _, hP3⟩ := Pn.of_own hv3 (panes_ne _ rc))
    have hP9 := hP8.later hb9
    have hB9 := hB4.trans (hbw5.trans ((hb6.mono hws5).trans ((hb7.mono hws6).trans (hbw8.trans (hb9.mono hws8)))))
    have hws9 : B0 ≤ w9.heap.size := Nat.le_trans hws8 hb9.size
    have hfew : (panesP (cx.plug (.pane g (1 + m % 20))) rc).length ≤ 16 := by rw [panes_len]; exact hL8.few
    generalize panesP (cx.plug (.pane g (1 + m % 20))) rc = l at *
    have hco9 := code_nil w9
    clear hL8 hL7 hL6 hL5 hL4 hO hO5 hspl hP8 hP7 hP6 hP5 hP1 hv2 hv3 hpan2 hpan3 hclo hco hbt5 hbt8 hne hne1 hgu hlen ho4 hg4 hg o1 o4
    go_upto_block 2 with (go_at_call 12; refine hco9.mono ?_; rintro e w10 ⟨rfl, hb10⟩)
    have hPa := hP9.later hb10
    have hPb := hP3.later hb10
    have hBa := hB9.trans (hb10.mono hws9)
    have hws10 : B0 ≤ w10.heap.size := Nat.le_trans hws9 hb10.size
    clear hP9 hP3 hB9 hb10 hco9
    have hca := hPa.cap
    have hcb := hPb.cap
    have hba := hPa.big
    have hbb := hPb.big
    go_wp2_with fail
    go_loopw [18] (fun x wr => ∃ k : Nat, k ≤ l.length ∧ x = .int .i64 (k : Nat) ∧ Below w10.heap.size w10 wr) (fun x _ => l.length - (intOf x).toNat)
    case atStart => exact ⟨0, Nat.zero_le _, rfl, Below.refl _ _⟩
    case round =>
      obtain ⟨k, hk, rfl, hbr⟩ := hrel
      by_cases hlt : k < l.length
      · have hx : l[k]? = some l[k] := List.getElem?_eq_getElem hlt
        generalize l[k] = v at hx
        have hPa' := hPa.later hbr
        have hPb' := hPb.later hbr
        have a0 : wr.drew.cell? ⟨r1, k * 5, none⟩ = some (.int .i64 v.1) := hPa'.at' k v hx 0 _ rfl
        have a1 : wr.drew.cell? ⟨r1, k * 5 + 1, none⟩ = some (.int .i64 v.2.x) := hPa'.at' k v hx 1 _ rfl
        have a2 : wr.drew.cell? ⟨r1, k * 5 + 2, none⟩ = some (.int .i64 v.2.y) := hPa'.at' k v hx 2 _ rfl
        have a3 : wr.drew.cell? ⟨r1, k * 5 + 3, none⟩ = some (.int .i64 v.2.w) := hPa'.at' k v hx 3 _ rfl
        have a4 : wr.drew.cell? ⟨r1, k * 5 + 4, none⟩ = some (.int .i64 v.2.h) := hPa'.at' k v hx 4 _ rfl
        have b0 : wr.drew.cell? ⟨r3, k * 5, none⟩ = some (.int .i64 v.1) := hPb'.at' k v hx 0 _ rfl
        have b1 : wr.drew.cell? ⟨r3, k * 5 + 1, none⟩ = some (.int .i64 v.2.x) := hPb'.at' k v hx 1 _ rfl
        have b2 : wr.drew.cell? ⟨r3, k * 5 + 2, none⟩ = some (.int .i64 v.2.y) := hPb'.at' k v hx 2 _ rfl
        have b3 : wr.drew.cell? ⟨r3, k * 5 + 3, none⟩ = some (.int .i64 v.2.w) := hPb'.at' k v hx 3 _ rfl
        have b4 : wr.drew.cell? ⟨r3, k * 5 + 4, none⟩ = some (.int .i64 v.2.h) := hPb'.at' k v hx 4 _ rfl
        have hd1 : decide ((k : Int) < (l.length : Int)) = true := decide_eq_true (by omega)
        have hd2 : decide (k < l.length) = true := decide_eq_true hlt
        clear hPa hPb hPa' hPb' hx
        go_upto_region 22 with fail
        go_region
        all_goals
          go_wp2_with fail
          go_round
          case rel => exact ⟨k + 1, by omega, by go_num, hbr.drew⟩
          case measure => simp [intOf]; omega
      · have hd1 : decide ((k : Int) < (l.length : Int)) = false := decide_eq_false (by omega)
        have hd2 : decide (k < l.length) = false := decide_eq_false hlt
        clear hPa hPb
        go_wp2_with fail
        go_ret
        exact ⟨rfl, hb03.trans ((hBa.trans (hbr.mono hws10)).mono hwB0)⟩
end Go.Proofs.YtmdgjmmkegkonaaDoor
