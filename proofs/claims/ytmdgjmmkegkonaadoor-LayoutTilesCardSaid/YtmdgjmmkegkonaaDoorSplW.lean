/- Split: walked. -/
import Derived.Test.YtmdgjmmkegkonaaDoorWithW
namespace Go.Proofs.YtmdgjmmkegkonaaDoor
open Go.RowKit
/-- A layout that may be. -/
structure Lay (w : World) (b : Nat) (t : Tr) (r : Rc) (nw : Int) : Prop where
  mem : LAt w b t r nw
  nd : t.bl.Nodup
  idnd : t.ids.Nodup
  idle : ∀ i ∈ t.ids, i ≤ nw
  rc : RcOk r
  nums : Nums t
  fits : fitsP t r = true
  few : t.ids.length ≤ 16
  pos : 1 ≤ nw
theorem Lay.later {w w' : World} {b : Nat} {t : Tr} {r : Rc} {nw : Int} (h : Lay w b t r nw) (hb : Below w.heap.size w w') : Lay w' b t r nw := ⟨h.mem.later hb, h.nd, h.idnd, h.idle, h.rc, h.nums, h.fits, h.few, h.pos⟩
theorem Lay.bl {w : World} {b : Nat} {t : Tr} {r : Rc} {nw : Int} (h : Lay w b t r nw) : t.bl.length ≤ 1000 := by have := bl_len t; have := h.few; omega
theorem Lay.nl {w : World} {b : Nat} {t : Tr} {r : Rc} {nw : Int} (h : Lay w b t r nw) : (nds t r).length ≤ 1000 := by have := nds_len t r; have := h.few; omega
/-- A pane in the layout, with what lies around it. -/
theorem Lay.plug {w : World} {b : Nat} {t : Tr} {r : Rc} {nw : Int} (h : Lay w b t r nw) {id : Int} (hid : id ∈ t.ids) : ∃ (cx : Cx) (g : Nat), t = cx.plug (.pane g id) ∧ id ∉ cx.lids ∧ id ∉ cx.rids := by
  obtain ⟨cx, g, rfl⟩ := ids_split id t hid
  have h1 := h.idnd
  rw [plug_ids] at h1
  refine ⟨cx, g, rfl, fun h2 => ?_, fun h2 => ?_⟩
  · rw [List.nodup_append] at h1
    exact h1.2.2 id h2 id (by simp [Tr.ids]) rfl
  · have h3 := (List.nodup_append.1 h1).2.1
    rw [List.nodup_append] at h3
    exact h3.2.2 id (by simp [Tr.ids]) id h2 rfl
abbrev splitT (cx : Cx) (g : Nat) (a : Bool) (n : Int) (g1 g2 : Nat) (id made : Int) : Tr := cx.plug (.split g a (n / 2) (n - 1) (.pane g1 id) (.pane g2 made))
theorem nodup_insert {l r : List Int} {i j : Int} (h : (l ++ ([i] ++ r)).Nodup) (hj : j ∉ l ++ ([i] ++ r)) : (l ++ ([i, j] ++ r)).Nodup := by
  have hp : (l ++ ([i, j] ++ r)).Perm (j :: (l ++ ([i] ++ r))) := by
    have h1 : (l ++ ([i, j] ++ r)) = (l ++ [i]) ++ j :: r := by simp
    have h2 : (l ++ ([i] ++ r)) = (l ++ [i]) ++ r := by simp
    rw [h1, h2]
    exact List.perm_middle
  rw [hp.nodup_iff, List.nodup_cons]
  exact ⟨hj, h⟩
/-- A layout behind a split. -/
theorem Lay.split {w w' : World} {b : Nat} {cx : Cx} {g : Nat} {id : Int} {r : Rc} {nw : Int} (h : Lay w b (cx.plug (.pane g id)) r nw) {a : Bool} {g1 g2 : Nat} (hn : 3 ≤ lenR (cx.rect r) a) (hnw : nw ≤ 900) (h16 : (cx.plug (.pane g id)).ids.length < 16)
    (hb : Blk w' b 61 (layC (splitT cx g a (lenR (cx.rect r) a) g1 g2 id (nw + 1)).g r (nw + 1))) (hk : ∀ k ∈ cx.bl, w'.heap[k]? = w.heap[k]?) (ht : TrAt w' (.split g a (lenR (cx.rect r) a / 2) (lenR (cx.rect r) a - 1) (.pane g1 id) (.pane g2 (nw + 1)))) (h1 : ∀ k ∈ (cx.plug (.pane g id)).bl, k < g1) (h2 : g1 < g2) :
    Lay w' b (splitT cx g a (lenR (cx.rect r) a) g1 g2 id (nw + 1)) r (nw + 1) := by
  obtain ⟨hm, hnd, hidnd, hidle, hrc, hnums, hfits, hfew, hpos⟩ := h
  have hnum := (plug_nums _ cx).1 hnums
  rw [plug_fits, Bool.and_eq_true] at hfits
  have hrco := rect_ok cx r hrc hfits.1
  have hlb := lenR_bd hrco a
  rw [plug_ids] at hidnd hidle h16 hfew
  refine ⟨⟨hb, plug_at (s := .pane g id) (s' := .split g a (lenR (cx.rect r) a / 2) (lenR (cx.rect r) a - 1) (.pane g1 id) (.pane g2 (nw + 1))) rfl ht cx hm.tree hk⟩, ?_, ?_, ?_, hrc, ?_, ?_, ?_, by omega⟩
  · rw [plug_nodup] at hnd ⊢
    obtain ⟨n1, n2, n3⟩ := hnd
    have hlt1 : ∀ k ∈ cx.bl, k < g1 := fun k hk => h1 k (plug_mem.2 (.inl hk))
    have hltg : g < g1 := h1 g (plug_mem.2 (.inr (by simp [Tr.bl])))
    refine ⟨n1, by simp [Tr.bl]; omega, fun k hk hm => ?_⟩
    have h3 := hlt1 k hk
    simp [Tr.bl] at hm
    rcases hm with rfl | rfl | rfl
    · exact n3 k hk (by simp [Tr.bl])
    · omega
    · omega
  · rw [plug_ids]
    exact nodup_insert hidnd (fun hj => by have := hidle _ hj; omega)
  · rw [plug_ids]
    intro i hi
    simp [Tr.ids] at hi hidle
    rcases hi with hi | rfl | rfl | hi
    · have := hidle i (.inl hi); omega
    · have := hidle i (.inr (.inl rfl)); omega
    · omega
    · have := hidle i (.inr (.inr hi)); omega
  · rw [plug_nums]
    refine ⟨hnum.1, ?_⟩
    simp only [Nums]
    have h3 := hnum.2
    simp only [Nums] at h3
    refine ⟨by omega, by omega, by omega, h3, by omega, by omega⟩
  · rw [plug_fits, hfits.1]
    have hnn : ¬ lenR (cx.rect r) a < 3 := by omega
    simp [fitsP, hnn]
  · rw [plug_ids]
    simp [Tr.ids] at h16 ⊢
    omega
/-- What Split says and does. -/
def SplitOk (w w' : World) (b : Nat) (t : Tr) (r : Rc) (nw id : Int) (a : Bool) (e : Ending) : Prop :=
  (∃ c : Int, c ≠ 0 ∧ (c = 12 ↔ id ∉ t.ids) ∧ (id ∈ t.ids → ∃ (cx : Cx) (g : Nat), t = cx.plug (.pane g id) ∧ (16 ≤ t.ids.length ∨ lenR (cx.rect r) a < 3)) ∧ e = .returned (.tuple #[.int .i64 0, .iface 37 (.int .i64 c)]) ∧ Below w.heap.size w w') ∨
  (∃ (cx : Cx) (g g1 g2 : Nat), t = cx.plug (.pane g id) ∧ id ∉ cx.lids ∧ e = .returned (.tuple #[.int .i64 (nw + 1), .nilIface]) ∧ Lay w' b (splitT cx g a (lenR (cx.rect r) a) g1 g2 id (nw + 1)) r (nw + 1) ∧ But [b, g] w w' ∧ w.heap.size ≤ g1 ∧ g1 < g2)
set_option maxRecDepth 100000 in
set_option maxHeartbeats 8000000 in
theorem split_any (b : Nat) (t : Tr) (r : Rc) (nw id : Int) (a : Bool) (w : World) (h : Lay w b t r nw) (hnw : nw ≤ 900) :
    Calls Tryd.prog 10 #[.pointer (some ⟨b, 0, none⟩), .int .i64 id, .bool a] w fun e w' => SplitOk w w' b t r nw id a e := by
  have hb1 := ((((Below.refl w.heap.size w)).alloc (Nat.le_refl _) (.cells #[.pointer (some ⟨b, 0, none⟩)] 29)).alloc (by simp) (.cells #[.int .i64 id] 3)).alloc (by simp; omega) (.cells #[.bool a] 4)
  have h1 := h.later hb1
  have c0 := ((Blk.new w 29 #[.pointer (some ⟨b, 0, none⟩)]).alloc (.cells #[.int .i64 id] 3)).alloc (.cells #[.bool a] 4)
  have c1 := (Blk.new (w.alloc (.cells #[.pointer (some ⟨b, 0, none⟩)] 29)) 3 #[.int .i64 id]).alloc (.cells #[.bool a] 4)
  have c2 := Blk.new ((w.alloc (.cells #[.pointer (some ⟨b, 0, none⟩)] 29)).alloc (.cells #[.int .i64 id] 3)) 4 #[.bool a]
  have hs1 : (((w.alloc (.cells #[.pointer (some ⟨b, 0, none⟩)] 29)).alloc (.cells #[.int .i64 id] 3)).alloc (.cells #[.bool a] 4)).heap.size = w.heap.size + 3 := by simp
  simp only [World.size_alloc] at c1 c2
  go_enter Tryd.func10, Tryd.ntmps10
  go_upto_region 1 with fail
  generalize ((w.alloc (.cells #[.pointer (some ⟨b, 0, none⟩)] 29)).alloc (.cells #[.int .i64 id] 3)).alloc (.cells #[.bool a] 4) = w1 at hb1 h1 c0 c1 c2 hs1 ⊢
  have k0 := c0.cell 0
  have hnone := none_any b t r nw w1 h1.mem
  have hpanes := panes_any b t r nw w1 h1.mem h.rc h.nums h.fits h.nl
  go_upto_region 3 with (go_at_call 21; refine hnone.mono ?_; rintro e w2 ⟨rfl, rfl⟩)
  go_upto_region 4 with (go_at_call 11; refine hpanes.mono ?_; rintro e w2 ⟨⟨v, rfl, hO⟩, hb2⟩; obtain ⟨A, c, rfl⟩ := own_slice hO)
  go_upto_region 5 with fail
  have hb3 := (hb2.alloc hb2.size (.cells #[.slice A (panesP t r).length c] 35)).alloc (Nat.le_trans hb2.size (by simp)) (.cells #[.int .i64 0] 3)
  have cP := (Blk.new w2 35 #[.slice A (panesP t r).length c]).alloc (.cells #[.int .i64 0] 3)
  have cM := Blk.new (w2.alloc (.cells #[.slice A (panesP t r).length c] 35)) 3 #[.int .i64 0]
  rw [World.size_alloc] at cM
  have hs2 := hb2.size
  have hpl := panes_len t r
  generalize (w2.alloc (.cells #[.slice A (panesP t r).length c] 35)).alloc (.cells #[.int .i64 0] 3) = w3 at hb3 cP cM ⊢
  generalize (panesP t r).length = np at *
  obtain ⟨bP, hbP⟩ : ∃ bP, bP = w2.heap.size := ⟨_, rfl⟩
  rw [← hbP] at cP cM hs2 ⊢
  have hbPle : w.heap.size + 3 ≤ bP := by omega
  clear hnone hpanes hO hbP hb2 k0
  have hL3 := h1.later hb3
  have d0 := c0.below hb3 c0.lt
  have d1 := c1.below hb3 c1.lt
  have d2 := c2.below hb3 c2.lt
  have hb13 := hb1.trans (hb3.mono hb1.size)
  clear hb1 hb3 c0 c1 c2 h1 hs2 hs1
  obtain ⟨b0, hb0⟩ : ∃ b0, b0 = w.heap.size := ⟨_, rfl⟩
  have hbb0 : b < b0 := by rw [hb0]; exact h.mem.blk.lt
  have htl0 : ∀ k ∈ t.bl, k < b0 := fun k hk => by rw [hb0]; exact h.mem.tree.lt t k hk
  rw [← hb0] at d0 d1 d2 hbPle ⊢
  have HB0 := Lib.hid hb0
  clear hb0
  have k0 := d0.cell 0
  have k1 := d1.cell 0
  by_cases hid : id ∈ t.ids
  · obtain ⟨cx, g, rfl, hl1, hl2⟩ := h.plug hid
    have hgb : g ∈ (cx.plug (.pane g id)).bl := plug_mem.2 (.inr (by simp [Tr.bl]))
    have hg0 := htl0 g hgb
    have hnp : np ≤ 16 := by rw [hpl]; exact h.few
    have hw := with_hit (b0 + 1 + 1) bP b0 (bP + 1) (b0 + 1) b g cx r a A np c nw id w3 hL3.mem hl1 h.rc h.nums h.fits h.bl (d2.cell 0) (cP.cell 0) k0 cM k1 (by have := h.pos; omega) (by omega) (by omega) (by omega) (by omega) (by omega)
    have HH := Lib.hid h
    have HL3 := Lib.hid hL3
    clear h hL3 hl2
    have Hw := Lib.hid hw
    clear hw
    go_upto_region 6 with (go_at_call 23; refine Hw.out.mono ?_; rintro e w4 ⟨rfl, hw4⟩)
    rcases hw4 with ⟨hno, hb4⟩ | ⟨hn3, hn16, hbt4, cM4, g1, g2, hg1, hg12, ht4⟩
    · have hb14 := hb13.trans (hb4.mono hb13.size)
      have cP4 := (cP.below hb4 cP.lt).cell 0
      have cM4 := (cM.below hb4 cM.lt).cell 0
      by_cases h16 : 16 ≤ np
      · have hd : decide ((16 : Int) ≤ (np : Int)) = true := decide_eq_true (by omega)
        go_wp2_with (go_at_call 22; refine (faultNew_any 15 _ (by decide)).mono ?_; rintro e w5 ⟨rfl, rfl⟩)
        refine bodyPost_ret (v := .tuple #[.int .i64 0, .iface 37 (.int .i64 15)]) (by simp [results, Tryd.results10, go_sem]) rfl ?_
        exact .inl ⟨15, by decide, by simp [hid], fun _ => ⟨cx, g, rfl, by rw [← hpl]; exact .inl h16⟩, rfl, hb14⟩
      · have hd : decide ((16 : Int) ≤ (np : Int)) = false := decide_eq_false (by omega)
        go_wp2_with (go_at_call 22; refine (faultNew_any 19 _ (by decide)).mono ?_; rintro e w5 ⟨rfl, rfl⟩)
        refine bodyPost_ret (v := .tuple #[.int .i64 0, .iface 37 (.int .i64 19)]) (by simp [results, Tryd.results10, go_sem]) rfl ?_
        exact .inl ⟨19, by decide, by simp [hid], fun _ => ⟨cx, g, rfl, .inr (hno.resolve_right h16)⟩, rfl, hb14⟩
    · have hd : decide ((16 : Int) ≤ (np : Int)) = false := decide_eq_false (by omega)
      have hpos := HH.out.pos
      have hd2 : (nw + 1 == 0) = false := by simp; omega
      have k0' := (d0.but hbt4 (by simp; omega)).cell 0
      have cP4 := (cP.but hbt4 (by simp; omega)).cell 0
      have hbg : b ≠ g := Blk.type HL3.out.mem.blk (plug_sub cx HL3.out.mem.tree : Blk _ g _ _) (by decide)
      have hb4 := HL3.out.mem.blk.but hbt4 (by simp; omega)
      have kM := cM4.cell 0
      have hcn := hb4.cell 5
      have hfn := hb4.free 5
      clear hd2
      have hd2 : (nw + 1 == 0) = false := by simp; omega
      go_wp2_with fail
      refine bodyPost_ret (v := .tuple #[.int .i64 (nw + 1), .nilIface]) (by simp [results, Tryd.results10, go_sem]) rfl ?_
      have hws : b0 ≤ w3.heap.size := by rw [HB0.out]; exact hb13.size
      have hbt0 : But [b, g] w w4 := ⟨hbt4.os.trans hb13.os, hbt4.tape.trans hb13.tape, hbt4.output.trans hb13.output, Nat.le_trans hb13.size hbt4.size, fun k hk hn => by
        rw [← HB0.out] at hk
        exact (hbt4.block k (by omega) (by simp at hn ⊢; omega)).trans (hb13.block k (by rw [← HB0.out]; exact hk))⟩
      have htl : ∀ k ∈ cx.bl, k < b0 ∧ k ≠ g ∧ k ≠ b := fun k hk => by
        have hk' : k ∈ (cx.plug (.pane g id)).bl := plug_mem.2 (.inl hk)
        refine ⟨htl0 k hk', fun e => ?_, fun e => ?_⟩
        · have := (plug_nodup.1 HH.out.nd).2.2 k hk
          simp [Tr.bl] at this
          exact this e
        · obtain ⟨cs, hcs⟩ := TrAt.blk _ HH.out.mem.tree k hk'
          exact Blk.type HH.out.mem.blk hcs (by decide) e.symm
      have hset : ∀ k, k ≠ b → (w4.setCell ⟨b, 5, none⟩ (.int .i64 (nw + 1))).heap[k]? = w4.heap[k]? := fun k hk => Below.heap_setCell w4 ⟨b, 5, none⟩ _ k hk
      refine .inr ⟨cx, g, g1, g2, rfl, hl1, rfl, ?_, hbt0.set (p := ⟨b, 5, none⟩) (.inl (by simp)) _, by rw [← HB0.out]; omega, hg12⟩
      refine Lay.split HH.out hn3 hnw (by omega) ?_ (fun k hk => ?_) ?_ (fun k hk => by have := htl0 k hk; omega) hg12
      · have h5 := hb4.set 5 (.int .i64 (nw + 1))
        have hpg := plug_g (s := .pane g id) (s' := .split g a (lenR (cx.rect r) a / 2) (lenR (cx.rect r) a - 1) (.pane g1 id) (.pane g2 (nw + 1))) rfl cx
        unfold splitT
        rw [hpg]
        exact h5
      · obtain ⟨h6, h7, h8⟩ := htl k hk
        exact (hset k h8).trans (hbt0.block k (by rw [← HB0.out]; exact h6) (by simp [h7, h8]))
      · refine TrAt.keep _ ht4 (fun k hk => hset k ?_)
        simp [Tr.bl] at hk
        rcases hk with rfl | rfl | rfl
        · exact Ne.symm hbg
        · omega
        · omega
  · have hw := fun f => with_none b t r nw id f w3 hL3.mem hid h.rc h.nums h.fits h.bl
    go_wp2_with (first
      | (go_at_call 23; refine (hw _).mono ?_; rintro e w4 ⟨rfl, hb4⟩)
      | (go_at_call 22; refine (faultNew_any 12 _ (by decide)).mono ?_; rintro e w5 ⟨rfl, rfl⟩))
    refine bodyPost_ret (v := .tuple #[.int .i64 0, .iface 37 (.int .i64 12)]) (by simp [results, Tryd.results10, go_sem]) rfl ?_
    exact .inl ⟨12, by decide, by simp [hid], fun h => absurd h hid, rfl, hb13.trans (hb4.mono hb13.size)⟩
end Go.Proofs.YtmdgjmmkegkonaaDoor
