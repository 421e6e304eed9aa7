/- Close: walked. -/
import Derived.Test.YtmdgjmmkegkonaaDoorSplW
import Derived.LaidEqlPtr
namespace Go.Proofs.YtmdgjmmkegkonaaDoor
open Go.RowKit
def Tr.cs : Tr → Array Value
  | .pane _ i => paneC i
  | .split _ a p q l r => splitC a p q l.g r.g
theorem tr_blk {w : World} : ∀ t : Tr, TrAt w t → Blk w t.g 59 t.cs
  | .pane _ _, h => h
  | .split _ _ _ _ _ _, h => h.1
theorem cs_six : ∀ t : Tr, ∃ v0 v1 v2 v3 v4 v5, t.cs = #[v0, v1, v2, v3, v4, v5] ∧ v0.oneCell' = true ∧ v1.oneCell' = true ∧ v2.oneCell' = true ∧ v3.oneCell' = true ∧ v4.oneCell' = true ∧ v5.oneCell' = true
  | .pane _ _ => ⟨_, _, _, _, _, _, rfl, rfl, rfl, rfl, rfl, rfl, rfl⟩
  | .split _ _ _ _ _ _ => ⟨_, _, _, _, _, _, rfl, rfl, rfl, rfl, rfl, rfl, rfl⟩
theorem to_at {w w' : World} {g : Nat} : ∀ t : Tr, TrAt w t → Blk w' g 59 t.cs → (∀ k ∈ t.bl, k ≠ g) → (∀ k, k < w.heap.size → k ≠ g → w'.heap[k]? = w.heap[k]?) → TrAt w' (t.to g)
  | .pane _ i, _, hb, _, _ => hb
  | .split k a p q l r, h, hb, hn, hk => ⟨hb, TrAt.keep l h.2.1 (fun j hj => hk j (TrAt.lt l h.2.1 j hj) (hn j (by simp [Tr.bl, hj]))), TrAt.keep r h.2.2 (fun j hj => hk j (TrAt.lt r h.2.2 j hj) (hn j (by simp [Tr.bl, hj])))⟩
theorem to_bl {g : Nat} : ∀ t : Tr, ∃ l, t.bl = t.g :: l ∧ (t.to g).bl = g :: l
  | .pane _ _ => ⟨[], rfl, rfl⟩
  | .split _ _ _ _ l r => ⟨l.bl ++ r.bl, rfl, rfl⟩
/-- Two trees beside one another: the one that stays. -/
def sib (left : Bool) (gu : Nat) (a : Bool) (p q : Int) (gp : Nat) (id : Int) (o : Tr) : Tr := if left then .split gu a p q (.pane gp id) o else .split gu a p q o (.pane gp id)
theorem sib_ids (left : Bool) (gu : Nat) (a : Bool) (p q : Int) (gp : Nat) (id : Int) (o : Tr) : (sib left gu a p q gp id o).ids = if left then id :: o.ids else o.ids ++ [id] := by
  cases left <;> simp [sib, Tr.ids]
theorem sib_bl (left : Bool) (gu : Nat) (a : Bool) (p q : Int) (gp : Nat) (id : Int) (o : Tr) : (sib left gu a p q gp id o).bl.Perm (gu :: gp :: o.bl) := by
  cases left
  · simp only [sib, Tr.bl, Bool.false_eq_true, if_false]
    exact List.Perm.cons _ (List.perm_append_comm)
  · simp [sib, Tr.bl]
/-- A layout behind a closing. -/
theorem Lay.close {w w' : World} {b : Nat} {cx : Cx} {left : Bool} {gu gp : Nat} {a : Bool} {p q id : Int} {o : Tr} {r : Rc} {nw : Int} (h : Lay w b (cx.plug (sib left gu a p q gp id o)) r nw)
    (hk : ∀ k, k < w.heap.size → k ≠ gu → w'.heap[k]? = w.heap[k]?) (hg : Blk w' gu 59 o.cs) : Lay w' b (cx.plug (o.to gu)) r nw := by
  obtain ⟨hm, hnd, hidnd, hidle, hrc, hnums, hfits, hfew, hpos⟩ := h
  have hsg : (sib left gu a p q gp id o).g = gu := by cases left <;> rfl
  have hsub := plug_sub cx hm.tree
  have ho : TrAt w o := by
    cases left
    · exact hsub.2.1
    · exact hsub.2.2
  have hnd2 := plug_nodup.1 hnd
  have hn3 := (sib_bl left gu a p q gp id o).nodup_iff.1 hnd2.2.1
  rw [List.nodup_cons, List.nodup_cons] at hn3
  have hgo : ∀ k ∈ o.bl, k ≠ gu := fun k hk e => hn3.1 (e ▸ List.mem_cons_of_mem _ hk)
  have hgc : ∀ k ∈ cx.bl, k ≠ gu := fun k hk e => hnd2.2.2 k hk ((sib_bl left gu a p q gp id o).mem_iff.2 (by simp [e]))
  have hgb : b ≠ gu := by
    have h1 := tr_blk _ hsub
    rw [hsg] at h1
    exact Blk.type hm.blk h1 (by decide)
  have hnum := (plug_nums _ cx).1 hnums
  rw [plug_fits, Bool.and_eq_true] at hfits
  have hno : Nums o ∧ 1 ≤ p ∧ p < q := by
    cases left
    · exact ⟨hnum.2.2.2.2.1, hnum.2.1, hnum.2.2.1⟩
    · exact ⟨hnum.2.2.2.2.2, hnum.2.1, hnum.2.2.1⟩
  rw [plug_ids, sib_ids] at hidnd hidle hfew
  have hs' : (o.to gu).g = (sib left gu a p q gp id o).g := by rw [to_g, hsg]
  refine ⟨⟨?_, plug_at (s := sib left gu a p q gp id o) hs' (to_at o ho hg hgo hk) cx hm.tree (fun k h1 => hk k (hm.tree.lt _ k (plug_mem.2 (.inl h1))) (hgc k h1))⟩, ?_, ?_, ?_, hrc, ?_, ?_, ?_, hpos⟩
  · rw [plug_g hs' cx]
    exact (hk b hm.blk.lt hgb).trans hm.blk
  · rw [plug_nodup]
    obtain ⟨l, hl1, hl2⟩ := to_bl (g := gu) o
    rw [hl2]
    have h4 := hn3.2.2
    rw [hl1, List.nodup_cons] at h4
    refine ⟨hnd2.1, List.nodup_cons.2 ⟨fun hm => hgo gu (by rw [hl1]; simp [hm]) rfl, h4.2⟩, fun k h5 h6 => ?_⟩
    rcases List.mem_cons.1 h6 with h6 | h6
    · exact hgc k h5 h6
    · exact hnd2.2.2 k h5 ((sib_bl left gu a p q gp id o).mem_iff.2 (by rw [hl1]; simp [h6]))
  · rw [plug_ids, to_ids]
    refine List.Nodup.sublist ?_ hidnd
    refine List.Sublist.append (List.Sublist.refl _) (List.Sublist.append ?_ (List.Sublist.refl _))
    cases left
    · simp
    · simp
  · rw [plug_ids, to_ids]
    intro i hi
    refine hidle i ?_
    cases left <;> simp at hi ⊢ <;> grind
  · rw [plug_nums, to_nums]
    exact ⟨hnum.1, hno.1⟩
  · rw [plug_fits, hfits.1, to_fits]
    have hf := hfits.2
    have hn : ¬ lenR (cx.rect r) a < 3 := fun hn => by
      cases left <;> simp [sib, fitsP, hn] at hf
    have hsb := shr_bd (n := lenR (cx.rect r) a) (p := p) (q := q) (by omega)
    cases left
    · simp [sib, fitsP, hn] at hf
      rw [fits_mono o _ _ hno.1 ?_ ?_ hf]
      · rfl
      · cases a <;> simp [cut1, lenR] at hsb ⊢ <;> omega
      · cases a <;> simp [cut1, lenR] at hsb ⊢ <;> omega
    · simp [sib, fitsP, hn] at hf
      rw [fits_mono o _ _ hno.1 ?_ ?_ hf]
      · rfl
      · cases a <;> simp [cut2, lenR] at hsb ⊢ <;> omega
      · cases a <;> simp [cut2, lenR] at hsb ⊢ <;> omega
  · rw [plug_ids, to_ids]
    cases left <;> simp at hfew ⊢ <;> omega
/-- The way to a pane beside another tree. -/
theorem way_sib {left : Bool} {gu gp : Nat} {a : Bool} {p q id : Int} {o : Tr} (ho : id ∉ o.ids) (rc : Rc) : ∃ rp, wayP (sib left gu a p q gp id o) rc id = [(gu, rc), (gp, rp)] := by
  cases left
  · refine ⟨cut2 a (shr (lenR rc a) p q) rc, ?_⟩
    have h1 := (way_nil id o (cut1 a (shr (lenR rc a) p q) rc)).2 ho
    simp only [sib, Bool.false_eq_true, if_false]
    rw [wayP_split]
    unfold orL
    rw [h1]
    simp [wayP]
  · refine ⟨cut1 a (shr (lenR rc a) p q) rc, ?_⟩
    simp only [sib, if_true]
    rw [wayP_split]
    unfold orL
    simp [wayP]
/-- A pane that is not alone stands beside another tree. -/
theorem find_sib {t : Tr} {id : Int} (hid : id ∈ t.ids) (hnd : t.ids.Nodup) : (∃ g, t = .pane g id) ∨ ∃ (cx : Cx) (left : Bool) (gu : Nat) (a : Bool) (p q : Int) (gp : Nat) (o : Tr), t = cx.plug (sib left gu a p q gp id o) ∧ id ∉ cx.lids ∧ id ∉ o.ids := by
  obtain ⟨c0, gp, rfl⟩ := ids_split id t hid
  by_cases h0 : c0 = .here
  · subst h0
    exact .inl ⟨gp, rfl⟩
  · obtain ⟨cx, gu, a, p, q, o, h | h⟩ := last_step c0 h0
    · refine .inr ⟨cx, true, gu, a, p, q, gp, o, ?_, ?_⟩
      · rw [h]; simp [sib]
      · rw [h, plug_ids] at hnd
        simp only [Tr.ids] at hnd
        have h1 := List.nodup_append.1 hnd
        have h2 := List.nodup_append.1 h1.2.1
        have h3 := List.nodup_append.1 h2.1
        exact ⟨fun hm => h1.2.2 id hm id (by simp) rfl, fun hm => h3.2.2 id (by simp) id hm rfl⟩
    · refine .inr ⟨cx, false, gu, a, p, q, gp, o, ?_, ?_⟩
      · rw [h]; simp [sib]
      · rw [h, plug_ids] at hnd
        simp only [Tr.ids] at hnd
        have h1 := List.nodup_append.1 hnd
        have h2 := List.nodup_append.1 h1.2.1
        have h3 := List.nodup_append.1 h2.1
        exact ⟨fun hm => h1.2.2 id hm id (by simp) rfl, fun hm => h3.2.2 id hm id (by simp) rfl⟩
/-- What Close says and does. -/
def CloseOk (w w' : World) (b : Nat) (t : Tr) (r : Rc) (nw id : Int) (e : Ending) : Prop :=
  (∃ c : Int, c ≠ 0 ∧ (c = 12 ↔ id ∉ t.ids) ∧ (t.ids.length ≠ 1 → c = 12) ∧ e = .returned (.iface 37 (.int .i64 c)) ∧ Below w.heap.size w w') ∨
  (∃ (cx : Cx) (left : Bool) (gu : Nat) (a : Bool) (p q : Int) (gp : Nat) (o : Tr), t = cx.plug (sib left gu a p q gp id o) ∧ id ∉ cx.lids ∧ id ∉ o.ids ∧ e = .returned .nilIface ∧ Lay w' b (cx.plug (o.to gu)) r nw ∧ But [gu] w w')
set_option maxRecDepth 100000 in
set_option maxHeartbeats 1500000 in
theorem close_any (b : Nat) (t : Tr) (r : Rc) (nw id : Int) (w : World) (h : Lay w b t r nw) :
    Calls Tryd.prog 13 #[.pointer (some ⟨b, 0, none⟩), .int .i64 id] w fun e w' => CloseOk w w' b t r nw id e := by
  have hnone := none_any b t r nw w h.mem
  have hway := way_any id t r w.drew (TrAt.keep _ h.mem.tree (fun _ _ => rfl)) h.rc h.nums h.fits h.bl
  have c0 : w.drew.cell? ⟨b, 0, none⟩ = some (.pointer (some ⟨t.g, 0, none⟩)) := h.mem.blk.cell 0
  have c1 : w.drew.cell? ⟨b, 1, none⟩ = some (.int .i64 r.x) := h.mem.blk.cell 1
  have c2 : w.drew.cell? ⟨b, 2, none⟩ = some (.int .i64 r.y) := h.mem.blk.cell 2
  have c3 : w.drew.cell? ⟨b, 3, none⟩ = some (.int .i64 r.w) := h.mem.blk.cell 3
  have c4 : w.drew.cell? ⟨b, 4, none⟩ = some (.int .i64 r.h) := h.mem.blk.cell 4
  have hwl := wayP_len t r id
  have hbl := h.bl
  go_enter Tryd.func13, Tryd.ntmps13
  go_upto_region 3 with (go_at_call 21; refine hnone.mono ?_; rintro e w2 ⟨rfl, rfl⟩)
  clear hnone
  go_cut [5] from 11 to 21 (fun s5 wx => ∃ A n c, s5 = .slice A n c ∧ Spots wx A n c (wayP t r id) ∧ Below w.heap.size w wx)
  case first =>
    go_region_with (first
      | (go_simp; go_at_call 29; refine hway.mono ?_; rintro e w4 ⟨⟨A, n, c, rfl, hSp⟩, hb4⟩))
    all_goals
      go_wp2_with fail
      go_meet
      exact ⟨_, _, _, rfl, hSp, (Below.refl _ _).drew.trans hb4⟩
  case rest =>
  clear hway c0 c1 c2 c3 c4
  obtain ⟨A, n, c, rfl, hSp, hb1⟩ := hcut
  by_cases hid : id ∈ t.ids
  · rcases find_sib hid h.idnd with ⟨g, rfl⟩ | ⟨cx, left, gu, a, p, q, gp, o, rfl, hl1, hl2⟩
    · have hn : n = 1 := by
        rw [hSp.len, show wayP (.pane g id) r id = [(g, r)] from by unfold wayP; rw [if_pos rfl]]
        rfl
      subst hn
      go_wp2_with (go_at_call 22; refine (faultNew_any 13 _ (by decide)).mono ?_; rintro e w5 ⟨rfl, rfl⟩)
      go_ret
      exact .inl ⟨13, by decide, by simp [hid], by simp [Tr.ids], rfl, hb1⟩
    · obtain ⟨rp, hws⟩ := way_sib (left := left) (gu := gu) (gp := gp) (a := a) (p := p) (q := q) hl2 (cx.rect r)
      have hmem : id ∈ (sib left gu a p q gp id o).ids := by rw [sib_ids]; cases left <;> simp
      rw [way_plug id _ hmem cx r hl1, hws] at hSp hwl
      have hn : n = (cx.spine r).length + 2 := by rw [hSp.len]; simp
      have hsp1 : (cx.spine r).length ≤ 1000 := by simp at hwl; omega
      generalize hsl : (cx.spine r).length = m at hn hsp1
      obtain ⟨ad, rfl, hat⟩ := hSp.at (k := m) (x := (gu, cx.rect r)) (by rw [← hsl]; simp)
      obtain ⟨ad', e', hat'⟩ := hSp.at (k := m + 1) (x := (gp, rp)) (by rw [← hsl]; simp)
      obtain rfl : ad = ad' := Option.some.inj e'
      subst hn
      have hcap := hSp.cap
      have hbig := hSp.big
      have q0 : wc.cell? (ad.add (m * 5)) = some (.pointer (some ⟨gu, 0, none⟩)) := hat 0 _ rfl
      have q1 : wc.cell? (ad.add ((m + 1) * 5)) = some (.pointer (some ⟨gp, 0, none⟩)) := hat' 0 _ rfl
      clear hSp hsl hat hat' hws hwl e'
      have hL := h.later hb1
      have hsub := plug_sub cx hL.mem.tree
      have ho : TrAt wc o := by
        cases left
        · exact hsub.2.1
        · exact hsub.2.2
      obtain ⟨v0, v1, v2, v3, v4, v5, hcs, w0, w1, w2, w3, w4, w5⟩ := cs_six o
      have hob := tr_blk o ho
      rw [hcs] at hob
      have hog : (o.g == gp) = false ∧ (gp == gp) = true ∧ ¬ o.g = gp := by
        have hnd := (sib_bl left gu a p q gp id o).nodup_iff.1 (plug_nodup.1 h.nd).2.1
        rw [List.nodup_cons, List.nodup_cons] at hnd
        have h1 : o.g ≠ gp := fun e => hnd.2.1 (e ▸ Tr.g_mem o)
        exact ⟨by simpa using h1, by simp, h1⟩
      obtain ⟨hog1, hog2, hog3⟩ := hog
      have hgb : ∃ c0 c1 c2 c3, Blk wc gu 59 #[c0, c1, c2, c3, ptr (if left then gp else o.g), ptr (if left then o.g else gp)] := by
        cases left
        · exact ⟨_, _, _, _, hsub.1⟩
        · exact ⟨_, _, _, _, hsub.1⟩
      obtain ⟨x0, x1, x2, x3, hgb⟩ := hgb
      have o0 := hob.cell 0
      have o1 := hob.cell 1
      have o2 := hob.cell 2
      have o3 := hob.cell 3
      have o4 := hob.cell 4
      have o5 := hob.cell 5
      have e0 := hgb.cell 0
      have e1 := hgb.cell 1
      have e2 := hgb.cell 2
      have e3 := hgb.cell 3
      have e4 := hgb.cell 4
      have e5 := hgb.cell 5
      have f0 := hgb.free 0
      have f1 := hgb.free 1
      have f2 := hgb.free 2
      have f3 := hgb.free 3
      have f4 := hgb.free 4
      have f5 := hgb.free 5
      have hd1 : (((m + 2 : Nat) : Int) == 0) = false := by simp; omega
      have hd2 : (((m + 2 : Nat) : Int) == 1) = false := by simp; omega
      have hd3 : (m : Int) + 2 - 2 = m := by omega
      have hd4 : (m : Int) + 2 - 1 = (m + 1 : Nat) := by omega
      obtain ⟨j0, hj0, hj1⟩ : ∃ j, Tryd.prog.info? 59 = some j ∧ j.size ≠ 0 := ⟨_, rfl, by decide⟩
      have hpb := tr_blk _ (show TrAt wc (.pane gp id) by
        cases left
        · exact hsub.2.2
        · exact hsub.2.1)
      have qe1 := run_eql_ptr_same (P := Tryd.prog) (w := wc) ⟨gp, 0, none⟩ Tryd.underlying57 hj0
      have qe2 := run_eql_ptr_other (P := Tryd.prog) (w := wc) (a := ⟨o.g, 0, none⟩) (b := ⟨gp, 0, none⟩) Tryd.underlying57 hj0 hj1 (by simpa only [ne_eq, Addr.mk.injEq, and_true] using hog3) hob hpb
      have s0 := fun (w : World) (a : Addr) (m : Mode) => show (store a v0 m).run Tryd.prog w = stored Tryd.prog w a v0 m from run_store Tryd.prog w a v0 m w0
      have s1 := fun (w : World) (a : Addr) (m : Mode) => show (store a v1 m).run Tryd.prog w = stored Tryd.prog w a v1 m from run_store Tryd.prog w a v1 m w1
      have s2 := fun (w : World) (a : Addr) (m : Mode) => show (store a v2 m).run Tryd.prog w = stored Tryd.prog w a v2 m from run_store Tryd.prog w a v2 m w2
      have s3 := fun (w : World) (a : Addr) (m : Mode) => show (store a v3 m).run Tryd.prog w = stored Tryd.prog w a v3 m from run_store Tryd.prog w a v3 m w3
      have s4 := fun (w : World) (a : Addr) (m : Mode) => show (store a v4 m).run Tryd.prog w = stored Tryd.prog w a v4 m from run_store Tryd.prog w a v4 m w4
      have s5 := fun (w : World) (a : Addr) (m : Mode) => show (store a v5 m).run Tryd.prog w = stored Tryd.prog w a v5 m from run_store Tryd.prog w a v5 m w5
      clear w0 w1 w2 w3 w4 w5
      have HH := Lib.hid h
      have HL := Lib.hid hL
      have Hgb := Lib.hid hgb
      have Hcs := Lib.hid hcs
      clear h hL hsub ho hob hgb hcs hmem
      have hset : ∀ k, k ≠ gu → ((((((wc.setCell ⟨gu, 0, none⟩ v0).setCell ⟨gu, 1, none⟩ v1).setCell ⟨gu, 2, none⟩ v2).setCell ⟨gu, 3, none⟩ v3).setCell ⟨gu, 4, none⟩ v4).setCell ⟨gu, 5, none⟩ v5).heap[k]? = wc.heap[k]? := fun k hk => by
        iterate 6 refine (Below.heap_setCell _ ⟨gu, _, none⟩ _ k hk).trans ?_
        rfl
      cases left
      · have e4' : wc.cell? ⟨gu, 4, none⟩ = some (.pointer (some ⟨o.g, 0, none⟩)) := e4
        have e5' : wc.cell? ⟨gu, 5, none⟩ = some (.pointer (some ⟨gp, 0, none⟩)) := e5
        clear e4 e5
        go_wp2_with fail
        go_ret
        refine .inr ⟨cx, false, gu, a, p, q, gp, o, rfl, hl1, hl2, rfl, ?_, ?_⟩
        · refine Lay.close HH.out (fun k hk hne => ?_) ?_
          · exact (hset k hne).trans (hb1.block k hk)
          · rw [Hcs.out]
            exact set6 Hgb.out
        · exact ((((((But.of_below hb1).set (p := ⟨gu, 0, none⟩) (.inl (by simp)) _).set (p := ⟨gu, 1, none⟩) (.inl (by simp)) _).set (p := ⟨gu, 2, none⟩) (.inl (by simp)) _).set (p := ⟨gu, 3, none⟩) (.inl (by simp)) _).set (p := ⟨gu, 4, none⟩) (.inl (by simp)) _).set (p := ⟨gu, 5, none⟩) (.inl (by simp)) _
      · have e4' : wc.cell? ⟨gu, 4, none⟩ = some (.pointer (some ⟨gp, 0, none⟩)) := e4
        have e5' : wc.cell? ⟨gu, 5, none⟩ = some (.pointer (some ⟨o.g, 0, none⟩)) := e5
        clear e4 e5
        go_wp2_with fail
        go_ret
        refine .inr ⟨cx, true, gu, a, p, q, gp, o, rfl, hl1, hl2, rfl, ?_, ?_⟩
        · refine Lay.close HH.out (fun k hk hne => ?_) ?_
          · exact (hset k hne).trans (hb1.block k hk)
          · rw [Hcs.out]
            exact set6 Hgb.out
        · exact ((((((But.of_below hb1).set (p := ⟨gu, 0, none⟩) (.inl (by simp)) _).set (p := ⟨gu, 1, none⟩) (.inl (by simp)) _).set (p := ⟨gu, 2, none⟩) (.inl (by simp)) _).set (p := ⟨gu, 3, none⟩) (.inl (by simp)) _).set (p := ⟨gu, 4, none⟩) (.inl (by simp)) _).set (p := ⟨gu, 5, none⟩) (.inl (by simp)) _
  · rw [(way_nil id t r).2 hid] at hSp
    obtain rfl := hSp.nl.2 rfl
    obtain ⟨rfl, rfl⟩ := hSp.zero rfl
    go_wp2_with (go_at_call 22; refine (faultNew_any 12 _ (by decide)).mono ?_; rintro e w5 ⟨rfl, rfl⟩)
    go_ret
    exact .inl ⟨12, by decide, by simp [hid], fun _ => rfl, rfl, hb1⟩
end Go.Proofs.YtmdgjmmkegkonaaDoor
