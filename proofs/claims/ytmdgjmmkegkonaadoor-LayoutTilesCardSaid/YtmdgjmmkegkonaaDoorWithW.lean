/- with, for what Split does: walked. -/
import Derived.Test.YtmdgjmmkegkonaaDoorSplitW
import Derived.Test.YtmdgjmmkegkonaaDoorFaultC
namespace Go.Proofs.YtmdgjmmkegkonaaDoor
open Go.RowKit
theorem flat_get {α : Type} (f : α → List Value) (m : Nat) (hf : ∀ x, (f x).length = m) : ∀ (l : List α) (k : Nat) (x : α), l[k]? = some x → ∀ j u, (f x)[j]? = some u → (l.flatMap f)[k * m + j]? = some u
  | [], k, x, h, _, _, _ => by simp at h
  | y :: l, 0, x, h, j, u, hu => by
    simp at h
    subst h
    rw [List.flatMap_cons, Nat.zero_mul, Nat.zero_add, List.getElem?_append_left]
    · exact hu
    · exact (List.getElem?_eq_some_iff.1 hu).1
  | y :: l, k + 1, x, h, j, u, hu => by
    have h' : l[k]? = some x := by simpa using h
    rw [List.flatMap_cons, List.getElem?_append_right (by rw [hf, Nat.add_mul]; omega), hf]
    have e : (k + 1) * m + j - m = k * m + j := by rw [Nat.add_mul]; omega
    rw [e]
    exact flat_get f m hf l k x h' j u hu
theorem Spots.at {w : World} {A : Option Addr} {n c : Nat} {l : List (Nat × Rc)} (h : Spots w A n c l) {k : Nat} {x : Nat × Rc} (hk : l[k]? = some x) : ∃ ad, A = some ad ∧ ∀ j u, (spotC x)[j]? = some u → w.cell? ((ad.add (k * 5)).add j) = some u := by
  have hl : 0 < (l.flatMap spotC).length := by
    rw [spots_len]
    have := (List.getElem?_eq_some_iff.1 hk).1
    omega
  obtain ⟨ad, rfl, hc⟩ := h.src hl
  refine ⟨ad, rfl, fun j u hu => ?_⟩
  have h1 := hc (k * 5 + j) u (flat_get spotC 5 (fun _ => rfl) l k x hk j u hu)
  rw [show (ad.add (k * 5)).add j = ad.add (k * 5 + j) from Addr.add_add _ _ _]
  exact h1
set_option maxRecDepth 100000 in
set_option maxHeartbeats 2000000 in
theorem with_none (b : Nat) (t : Tr) (r : Rc) (nw id : Int) (f : Value) (w : World) (h : LAt w b t r nw) (hid : id ∉ t.ids) (hr : RcOk r) (hN : Nums t) (hf : fitsP t r = true) (hbl : t.bl.length ≤ 1000) :
    Calls Tryd.prog 23 #[.pointer (some ⟨b, 0, none⟩), .int .i64 id, f] w fun e w' => e = .returned (.bool false) ∧ Below w.heap.size w w' := by
  have hway := way_any id t r w.drew (TrAt.keep t h.tree (fun _ _ => rfl)) hr hN hf hbl
  rw [(way_nil id t r).2 hid] at hway
  have c0 : w.drew.cell? ⟨b, 0, none⟩ = some (.pointer (some ⟨t.g, 0, none⟩)) := h.blk.cell 0
  have c1 : w.drew.cell? ⟨b, 1, none⟩ = some (.int .i64 r.x) := h.blk.cell 1
  have c2 : w.drew.cell? ⟨b, 2, none⟩ = some (.int .i64 r.y) := h.blk.cell 2
  have c3 : w.drew.cell? ⟨b, 3, none⟩ = some (.int .i64 r.w) := h.blk.cell 3
  have c4 : w.drew.cell? ⟨b, 4, none⟩ = some (.int .i64 r.h) := h.blk.cell 4
  go_enter Tryd.func23, Tryd.ntmps23
  go_upto_region 1 with fail
  go_region_with (first
    | (go_simp; go_at_call 29; refine hway.mono ?_; rintro e w4 ⟨⟨A, n, c, rfl, hSp⟩, hb4⟩))
  all_goals
    obtain rfl := hSp.nl.2 rfl
    obtain ⟨rfl, rfl⟩ := hSp.zero rfl
    have hb5 := (Below.refl w.heap.size w).drew.trans hb4
    go_wp2_with fail
    go_ret
    exact ⟨rfl, hb5⟩
set_option maxRecDepth 100000 in
set_option maxHeartbeats 4000000 in
theorem with_hit (bA bP bL bM bI b g : Nat) (cx : Cx) (r : Rc) (a : Bool) (A0 : Option Addr) (n0 cc0 : Nat) (nw id : Int) (w : World) (h : LAt w b (cx.plug (.pane g id)) r nw) (hid : id ∉ cx.lids) (hr : RcOk r) (hN : Nums (cx.plug (.pane g id))) (hf : fitsP (cx.plug (.pane g id)) r = true) (hbl : (cx.plug (.pane g id)).bl.length ≤ 1000)
    (hA : w.cell? ⟨bA, 0, none⟩ = some (.bool a)) (hP : w.cell? ⟨bP, 0, none⟩ = some (.slice A0 n0 cc0)) (hL : w.cell? ⟨bL, 0, none⟩ = some (.pointer (some ⟨b, 0, none⟩))) (hM : Blk w bM 3 #[.int .i64 0]) (hI : w.cell? ⟨bI, 0, none⟩ = some (.int .i64 id))
    (hnw : 0 ≤ nw ∧ nw ≤ 1000) (hA' : bA ≠ bM) (hI' : bI ≠ bM) (hAg : bA ≠ g) (hIg : bI ≠ g) (hng : n0 ≤ 1000) :
    Calls Tryd.prog 23 #[.pointer (some ⟨b, 0, none⟩), .int .i64 id, .func (.func 24) #[] #[.pointer (some ⟨bA, 0, none⟩), .pointer (some ⟨bP, 0, none⟩), .pointer (some ⟨bL, 0, none⟩), .pointer (some ⟨bM, 0, none⟩), .pointer (some ⟨bI, 0, none⟩)]] w fun e w' => e = .returned (.bool true) ∧
      (((lenR (cx.rect r) a < 3 ∨ 16 ≤ n0) ∧ Below w.heap.size w w') ∨
       (3 ≤ lenR (cx.rect r) a ∧ n0 < 16 ∧ But [g, bM] w w' ∧ Blk w' bM 3 #[.int .i64 (nw + 1)] ∧ ∃ g1 g2, w.heap.size ≤ g1 ∧ g1 < g2 ∧ TrAt w' (.split g a (lenR (cx.rect r) a / 2) (lenR (cx.rect r) a - 1) (.pane g1 id) (.pane g2 (nw + 1))))) := by
  have hway := way_any id (cx.plug (.pane g id)) r w.drew (TrAt.keep _ h.tree (fun _ _ => rfl)) hr hN hf hbl
  have hg0 : Blk w g 59 (paneC id) := plug_sub cx h.tree
  have hbg : b ≠ g := Blk.type h.blk hg0 (by decide)
  have hfx := hf
  rw [plug_fits, Bool.and_eq_true] at hfx
  have hrc := rect_ok cx r hr hfx.1
  rw [way_plug id (.pane g id) (by simp [Tr.ids]) cx r hid, show wayP (.pane g id) (cx.rect r) id = [(g, cx.rect r)] from by unfold wayP; rw [if_pos rfl]] at hway
  have c0 : w.drew.cell? ⟨b, 0, none⟩ = some (.pointer (some ⟨(cx.plug (.pane g id)).g, 0, none⟩)) := h.blk.cell 0
  have c1 : w.drew.cell? ⟨b, 1, none⟩ = some (.int .i64 r.x) := h.blk.cell 1
  have c2 : w.drew.cell? ⟨b, 2, none⟩ = some (.int .i64 r.y) := h.blk.cell 2
  have c3 : w.drew.cell? ⟨b, 3, none⟩ = some (.int .i64 r.w) := h.blk.cell 3
  have c4 : w.drew.cell? ⟨b, 4, none⟩ = some (.int .i64 r.h) := h.blk.cell 4
  have hsp1 : (cx.spine r).length ≤ 1000 := by
    have h1 := wayP_len (cx.plug (.pane g id)) r id
    rw [way_plug id (.pane g id) (by simp [Tr.ids]) cx r hid, List.length_append] at h1
    omega
  go_enter Tryd.func23, Tryd.ntmps23
  go_upto_region 1 with fail
  go_cut [7] from 8 to 19 (fun s7 wx => ∃ A n c, s7 = .slice A n c ∧ Spots wx A n c (cx.spine r ++ [(g, cx.rect r)]) ∧ Below w.heap.size w wx)
  case first =>
    go_region_with (first
      | (go_simp; go_at_call 29; refine hway.mono ?_; rintro e w4 ⟨⟨A, n, c, rfl, hSp⟩, hb4⟩))
    all_goals
      go_wp2_with fail
      go_meet
      exact ⟨_, _, _, rfl, hSp, (Below.refl _ _).drew.trans hb4⟩
  case rest =>
  clear hway c0 c1 c2 c3 c4
  obtain ⟨A, n, c, rfl, hSp, hb1⟩ := hcut
  have hn : n = (cx.spine r).length + 1 := by rw [hSp.len]; simp
  generalize hsl : (cx.spine r).length = m at hn hsp1
  obtain ⟨ad, rfl, hat⟩ := hSp.at (k := m) (x := (g, cx.rect r)) (by rw [← hsl]; simp)
  subst hn
  have hcap := hSp.cap
  have hbig := hSp.big
  clear hSp hsl
  have q0 : wc.cell? (ad.add (m * 5)) = some (.pointer (some ⟨g, 0, none⟩)) := hat 0 _ rfl
  have q1 : wc.cell? ⟨(ad.add (m * 5)).block, (ad.add (m * 5)).off + 1, none⟩ = some (.int .i64 (cx.rect r).x) := hat 1 _ rfl
  have q2 : wc.cell? ⟨(ad.add (m * 5)).block, (ad.add (m * 5)).off + 2, none⟩ = some (.int .i64 (cx.rect r).y) := hat 2 _ rfl
  have q3 : wc.cell? ⟨(ad.add (m * 5)).block, (ad.add (m * 5)).off + 3, none⟩ = some (.int .i64 (cx.rect r).w) := hat 3 _ rfl
  have q4 : wc.cell? ⟨(ad.add (m * 5)).block, (ad.add (m * 5)).off + 4, none⟩ = some (.int .i64 (cx.rect r).h) := hat 4 _ rfl
  clear hat
  have hd1 : (((m + 1 : Nat) : Int) == 0) = false := by simp; omega
  have hd2 : decide ((m : Int) + 1 - 1 < 0) = false := decide_eq_false (by omega)
  have hd3 : ((m : Int) + 1 - 1) = m := by omega
  have hb2 := hb1.alloc hb1.size (.cells #[.pointer (some ⟨g, 0, none⟩), .int .i64 (cx.rect r).x, .int .i64 (cx.rect r).y, .int .i64 (cx.rect r).w, .int .i64 (cx.rect r).h] 74)
  have hM2 := hM.below hb2 hM.lt
  have hg2 := hg0.below hb2 hg0.lt
  have hs := split1_any bA bP bL bM bI b g (cx.rect r) a A0 n0 cc0 nw id id _ (keepc hb2 hA) (keepc hb2 hP) (keepc hb2 hL) hM2 (keepc hb2 hI) (keepc hb2 (h.blk.cell 5)) hg2 hrc hnw hA' hI' hbg hAg hIg hng
  go_upto_region 5 with fail
  have hL5 := Blk.new wc 74 #[.pointer (some ⟨g, 0, none⟩), .int .i64 (cx.rect r).x, .int .i64 (cx.rect r).y, .int .i64 (cx.rect r).w, .int .i64 (cx.rect r).h]
  have l0 := hL5.cell 0
  have l1 := hL5.cell 1
  have l2 := hL5.cell 2
  have l3 := hL5.cell 3
  have l4 := hL5.cell 4
  generalize wc.alloc (.cells #[.pointer (some ⟨g, 0, none⟩), .int .i64 (cx.rect r).x, .int .i64 (cx.rect r).y, .int .i64 (cx.rect r).w, .int .i64 (cx.rect r).h] 74) = w5 at *
  have Hs := Lib.hid hs
  clear hs hM2 hg2 q0 q1 q2 q3 q4 hM hP hL hA hI hg0 h hL5
  go_wp2_with (go_at_call 24; refine Hs.out.mono ?_; rintro e w6 ⟨⟨v, rfl⟩, hs6⟩)
  go_ret
  refine ⟨rfl, ?_⟩
  rcases hs6 with ⟨h1, h2⟩ | ⟨h1, h2, h3, h4, g1, g2, h5, h6⟩
  · exact .inl ⟨h1, hb2.trans (h2.mono hb2.size)⟩
  · exact .inr ⟨h1, h2, (But.of_below hb2).trans h3, h4, g1, g2, Nat.le_trans hb2.size h5, h6⟩
end Go.Proofs.YtmdgjmmkegkonaaDoor
