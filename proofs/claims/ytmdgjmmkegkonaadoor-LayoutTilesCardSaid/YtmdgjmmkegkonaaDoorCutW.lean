/- length, pane, share, cut: walked. -/
import Derived.Test.YtmdgjmmkegkonaaDoorLayP
import Derived.Deep.QuietTactic
import Derived.BigQuiet
import Derived.BigRegion
import Derived.Deep.RegionHeld3
import Derived.IntWalk
import Derived.Deep.Cut
import Derived.Deep.CutRange
import Derived.Deep.CutBlock
namespace Go.Proofs.YtmdgjmmkegkonaaDoor
open Go.RowKit
theorem ret_int64 {a b : Int} (h : a = b) : Ending.returned (.int .i64 a) = .returned (.int .i64 b) := by rw [h]
theorem below_drewN {B : Nat} {a w : World} (h : Below B a w) (n : Nat) : Below B a (w.drewN n) := ⟨h.os, h.tape, h.output, h.size, h.block⟩
theorem keepc {w w' : World} (hb : Below w.heap.size w w') {p : Addr} {v : Value} (h : w.cell? p = some v) : w'.cell? p = some v := (hb.cell (World.block_lt_of_cell? w p h)).trans h
set_option maxRecDepth 100000 in
theorem length_any (r : Rc) (a : Bool) (w : World) : Calls Tryd.prog 25 #[r.a, .bool a] w fun e w' => e = .returned (.int .i64 (lenR r a)) ∧ Below w.heap.size w w' := by
  cases a
  · go_enter Tryd.func25, Tryd.ntmps25
    go_wp2
    go_ret
    exact ⟨rfl, (Below.refl _ _).alloc (Nat.le_refl _) _⟩
  · go_enter Tryd.func25, Tryd.ntmps25
    go_wp2
    go_ret
    exact ⟨rfl, (Below.refl _ _).alloc (Nat.le_refl _) _⟩
def isPane : Tr → Bool
  | .pane _ _ => true
  | .split _ _ _ _ _ _ => false
set_option maxRecDepth 100000 in
theorem pane_any (t : Tr) (w : World) (h : TrAt w t) : Calls Tryd.prog 27 #[ptr t.g] w fun e w' => e = .returned (.bool (isPane t)) ∧ w = w' := by
  cases t with
  | pane g id =>
    have h' : Blk w g 59 (paneC id) := h
    have c4 : w.cell? ⟨g, 4, none⟩ = some (.pointer none) := h'.cell 4
    show Calls Tryd.prog 27 #[.pointer (some ⟨g, 0, none⟩)] w _
    go_enter Tryd.func27, Tryd.ntmps27
    go_wp2
    go_ret
    exact ⟨rfl, rfl⟩
  | split g a p q l r =>
    have c4 : w.cell? ⟨g, 4, none⟩ = some (.pointer (some ⟨l.g, 0, none⟩)) := h.1.cell 4
    show Calls Tryd.prog 27 #[.pointer (some ⟨g, 0, none⟩)] w _
    go_enter Tryd.func27, Tryd.ntmps27
    go_wp2
    go_ret
    exact ⟨rfl, rfl⟩
set_option maxRecDepth 100000 in
set_option maxHeartbeats 1000000 in
theorem share_any (g : Nat) (n p q : Int) (w : World) (h2 : w.cell? ⟨g, 2, none⟩ = some (.int .i64 p)) (h3 : w.cell? ⟨g, 3, none⟩ = some (.int .i64 q)) (hn : 1 ≤ n) (hn2 : n ≤ 200) (hp : 1 ≤ p) (hpq : p < q) (hq : q ≤ 200) :
    Calls Tryd.prog 30 #[ptr g, .int .i64 n] w fun e w' => e = .returned (.int .i64 (shr n p q)) ∧ ∃ k, w' = w.drewN k := by
  have hm0 : 0 ≤ (n - 1) * p := Int.mul_nonneg (by omega) (by omega)
  have hm1 : (n - 1) * p ≤ 199 * 200 := Int.le_trans (Int.mul_le_mul_of_nonneg_right (show n - 1 ≤ 199 by omega) (by omega)) (Int.mul_le_mul_of_nonneg_left (show p ≤ 200 by omega) (by omega))
  have hd0 : 0 ≤ (n - 1) * p / q := Int.ediv_nonneg hm0 (by omega)
  have hd1 : (n - 1) * p / q ≤ (n - 1) * p := Int.ediv_le_self _ hm0
  have hd2 : (n - 1) * p / q ≤ 40000 := by omega
  have hq0 : q ≠ 0 := by omega
  have hq1 : 0 < q := by omega
  show Calls Tryd.prog 30 #[.pointer (some ⟨g, 0, none⟩), .int .i64 n] w _
  go_enter Tryd.func30, Tryd.ntmps30
  go_wp2_with fail
  go_quiet (fail)
  go_wp2_with fail
  all_goals
    go_ret
    exact ⟨ret_int64 (by unfold shr; omega), _, rfl⟩
section
variable {w a : World} {b g : Nat} {t : TypeId} {cs : Array Value} {c0 c1 c2 c3 v0 v1 v2 v3 : Value}
theorem set4 (h : Blk w b t #[c0, c1, c2, c3]) : Blk ((((w.setCell ⟨b, 0, none⟩ v0).setCell ⟨b, 1, none⟩ v1).setCell ⟨b, 2, none⟩ v2).setCell ⟨b, 3, none⟩ v3) b t #[v0, v1, v2, v3] := (((h.set 0 v0).set 1 v1).set 2 v2).set 3 v3
theorem far4 (h : Blk w g t cs) (hne : g ≠ b) : Blk ((((w.setCell ⟨b, 0, none⟩ v0).setCell ⟨b, 1, none⟩ v1).setCell ⟨b, 2, none⟩ v2).setCell ⟨b, 3, none⟩ v3) g t cs := (((h.far hne v0).far hne v1).far hne v2).far hne v3
theorem below4 {B : Nat} (h : Below B a w) (hB : B ≤ b) : Below B a ((((w.setCell ⟨b, 0, none⟩ v0).setCell ⟨b, 1, none⟩ v1).setCell ⟨b, 2, none⟩ v2).setCell ⟨b, 3, none⟩ v3) :=
  (((h.setCell (p := ⟨b, 0, none⟩) hB v0).setCell (p := ⟨b, 1, none⟩) hB v1).setCell (p := ⟨b, 2, none⟩) hB v2).setCell (p := ⟨b, 3, none⟩) hB v3
end
/-- What a node's cut reads. -/
abbrev HeldK (m g : Nat) (r : Rc) (a : Bool) (p q : Int) (w0 w : World) : Prop :=
  w.cell? ⟨m, 0, none⟩ = some (.int .i64 r.x) ∧ w.cell? ⟨m, 1, none⟩ = some (.int .i64 r.y) ∧ w.cell? ⟨m, 2, none⟩ = some (.int .i64 r.w) ∧ w.cell? ⟨m, 3, none⟩ = some (.int .i64 r.h) ∧
  w.cell? ⟨g, 1, none⟩ = some (.bool a) ∧ w.cell? ⟨g, 2, none⟩ = some (.int .i64 p) ∧ w.cell? ⟨g, 3, none⟩ = some (.int .i64 q) ∧ Below w0.heap.size w0 w ∧ w0.heap.size ≤ w.heap.size
theorem HeldK.keep {m g : Nat} {r : Rc} {a : Bool} {p q : Int} {w0 w w' : World} (h : HeldK m g r a p q w0 w) (hb : Below w.heap.size w w') : HeldK m g r a p q w0 w' := by
  obtain ⟨h0, h1, h2, h3, h4, h5, h6, hB, hS⟩ := h
  exact ⟨keepc hb h0, keepc hb h1, keepc hb h2, keepc hb h3, keepc hb h4, keepc hb h5, keepc hb h6, hB.trans (hb.mono hS), Nat.le_trans hS hb.size⟩
abbrev HeldK2 (m g : Nat) (r : Rc) (a : Bool) (p q : Int) (w0 w1 w : World) : Prop := HeldK m g r a p q w0 w ∧ Below w1.heap.size w1 w
theorem HeldK2.keep {m g : Nat} {r : Rc} {a : Bool} {p q : Int} {w0 w1 w w' : World} (h : HeldK2 m g r a p q w0 w1 w) (hb : Below w.heap.size w w') : HeldK2 m g r a p q w0 w1 w' := ⟨h.1.keep hb, h.2.trans (hb.mono h.2.size)⟩
theorem HeldK2.p {m g : Nat} {r : Rc} {a : Bool} {p q : Int} {w0 w1 w : World} (h : HeldK2 m g r a p q w0 w1 w) : w.cell? ⟨g, 2, none⟩ = some (.int .i64 p) := h.1.2.2.2.2.2.1
theorem HeldK2.q {m g : Nat} {r : Rc} {a : Bool} {p q : Int} {w0 w1 w : World} (h : HeldK2 m g r a p q w0 w1 w) : w.cell? ⟨g, 3, none⟩ = some (.int .i64 q) := h.1.2.2.2.2.2.2.1
set_option maxRecDepth 100000 in
set_option maxHeartbeats 4000000 in
theorem cut_any (g : Nat) (a : Bool) (p q : Int) (r : Rc) (w : World) (hgw : g < w.heap.size) (h1 : w.cell? ⟨g, 1, none⟩ = some (.bool a)) (h2 : w.cell? ⟨g, 2, none⟩ = some (.int .i64 p)) (h3 : w.cell? ⟨g, 3, none⟩ = some (.int .i64 q)) (hr : RcOk r) (hn : 3 ≤ lenR r a) (hp : 1 ≤ p) (hpq : p < q) (hq200 : q ≤ 200) :
    Calls Tryd.prog 32 #[ptr g, r.a] w fun e w' => e = .returned (.tuple #[(cut1 a (shr (lenR r a) p q) r).a, (cutM a (shr (lenR r a) p q) r).a, (cut2 a (shr (lenR r a) p q) r).a]) ∧ Below w.heap.size w w' := by
  have hlb := lenR_bd hr a
  have hsb := shr_bd (p := p) (q := q) hn
  have hB0 := ((Blk.new w 41 r.v).alloc (.cells #[.int .i64 0, .int .i64 0, .int .i64 0, .int .i64 0] 41)).alloc (.cells #[.int .i64 0, .int .i64 0, .int .i64 0, .int .i64 0] 41)
  have hB0 := hB0.alloc (.cells #[.int .i64 0, .int .i64 0, .int .i64 0, .int .i64 0] 41)
  have hB1 := ((Blk.new (w.alloc (.cells r.v 41)) 41 #[.int .i64 0, .int .i64 0, .int .i64 0, .int .i64 0]).alloc (.cells #[.int .i64 0, .int .i64 0, .int .i64 0, .int .i64 0] 41)).alloc (.cells #[.int .i64 0, .int .i64 0, .int .i64 0, .int .i64 0] 41)
  have hB2 := (Blk.new ((w.alloc (.cells r.v 41)).alloc (.cells #[.int .i64 0, .int .i64 0, .int .i64 0, .int .i64 0] 41)) 41 #[.int .i64 0, .int .i64 0, .int .i64 0, .int .i64 0]).alloc (.cells #[.int .i64 0, .int .i64 0, .int .i64 0, .int .i64 0] 41)
  have hB3 := Blk.new (((w.alloc (.cells r.v 41)).alloc (.cells #[.int .i64 0, .int .i64 0, .int .i64 0, .int .i64 0] 41)).alloc (.cells #[.int .i64 0, .int .i64 0, .int .i64 0, .int .i64 0] 41)) 41 #[.int .i64 0, .int .i64 0, .int .i64 0, .int .i64 0]
  have hb0 := ((((Below.refl w.heap.size w).alloc (Nat.le_refl _) (.cells r.v 41)).alloc (by simp) (.cells #[.int .i64 0, .int .i64 0, .int .i64 0, .int .i64 0] 41)).alloc (by simp; omega) (.cells #[.int .i64 0, .int .i64 0, .int .i64 0, .int .i64 0] 41)).alloc (by simp; omega) (.cells #[.int .i64 0, .int .i64 0, .int .i64 0, .int .i64 0] 41)
  simp only [World.size_alloc] at hB1 hB2 hB3
  show Calls Tryd.prog 32 #[.pointer (some ⟨g, 0, none⟩), r.a] w _
  go_enter Tryd.func32, Tryd.ntmps32
  go_upto_region 1 with fail
  generalize ((((w.alloc (.cells r.v 41)).alloc (.cells #[.int .i64 0, .int .i64 0, .int .i64 0, .int .i64 0] 41)).alloc (.cells #[.int .i64 0, .int .i64 0, .int .i64 0, .int .i64 0] 41)).alloc (.cells #[.int .i64 0, .int .i64 0, .int .i64 0, .int .i64 0] 41)) = w1 at hB0 hB1 hB2 hB3 hb0 ⊢
  have hS : HeldK w.heap.size g r a p q w w1.drew := ⟨hB0.cell 0, hB0.cell 1, hB0.cell 2, hB0.cell 3, keepc hb0.drew h1, keepc hb0.drew h2, keepc hb0.drew h3, hb0.drew, hb0.size⟩
  have hsz : w.heap.size + 3 < w1.heap.size := hB3.lt
  have hq0 : Below w1.heap.size w1 w1 := Below.refl _ _
  clear h2 h3
  go_cut [7] from 8 to 66 (fun s7 wx => s7 = .int .i64 (shr (lenR r a) p q) ∧ Below w1.heap.size w1 wx ∧ HeldK w.heap.size g r a p q w wx)
  case first =>
    go_region_held3 (fun w' => (w'.cell? ⟨w.heap.size, 0, none⟩ = some (.int .i64 r.x) ∧ w'.cell? ⟨w.heap.size, 1, none⟩ = some (.int .i64 r.y) ∧ w'.cell? ⟨w.heap.size, 2, none⟩ = some (.int .i64 r.w) ∧ w'.cell? ⟨w.heap.size, 3, none⟩ = some (.int .i64 r.h) ∧ w'.cell? ⟨g, 1, none⟩ = some (.bool a) ∧ w'.cell? ⟨g, 2, none⟩ = some (.int .i64 p) ∧ w'.cell? ⟨g, 3, none⟩ = some (.int .i64 q) ∧ Below w.heap.size w w' ∧ w.heap.size ≤ w'.heap.size) ∧ Below w1.heap.size w1 w') (first | exact ⟨hS, hq0.drew⟩ | exact hq | exact hq2) (first
      | (go_at_call 25; refine (length_any r a _).mono ?_; rintro e w4 ⟨rfl, hb4⟩; have hq := HeldK2.keep (by assumption) hb4)
      | (go_at_call 30; refine (share_any g (lenR r a) p q _ (HeldK2.p (by assumption)) (HeldK2.q (by assumption)) (by omega) (by omega) hp hpq hq200).mono ?_; rintro e w5 ⟨rfl, k5, rfl⟩; have hq2 := HeldK2.keep hq (below_drewN (Below.refl _ _) k5)))
    go_wp2_with fail
    go_meet
    exact ⟨rfl, hq2.2, hq2.1⟩
  case rest =>
  obtain ⟨rfl, hbc, hS2⟩ := hcut
  have hA0 := hB0.below hbc hB0.lt
  have hA1 := hB1.below hbc hB1.lt
  have hA2 := hB2.below hbc hB2.lt
  have hA3 := hB3.below hbc hB3.lt
  have hba : Below w.heap.size w wc := hS2.2.2.2.2.2.2.2.1
  have c1 : wc.cell? ⟨g, 1, none⟩ = some (.bool a) := hS2.2.2.2.2.1
  have hgm : g < w.heap.size := hgw
  clear hS hS2 hq0 hB0 hB1 hB2 hB3 hb0 hbc hsz
  obtain ⟨k, hk⟩ : ∃ k, k = shr (lenR r a) p q := ⟨_, rfl⟩
  have HK := Lib.hid hk
  rw [← hk] at hsb ⊢
  clear hk
  generalize hm : w.heap.size = m at *
  have HM := Lib.hid hm
  clear hm
  go_upto_region 2 with fail
  have r0 : wc.cell? ⟨m, 0, none⟩ = some (.int .i64 r.x) := hA0.cell 0
  have r1 : wc.cell? ⟨m, 1, none⟩ = some (.int .i64 r.y) := hA0.cell 1
  have r2 : wc.cell? ⟨m, 2, none⟩ = some (.int .i64 r.w) := hA0.cell 2
  have r3 : wc.cell? ⟨m, 3, none⟩ = some (.int .i64 r.h) := hA0.cell 3
  have x10 : wc.cell? ⟨m + 1, 0, none⟩ = some (.int .i64 0) := hA1.cell 0
  have f10 : wc.frozen? ⟨m + 1, 0, none⟩ = false := hA1.free 0
  have x11 : wc.cell? ⟨m + 1, 1, none⟩ = some (.int .i64 0) := hA1.cell 1
  have f11 : wc.frozen? ⟨m + 1, 1, none⟩ = false := hA1.free 1
  have x12 : wc.cell? ⟨m + 1, 2, none⟩ = some (.int .i64 0) := hA1.cell 2
  have f12 : wc.frozen? ⟨m + 1, 2, none⟩ = false := hA1.free 2
  have x13 : wc.cell? ⟨m + 1, 3, none⟩ = some (.int .i64 0) := hA1.cell 3
  have f13 : wc.frozen? ⟨m + 1, 3, none⟩ = false := hA1.free 3
  have x20 : wc.cell? ⟨m + 1 + 1, 0, none⟩ = some (.int .i64 0) := hA2.cell 0
  have f20 : wc.frozen? ⟨m + 1 + 1, 0, none⟩ = false := hA2.free 0
  have x21 : wc.cell? ⟨m + 1 + 1, 1, none⟩ = some (.int .i64 0) := hA2.cell 1
  have f21 : wc.frozen? ⟨m + 1 + 1, 1, none⟩ = false := hA2.free 1
  have x22 : wc.cell? ⟨m + 1 + 1, 2, none⟩ = some (.int .i64 0) := hA2.cell 2
  have f22 : wc.frozen? ⟨m + 1 + 1, 2, none⟩ = false := hA2.free 2
  have x23 : wc.cell? ⟨m + 1 + 1, 3, none⟩ = some (.int .i64 0) := hA2.cell 3
  have f23 : wc.frozen? ⟨m + 1 + 1, 3, none⟩ = false := hA2.free 3
  have x30 : wc.cell? ⟨m + 1 + 1 + 1, 0, none⟩ = some (.int .i64 0) := hA3.cell 0
  have f30 : wc.frozen? ⟨m + 1 + 1 + 1, 0, none⟩ = false := hA3.free 0
  have x31 : wc.cell? ⟨m + 1 + 1 + 1, 1, none⟩ = some (.int .i64 0) := hA3.cell 1
  have f31 : wc.frozen? ⟨m + 1 + 1 + 1, 1, none⟩ = false := hA3.free 1
  have x32 : wc.cell? ⟨m + 1 + 1 + 1, 2, none⟩ = some (.int .i64 0) := hA3.cell 2
  have f32 : wc.frozen? ⟨m + 1 + 1 + 1, 2, none⟩ = false := hA3.free 2
  have x33 : wc.cell? ⟨m + 1 + 1 + 1, 3, none⟩ = some (.int .i64 0) := hA3.cell 3
  have f33 : wc.frozen? ⟨m + 1 + 1 + 1, 3, none⟩ = false := hA3.free 3
  go_cut [7] from 8 to 66 (fun s7 wx => s7 = .int .i64 k ∧ Blk wx m 41 r.v ∧ Blk wx (m + 1) 41 r.v ∧ Blk wx (m + 1 + 1) 41 r.v ∧ Blk wx (m + 1 + 1 + 1) 41 r.v ∧ Below m w wx)
  case first =>
    go_region
    go_wp2_with fail
    go_meet
    exact ⟨rfl, (far4 (far4 (far4 hA0 (by omega)) (by omega)) (by omega)).drew, (far4 (far4 (set4 hA1) (by omega)) (by omega)).drew, (far4 (set4 (far4 hA2 (by omega))) (by omega)).drew, (set4 (far4 (far4 hA3 (by omega)) (by omega))).drew, (below4 (below4 (below4 hba (by omega)) (by omega)) (by omega)).drew⟩
  case rest =>
  obtain ⟨rfl, hC0, hC1, hC2, hC3, hbd⟩ := hcut
  clear hA0 hA1 hA2 hA3 hba r0 r1 r2 r3 x10 x11 x12 x13 x20 x21 x22 x23 x30 x31 x32 x33 f10 f11 f12 f13 f20 f21 f22 f23 f30 f31 f32 f33
  have c1' : wc.cell? ⟨g, 1, none⟩ = some (.bool a) := (hbd.cell (p := ⟨g, 1, none⟩) hgm).trans h1
  have hl1 := lenR_bd hr a
  obtain ⟨q1, q2, q3, q4, q5, q6⟩ := hr
  cases a
  · simp only [lenR] at hn hsb hl1
    have r0 : wc.cell? ⟨m, 0, none⟩ = some (.int .i64 r.x) := hC0.cell 0
    have r1 : wc.cell? ⟨m, 1, none⟩ = some (.int .i64 r.y) := hC0.cell 1
    have r2 : wc.cell? ⟨m, 2, none⟩ = some (.int .i64 r.w) := hC0.cell 2
    have r3 : wc.cell? ⟨m, 3, none⟩ = some (.int .i64 r.h) := hC0.cell 3
    have x10 : wc.cell? ⟨m + 1, 0, none⟩ = some (.int .i64 r.x) := hC1.cell 0
    have f10 : wc.frozen? ⟨m + 1, 0, none⟩ = false := hC1.free 0
    have x11 : wc.cell? ⟨m + 1, 1, none⟩ = some (.int .i64 r.y) := hC1.cell 1
    have f11 : wc.frozen? ⟨m + 1, 1, none⟩ = false := hC1.free 1
    have x12 : wc.cell? ⟨m + 1, 2, none⟩ = some (.int .i64 r.w) := hC1.cell 2
    have f12 : wc.frozen? ⟨m + 1, 2, none⟩ = false := hC1.free 2
    have x13 : wc.cell? ⟨m + 1, 3, none⟩ = some (.int .i64 r.h) := hC1.cell 3
    have f13 : wc.frozen? ⟨m + 1, 3, none⟩ = false := hC1.free 3
    have x20 : wc.cell? ⟨m + 1 + 1, 0, none⟩ = some (.int .i64 r.x) := hC2.cell 0
    have f20 : wc.frozen? ⟨m + 1 + 1, 0, none⟩ = false := hC2.free 0
    have x21 : wc.cell? ⟨m + 1 + 1, 1, none⟩ = some (.int .i64 r.y) := hC2.cell 1
    have f21 : wc.frozen? ⟨m + 1 + 1, 1, none⟩ = false := hC2.free 1
    have x22 : wc.cell? ⟨m + 1 + 1, 2, none⟩ = some (.int .i64 r.w) := hC2.cell 2
    have f22 : wc.frozen? ⟨m + 1 + 1, 2, none⟩ = false := hC2.free 2
    have x23 : wc.cell? ⟨m + 1 + 1, 3, none⟩ = some (.int .i64 r.h) := hC2.cell 3
    have f23 : wc.frozen? ⟨m + 1 + 1, 3, none⟩ = false := hC2.free 3
    have x30 : wc.cell? ⟨m + 1 + 1 + 1, 0, none⟩ = some (.int .i64 r.x) := hC3.cell 0
    have f30 : wc.frozen? ⟨m + 1 + 1 + 1, 0, none⟩ = false := hC3.free 0
    have x31 : wc.cell? ⟨m + 1 + 1 + 1, 1, none⟩ = some (.int .i64 r.y) := hC3.cell 1
    have f31 : wc.frozen? ⟨m + 1 + 1 + 1, 1, none⟩ = false := hC3.free 1
    have x32 : wc.cell? ⟨m + 1 + 1 + 1, 2, none⟩ = some (.int .i64 r.w) := hC3.cell 2
    have f32 : wc.frozen? ⟨m + 1 + 1 + 1, 2, none⟩ = false := hC3.free 2
    have x33 : wc.cell? ⟨m + 1 + 1 + 1, 3, none⟩ = some (.int .i64 r.h) := hC3.cell 3
    have f33 : wc.frozen? ⟨m + 1 + 1 + 1, 3, none⟩ = false := hC3.free 3
    go_upto_region 10 with (first | go_region)
    have hD1 : Blk (((((wc.setCell ⟨m + 1, 3, none⟩ (.int .i64 (k))).setCell ⟨m + 1 + 1, 3, none⟩ (.int .i64 (1))).setCell ⟨m + 1 + 1, 1, none⟩ (.int .i64 (r.y + k))).setCell ⟨m + 1 + 1 + 1, 1, none⟩ (.int .i64 (r.y + k + 1))).setCell ⟨m + 1 + 1 + 1, 3, none⟩ (.int .i64 (r.h - k - 1))).drew (m + 1) 41 #[.int .i64 (r.x), .int .i64 (r.y), .int .i64 (r.w), .int .i64 (k)] := (((((hC1.set 3 (.int .i64 (k))).far (p := ⟨m + 1 + 1, 3, none⟩) (show m + 1 ≠ m + 1 + 1 by omega) (.int .i64 (1))).far (p := ⟨m + 1 + 1, 1, none⟩) (show m + 1 ≠ m + 1 + 1 by omega) (.int .i64 (r.y + k))).far (p := ⟨m + 1 + 1 + 1, 1, none⟩) (show m + 1 ≠ m + 1 + 1 + 1 by omega) (.int .i64 (r.y + k + 1))).far (p := ⟨m + 1 + 1 + 1, 3, none⟩) (show m + 1 ≠ m + 1 + 1 + 1 by omega) (.int .i64 (r.h - k - 1))).drew
    have hD2 : Blk (((((wc.setCell ⟨m + 1, 3, none⟩ (.int .i64 (k))).setCell ⟨m + 1 + 1, 3, none⟩ (.int .i64 (1))).setCell ⟨m + 1 + 1, 1, none⟩ (.int .i64 (r.y + k))).setCell ⟨m + 1 + 1 + 1, 1, none⟩ (.int .i64 (r.y + k + 1))).setCell ⟨m + 1 + 1 + 1, 3, none⟩ (.int .i64 (r.h - k - 1))).drew (m + 1 + 1) 41 #[.int .i64 (r.x), .int .i64 (r.y + k), .int .i64 (r.w), .int .i64 (1)] := (((((hC2.far (p := ⟨m + 1, 3, none⟩) (show m + 1 + 1 ≠ m + 1 by omega) (.int .i64 (k))).set 3 (.int .i64 (1))).set 1 (.int .i64 (r.y + k))).far (p := ⟨m + 1 + 1 + 1, 1, none⟩) (show m + 1 + 1 ≠ m + 1 + 1 + 1 by omega) (.int .i64 (r.y + k + 1))).far (p := ⟨m + 1 + 1 + 1, 3, none⟩) (show m + 1 + 1 ≠ m + 1 + 1 + 1 by omega) (.int .i64 (r.h - k - 1))).drew
    have hD3 : Blk (((((wc.setCell ⟨m + 1, 3, none⟩ (.int .i64 (k))).setCell ⟨m + 1 + 1, 3, none⟩ (.int .i64 (1))).setCell ⟨m + 1 + 1, 1, none⟩ (.int .i64 (r.y + k))).setCell ⟨m + 1 + 1 + 1, 1, none⟩ (.int .i64 (r.y + k + 1))).setCell ⟨m + 1 + 1 + 1, 3, none⟩ (.int .i64 (r.h - k - 1))).drew (m + 1 + 1 + 1) 41 #[.int .i64 (r.x), .int .i64 (r.y + k + 1), .int .i64 (r.w), .int .i64 (r.h - k - 1)] := (((((hC3.far (p := ⟨m + 1, 3, none⟩) (show m + 1 + 1 + 1 ≠ m + 1 by omega) (.int .i64 (k))).far (p := ⟨m + 1 + 1, 3, none⟩) (show m + 1 + 1 + 1 ≠ m + 1 + 1 by omega) (.int .i64 (1))).far (p := ⟨m + 1 + 1, 1, none⟩) (show m + 1 + 1 + 1 ≠ m + 1 + 1 by omega) (.int .i64 (r.y + k))).set 1 (.int .i64 (r.y + k + 1))).set 3 (.int .i64 (r.h - k - 1))).drew
    have hbe : Below m w (((((wc.setCell ⟨m + 1, 3, none⟩ (.int .i64 (k))).setCell ⟨m + 1 + 1, 3, none⟩ (.int .i64 (1))).setCell ⟨m + 1 + 1, 1, none⟩ (.int .i64 (r.y + k))).setCell ⟨m + 1 + 1 + 1, 1, none⟩ (.int .i64 (r.y + k + 1))).setCell ⟨m + 1 + 1 + 1, 3, none⟩ (.int .i64 (r.h - k - 1))).drew := (((((hbd.setCell (p := ⟨m + 1, 3, none⟩) (show m ≤ m + 1 by omega) (.int .i64 (k))).setCell (p := ⟨m + 1 + 1, 3, none⟩) (show m ≤ m + 1 + 1 by omega) (.int .i64 (1))).setCell (p := ⟨m + 1 + 1, 1, none⟩) (show m ≤ m + 1 + 1 by omega) (.int .i64 (r.y + k))).setCell (p := ⟨m + 1 + 1 + 1, 1, none⟩) (show m ≤ m + 1 + 1 + 1 by omega) (.int .i64 (r.y + k + 1))).setCell (p := ⟨m + 1 + 1 + 1, 3, none⟩) (show m ≤ m + 1 + 1 + 1 by omega) (.int .i64 (r.h - k - 1))).drew
    generalize (((((wc.setCell ⟨m + 1, 3, none⟩ (.int .i64 (k))).setCell ⟨m + 1 + 1, 3, none⟩ (.int .i64 (1))).setCell ⟨m + 1 + 1, 1, none⟩ (.int .i64 (r.y + k))).setCell ⟨m + 1 + 1 + 1, 1, none⟩ (.int .i64 (r.y + k + 1))).setCell ⟨m + 1 + 1 + 1, 3, none⟩ (.int .i64 (r.h - k - 1))).drew = w5 at hD1 hD2 hD3 hbe ⊢
    clear hC0 hC1 hC2 hC3 hbd c1' r0 r1 r2 r3 x10 x11 x12 x13 x20 x21 x22 x23 x30 x31 x32 x33 f10 f11 f12 f13 f20 f21 f22 f23 f30 f31 f32 f33
    have x10 : w5.cell? ⟨m + 1, 0, none⟩ = some (.int .i64 (r.x)) := hD1.cell 0
    have f10 : w5.frozen? ⟨m + 1, 0, none⟩ = false := hD1.free 0
    have x11 : w5.cell? ⟨m + 1, 1, none⟩ = some (.int .i64 (r.y)) := hD1.cell 1
    have f11 : w5.frozen? ⟨m + 1, 1, none⟩ = false := hD1.free 1
    have x12 : w5.cell? ⟨m + 1, 2, none⟩ = some (.int .i64 (r.w)) := hD1.cell 2
    have f12 : w5.frozen? ⟨m + 1, 2, none⟩ = false := hD1.free 2
    have x13 : w5.cell? ⟨m + 1, 3, none⟩ = some (.int .i64 (k)) := hD1.cell 3
    have f13 : w5.frozen? ⟨m + 1, 3, none⟩ = false := hD1.free 3
    have x20 : w5.cell? ⟨m + 1 + 1, 0, none⟩ = some (.int .i64 (r.x)) := hD2.cell 0
    have f20 : w5.frozen? ⟨m + 1 + 1, 0, none⟩ = false := hD2.free 0
    have x21 : w5.cell? ⟨m + 1 + 1, 1, none⟩ = some (.int .i64 (r.y + k)) := hD2.cell 1
    have f21 : w5.frozen? ⟨m + 1 + 1, 1, none⟩ = false := hD2.free 1
    have x22 : w5.cell? ⟨m + 1 + 1, 2, none⟩ = some (.int .i64 (r.w)) := hD2.cell 2
    have f22 : w5.frozen? ⟨m + 1 + 1, 2, none⟩ = false := hD2.free 2
    have x23 : w5.cell? ⟨m + 1 + 1, 3, none⟩ = some (.int .i64 (1)) := hD2.cell 3
    have f23 : w5.frozen? ⟨m + 1 + 1, 3, none⟩ = false := hD2.free 3
    have x30 : w5.cell? ⟨m + 1 + 1 + 1, 0, none⟩ = some (.int .i64 (r.x)) := hD3.cell 0
    have f30 : w5.frozen? ⟨m + 1 + 1 + 1, 0, none⟩ = false := hD3.free 0
    have x31 : w5.cell? ⟨m + 1 + 1 + 1, 1, none⟩ = some (.int .i64 (r.y + k + 1)) := hD3.cell 1
    have f31 : w5.frozen? ⟨m + 1 + 1 + 1, 1, none⟩ = false := hD3.free 1
    have x32 : w5.cell? ⟨m + 1 + 1 + 1, 2, none⟩ = some (.int .i64 (r.w)) := hD3.cell 2
    have f32 : w5.frozen? ⟨m + 1 + 1 + 1, 2, none⟩ = false := hD3.free 2
    have x33 : w5.cell? ⟨m + 1 + 1 + 1, 3, none⟩ = some (.int .i64 (r.h - k - 1)) := hD3.cell 3
    have f33 : w5.frozen? ⟨m + 1 + 1 + 1, 3, none⟩ = false := hD3.free 3
    go_region
    have hE1 := (far4 (b := m + 1 + 1 + 1) (v0 := .int .i64 (r.x)) (v1 := .int .i64 (r.y + k + 1)) (v2 := .int .i64 (r.w)) (v3 := .int .i64 (r.h - k - 1)) (far4 (b := m + 1 + 1) (v0 := .int .i64 (r.x)) (v1 := .int .i64 (r.y + k)) (v2 := .int .i64 (r.w)) (v3 := .int .i64 (1)) (set4 (v0 := .int .i64 (r.x)) (v1 := .int .i64 (r.y)) (v2 := .int .i64 (r.w)) (v3 := .int .i64 (k)) hD1) (by omega)) (by omega)).drew
    have hE2 := (far4 (b := m + 1 + 1 + 1) (v0 := .int .i64 (r.x)) (v1 := .int .i64 (r.y + k + 1)) (v2 := .int .i64 (r.w)) (v3 := .int .i64 (r.h - k - 1)) (set4 (v0 := .int .i64 (r.x)) (v1 := .int .i64 (r.y + k)) (v2 := .int .i64 (r.w)) (v3 := .int .i64 (1)) (far4 (b := m + 1) (v0 := .int .i64 (r.x)) (v1 := .int .i64 (r.y)) (v2 := .int .i64 (r.w)) (v3 := .int .i64 (k)) hD2 (by omega))) (by omega)).drew
    have hE3 := (set4 (v0 := .int .i64 (r.x)) (v1 := .int .i64 (r.y + k + 1)) (v2 := .int .i64 (r.w)) (v3 := .int .i64 (r.h - k - 1)) (far4 (b := m + 1 + 1) (v0 := .int .i64 (r.x)) (v1 := .int .i64 (r.y + k)) (v2 := .int .i64 (r.w)) (v3 := .int .i64 (1)) (far4 (b := m + 1) (v0 := .int .i64 (r.x)) (v1 := .int .i64 (r.y)) (v2 := .int .i64 (r.w)) (v3 := .int .i64 (k)) hD3 (by omega)) (by omega))).drew
    have hbf := (below4 (b := m + 1 + 1 + 1) (v0 := .int .i64 (r.x)) (v1 := .int .i64 (r.y + k + 1)) (v2 := .int .i64 (r.w)) (v3 := .int .i64 (r.h - k - 1)) (below4 (b := m + 1 + 1) (v0 := .int .i64 (r.x)) (v1 := .int .i64 (r.y + k)) (v2 := .int .i64 (r.w)) (v3 := .int .i64 (1)) (below4 (b := m + 1) (v0 := .int .i64 (r.x)) (v1 := .int .i64 (r.y)) (v2 := .int .i64 (r.w)) (v3 := .int .i64 (k)) hbe (by omega)) (by omega)) (by omega)).drew
    generalize ((((((((((((w5.setCell ⟨m + 1, 0, none⟩ (.int .i64 (r.x))).setCell ⟨m + 1, 1, none⟩ (.int .i64 (r.y))).setCell ⟨m + 1, 2, none⟩ (.int .i64 (r.w))).setCell ⟨m + 1, 3, none⟩ (.int .i64 (k))).setCell ⟨m + 1 + 1, 0, none⟩ (.int .i64 (r.x))).setCell ⟨m + 1 + 1, 1, none⟩ (.int .i64 (r.y + k))).setCell ⟨m + 1 + 1, 2, none⟩ (.int .i64 (r.w))).setCell ⟨m + 1 + 1, 3, none⟩ (.int .i64 (1))).setCell ⟨m + 1 + 1 + 1, 0, none⟩ (.int .i64 (r.x))).setCell ⟨m + 1 + 1 + 1, 1, none⟩ (.int .i64 (r.y + k + 1))).setCell ⟨m + 1 + 1 + 1, 2, none⟩ (.int .i64 (r.w))).setCell ⟨m + 1 + 1 + 1, 3, none⟩ (.int .i64 (r.h - k - 1))).drew = w6 at hE1 hE2 hE3 hbf ⊢
    clear hD1 hD2 hD3 hbe x10 f10 x11 f11 x12 f12 x13 f13 x20 f20 x21 f21 x22 f22 x23 f23 x30 f30 x31 f31 x32 f32 x33 f33
    have y10 : w6.cell? ⟨m + 1, 0, none⟩ = some (.int .i64 (r.x)) := hE1.cell 0
    have y11 : w6.cell? ⟨m + 1, 1, none⟩ = some (.int .i64 (r.y)) := hE1.cell 1
    have y12 : w6.cell? ⟨m + 1, 2, none⟩ = some (.int .i64 (r.w)) := hE1.cell 2
    have y13 : w6.cell? ⟨m + 1, 3, none⟩ = some (.int .i64 (k)) := hE1.cell 3
    have y20 : w6.cell? ⟨m + 1 + 1, 0, none⟩ = some (.int .i64 (r.x)) := hE2.cell 0
    have y21 : w6.cell? ⟨m + 1 + 1, 1, none⟩ = some (.int .i64 (r.y + k)) := hE2.cell 1
    have y22 : w6.cell? ⟨m + 1 + 1, 2, none⟩ = some (.int .i64 (r.w)) := hE2.cell 2
    have y23 : w6.cell? ⟨m + 1 + 1, 3, none⟩ = some (.int .i64 (1)) := hE2.cell 3
    have y30 : w6.cell? ⟨m + 1 + 1 + 1, 0, none⟩ = some (.int .i64 (r.x)) := hE3.cell 0
    have y31 : w6.cell? ⟨m + 1 + 1 + 1, 1, none⟩ = some (.int .i64 (r.y + k + 1)) := hE3.cell 1
    have y32 : w6.cell? ⟨m + 1 + 1 + 1, 2, none⟩ = some (.int .i64 (r.w)) := hE3.cell 2
    have y33 : w6.cell? ⟨m + 1 + 1 + 1, 3, none⟩ = some (.int .i64 (r.h - k - 1)) := hE3.cell 3
    go_wp2_with fail
    refine bodyPost_ret (v := .tuple #[.agg #[.int .i64 (r.x), .int .i64 (r.y), .int .i64 (r.w), .int .i64 (k)], .agg #[.int .i64 (r.x), .int .i64 (r.y + k), .int .i64 (r.w), .int .i64 (1)], .agg #[.int .i64 (r.x), .int .i64 (r.y + k + 1), .int .i64 (r.w), .int .i64 (r.h - k - 1)]]) ?_ rfl ⟨by rw [← HK.out]; rfl, by rw [HM.out]; exact hbf⟩
    simp [results, Tryd.results32, go_sem, y10, y11, y12, y13, y20, y21, y22, y23, y30, y31, y32, y33]
  · simp only [lenR, if_true] at hn hsb hl1
    have r0 : wc.cell? ⟨m, 0, none⟩ = some (.int .i64 r.x) := hC0.cell 0
    have r1 : wc.cell? ⟨m, 1, none⟩ = some (.int .i64 r.y) := hC0.cell 1
    have r2 : wc.cell? ⟨m, 2, none⟩ = some (.int .i64 r.w) := hC0.cell 2
    have r3 : wc.cell? ⟨m, 3, none⟩ = some (.int .i64 r.h) := hC0.cell 3
    have x10 : wc.cell? ⟨m + 1, 0, none⟩ = some (.int .i64 r.x) := hC1.cell 0
    have f10 : wc.frozen? ⟨m + 1, 0, none⟩ = false := hC1.free 0
    have x11 : wc.cell? ⟨m + 1, 1, none⟩ = some (.int .i64 r.y) := hC1.cell 1
    have f11 : wc.frozen? ⟨m + 1, 1, none⟩ = false := hC1.free 1
    have x12 : wc.cell? ⟨m + 1, 2, none⟩ = some (.int .i64 r.w) := hC1.cell 2
    have f12 : wc.frozen? ⟨m + 1, 2, none⟩ = false := hC1.free 2
    have x13 : wc.cell? ⟨m + 1, 3, none⟩ = some (.int .i64 r.h) := hC1.cell 3
    have f13 : wc.frozen? ⟨m + 1, 3, none⟩ = false := hC1.free 3
    have x20 : wc.cell? ⟨m + 1 + 1, 0, none⟩ = some (.int .i64 r.x) := hC2.cell 0
    have f20 : wc.frozen? ⟨m + 1 + 1, 0, none⟩ = false := hC2.free 0
    have x21 : wc.cell? ⟨m + 1 + 1, 1, none⟩ = some (.int .i64 r.y) := hC2.cell 1
    have f21 : wc.frozen? ⟨m + 1 + 1, 1, none⟩ = false := hC2.free 1
    have x22 : wc.cell? ⟨m + 1 + 1, 2, none⟩ = some (.int .i64 r.w) := hC2.cell 2
    have f22 : wc.frozen? ⟨m + 1 + 1, 2, none⟩ = false := hC2.free 2
    have x23 : wc.cell? ⟨m + 1 + 1, 3, none⟩ = some (.int .i64 r.h) := hC2.cell 3
    have f23 : wc.frozen? ⟨m + 1 + 1, 3, none⟩ = false := hC2.free 3
    have x30 : wc.cell? ⟨m + 1 + 1 + 1, 0, none⟩ = some (.int .i64 r.x) := hC3.cell 0
    have f30 : wc.frozen? ⟨m + 1 + 1 + 1, 0, none⟩ = false := hC3.free 0
    have x31 : wc.cell? ⟨m + 1 + 1 + 1, 1, none⟩ = some (.int .i64 r.y) := hC3.cell 1
    have f31 : wc.frozen? ⟨m + 1 + 1 + 1, 1, none⟩ = false := hC3.free 1
    have x32 : wc.cell? ⟨m + 1 + 1 + 1, 2, none⟩ = some (.int .i64 r.w) := hC3.cell 2
    have f32 : wc.frozen? ⟨m + 1 + 1 + 1, 2, none⟩ = false := hC3.free 2
    have x33 : wc.cell? ⟨m + 1 + 1 + 1, 3, none⟩ = some (.int .i64 r.h) := hC3.cell 3
    have f33 : wc.frozen? ⟨m + 1 + 1 + 1, 3, none⟩ = false := hC3.free 3
    go_upto_region 10 with (first | go_region)
    have hD1 : Blk (((((wc.setCell ⟨m + 1, 2, none⟩ (.int .i64 (k))).setCell ⟨m + 1 + 1, 2, none⟩ (.int .i64 (1))).setCell ⟨m + 1 + 1, 0, none⟩ (.int .i64 (r.x + k))).setCell ⟨m + 1 + 1 + 1, 0, none⟩ (.int .i64 (r.x + k + 1))).setCell ⟨m + 1 + 1 + 1, 2, none⟩ (.int .i64 (r.w - k - 1))).drew (m + 1) 41 #[.int .i64 (r.x), .int .i64 (r.y), .int .i64 (k), .int .i64 (r.h)] := (((((hC1.set 2 (.int .i64 (k))).far (p := ⟨m + 1 + 1, 2, none⟩) (show m + 1 ≠ m + 1 + 1 by omega) (.int .i64 (1))).far (p := ⟨m + 1 + 1, 0, none⟩) (show m + 1 ≠ m + 1 + 1 by omega) (.int .i64 (r.x + k))).far (p := ⟨m + 1 + 1 + 1, 0, none⟩) (show m + 1 ≠ m + 1 + 1 + 1 by omega) (.int .i64 (r.x + k + 1))).far (p := ⟨m + 1 + 1 + 1, 2, none⟩) (show m + 1 ≠ m + 1 + 1 + 1 by omega) (.int .i64 (r.w - k - 1))).drew
    have hD2 : Blk (((((wc.setCell ⟨m + 1, 2, none⟩ (.int .i64 (k))).setCell ⟨m + 1 + 1, 2, none⟩ (.int .i64 (1))).setCell ⟨m + 1 + 1, 0, none⟩ (.int .i64 (r.x + k))).setCell ⟨m + 1 + 1 + 1, 0, none⟩ (.int .i64 (r.x + k + 1))).setCell ⟨m + 1 + 1 + 1, 2, none⟩ (.int .i64 (r.w - k - 1))).drew (m + 1 + 1) 41 #[.int .i64 (r.x + k), .int .i64 (r.y), .int .i64 (1), .int .i64 (r.h)] := (((((hC2.far (p := ⟨m + 1, 2, none⟩) (show m + 1 + 1 ≠ m + 1 by omega) (.int .i64 (k))).set 2 (.int .i64 (1))).set 0 (.int .i64 (r.x + k))).far (p := ⟨m + 1 + 1 + 1, 0, none⟩) (show m + 1 + 1 ≠ m + 1 + 1 + 1 by omega) (.int .i64 (r.x + k + 1))).far (p := ⟨m + 1 + 1 + 1, 2, none⟩) (show m + 1 + 1 ≠ m + 1 + 1 + 1 by omega) (.int .i64 (r.w - k - 1))).drew
    have hD3 : Blk (((((wc.setCell ⟨m + 1, 2, none⟩ (.int .i64 (k))).setCell ⟨m + 1 + 1, 2, none⟩ (.int .i64 (1))).setCell ⟨m + 1 + 1, 0, none⟩ (.int .i64 (r.x + k))).setCell ⟨m + 1 + 1 + 1, 0, none⟩ (.int .i64 (r.x + k + 1))).setCell ⟨m + 1 + 1 + 1, 2, none⟩ (.int .i64 (r.w - k - 1))).drew (m + 1 + 1 + 1) 41 #[.int .i64 (r.x + k + 1), .int .i64 (r.y), .int .i64 (r.w - k - 1), .int .i64 (r.h)] := (((((hC3.far (p := ⟨m + 1, 2, none⟩) (show m + 1 + 1 + 1 ≠ m + 1 by omega) (.int .i64 (k))).far (p := ⟨m + 1 + 1, 2, none⟩) (show m + 1 + 1 + 1 ≠ m + 1 + 1 by omega) (.int .i64 (1))).far (p := ⟨m + 1 + 1, 0, none⟩) (show m + 1 + 1 + 1 ≠ m + 1 + 1 by omega) (.int .i64 (r.x + k))).set 0 (.int .i64 (r.x + k + 1))).set 2 (.int .i64 (r.w - k - 1))).drew
    have hbe : Below m w (((((wc.setCell ⟨m + 1, 2, none⟩ (.int .i64 (k))).setCell ⟨m + 1 + 1, 2, none⟩ (.int .i64 (1))).setCell ⟨m + 1 + 1, 0, none⟩ (.int .i64 (r.x + k))).setCell ⟨m + 1 + 1 + 1, 0, none⟩ (.int .i64 (r.x + k + 1))).setCell ⟨m + 1 + 1 + 1, 2, none⟩ (.int .i64 (r.w - k - 1))).drew := (((((hbd.setCell (p := ⟨m + 1, 2, none⟩) (show m ≤ m + 1 by omega) (.int .i64 (k))).setCell (p := ⟨m + 1 + 1, 2, none⟩) (show m ≤ m + 1 + 1 by omega) (.int .i64 (1))).setCell (p := ⟨m + 1 + 1, 0, none⟩) (show m ≤ m + 1 + 1 by omega) (.int .i64 (r.x + k))).setCell (p := ⟨m + 1 + 1 + 1, 0, none⟩) (show m ≤ m + 1 + 1 + 1 by omega) (.int .i64 (r.x + k + 1))).setCell (p := ⟨m + 1 + 1 + 1, 2, none⟩) (show m ≤ m + 1 + 1 + 1 by omega) (.int .i64 (r.w - k - 1))).drew
    generalize (((((wc.setCell ⟨m + 1, 2, none⟩ (.int .i64 (k))).setCell ⟨m + 1 + 1, 2, none⟩ (.int .i64 (1))).setCell ⟨m + 1 + 1, 0, none⟩ (.int .i64 (r.x + k))).setCell ⟨m + 1 + 1 + 1, 0, none⟩ (.int .i64 (r.x + k + 1))).setCell ⟨m + 1 + 1 + 1, 2, none⟩ (.int .i64 (r.w - k - 1))).drew = w5 at hD1 hD2 hD3 hbe ⊢
    clear hC0 hC1 hC2 hC3 hbd c1' r0 r1 r2 r3 x10 x11 x12 x13 x20 x21 x22 x23 x30 x31 x32 x33 f10 f11 f12 f13 f20 f21 f22 f23 f30 f31 f32 f33
    have x10 : w5.cell? ⟨m + 1, 0, none⟩ = some (.int .i64 (r.x)) := hD1.cell 0
    have f10 : w5.frozen? ⟨m + 1, 0, none⟩ = false := hD1.free 0
    have x11 : w5.cell? ⟨m + 1, 1, none⟩ = some (.int .i64 (r.y)) := hD1.cell 1
    have f11 : w5.frozen? ⟨m + 1, 1, none⟩ = false := hD1.free 1
    have x12 : w5.cell? ⟨m + 1, 2, none⟩ = some (.int .i64 (k)) := hD1.cell 2
    have f12 : w5.frozen? ⟨m + 1, 2, none⟩ = false := hD1.free 2
    have x13 : w5.cell? ⟨m + 1, 3, none⟩ = some (.int .i64 (r.h)) := hD1.cell 3
    have f13 : w5.frozen? ⟨m + 1, 3, none⟩ = false := hD1.free 3
    have x20 : w5.cell? ⟨m + 1 + 1, 0, none⟩ = some (.int .i64 (r.x + k)) := hD2.cell 0
    have f20 : w5.frozen? ⟨m + 1 + 1, 0, none⟩ = false := hD2.free 0
    have x21 : w5.cell? ⟨m + 1 + 1, 1, none⟩ = some (.int .i64 (r.y)) := hD2.cell 1
    have f21 : w5.frozen? ⟨m + 1 + 1, 1, none⟩ = false := hD2.free 1
    have x22 : w5.cell? ⟨m + 1 + 1, 2, none⟩ = some (.int .i64 (1)) := hD2.cell 2
    have f22 : w5.frozen? ⟨m + 1 + 1, 2, none⟩ = false := hD2.free 2
    have x23 : w5.cell? ⟨m + 1 + 1, 3, none⟩ = some (.int .i64 (r.h)) := hD2.cell 3
    have f23 : w5.frozen? ⟨m + 1 + 1, 3, none⟩ = false := hD2.free 3
    have x30 : w5.cell? ⟨m + 1 + 1 + 1, 0, none⟩ = some (.int .i64 (r.x + k + 1)) := hD3.cell 0
    have f30 : w5.frozen? ⟨m + 1 + 1 + 1, 0, none⟩ = false := hD3.free 0
    have x31 : w5.cell? ⟨m + 1 + 1 + 1, 1, none⟩ = some (.int .i64 (r.y)) := hD3.cell 1
    have f31 : w5.frozen? ⟨m + 1 + 1 + 1, 1, none⟩ = false := hD3.free 1
    have x32 : w5.cell? ⟨m + 1 + 1 + 1, 2, none⟩ = some (.int .i64 (r.w - k - 1)) := hD3.cell 2
    have f32 : w5.frozen? ⟨m + 1 + 1 + 1, 2, none⟩ = false := hD3.free 2
    have x33 : w5.cell? ⟨m + 1 + 1 + 1, 3, none⟩ = some (.int .i64 (r.h)) := hD3.cell 3
    have f33 : w5.frozen? ⟨m + 1 + 1 + 1, 3, none⟩ = false := hD3.free 3
    go_region
    have hE1 := (far4 (b := m + 1 + 1 + 1) (v0 := .int .i64 (r.x + k + 1)) (v1 := .int .i64 (r.y)) (v2 := .int .i64 (r.w - k - 1)) (v3 := .int .i64 (r.h)) (far4 (b := m + 1 + 1) (v0 := .int .i64 (r.x + k)) (v1 := .int .i64 (r.y)) (v2 := .int .i64 (1)) (v3 := .int .i64 (r.h)) (set4 (v0 := .int .i64 (r.x)) (v1 := .int .i64 (r.y)) (v2 := .int .i64 (k)) (v3 := .int .i64 (r.h)) hD1) (by omega)) (by omega)).drew
    have hE2 := (far4 (b := m + 1 + 1 + 1) (v0 := .int .i64 (r.x + k + 1)) (v1 := .int .i64 (r.y)) (v2 := .int .i64 (r.w - k - 1)) (v3 := .int .i64 (r.h)) (set4 (v0 := .int .i64 (r.x + k)) (v1 := .int .i64 (r.y)) (v2 := .int .i64 (1)) (v3 := .int .i64 (r.h)) (far4 (b := m + 1) (v0 := .int .i64 (r.x)) (v1 := .int .i64 (r.y)) (v2 := .int .i64 (k)) (v3 := .int .i64 (r.h)) hD2 (by omega))) (by omega)).drew
    have hE3 := (set4 (v0 := .int .i64 (r.x + k + 1)) (v1 := .int .i64 (r.y)) (v2 := .int .i64 (r.w - k - 1)) (v3 := .int .i64 (r.h)) (far4 (b := m + 1 + 1) (v0 := .int .i64 (r.x + k)) (v1 := .int .i64 (r.y)) (v2 := .int .i64 (1)) (v3 := .int .i64 (r.h)) (far4 (b := m + 1) (v0 := .int .i64 (r.x)) (v1 := .int .i64 (r.y)) (v2 := .int .i64 (k)) (v3 := .int .i64 (r.h)) hD3 (by omega)) (by omega))).drew
    have hbf := (below4 (b := m + 1 + 1 + 1) (v0 := .int .i64 (r.x + k + 1)) (v1 := .int .i64 (r.y)) (v2 := .int .i64 (r.w - k - 1)) (v3 := .int .i64 (r.h)) (below4 (b := m + 1 + 1) (v0 := .int .i64 (r.x + k)) (v1 := .int .i64 (r.y)) (v2 := .int .i64 (1)) (v3 := .int .i64 (r.h)) (below4 (b := m + 1) (v0 := .int .i64 (r.x)) (v1 := .int .i64 (r.y)) (v2 := .int .i64 (k)) (v3 := .int .i64 (r.h)) hbe (by omega)) (by omega)) (by omega)).drew
    generalize ((((((((((((w5.setCell ⟨m + 1, 0, none⟩ (.int .i64 (r.x))).setCell ⟨m + 1, 1, none⟩ (.int .i64 (r.y))).setCell ⟨m + 1, 2, none⟩ (.int .i64 (k))).setCell ⟨m + 1, 3, none⟩ (.int .i64 (r.h))).setCell ⟨m + 1 + 1, 0, none⟩ (.int .i64 (r.x + k))).setCell ⟨m + 1 + 1, 1, none⟩ (.int .i64 (r.y))).setCell ⟨m + 1 + 1, 2, none⟩ (.int .i64 (1))).setCell ⟨m + 1 + 1, 3, none⟩ (.int .i64 (r.h))).setCell ⟨m + 1 + 1 + 1, 0, none⟩ (.int .i64 (r.x + k + 1))).setCell ⟨m + 1 + 1 + 1, 1, none⟩ (.int .i64 (r.y))).setCell ⟨m + 1 + 1 + 1, 2, none⟩ (.int .i64 (r.w - k - 1))).setCell ⟨m + 1 + 1 + 1, 3, none⟩ (.int .i64 (r.h))).drew = w6 at hE1 hE2 hE3 hbf ⊢
    clear hD1 hD2 hD3 hbe x10 f10 x11 f11 x12 f12 x13 f13 x20 f20 x21 f21 x22 f22 x23 f23 x30 f30 x31 f31 x32 f32 x33 f33
    have y10 : w6.cell? ⟨m + 1, 0, none⟩ = some (.int .i64 (r.x)) := hE1.cell 0
    have y11 : w6.cell? ⟨m + 1, 1, none⟩ = some (.int .i64 (r.y)) := hE1.cell 1
    have y12 : w6.cell? ⟨m + 1, 2, none⟩ = some (.int .i64 (k)) := hE1.cell 2
    have y13 : w6.cell? ⟨m + 1, 3, none⟩ = some (.int .i64 (r.h)) := hE1.cell 3
    have y20 : w6.cell? ⟨m + 1 + 1, 0, none⟩ = some (.int .i64 (r.x + k)) := hE2.cell 0
    have y21 : w6.cell? ⟨m + 1 + 1, 1, none⟩ = some (.int .i64 (r.y)) := hE2.cell 1
    have y22 : w6.cell? ⟨m + 1 + 1, 2, none⟩ = some (.int .i64 (1)) := hE2.cell 2
    have y23 : w6.cell? ⟨m + 1 + 1, 3, none⟩ = some (.int .i64 (r.h)) := hE2.cell 3
    have y30 : w6.cell? ⟨m + 1 + 1 + 1, 0, none⟩ = some (.int .i64 (r.x + k + 1)) := hE3.cell 0
    have y31 : w6.cell? ⟨m + 1 + 1 + 1, 1, none⟩ = some (.int .i64 (r.y)) := hE3.cell 1
    have y32 : w6.cell? ⟨m + 1 + 1 + 1, 2, none⟩ = some (.int .i64 (r.w - k - 1)) := hE3.cell 2
    have y33 : w6.cell? ⟨m + 1 + 1 + 1, 3, none⟩ = some (.int .i64 (r.h)) := hE3.cell 3
    go_wp2_with fail
    refine bodyPost_ret (v := .tuple #[.agg #[.int .i64 (r.x), .int .i64 (r.y), .int .i64 (k), .int .i64 (r.h)], .agg #[.int .i64 (r.x + k), .int .i64 (r.y), .int .i64 (1), .int .i64 (r.h)], .agg #[.int .i64 (r.x + k + 1), .int .i64 (r.y), .int .i64 (r.w - k - 1), .int .i64 (r.h)]]) ?_ rfl ⟨by rw [← HK.out]; rfl, by rw [HM.out]; exact hbf⟩
    simp [results, Tryd.results32, go_sem, y10, y11, y12, y13, y20, y21, y22, y23, y30, y31, y32, y33]
end Go.Proofs.YtmdgjmmkegkonaaDoor
