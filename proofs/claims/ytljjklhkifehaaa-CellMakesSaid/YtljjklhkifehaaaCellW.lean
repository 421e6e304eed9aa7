/- Cells: what may be, tails, pairs. -/
import Derived.Test.YtljjklhkifehaaaWidW
import Derived.Test.YtljjklhkifehaaaBlkL
import Derived.Deep.QuietTactic
import Derived.BigQuiet
import Derived.Deep.RegionHeld3
namespace Go.Proofs.Ytljjklhkifehaaa
open Go.RowKit
theorem below_drewN {B : Nat} {a w : World} (h : Below B a w) (n : Nat) : Below B a (w.drewN n) := ⟨h.os, h.tape, h.output, h.size, h.block⟩
abbrev cv (r f b x : Int) : Value := .agg #[.int .i32 r, .int .u8 f, .int .u8 b, .int .u8 x]
set_option maxRecDepth 100000 in
set_option maxHeartbeats 2000000 in
theorem check_one (r f b x : Int) (w : World) (h1 : bits .and .u8 x 64 = 0) (h2 : bits .and .u8 x 128 = 0) (hw : wid r = 1) (hr0 : -2147483648 ≤ r) (hr1 : r ≤ 2147483647) :
    Calls Try.prog 29 #[cv r f b x] w fun e w' => e = .returned (.bool true) ∧ Below w.heap.size w w' := by
  have HW := Lib.hid hw
  clear hw
  have hb0 := (Below.refl w.heap.size w).alloc (Nat.le_refl _) (.cells #[.int .i32 r, .int .u8 f, .int .u8 b, .int .u8 x] 23)
  go_enter Try.func29, Try.ntmps29
  go_wp2_with fail
  go_quiet (fail)
  go_wp2_with fail
  refine (width_any _ _ hr0 hr1).mono ?_
  rintro e w1 ⟨rfl, hb1⟩
  rw [HW.out]
  go_wp2_with fail
  go_ret
  exact ⟨rfl, (below_drewN hb0 _).trans (hb1.mono hb0.size)⟩
set_option maxRecDepth 100000 in
set_option maxHeartbeats 2000000 in
theorem check_two (r f b x : Int) (w : World) (h1 : bits .and .u8 x 64 = 64) (h2 : bits .and .u8 x 128 = 0) (hw : wid r = 2) (hr0 : -2147483648 ≤ r) (hr1 : r ≤ 2147483647) :
    Calls Try.prog 29 #[cv r f b x] w fun e w' => e = .returned (.bool true) ∧ Below w.heap.size w w' := by
  have HW := Lib.hid hw
  clear hw
  have hb0 := (Below.refl w.heap.size w).alloc (Nat.le_refl _) (.cells #[.int .i32 r, .int .u8 f, .int .u8 b, .int .u8 x] 23)
  go_enter Try.func29, Try.ntmps29
  go_wp2_with fail
  go_quiet (fail)
  go_wp2_with fail
  refine (width_any _ _ hr0 hr1).mono ?_
  rintro e w1 ⟨rfl, hb1⟩
  rw [HW.out]
  go_wp2_with fail
  go_ret
  exact ⟨rfl, (below_drewN hb0 _).trans (hb1.mono hb0.size)⟩
set_option maxRecDepth 100000 in
set_option maxHeartbeats 2000000 in
theorem check_tail (f b x : Int) (w : World) (h1 : bits .and .u8 x 64 = 0) (h2 : bits .and .u8 x 128 = 128) :
    Calls Try.prog 29 #[cv 0 f b x] w fun e w' => e = .returned (.bool true) ∧ Below w.heap.size w w' := by
  have hb0 := (Below.refl w.heap.size w).alloc (Nat.le_refl _) (.cells #[.int .i32 0, .int .u8 f, .int .u8 b, .int .u8 x] 23)
  go_enter Try.func29, Try.ntmps29
  go_wp2_with fail
  go_quiet (fail)
  go_wp2_with fail
  go_ret
  exact ⟨rfl, below_drewN hb0 _⟩
set_option maxRecDepth 100000 in
set_option maxHeartbeats 2000000 in
theorem tailOf_any (r f b x y : Int) (w : World) (h : bits .or .u8 (bits .andNot .u8 x 64) 128 = y) :
    Calls Try.prog 24 #[cv r f b x] w fun e w' => e = .returned (cv 0 f b y) ∧ Below w.heap.size w w' := by
  go_enter Try.func24, Try.ntmps24
  go_wp2_with fail
  refine bodyPost_ret (v := cv 0 f b y) ?_ rfl ⟨rfl, ?_⟩
  · simp [results, Try.results24, go_sem]
  · exact ((((((Below.refl _ _).alloc (Nat.le_refl _) _).alloc (by simp) _))))
set_option maxRecDepth 100000 in
set_option maxHeartbeats 2000000 in
theorem single_one (r f b x : Int) (w : World) (h1 : bits .and .u8 x 64 = 0) (h2 : bits .and .u8 x 128 = 0) (h3 : bits .and .u8 x 192 = 0) (hw : wid r = 1) (hr0 : -2147483648 ≤ r) (hr1 : r ≤ 2147483647) :
    Calls Try.prog 28 #[cv r f b x] w fun e w' => e = .returned (.bool true) ∧ Below w.heap.size w w' := by
  have HW := Lib.hid hw
  clear hw
  have hb0 := (Below.refl w.heap.size w).alloc (Nat.le_refl _) (.cells #[.int .i32 r, .int .u8 f, .int .u8 b, .int .u8 x] 23)
  have hc := check_one r f b x (w.alloc (.cells #[.int .i32 r, .int .u8 f, .int .u8 b, .int .u8 x] 23)) h1 h2 HW.out hr0 hr1
  clear h1 h2
  go_enter Try.func28, Try.ntmps28
  go_wp2_with fail
  refine hc.mono ?_
  rintro e w1 ⟨rfl, hb1⟩
  go_wp2_with fail
  go_ret
  exact ⟨rfl, hb0.trans (hb1.mono hb0.size)⟩
set_option maxRecDepth 100000 in
set_option maxHeartbeats 4000000 in
theorem paired_one (g n c i : Nat) (r f b x : Int) (w : World) (hi : i < n) (c0 : w.cell? ⟨g, i * 4, none⟩ = some (.int .i32 r)) (c1 : w.cell? ⟨g, i * 4 + 1, none⟩ = some (.int .u8 f)) (c2 : w.cell? ⟨g, i * 4 + 2, none⟩ = some (.int .u8 b)) (c3 : w.cell? ⟨g, i * 4 + 3, none⟩ = some (.int .u8 x))
    (h1 : bits .and .u8 x 64 = 0) :
    Calls Try.prog 27 #[.slice (some ⟨g, 0, none⟩) n c, .int .i64 i] w fun e w' => e = .returned (.bool false) ∧ Below w.heap.size w w' := by
  go_enter Try.func27, Try.ntmps27
  go_wp2_with fail
  go_quiet (fail)
  go_wp2_with fail
  go_ret
  exact ⟨rfl, below_drewN ((Below.refl w.heap.size w).alloc (Nat.le_refl _) _) _⟩
theorem keepc {w w' : World} (hb : Below w.heap.size w w') {p : Addr} {v : Value} (h : w.cell? p = some v) : w'.cell? p = some v := (hb.cell (World.block_lt_of_cell? w p h)).trans h
/-- A cell in a place of its own, and the next one in a row. -/
abbrev HeldQ (m g j : Nat) (r f b x y : Int) (w0 w : World) : Prop :=
  w.cell? ⟨m, 0, none⟩ = some (.int .i32 r) ∧ w.cell? ⟨m, 1, none⟩ = some (.int .u8 f) ∧ w.cell? ⟨m, 2, none⟩ = some (.int .u8 b) ∧ w.cell? ⟨m, 3, none⟩ = some (.int .u8 x) ∧
  w.cell? ⟨g, j, none⟩ = some (.int .i32 0) ∧ w.cell? ⟨g, j + 1, none⟩ = some (.int .u8 f) ∧ w.cell? ⟨g, j + 2, none⟩ = some (.int .u8 b) ∧ w.cell? ⟨g, j + 3, none⟩ = some (.int .u8 y) ∧ Below w0.heap.size w0 w ∧ w0.heap.size ≤ w.heap.size
theorem HeldQ.keep {m g j : Nat} {r f b x y : Int} {w0 w w' : World} (h : HeldQ m g j r f b x y w0 w) (hb : Below w.heap.size w w') : HeldQ m g j r f b x y w0 w' := by
  obtain ⟨h0, h1, h2, h3, d0, d1, d2, d3, hB, hS⟩ := h
  exact ⟨keepc hb h0, keepc hb h1, keepc hb h2, keepc hb h3, keepc hb d0, keepc hb d1, keepc hb d2, keepc hb d3, hB.trans (hb.mono hS), Nat.le_trans hS hb.size⟩
theorem HeldQ.bel {m g j : Nat} {r f b x y : Int} {w0 w : World} (h : HeldQ m g j r f b x y w0 w) : Below w0.heap.size w0 w := h.2.2.2.2.2.2.2.2.1
set_option maxRecDepth 100000 in
set_option maxHeartbeats 8000000 in
theorem paired_two (g n c i : Nat) (r f b x y : Int) (w : World) (hn : n ≤ 1000) (hi : i + 1 < n) (hr0 : -2147483648 ≤ r) (hr1 : r ≤ 2147483647) (c0 : w.cell? ⟨g, i * 4, none⟩ = some (.int .i32 r)) (c1 : w.cell? ⟨g, i * 4 + 1, none⟩ = some (.int .u8 f)) (c2 : w.cell? ⟨g, i * 4 + 2, none⟩ = some (.int .u8 b)) (c3 : w.cell? ⟨g, i * 4 + 3, none⟩ = some (.int .u8 x))
    (d0 : w.cell? ⟨g, (i + 1) * 4, none⟩ = some (.int .i32 0)) (d1 : w.cell? ⟨g, (i + 1) * 4 + 1, none⟩ = some (.int .u8 f)) (d2 : w.cell? ⟨g, (i + 1) * 4 + 2, none⟩ = some (.int .u8 b)) (d3 : w.cell? ⟨g, (i + 1) * 4 + 3, none⟩ = some (.int .u8 y))
    (h1 : bits .and .u8 x 64 = 64) (h2 : bits .and .u8 x 128 = 0) (h3 : bits .or .u8 (bits .andNot .u8 x 64) 128 = y) (hw : wid r = 2) :
    Calls Try.prog 27 #[.slice (some ⟨g, 0, none⟩) n c, .int .i64 i] w fun e w' => e = .returned (.bool true) ∧ Below w.heap.size w w' := by
  have HW := Lib.hid hw
  have H3 := Lib.hid h3
  clear hw h3
  go_enter Try.func27, Try.ntmps27
  go_wp2_with fail
  have hb0 := (Below.refl w.heap.size w).alloc (Nat.le_refl _) (.cells #[.int .i32 r, .int .u8 f, .int .u8 b, .int .u8 x] 23)
  have hN := Blk.new w 23 #[.int .i32 r, .int .u8 f, .int .u8 b, .int .u8 x]
  have hS : HeldQ w.heap.size g ((i + 1) * 4) r f b x y w (w.alloc (.cells #[.int .i32 r, .int .u8 f, .int .u8 b, .int .u8 x] 23)).drew :=
    ⟨hN.cell 0, hN.cell 1, hN.cell 2, hN.cell 3, keepc hb0 d0, keepc hb0 d1, keepc hb0 d2, keepc hb0 d3, hb0.drew, hb0.size⟩
  have i1 : IntKind.i64.wrap ((i : Int) + 1) = (i : Int) + 1 := by rw [IntKind.wrap_i64]; omega
  have i2 : decide ((i : Int) + 1 < (n : Int)) = true := decide_eq_true (by omega)
  have i3 : (0 : Int) ≤ (i : Int) + 1 := by omega
  have i4 : ((i : Int) + 1).toNat = i + 1 := by omega
  have i5 : (i : Int) + 1 < (n : Int) := by omega
  clear hN hb0 c0 c1 c2 c3 d0 d1 d2 d3
  generalize (w.alloc (.cells #[.int .i32 r, .int .u8 f, .int .u8 b, .int .u8 x] 23)) = w2 at hS ⊢
  go_region_held3 (fun w' => w'.cell? ⟨w.heap.size, 0, none⟩ = some (.int .i32 r) ∧ w'.cell? ⟨w.heap.size, 1, none⟩ = some (.int .u8 f) ∧ w'.cell? ⟨w.heap.size, 2, none⟩ = some (.int .u8 b) ∧ w'.cell? ⟨w.heap.size, 3, none⟩ = some (.int .u8 x) ∧ w'.cell? ⟨g, (i + 1) * 4, none⟩ = some (.int .i32 0) ∧ w'.cell? ⟨g, (i + 1) * 4 + 1, none⟩ = some (.int .u8 f) ∧ w'.cell? ⟨g, (i + 1) * 4 + 2, none⟩ = some (.int .u8 b) ∧ w'.cell? ⟨g, (i + 1) * 4 + 3, none⟩ = some (.int .u8 y) ∧ Below w.heap.size w w' ∧ w.heap.size ≤ w'.heap.size) (first | exact hS | exact hq) (first
    | (go_at_call 29; refine (check_two r f b x _ h1 h2 HW.out hr0 hr1).mono ?_; rintro e w4 ⟨rfl, hb4⟩; have hq := HeldQ.keep (by assumption) hb4)
    | (go_at_call 24; refine (tailOf_any r f b x y _ H3.out).mono ?_; rintro e w4 ⟨rfl, hb4⟩; have hq := HeldQ.keep (by assumption) hb4))
  go_wp2_with fail
  go_ret
  exact ⟨rfl, HeldQ.bel (by assumption)⟩
end Go.Proofs.Ytljjklhkifehaaa
