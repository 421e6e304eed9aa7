/- The chapter's example (for DiffTells). -/
import Derived.Test.YtpjafocgabhieaaMgW
import Derived.Test.YtpjafocgabhieaaDifR
import Derived.Test.YtpjafocgabhieaaCntR
import Derived.Test.YtpjafocgabhieaaWhoG
namespace Go.Proofs.Ytpjafocgabhieaa
open Go.RowKit Go.Sort
theorem abc_cells : cellsP [2, 3, 6] = [⟨97, 0, 0, 0⟩, ⟨98, 0, 0, 0⟩, ⟨99, 0, 0, 0⟩] := by rfl
theorem x_cells : cellsP [10] = [⟨120, 0, 0, 0⟩] := by rfl
theorem abc_grid : gridP 3 1 [⟨97, 0, 0, 0⟩, ⟨98, 0, 0, 0⟩, ⟨99, 0, 0, 0⟩] = true := by rfl
theorem blank_grid : gridP 3 1 (blanks 3) = true := by rfl
theorem abc_one : ∀ c ∈ [(⟨97, 0, 0, 0⟩ : Cl), ⟨98, 0, 0, 0⟩, ⟨99, 0, 0, 0⟩], oneC c = true := by decide
theorem axc_one : ∀ c ∈ [(⟨97, 0, 0, 0⟩ : Cl), ⟨120, 0, 0, 0⟩, ⟨99, 0, 0, 0⟩], oneC c = true := by decide
theorem abc_diff : diffP 3 1 3 1 [⟨97, 0, 0, 0⟩, ⟨98, 0, 0, 0⟩, ⟨99, 0, 0, 0⟩] [⟨97, 0, 0, 0⟩, ⟨120, 0, 0, 0⟩, ⟨99, 0, 0, 0⟩] = [6, 2, 2, 0, 2, 2, 0, 240, 1, 0, 0, 0] := by
  decide +kernel
abbrev gA : List Cl := [⟨97, 0, 0, 0⟩, ⟨98, 0, 0, 0⟩, ⟨99, 0, 0, 0⟩]
abbrev gB : List Cl := [⟨97, 0, 0, 0⟩, ⟨120, 0, 0, 0⟩, ⟨99, 0, 0, 0⟩]
/-- The cells of 2, 3, 6: three of them. -/
theorem cells_abc (w : World) (A : Option Addr) (c : Nat) (hA : Ints w A [2, 3, 6]) : Calls Try.prog 12 #[.slice A 3 c] w fun e w' => ∃ (ad : Addr) (c' : Nat), e = .returned (.slice (some ad) 3 c') ∧ RowS w' (some ad) 3 c' gA ∧ Below w.heap.size w w' := by
  refine (cells_gen A 3 c [2, 3, 6] w rfl hA).mono ?_
  rintro e w' ⟨A', c', m, rfl, hR, _, hb⟩
  rw [abc_cells] at hR
  obtain rfl : 3 = m := hR.len
  obtain ⟨ad, rfl, _⟩ := hR.some_ad' (by omega)
  exact ⟨ad, c', rfl, hR, hb⟩
theorem cells_x (w : World) (A : Option Addr) (c : Nat) (hA : Ints w A [10]) : Calls Try.prog 12 #[.slice A 1 c] w fun e w' => ∃ (ad : Addr) (c' : Nat), e = .returned (.slice (some ad) 1 c') ∧ RowS w' (some ad) 1 c' [⟨120, 0, 0, 0⟩] ∧ Below w.heap.size w w' := by
  refine (cells_gen A 1 c [10] w rfl hA).mono ?_
  rintro e w' ⟨A', c', m, rfl, hR, _, hb⟩
  rw [x_cells] at hR
  obtain rfl : 1 = m := hR.len
  obtain ⟨ad, rfl, _⟩ := hR.some_ad' (by omega)
  exact ⟨ad, c', rfl, hR, hb⟩
theorem put_abc (w : World) (g : Nat) (ad : Addr) (c c' : Nat) (hS : RowS w (some ⟨g, 0, none⟩) 3 c (blanks 3)) (hB : RowS w (some ad) 3 c' gA) : Calls Try.prog 10 #[grv 3 1 (some ⟨g, 0, none⟩) 3 c, .int .i64 0, .int .i64 0, .slice (some ad) 3 c'] w fun e w' => ∃ (g : Nat) (c' : Nat), e = .returned (grv 3 1 (some ⟨g, 0, none⟩) 3 c') ∧ RowS w' (some ⟨g, 0, none⟩) 3 c' gA ∧ Below w.heap.size w w' := by
  refine (putG_gen 3 ⟨g, 0, none⟩ c (blanks 3) 0 3 3 c' ad gA w (by omega) (by omega) hS hB blank_grid (by omega) (by omega) (by omega) abc_one).mono ?_
  rintro e w' ⟨g, c', rfl, hR, _, hb⟩
  exact ⟨g, c', rfl, hR, hb⟩
theorem put_x (w : World) (g : Nat) (ad : Addr) (c c' : Nat) (hS : RowS w (some ⟨g, 0, none⟩) 3 c gA) (hB : RowS w (some ad) 1 c' [⟨120, 0, 0, 0⟩]) : Calls Try.prog 10 #[grv 3 1 (some ⟨g, 0, none⟩) 3 c, .int .i64 1, .int .i64 0, .slice (some ad) 1 c'] w fun e w' => ∃ (g : Nat) (c' : Nat), e = .returned (grv 3 1 (some ⟨g, 0, none⟩) 3 c') ∧ RowS w' (some ⟨g, 0, none⟩) 3 c' gB ∧ w.heap.size ≤ g ∧ Below w.heap.size w w' := by
  refine (putG_gen 3 ⟨g, 0, none⟩ c gA 1 2 1 c' ad [⟨120, 0, 0, 0⟩] w (by omega) (by omega) hS hB abc_grid (by omega) (by omega) (by omega) axc_one).mono ?_
  rintro e w' ⟨g, c', rfl, hR, hg, hb⟩
  exact ⟨g, c', rfl, hR, hg, hb⟩
theorem diff_ab (w : World) (g h : Nat) (c c' : Nat) (hA : RowS w (some ⟨g, 0, none⟩) 3 c gA) (hB : RowS w (some ⟨h, 0, none⟩) 3 c' gB) : Calls Try.prog 13 #[grv 3 1 (some ⟨g, 0, none⟩) 3 c, grv 3 1 (some ⟨h, 0, none⟩) 3 c'] w fun e w' => e = .returned (.string ⟨#[6, 2, 2, 0, 2, 2, 0, 240, 1, 0, 0, 0]⟩) ∧ Below w.heap.size w w' := by
  refine (diffG_gen 3 1 3 1 _ _ 3 c 3 c' gA gB w hA hB).mono ?_
  rintro e w' ⟨rfl, hb⟩
  rw [abc_diff]
  exact ⟨rfl, hb⟩
/-- The example's two grids, as they lie. -/
structure FinA (w wf : World) (B G g3 c3 g6 c6 : Nat) : Prop where
  a : Blk wf B 32 (grA 3 1 (some ⟨g3, 0, none⟩) 3 c3)
  b : Blk wf G 32 (grA 3 1 (some ⟨g6, 0, none⟩) 3 c6)
  ra : RowS wf (some ⟨g3, 0, none⟩) 3 c3 gA
  rb : RowS wf (some ⟨g6, 0, none⟩) 3 c6 gB
  below : Below w.heap.size w wf
theorem FinA.st {w w6 : World} {B G g3 c3 g6 c6 : Nat} (hB : Blk w6 B 32 (grA 3 1 (some ⟨g3, 0, none⟩) 3 c3)) (hz : Blk w6 G 32 (grA 0 0 none 0 0)) (hne : B < G) (hA : RowS w6 (some ⟨g3, 0, none⟩) 3 c3 gA) (hR : RowS w6 (some ⟨g6, 0, none⟩) 3 c6 gB) (hb : Below w.heap.size w w6) (h1 : g3 < G) (h2 : G < g6) (hw : w.heap.size ≤ G) : FinA w (stG w6 G 3 1 (some ⟨g6, 0, none⟩) 3 c6) B G g3 c3 g6 c6 :=
  ⟨stG_far hB (by omega) _ _ _ _ _, stG_blk hz _ _ _ _ _, stG_row hA (fun _ a e => by injection e with e; subst e; simp only; omega) _ _ _ _ _, stG_row hR (fun _ a e => by injection e with e; subst e; simp only; omega) _ _ _ _ _, stG_below hb hw _ _ _ _ _⟩
theorem FinA.al {w w6 : World} {B g3 c3 g6 c6 : Nat} (hB : Blk w6 B 32 (grA 3 1 (some ⟨g3, 0, none⟩) 3 c3)) (hA : RowS w6 (some ⟨g3, 0, none⟩) 3 c3 gA) (hR : RowS w6 (some ⟨g6, 0, none⟩) 3 c6 gB) (hb : Below w.heap.size w w6) : FinA w (w6.alloc (.cells (grA 3 1 (some ⟨g6, 0, none⟩) 3 c6) 32)) B w6.heap.size g3 c3 g6 c6 :=
  ⟨hB.alloc _, Blk.new _ _ _, hA.below ((Below.refl _ _).alloc (Nat.le_refl _) _), hR.below ((Below.refl _ _).alloc (Nat.le_refl _) _), hb.alloc hb.size _⟩
theorem FinA.cells {w wf : World} {B G g3 c3 g6 c6 : Nat} (h : FinA w wf B G g3 c3 g6 c6) : wf.cell? ⟨B, 0, none⟩ = some (.int .i64 3) ∧ wf.cell? ⟨B, 1, none⟩ = some (.int .i64 1) ∧ wf.cell? ⟨B, 2, none⟩ = some (.slice (some ⟨g3, 0, none⟩) 3 c3) ∧ wf.cell? ⟨G, 0, none⟩ = some (.int .i64 3) ∧ wf.cell? ⟨G, 1, none⟩ = some (.int .i64 1) ∧ wf.cell? ⟨G, 2, none⟩ = some (.slice (some ⟨g6, 0, none⟩) 3 c6) :=
  ⟨h.a.cell 0, h.a.cell 1, h.a.cell 2, h.b.cell 0, h.b.cell 1, h.b.cell 2⟩
set_option maxRecDepth 100000 in
set_option maxHeartbeats 8000000 in
theorem awake_any (w : World) : Calls Try.prog 4 #[] w fun e w' => e = .returned (.bool true) ∧ Below w.heap.size w w' := by
  go_enter Try.func4, Try.ntmps4
  go_upto_region 2 with (first
    | (go_at_call 11; refine (newG_31 _).mono ?_; rintro e w1 ⟨g1, rfl, _, hR1, hb1⟩; have hbn := (Below.refl w1.heap.size w1).alloc (Nat.le_refl _) (.cells #[.int .i64 2, .int .i64 3, .int .i64 6] 3); have hI1 : Ints (w1.alloc (.cells #[.int .i64 2, .int .i64 3, .int .i64 6] 3)) (some ⟨w1.heap.size, 0, none⟩) [2, 3, 6] := Ints.new w1 [2, 3, 6] 3)
    | (go_at_call 12; refine (cells_abc _ _ 3 hI1).mono ?_; rintro e w2 ⟨ad2, c2, rfl, hR2, hb2⟩; have hR12 := (hR1.below hbn).below hb2; have hbw2 := hb1.trans ((hbn.trans (hb2.mono hbn.size)).mono hb1.size))
    | (go_at_call 10; refine (put_abc _ _ _ _ _ hR12 hR2).mono ?_; rintro e w3 ⟨g3, c3, rfl, hR3, hb3⟩; have hbw3 := hbw2.trans (hb3.mono hbw2.size)))
  have hB4 := Blk.new w3 32 (grA 3 1 (some ⟨g3, 0, none⟩) 3 c3)
  have hbn4 := (Below.refl w3.heap.size w3).alloc (Nat.le_refl _) (.cells (grA 3 1 (some ⟨g3, 0, none⟩) 3 c3) 32)
  have hRg4 := hR3.below hbn4
  have hbw4 := hbw3.trans (hbn4.mono hbw3.size)
  clear hbn hI1 hR1 hb1 hR2 hb2 hR12 hbw2 hR3 hb3 hbw3 hbn4
  generalize w3.alloc (.cells (grA 3 1 (some ⟨g3, 0, none⟩) 3 c3) 32) = w4 at *
  generalize w3.heap.size = B1 at *
  have hbx1 := (Below.refl w4.heap.size w4).alloc (Nat.le_refl _) (.cells #[.int .i64 10] 3)
  have hbz := (Below.refl w4.heap.size w4).alloc (Nat.le_refl _) (.cells (grA 0 0 none 0 0) 32)
  have hbx2 := hbx1.alloc hbx1.size (.cells (grA 0 0 none 0 0) 32)
  have hbx3 := hbz.alloc hbz.size (.cells #[.int .i64 10] 3)
  have hI1 : Ints (w4.alloc (.cells #[.int .i64 10] 3)) (some ⟨w4.heap.size, 0, none⟩) [10] := Ints.new w4 [10] 3
  have hI2 : Ints ((w4.alloc (.cells #[.int .i64 10] 3)).alloc (.cells (grA 0 0 none 0 0) 32)) (some ⟨w4.heap.size, 0, none⟩) [10] := Elems.alloc hI1 _
  have hI3 : Ints ((w4.alloc (.cells (grA 0 0 none 0 0) 32)).alloc (.cells #[.int .i64 10] 3)) (some ⟨w4.heap.size + 1, 0, none⟩) [10] := by
    have h := Ints.new (w4.alloc (.cells (grA 0 0 none 0 0) 32)) [10] 3
    rw [World.size_alloc] at h
    exact h
  have hz2 : Blk ((w4.alloc (.cells #[.int .i64 10] 3)).alloc (.cells (grA 0 0 none 0 0) 32)) (w4.heap.size + 1) 32 (grA 0 0 none 0 0) := by
    have h := Blk.new (w4.alloc (.cells #[.int .i64 10] 3)) 32 (grA 0 0 none 0 0)
    rw [World.size_alloc] at h
    exact h
  have hz3 : Blk ((w4.alloc (.cells (grA 0 0 none 0 0) 32)).alloc (.cells #[.int .i64 10] 3)) w4.heap.size 32 (grA 0 0 none 0 0) := (Blk.new w4 _ _).alloc _
  have hSK : ∀ W, Below w4.heap.size w4 W → (W.cell? ⟨B1, 0, none⟩ = some (.int .i64 3) ∧ W.cell? ⟨B1, 1, none⟩ = some (.int .i64 1) ∧ W.cell? ⟨B1, 2, none⟩ = some (.slice (some ⟨g3, 0, none⟩) 3 c3)) := fun W hW => by
    have h := hB4.below hW hB4.lt
    exact ⟨h.cell 0, h.cell 1, h.cell 2⟩
  have hS0 := hSK w4.drew (Below.refl _ _).drew
  have HSK := Lib.hid hSK
  clear hSK
  go_upto_region 2 with fail
  go_region_held3 (fun W => W.cell? ⟨B1, 0, none⟩ = some (.int .i64 3) ∧ W.cell? ⟨B1, 1, none⟩ = some (.int .i64 1) ∧ W.cell? ⟨B1, 2, none⟩ = some (.slice (some ⟨g3, 0, none⟩) 3 c3)) (first
      | exact hS0 | with_reducible exact HSK.out _ hbz.drew | with_reducible exact HSK.out _ hbx1.drew | with_reducible exact HSK.out _ hbx2.drew | with_reducible exact HSK.out _ hbx3.drew | with_reducible exact HSK.out _ hq5 | with_reducible exact HSK.out _ hq5n | with_reducible exact HSK.out _ hq6 | with_reducible exact HSK.out _ hq6n
      | with_reducible exact HSK.out _ (stG_below hq6 hle1 _ _ _ _ _) | with_reducible exact HSK.out _ (stG_below hq6 hle2 _ _ _ _ _) | with_reducible exact HSK.out _ (stG_below hq6 hle3 _ _ _ _ _) | with_reducible exact HSK.out _ (hq6.alloc hq6.size _)) (first
    | (go_at_call 12; refine (cells_x _ _ 1 (by first | exact hI1 | exact hI2 | exact hI3)).mono ?_; rintro e w5 ⟨ad5, c5, rfl, hR5, hb5⟩; have hq5 : Below w4.heap.size w4 w5 := (by first | exact hbx1.drew.trans (hb5.mono hbx1.drew.size) | exact hbx2.drew.trans (hb5.mono hbx2.drew.size) | exact hbx3.drew.trans (hb5.mono hbx3.drew.size)); have hq5n := hq5.alloc hq5.size (.cells (grA 0 0 none 0 0) 32); have hg5 := hRg4.below hq5; have hg5n := hRg4.below hq5n; have hbn5 := (Below.refl w5.heap.size w5).alloc (Nat.le_refl _) (.cells (grA 0 0 none 0 0) 32); have hR5n := hR5.below hbn5; have z5c := Blk.new w5 32 (grA 0 0 none 0 0); (try have z5a : Blk w5 (w4.heap.size + 1) 32 (grA 0 0 none 0 0) := hz2.drew.below hb5 hz2.lt); (try have z5b : Blk w5 w4.heap.size 32 (grA 0 0 none 0 0) := hz3.drew.below hb5 hz3.lt))
    | (go_at_call 10; refine (put_x _ _ _ _ _ (by first | exact hg5 | exact hg5n) (by first | exact hR5 | exact hR5n)).mono ?_; rintro e w6 ⟨g6, c6, rfl, hR6, hg6, hb6⟩; have hfr5 : w5.heap.size ≤ g6 := (by first | exact hg6 | exact Nat.le_trans hbn5.size hg6); (try have hfr5c : w5.heap.size + 1 ≤ g6 := (by simpa using hg6)); have hBq6 := hB4.below (hq5.trans ((show Below w5.heap.size w5 w6 from (by first | exact hb6 | exact hbn5.trans (hb6.mono hbn5.size))).mono hq5.size)) hB4.lt; have hq56 : Below w5.heap.size w5 w6 := (by first | exact hb6 | exact hbn5.trans (hb6.mono hbn5.size)); have hq6 := hq5.trans (hq56.mono hq5.size); have hq6n := hq6.alloc hq6.size (.cells (grA 0 0 none 0 0) 32); have hn6 := (Below.refl w6.heap.size w6).alloc (Nat.le_refl _) (.cells (grA 0 0 none 0 0) 32); have hR6n := hR6.below hn6; have z6d := Blk.new w6 32 (grA 0 0 none 0 0); (try have z6a := z5a.below hq56 z5a.lt); (try have z6b := z5b.below hq56 z5b.lt); (try have z6c : Blk w6 w5.heap.size 32 (grA 0 0 none 0 0) := z5c.below hb6 z5c.lt); have hle1 := Nat.le_succ w4.heap.size; have hle2 := Nat.le_refl w4.heap.size; have hle3 := hq5.size; have hle4 := hq6.size; (try (have qa0 : w6.cell? ⟨w4.heap.size + 1, 0, none⟩ = some (.int .i64 0) := z6a.cell 0; have qaf0 := z6a.free 0; have qa1 : w6.cell? ⟨w4.heap.size + 1, 1, none⟩ = some (.int .i64 0) := z6a.cell 1; have qaf1 := z6a.free 1; have qa2 : w6.cell? ⟨w4.heap.size + 1, 2, none⟩ = some (.slice none 0 0) := z6a.cell 2; have qaf2 := z6a.free 2)); (try (have qb0 : w6.cell? ⟨w4.heap.size, 0, none⟩ = some (.int .i64 0) := z6b.cell 0; have qbf0 := z6b.free 0; have qb1 : w6.cell? ⟨w4.heap.size, 1, none⟩ = some (.int .i64 0) := z6b.cell 1; have qbf1 := z6b.free 1; have qb2 : w6.cell? ⟨w4.heap.size, 2, none⟩ = some (.slice none 0 0) := z6b.cell 2; have qbf2 := z6b.free 2)); (try (have qc0 : w6.cell? ⟨w5.heap.size, 0, none⟩ = some (.int .i64 0) := z6c.cell 0; have qcf0 := z6c.free 0; have qc1 : w6.cell? ⟨w5.heap.size, 1, none⟩ = some (.int .i64 0) := z6c.cell 1; have qcf1 := z6c.free 1; have qc2 : w6.cell? ⟨w5.heap.size, 2, none⟩ = some (.slice none 0 0) := z6c.cell 2; have qcf2 := z6c.free 2)); (try (have qd0 : (w6.alloc (.cells (grA 0 0 none 0 0) 32)).cell? ⟨w6.heap.size, 0, none⟩ = some (.int .i64 0) := z6d.cell 0; have qdf0 := z6d.free 0; have qd1 : (w6.alloc (.cells (grA 0 0 none 0 0) 32)).cell? ⟨w6.heap.size, 1, none⟩ = some (.int .i64 0) := z6d.cell 1; have qdf1 := z6d.free 1; have qd2 : (w6.alloc (.cells (grA 0 0 none 0 0) 32)).cell? ⟨w6.heap.size, 2, none⟩ = some (.slice none 0 0) := z6d.cell 2; have qdf2 := z6d.free 2))))
  all_goals
    have hbw6 := hbw4.trans (hq6.mono hbw4.size)
    have hA6 := hRg4.below hq6
    have hB1 := hB4.lt
    have hg3 : g3 < w4.heap.size := by
      obtain ⟨ad', e, hC⟩ := hRg4.some_ad' (by omega)
      injection e with e
      subst e
      exact World.block_lt_of_cell? w4 _ (hC 0 _ rfl).1.c0
    have hw4 := hbw4.size
    first
    | (show Exit.then _ _ _ _ (stG w6 (w4.heap.size + 1) 3 1 (some ⟨g6, 0, none⟩) 3 c6); have hF := FinA.st (w := w) hBq6 z6a (by omega) hA6 hR6 hbw6 (by omega) (Nat.lt_of_lt_of_le z5a.lt hfr5) (by omega); generalize stG w6 (w4.heap.size + 1) 3 1 (some ⟨g6, 0, none⟩) 3 c6 = wf at hF ⊢)
    | (show Exit.then _ _ _ _ (stG w6 w4.heap.size 3 1 (some ⟨g6, 0, none⟩) 3 c6); have hF := FinA.st (w := w) hBq6 z6b (by omega) hA6 hR6 hbw6 (by omega) (Nat.lt_of_lt_of_le z5b.lt hfr5) (by omega); generalize stG w6 w4.heap.size 3 1 (some ⟨g6, 0, none⟩) 3 c6 = wf at hF ⊢)
    | (show Exit.then _ _ _ _ (stG w6 w5.heap.size 3 1 (some ⟨g6, 0, none⟩) 3 c6); have hF := FinA.st (w := w) hBq6 z6c (by omega) hA6 hR6 hbw6 (by omega) hfr5c (by omega); generalize stG w6 w5.heap.size 3 1 (some ⟨g6, 0, none⟩) 3 c6 = wf at hF ⊢)
    | (show Exit.then _ _ _ _ (w6.alloc (.cells (grA 3 1 (some ⟨g6, 0, none⟩) 3 c6) 32)); have hF := FinA.al (w := w) hBq6 hA6 hR6 hbw6; generalize w6.alloc (.cells (grA 3 1 (some ⟨g6, 0, none⟩) 3 c6) 32) = wf at hF ⊢)
    obtain ⟨c0, c1, c2, e0, e1, e2⟩ := hF.cells
    go_wp2_with (go_at_call 13; refine (diff_ab _ _ _ _ _ hF.ra hF.rb).mono ?_; rintro e w8 ⟨rfl, hb8⟩; have hb9 := hF.below.trans (hb8.mono hF.below.size))
    go_ret
    exact ⟨rfl, hb9⟩
end Go.Proofs.Ytpjafocgabhieaa

/- Differences and counts of any two grids are told as the document tells them (for DiffTells). -/
namespace Go.Proofs.Ytpjafocgabhieaa
open Go.RowKit Go.Sort
theorem quiet_m {w : World} {f : FuncId} {args : Array Value} {v : Value} (h : ∀ W, Below w.heap.size w W → Calls Try.prog f args W fun e w' => e = .returned v ∧ Below W.heap.size W w') : ∀ d os, Calls Try.prog f args (grow (redrawn w d) os) fun e w'' => e = .returned v ∧ ∃ p : Regrown, w'' = grow (redrawn w p.d) p.os := fun d os => Calls.regrown_of (h _ (below_regrown w d os))
set_option maxRecDepth 100000 in
set_option maxHeartbeats 8000000 in
theorem tells_any (xa ya xb yb : Int) (A B : Option Addr) (na ca nb cb : Nat) (la lb : List Cl) (w : World) (hA : RowS w A na ca la) (hB : RowS w B nb cb lb) :
    Calls Try.prog 9 #[grv xa ya A na ca, grv xb yb B nb cb] w fun e w' => e = .returned (.bool true) ∧ Below w.heap.size w w' := by
  have hNa := (Blk.new w 32 (grA xa ya A na ca)).alloc (.cells (grA xb yb B nb cb) 32)
  have hNb := Blk.new (w.alloc (.cells (grA xa ya A na ca) 32)) 32 (grA xb yb B nb cb)
  rw [World.size_alloc] at hNb
  have hb0 := ((Below.refl w.heap.size w).alloc (Nat.le_refl _) (.cells (grA xa ya A na ca) 32)).alloc (by simp) (.cells (grA xb yb B nb cb) 32)
  obtain ⟨W0, hW0⟩ : ∃ W0, (w.alloc (.cells (grA xa ya A na ca) 32)).alloc (.cells (grA xb yb B nb cb) 32) = W0 := ⟨_, rfl⟩
  rw [hW0] at hNa hNb hb0
  have HA := hA.below hb0
  have HB := hB.below hb0
  have a0 : ∀ d os, (grow (redrawn W0 d) os).cell? ⟨w.heap.size, 0, none⟩ = some (.int .i64 xa) := cell_regrown (hNa.cell 0)
  have a1 : ∀ d os, (grow (redrawn W0 d) os).cell? ⟨w.heap.size, 1, none⟩ = some (.int .i64 ya) := cell_regrown (hNa.cell 1)
  have a2 : ∀ d os, (grow (redrawn W0 d) os).cell? ⟨w.heap.size, 2, none⟩ = some (.slice A na ca) := cell_regrown (hNa.cell 2)
  have b0 : ∀ d os, (grow (redrawn W0 d) os).cell? ⟨w.heap.size + 1, 0, none⟩ = some (.int .i64 xb) := cell_regrown (hNb.cell 0)
  have b1 : ∀ d os, (grow (redrawn W0 d) os).cell? ⟨w.heap.size + 1, 1, none⟩ = some (.int .i64 yb) := cell_regrown (hNb.cell 1)
  have b2 : ∀ d os, (grow (redrawn W0 d) os).cell? ⟨w.heap.size + 1, 2, none⟩ = some (.slice B nb cb) := cell_regrown (hNb.cell 2)
  have cDG := quiet_m (w := W0) (fun W hW => diffG_gen xa ya xb yb A B na ca nb cb la lb W (HA.below hW) (HB.below hW))
  have cDR := quiet_m (w := W0) (fun W hW => diffR_gen xa ya xb yb A B na ca nb cb la lb W (HA.below hW) (HB.below hW))
  have cCG := quiet_m (w := W0) (fun W hW => countG_gen xa ya xb yb A B na ca nb cb la lb W (HA.below hW) (HB.below hW))
  have cCR := quiet_m (w := W0) (fun W hW => countR_gen xa ya xb yb A B na ca nb cb la lb W (HA.below hW) (HB.below hW))
  generalize (⟨(diffP xa ya xb yb la lb).toArray⟩ : ByteArray) = S at cDG cDR
  generalize ((countP xa ya xb yb la lb : Nat) : Int) = N at cCG cCR
  have e2 : (S.toList == S.toList) = true := beq_self_eq_true _
  clear hA hB HA HB hNa hNb
  go_enter Try.func9, Try.ntmps9
  go_upto_region 1 with fail
  refine wp_region_quiet_below (by kernel_rfl) (by kernel_rfl) ?_
  repeat (first | go_big_quiet_step (first | with_reducible exact cDG _ _ | with_reducible exact cDR _ _ | with_reducible exact cCG _ _ | with_reducible exact cCR _ _) | quiet_step (first | with_reducible exact cDG _ _ | with_reducible exact cDR _ _ | with_reducible exact cCG _ _ | with_reducible exact cCR _ _))
  refine wpQuiet_nil ?_
  intro _ hw'
  obtain ⟨⟨dq, osq⟩, hw''⟩ := hw'
  subst hw''
  go_wp2_with fail
  go_ret
  exact ⟨rfl, hb0.trans ((below_regrown _ dq osq).mono hb0.size)⟩
end Go.Proofs.Ytpjafocgabhieaa

/- DiffTells: walked. -/
namespace Go.Proofs.Ytpjafocgabhieaa
open Go.RowKit Go.Sort
theorem rowS_off_grid {w : World} {A : Option Addr} {n c : Nat} {l : List Cl} {G : Nat} {x y : Int} {B : Option Addr} {m k : Nat} (h : RowS w A n c l) (hb : Blk w G 32 (grA x y B m k)) : Off A n G := fun h1 ad e hG => by
  obtain ⟨ad', e', hC⟩ := h.some_ad' h1
  rw [e] at e'
  injection e' with e'
  subst e'
  obtain ⟨d, hd⟩ : ∃ d, l[0]? = some d := ⟨_, List.getElem?_eq_getElem (by rw [h.len]; omega)⟩
  have h2 := (hC 0 d hd).1.c1
  rw [block_add, hG, hb.cell] at h2
  generalize (ad.add (0 * 4)).off = o at h2
  match o, h2 with
  | 0, h2 => simp at h2
  | 1, h2 => simp at h2
  | o + 2, h2 => simp at h2
theorem rowS_only {w w' : World} {A : Option Addr} {n c : Nat} {l : List Cl} {G : Nat} (h : RowS w A n c l) (ho : Only G w w') (hf : Off A n G) : RowS w' A n c l := by
  obtain ⟨h1, h2, h3, h4, h5⟩ := h
  refine ⟨h1, h2, h3, fun h0 => ?_, h5⟩
  obtain ⟨ad, e, hC⟩ := h4 h0
  have hne := hf (by omega) ad e
  refine ⟨ad, e, fun k d hd => ?_⟩
  obtain ⟨⟨q0, q1, q2, q3⟩, ok⟩ := hC k d hd
  have hbk : (ad.add (k * 4)).block = ad.block := block_add _ _
  have hl : (ad.add (k * 4)).block < w.heap.size := World.block_lt_of_cell? w _ q0
  have hn : (ad.add (k * 4)).block ≠ G := by rw [hbk]; exact hne
  exact ⟨⟨(ho.cell' hl hn).trans q0, (ho.cell' (p := ⟨(ad.add (k * 4)).block, (ad.add (k * 4)).off + 1, none⟩) hl hn).trans q1, (ho.cell' (p := ⟨(ad.add (k * 4)).block, (ad.add (k * 4)).off + 2, none⟩) hl hn).trans q2, (ho.cell' (p := ⟨(ad.add (k * 4)).block, (ad.add (k * 4)).off + 3, none⟩) hl hn).trans q3⟩, ok⟩
abbrev HeldT (Ba Bb Bc Bo : Nat) (wn hn : Nat) (Ag : Option Addr) (ng cg : Nat) (xb yb : Int) (Ab : Option Addr) (nb cb : Nat) (xr yr : Int) (Ar : Option Addr) (nq cr : Nat) (W' H' : Int) (A' : Option Addr) (n' c' : Nat) (w0 w : World) : Prop :=
  w.cell? ⟨Ba, 0, none⟩ = some (.int .i64 (wn : Int)) ∧ w.cell? ⟨Ba, 1, none⟩ = some (.int .i64 (hn : Int)) ∧ w.cell? ⟨Ba, 2, none⟩ = some (.slice Ag ng cg) ∧ w.cell? ⟨Bb, 0, none⟩ = some (.int .i64 xb) ∧ w.cell? ⟨Bb, 1, none⟩ = some (.int .i64 yb) ∧ w.cell? ⟨Bb, 2, none⟩ = some (.slice Ab nb cb) ∧ w.cell? ⟨Bc, 0, none⟩ = some (.int .i64 xr) ∧ w.cell? ⟨Bc, 1, none⟩ = some (.int .i64 yr) ∧ w.cell? ⟨Bc, 2, none⟩ = some (.slice Ar nq cr) ∧ w.cell? ⟨Bo, 0, none⟩ = some (.int .i64 W') ∧ w.cell? ⟨Bo, 1, none⟩ = some (.int .i64 H') ∧ w.cell? ⟨Bo, 2, none⟩ = some (.slice A' n' c') ∧ Below w0.heap.size w0 w ∧ w0.heap.size ≤ w.heap.size
section
variable {Ba Bb Bc Bo wn hn : Nat} {Ag : Option Addr} {ng cg : Nat} {xb yb : Int} {Ab : Option Addr} {nb cb : Nat} {xr yr : Int} {Ar : Option Addr} {nq cr : Nat} {W' H' : Int} {A' : Option Addr} {n' c' : Nat} {w0 w w' : World}
theorem HeldT.keep (h : HeldT Ba Bb Bc Bo wn hn Ag ng cg xb yb Ab nb cb xr yr Ar nq cr W' H' A' n' c' w0 w) (hb : Below w.heap.size w w') : HeldT Ba Bb Bc Bo wn hn Ag ng cg xb yb Ab nb cb xr yr Ar nq cr W' H' A' n' c' w0 w' := by
  obtain ⟨h0, h1, h2, h3, h4, h5, h6, h7, h8, h9, h10, h11, hB, hS⟩ := h
  exact ⟨keepc hb h0, keepc hb h1, keepc hb h2, keepc hb h3, keepc hb h4, keepc hb h5, keepc hb h6, keepc hb h7, keepc hb h8, keepc hb h9, keepc hb h10, keepc hb h11, hB.trans (hb.mono hS), Nat.le_trans hS hb.size⟩
theorem HeldT.bel (h : HeldT Ba Bb Bc Bo wn hn Ag ng cg xb yb Ab nb cb xr yr Ar nq cr W' H' A' n' c' w0 w) : Below w0.heap.size w0 w := h.2.2.2.2.2.2.2.2.2.2.2.2.1
end
set_option maxRecDepth 100000 in
set_option maxHeartbeats 8000000 in
theorem diffTells_walk (W H : Int) (A : Option Addr) (n c : Nat) (xs : List Int)
    (W' H' : Int) (A' : Option Addr) (n' c' : Nat) (xs' : List Int) (a0 a1 a2 a3 a4 a5 : Int) (A0 : Option Addr) (n0 c0 : Nat) (x0 : List Int) (A1 : Option Addr) (n1 c1 : Nat) (x1 : List Int) (A2 : Option Addr) (n2 c2 : Nat) (x2 : List Int) (all : Bool)
    (xr yr : Int) (Ar : Option Addr) (nr cr : Nat) (lr : List Cl) (w : World)
    (hA : xs.length = n ∧ Ints w A xs) (hA' : xs'.length = n' ∧ Ints w A' xs') (h0 : (x0.length = n0 ∧ n0 ≤ c0) ∧ Ints w A0 x0) (h1 : (x1.length = n1 ∧ n1 ≤ c1) ∧ Ints w A1 x1) (h2 : (x2.length = n2 ∧ n2 ≤ c2) ∧ Ints w A2 x2) (hr : RowS w Ar nr cr lr) :
    Calls Try.prog 3 #[numv W H A n c, .agg (othA W' H' A' n' c' a0 a1 a2 a3 a4 a5 A0 n0 c0 A1 n1 c1 A2 n2 c2 all), grv xr yr Ar nr cr] w fun e w' => e = .returned (.bool true) ∧ Below w.heap.size w w' := by
  have HA := Lib.hid hA
  have HA' := Lib.hid hA'
  have H0 := Lib.hid h0
  have H1 := Lib.hid h1
  have H2 := Lib.hid h2
  have HR := Lib.hid hr
  have hN := ((Blk.new w 24 #[.int .i64 W, .int .i64 H, .slice A n c]).alloc (.cells (othA W' H' A' n' c' a0 a1 a2 a3 a4 a5 A0 n0 c0 A1 n1 c1 A2 n2 c2 all) 29)).alloc (.cells (grA xr yr Ar nr cr) 32)
  have hO := (Blk.new (w.alloc (.cells #[.int .i64 W, .int .i64 H, .slice A n c] 24)) 29 (othA W' H' A' n' c' a0 a1 a2 a3 a4 a5 A0 n0 c0 A1 n1 c1 A2 n2 c2 all)).alloc (.cells (grA xr yr Ar nr cr) 32)
  have hG := Blk.new ((w.alloc (.cells #[.int .i64 W, .int .i64 H, .slice A n c] 24)).alloc (.cells (othA W' H' A' n' c' a0 a1 a2 a3 a4 a5 A0 n0 c0 A1 n1 c1 A2 n2 c2 all) 29)) 32 (grA xr yr Ar nr cr)
  have hb0 := (((Below.refl w.heap.size w).alloc (Nat.le_refl _) (.cells #[.int .i64 W, .int .i64 H, .slice A n c] 24)).alloc (by simp) (.cells (othA W' H' A' n' c' a0 a1 a2 a3 a4 a5 A0 n0 c0 A1 n1 c1 A2 n2 c2 all) 29)).alloc (by simp; omega) (.cells (grA xr yr Ar nr cr) 32)
  rw [World.size_alloc, World.size_alloc] at hG
  rw [World.size_alloc] at hO
  obtain ⟨W0, hW0⟩ : ∃ W0, ((w.alloc (.cells #[.int .i64 W, .int .i64 H, .slice A n c] 24)).alloc (.cells (othA W' H' A' n' c' a0 a1 a2 a3 a4 a5 A0 n0 c0 A1 n1 c1 A2 n2 c2 all) 29)).alloc (.cells (grA xr yr Ar nr cr) 32) = W0 := ⟨_, rfl⟩
  rw [hW0] at hN hO hG hb0
  clear hA hA' h0 h1 h2 hr
  go_enter Try.func3, Try.ntmps3
  go_upto_region 2 with (go_at_call 4; refine (awake_any _).mono ?_; rintro e w1 ⟨rfl, hb1⟩)
  clear hW0
  have hN1 := hN.below hb1 hN.lt
  have hO1 := hO.below hb1 hO.lt
  have hG1 := hG.below hb1 hG.lt
  have hb01 := hb0.trans (hb1.mono hb0.size)
  clear hN hO hG hb0 hb1
  have k0 : w1.cell? ⟨w.heap.size, 0, none⟩ = some (.int .i64 W) := hN1.cell 0
  have k1 : w1.cell? ⟨w.heap.size, 1, none⟩ = some (.int .i64 H) := hN1.cell 1
  have k2 : w1.cell? ⟨w.heap.size, 2, none⟩ = some (.slice A n c) := hN1.cell 2
  have hgn := gridN_gen W H A n c xs w1 HA.out.1 (Elems.below HA.out.2 hb01)
  go_upto_region 3 with (go_at_call 5; refine hgn.mono ?_; rintro e w2 ⟨wn, hn, Ag, ng, cg, lg, rfl, hw1, hw2, hh1, hh2, hRg, _, hb2⟩)
  have hbn := (Below.refl w2.heap.size w2).alloc (Nat.le_refl _) (.cells (grA wn hn Ag ng cg) 32)
  have hb02 := hb01.trans (hb2.mono hb01.size)
  have hB3 := Blk.new w2 32 (grA wn hn Ag ng cg)
  have hO3 := (hO1.below hb2 hO1.lt).alloc (.cells (grA wn hn Ag ng cg) 32)
  have hG3 := (hG1.below hb2 hG1.lt).alloc (.cells (grA wn hn Ag ng cg) 32)
  have hb03 := hb02.alloc hb02.size (.cells (grA wn hn Ag ng cg) 32)
  have hRg3 := hRg.below hbn
  have hx2 := Nat.lt_of_lt_of_le hG1.lt hb2.size
  have HBa := Lib.hid (show w.heap.size + 1 + 1 < w2.heap.size from hx2)
  clear hN1 hO1 hG1 hb01 k0 k1 k2 hgn hb2 hbn hb02 hRg hx2
  generalize w2.alloc (.cells (grA wn hn Ag ng cg) 32) = w3 at *
  generalize w2.heap.size = Ba at *
  have hot := otherO_gen W' H' A' n' c' xs' a0 a1 a2 a3 a4 a5 A0 n0 c0 x0 A1 n1 c1 x1 A2 n2 c2 x2 all wn hn Ag ng cg lg w3 ⟨hw1, hw2⟩ ⟨hh1, hh2⟩ ⟨HA'.out.1, Elems.below HA'.out.2 hb03⟩ ⟨H0.out.1, Elems.below H0.out.2 hb03⟩ ⟨H1.out.1, Elems.below H1.out.2 hb03⟩ ⟨H2.out.1, Elems.below H2.out.2 hb03⟩ hRg3
  have o0 : w3.cell? ⟨w.heap.size + 1, 0, none⟩ = some (.int .i64 W') := hO3.cell 0
  have o1 : w3.cell? ⟨w.heap.size + 1, 1, none⟩ = some (.int .i64 H') := hO3.cell 1
  have o2 : w3.cell? ⟨w.heap.size + 1, 2, none⟩ = some (.slice A' n' c') := hO3.cell 2
  have o3 : w3.cell? ⟨w.heap.size + 1, 3, none⟩ = some (.int .i64 a0) := hO3.cell 3
  have o4 : w3.cell? ⟨w.heap.size + 1, 4, none⟩ = some (.int .i64 a1) := hO3.cell 4
  have o5 : w3.cell? ⟨w.heap.size + 1, 5, none⟩ = some (.int .i64 a2) := hO3.cell 5
  have o6 : w3.cell? ⟨w.heap.size + 1, 6, none⟩ = some (.int .i64 a3) := hO3.cell 6
  have o7 : w3.cell? ⟨w.heap.size + 1, 7, none⟩ = some (.int .i64 a4) := hO3.cell 7
  have o8 : w3.cell? ⟨w.heap.size + 1, 8, none⟩ = some (.int .i64 a5) := hO3.cell 8
  have o9 : w3.cell? ⟨w.heap.size + 1, 9, none⟩ = some (.slice A0 n0 c0) := hO3.cell 9
  have o10 : w3.cell? ⟨w.heap.size + 1, 10, none⟩ = some (.slice A1 n1 c1) := hO3.cell 10
  have o11 : w3.cell? ⟨w.heap.size + 1, 11, none⟩ = some (.slice A2 n2 c2) := hO3.cell 11
  have o12 : w3.cell? ⟨w.heap.size + 1, 12, none⟩ = some (.bool all) := hO3.cell 12
  have g0 : w3.cell? ⟨Ba, 0, none⟩ = some (.int .i64 (wn : Int)) := hB3.cell 0
  have g1 : w3.cell? ⟨Ba, 1, none⟩ = some (.int .i64 (hn : Int)) := hB3.cell 1
  have g2 : w3.cell? ⟨Ba, 2, none⟩ = some (.slice Ag ng cg) := hB3.cell 2
  go_upto_region 4 with (go_at_call 6; refine hot.mono ?_; rintro e w4 ⟨xb, yb, Ab, nb, cb, lb, rfl, hRb, hb4⟩)
  have hbn := (Below.refl w4.heap.size w4).alloc (Nat.le_refl _) (.cells (grA xb yb Ab nb cb) 32)
  have hB5 := (hB3.below hb4 hB3.lt).alloc (.cells (grA xb yb Ab nb cb) 32)
  have hO5 := (hO3.below hb4 hO3.lt).alloc (.cells (grA xb yb Ab nb cb) 32)
  have hG5 := (hG3.below hb4 hG3.lt).alloc (.cells (grA xb yb Ab nb cb) 32)
  have hC5 := Blk.new w4 32 (grA xb yb Ab nb cb)
  have hRa5 := (hRg3.below hb4).below hbn
  have hRb5 := hRb.below hbn
  have hb05 := (hb03.trans (hb4.mono hb03.size)).alloc (Nat.le_trans hb03.size hb4.size) (.cells (grA xb yb Ab nb cb) 32)
  have HBb := Lib.hid (show Ba < w4.heap.size from Nat.lt_of_lt_of_le hB3.lt hb4.size)
  have hoff := HR.out.off (G := w.heap.size + 1 + 1) (by omega)
  have hoa := hRg3.off (Nat.le_refl _)
  clear hot hB3 hO3 hG3 hRg3 hRb hb03 hb4 hbn o0 o1 o2 o3 o4 o5 o6 o7 o8 o9 o10 o11 o12 g0 g1 g2
  generalize w4.alloc (.cells (grA xb yb Ab nb cb) 32) = w5 at *
  generalize w4.heap.size = Bb at *
  have r0 : w5.cell? ⟨w.heap.size + 1 + 1, 0, none⟩ = some (.int .i64 xr) := hG5.cell 0
  have r1 : w5.cell? ⟨w.heap.size + 1 + 1, 1, none⟩ = some (.int .i64 yr) := hG5.cell 1
  have r2 : w5.cell? ⟨w.heap.size + 1 + 1, 2, none⟩ = some (.slice Ar nr cr) := hG5.cell 2
  have f2 := hG5.free 2
  have hnc := HR.out.cap
  go_upto_if 19 with fail
  go_cut [] from 16 to 23 (fun wx => ∃ (nq : Nat) (lq : List Cl), Blk wx (w.heap.size + 1 + 1) 32 (grA xr yr Ar nq cr) ∧ RowS w Ar nq cr lq ∧ Only (w.heap.size + 1 + 1) w5 wx)
  case first =>
    by_cases hq : 60 < nr
    · have y1 : decide ((60 : Int) < (nr : Int)) = true := decide_eq_true (by omega)
      have y2 : decide (60 < nr) = true := decide_eq_true hq
      have y3 : (60 : Int) < (nr : Int) := by omega
      have y4 : (60 : Int) ≤ (cr : Int) := by omega
      have y5 : 60 ≤ cr := by omega
      go_wp2_with fail
      go_meet
      exact ⟨60, lr.take 60, hG5.set 2 _, HR.out.take (by omega), only_set (only_refl _ _) _ _⟩
    · have y1 : decide ((60 : Int) < (nr : Int)) = false := decide_eq_false (by omega)
      have y2 : decide (60 < nr) = false := decide_eq_false hq
      have y3 : ¬ (60 : Int) < (nr : Int) := by omega
      go_wp2_with fail
      go_meet
      exact ⟨nr, lr, hG5, HR.out, only_refl _ _⟩
  case rest =>
  obtain ⟨nq, lq, hG6, hRq, ho6⟩ := hcut
  rename World => w6
  have hoffa := rowS_off_grid hRa5 hG5
  have hoffb := rowS_off_grid hRb5 hG5
  have hRa6 := rowS_only hRa5 ho6 hoffa
  have hRb6 := rowS_only hRb5 ho6 hoffb
  have hBaL := HBa.out
  have hBbL := HBb.out
  have hB6 := hB5.grown ho6 (fun e => by injection e with e; omega)
  have hC6 := hC5.grown ho6 (fun e => by injection e with e; omega)
  have hO6 := hO5.grown ho6 (fun e => by injection e with e; omega)
  have hb06 := hb05.trans (only_below ho6 (by omega) hb05.size)
  have hRr6 := hRq.below hb06
  have hIo : xs'.length = n' ∧ Ints w6 A' xs' := ⟨HA'.out.1, Elems.below HA'.out.2 hb06⟩
  have hWGa := fun X (hX : Below w6.heap.size w6 X) => wholeG_gen wn hn Ag ng cg lg X (hRa6.below hX)
  have hWRa := fun X (hX : Below w6.heap.size w6 X) => wholeR_gen wn hn Ag ng cg lg X (hRa6.below hX)
  have hWGr := fun X (hX : Below w6.heap.size w6 X) => wholeG_gen xr yr Ar nq cr lq X (hRr6.below hX)
  have hWRr := fun X (hX : Below w6.heap.size w6 X) => wholeR_gen xr yr Ar nq cr lq X (hRr6.below hX)
  have hTab := fun X (hX : Below w6.heap.size w6 X) => tells_any wn hn xb yb Ag Ab ng cg nb cb lg lb X (hRa6.below hX) (hRb6.below hX)
  have hTaa := fun X (hX : Below w6.heap.size w6 X) => tells_any wn hn wn hn Ag Ag ng cg ng cg lg lg X (hRa6.below hX) (hRa6.below hX)
  have hTar := fun X (hX : Below w6.heap.size w6 X) => tells_any wn hn xr yr Ag Ar ng cg nq cr lg lq X (hRa6.below hX) (hRr6.below hX)
  have hTra := fun X (hX : Below w6.heap.size w6 X) => tells_any xr yr wn hn Ar Ag nq cr ng cg lq lg X (hRr6.below hX) (hRa6.below hX)
  have hTag := fun X (hX : Below w6.heap.size w6 X) (x y : Int) A7 n7 c7 l7 (h7 : RowS X A7 n7 c7 l7) => tells_any wn hn x y Ag A7 ng cg n7 c7 lg l7 X (hRa6.below hX) h7
  have hGN := fun X (hX : Below w6.heap.size w6 X) => gridN_gen W' H' A' n' c' xs' X hIo.1 (Elems.below hIo.2 hX)
  generalize (⟨(wholeP (wn : Int) (hn : Int) lg).toArray⟩ : ByteArray) = S1 at hWGa hWRa
  generalize (⟨(wholeP xr yr lq).toArray⟩ : ByteArray) = S2 at hWGr hWRr
  have e1 : (S1.toList == S1.toList) = true := beq_self_eq_true _
  have e2 : (S2.toList == S2.toList) = true := beq_self_eq_true _
  have hS : HeldT Ba Bb (w.heap.size + 1 + 1) (w.heap.size + 1) wn hn Ag ng cg xb yb Ab nb cb xr yr Ar nq cr W' H' A' n' c' w6 w6.drew := ⟨hB6.cell 0, hB6.cell 1, hB6.cell 2, hC6.cell 0, hC6.cell 1, hC6.cell 2, hG6.cell 0, hG6.cell 1, hG6.cell 2, hO6.cell 0, hO6.cell 1, hO6.cell 2, (Below.refl _ _).drew, Nat.le_refl _⟩
  have HB := Lib.hid hb06
  clear hoff hoa hB5 hO5 hG5 hRa5 hRb5 hb05 hC5 r0 r1 r2 f2 hnc hG6 hRq ho6 hoffa hoffb hRa6 hRb6 hBaL hBbL hB6 hC6 hO6 hRr6 hIo hb06
  go_upto_region 6 with fail
  go_region_held3 (fun W => W.cell? ⟨Ba, 0, none⟩ = some (.int .i64 (wn : Int)) ∧ W.cell? ⟨Ba, 1, none⟩ = some (.int .i64 (hn : Int)) ∧ W.cell? ⟨Ba, 2, none⟩ = some (.slice Ag ng cg) ∧ W.cell? ⟨Bb, 0, none⟩ = some (.int .i64 xb) ∧ W.cell? ⟨Bb, 1, none⟩ = some (.int .i64 yb) ∧ W.cell? ⟨Bb, 2, none⟩ = some (.slice Ab nb cb) ∧ W.cell? ⟨w.heap.size + 1 + 1, 0, none⟩ = some (.int .i64 xr) ∧ W.cell? ⟨w.heap.size + 1 + 1, 1, none⟩ = some (.int .i64 yr) ∧ W.cell? ⟨w.heap.size + 1 + 1, 2, none⟩ = some (.slice Ar nq cr) ∧ W.cell? ⟨w.heap.size + 1, 0, none⟩ = some (.int .i64 W') ∧ W.cell? ⟨w.heap.size + 1, 1, none⟩ = some (.int .i64 H') ∧ W.cell? ⟨w.heap.size + 1, 2, none⟩ = some (.slice A' n' c') ∧ Below w6.heap.size w6 W ∧ w6.heap.size ≤ W.heap.size) (first | exact hS | exact hq) (first
    | (go_at_call 7; with_reducible refine (hWGa _ (HeldT.bel (by assumption))).mono ?_; rintro e w7 ⟨rfl, hb7⟩; have hq := HeldT.keep (by assumption) hb7)
    | (go_at_call 7; with_reducible refine (hWGr _ (HeldT.bel (by assumption))).mono ?_; rintro e w7 ⟨rfl, hb7⟩; have hq := HeldT.keep (by assumption) hb7)
    | (go_at_call 8; with_reducible refine (hWRa _ (HeldT.bel (by assumption))).mono ?_; rintro e w7 ⟨rfl, hb7⟩; have hq := HeldT.keep (by assumption) hb7)
    | (go_at_call 8; with_reducible refine (hWRr _ (HeldT.bel (by assumption))).mono ?_; rintro e w7 ⟨rfl, hb7⟩; have hq := HeldT.keep (by assumption) hb7)
    | (go_at_call 9; with_reducible refine (hTab _ (HeldT.bel (by assumption))).mono ?_; rintro e w7 ⟨rfl, hb7⟩; have hq := HeldT.keep (by assumption) hb7)
    | (go_at_call 9; with_reducible refine (hTaa _ (HeldT.bel (by assumption))).mono ?_; rintro e w7 ⟨rfl, hb7⟩; have hq := HeldT.keep (by assumption) hb7)
    | (go_at_call 9; with_reducible refine (hTar _ (HeldT.bel (by assumption))).mono ?_; rintro e w7 ⟨rfl, hb7⟩; have hq := HeldT.keep (by assumption) hb7)
    | (go_at_call 9; with_reducible refine (hTra _ (HeldT.bel (by assumption))).mono ?_; rintro e w7 ⟨rfl, hb7⟩; have hq := HeldT.keep (by assumption) hb7)
    | (go_at_call 5; with_reducible refine (hGN _ (HeldT.bel (by assumption))).mono ?_; rintro e w8 ⟨x8, y8, A8, n8, c8, l8, rfl, _, _, _, _, hR8, _, hb8⟩; have hq := HeldT.keep (by assumption) hb8)
    | (go_at_call 9; with_reducible refine (hTag _ (HeldT.bel (by assumption)) _ _ _ _ _ _ hR8).mono ?_; rintro e w9 ⟨rfl, hb9⟩; have hq := HeldT.keep (by assumption) hb9))
  have hbf := HB.out.trans ((HeldT.bel hq).mono HB.out.size)
  clear hS
  go_wp2_with fail
  go_ret
  exact ⟨rfl, hbf⟩
end Go.Proofs.Ytpjafocgabhieaa
