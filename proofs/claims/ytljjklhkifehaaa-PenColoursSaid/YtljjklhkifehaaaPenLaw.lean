/- PenColours, walked. -/
import Derived.Test.YtljjklhkifehaaaPenAwk
import Derived.Test.YtljjklhkifehaaaActW
namespace Go.Proofs.Ytljjklhkifehaaa
open Go.RowKit
theorem runs_fg (x : Int) (h0 : 0 ≤ x) (h1 : x ≤ 255) : Runs 1 [38, 5, x] (0, 0, 0) (max x 1, 0, 0) := .inr (.inr (.inr (.inl ⟨x, [], rfl, h0, h1, Runs.done 0 _⟩)))
theorem runs_bg (x : Int) (h0 : 0 ≤ x) (h1 : x ≤ 255) : Runs 1 [48, 5, x] (0, 0, 0) (0, max x 1, 0) := .inr (.inr (.inr (.inr ⟨x, [], rfl, h0, h1, Runs.done 0 _⟩)))
theorem mask8 (q : Int) : ∃ k : Nat, bits .and .i64 q 255 = (k : Int) ∧ k ≤ 255 := by
  refine ⟨(BitVec.ofInt 64 q).toNat % 256, ?_, by omega⟩
  show IntKind.i64.wrap ((BitVec.ofInt 64 q &&& BitVec.ofInt 64 255).toNat : Int) = _
  rw [BitVec.toNat_and, show (BitVec.ofInt 64 255).toNat = 2 ^ 8 - 1 from by decide, Nat.and_two_pow_sub_one_eq_mod, IntKind.wrap_i64]
  omega
theorem col_range (r g b : Int) : 16 ≤ col r g b ∧ col r g b ≤ 231 := by unfold col; omega
theorem col_rises (r g b : Int) : col r g b ≤ col (max r 100) (max g 100) (max b 100) := by unfold col; omega

set_option maxRecDepth 100000 in
set_option maxHeartbeats 1000000 in
theorem penColours_walk (x y z n : Int) (w : World) : Calls Try.prog 5 #[.agg #[.int .i64 x, .int .i64 y, .int .i64 z], .int .i64 n] w fun e w' => e = .returned (.bool true) ∧ Below w.heap.size w w' := by
  obtain ⟨k, hk, hk255⟩ := mask8 n
  have HK := Lib.hid hk
  obtain ⟨r1, r2⟩ := col_range x y z
  have r3 := col_rises x y z
  obtain ⟨r4, r5⟩ := col_range (max x 100) (max y 100) (max z 100)
  clear hk
  go_enter Try.func5, Try.ntmps5
  go_wp2_with fail
  refine (awake_pen _).mono ?_
  rintro e w1 ⟨rfl, hb1⟩
  have hc0 : w1.cell? ⟨w.heap.size, 0, none⟩ = some (.int .i64 x) := (hb1.cell (p := ⟨w.heap.size, 0, none⟩) (by simp)).trans (World.cell?_alloc_mark w #[.int .i64 x, .int .i64 y, .int .i64 z] 33 (0, 0) 0)
  have hc1 : w1.cell? ⟨w.heap.size, 1, none⟩ = some (.int .i64 y) := (hb1.cell (p := ⟨w.heap.size, 1, none⟩) (by simp)).trans (World.cell?_alloc_mark w #[.int .i64 x, .int .i64 y, .int .i64 z] 33 (0, 0) 1)
  have hc2 : w1.cell? ⟨w.heap.size, 2, none⟩ = some (.int .i64 z) := (hb1.cell (p := ⟨w.heap.size, 2, none⟩) (by simp)).trans (World.cell?_alloc_mark w #[.int .i64 x, .int .i64 y, .int .i64 z] 33 (0, 0) 2)
  go_wp2_with fail
  refine (colours_any _ _ _ _).mono ?_
  rintro e w2 ⟨rfl, rfl⟩
  generalize col x y z = a at r1 r2 r3 ⊢
  have hmx : ∀ v : Int, (if v < 100 then (100 : Int) else v) = max v 100 := fun v => by split <;> omega
  go_wp2_with fail
  clear hmx
  generalize max x 100 = mx at r3 r4 r5 ⊢
  generalize max y 100 = my at r3 r4 r5 ⊢
  generalize max z 100 = mz at r3 r4 r5 ⊢
  refine (colours_any _ _ _ _).mono ?_
  rintro e w2 ⟨rfl, rfl⟩
  generalize col mx my mz = b at r3 r4 r5 ⊢
  go_wp2_with fail
  rw [HK.out]
  refine (act_any _ _ _ [38, 5, 0] _ rfl (by decide) (Ints.new w1 [38, 5, 0] 3) (fun n hn => by simp at hn; omega)).mono ?_
  rintro e w2 ⟨rfl, hb2⟩
  rw [show actA (([38, 5, 0] : List Int).map md |>.take 8) = #[.int .i64 4, .int .i32 109, .int .u8 0, .int .u8 0, .int .i64 3, .int .i64 38, .int .i64 5, .int .i64 0, .int .i64 0, .int .i64 0, .int .i64 0, .int .i64 0, .int .i64 0] from rfl]
  go_wp2_with fail
  refine (apply_m 0 (0, 0, 0) (1, 0, 0) 1 38 5 0 0 0 0 0 0 3 _ (by omega) (by omega) (runs_fg 0 (by omega) (by omega))).mono ?_
  rintro e w3 ⟨rfl, hb3⟩
  unfold cellA
  have hrb := runs_bg k (by omega) (by omega)
  have HRB := Lib.hid hrb
  clear hrb
  rcases (show k = 0 ∨ k = 1 ∨ 1 < k by omega) with hk0 | hk0 | hk0
  · subst hk0
    go_wp2_with fail
    refine (apply_m 0 (0, 0, 0) (0, 1, 0) 1 48 5 0 0 0 0 0 0 3 _ (by omega) (by omega) HRB.out).mono ?_
    rintro e w4 ⟨rfl, hb4⟩
    unfold cellA
    have hd0 : w4.cell? ⟨w3.heap.size, 1, none⟩ = some (.int .u8 1) := (hb4.cell (p := ⟨w3.heap.size, 1, none⟩) (by simp)).trans (World.cell?_alloc_mark w3 #[.int .i32 0, .int .u8 1, .int .u8 0, .int .u8 0] 23 (0, 0) 1)
    have hlt34 : w3.heap.size < w4.heap.size := World.block_lt_of_cell? w4 _ hd0
    go_wp2
    go_ret
    exact ⟨rfl, later_alloc _ (later hb1 (later_alloc _ (later hb2 (later hb3 (later_alloc _ (later hb4 ((Below.refl _ _).alloc (Nat.le_refl _) _)))))))⟩
  · subst hk0
    go_wp2_with fail
    refine (apply_m 0 (0, 0, 0) (0, 1, 0) 1 48 5 1 0 0 0 0 0 3 _ (by omega) (by omega) HRB.out).mono ?_
    rintro e w4 ⟨rfl, hb4⟩
    unfold cellA
    have hd0 : w4.cell? ⟨w3.heap.size, 1, none⟩ = some (.int .u8 1) := (hb4.cell (p := ⟨w3.heap.size, 1, none⟩) (by simp)).trans (World.cell?_alloc_mark w3 #[.int .i32 0, .int .u8 1, .int .u8 0, .int .u8 0] 23 (0, 0) 1)
    have hlt34 : w3.heap.size < w4.heap.size := World.block_lt_of_cell? w4 _ hd0
    go_wp2
    go_ret
    exact ⟨rfl, later_alloc _ (later hb1 (later_alloc _ (later hb2 (later hb3 (later_alloc _ (later hb4 ((Below.refl _ _).alloc (Nat.le_refl _) _)))))))⟩
  · have HR2 : Hid (Runs 1 [48, 5, (k : Int)] (0, 0, 0) (0, (k : Int), 0)) := by
      have h := HRB.out
      rw [show max (k : Int) 1 = (k : Int) from by omega] at h
      exact h
    go_wp2_with fail
    refine (apply_m 0 (0, 0, 0) (0, (k : Int), 0) 1 48 5 k 0 0 0 0 0 3 _ (by omega) (by omega) HR2.out).mono ?_
    rintro e w4 ⟨rfl, hb4⟩
    unfold cellA
    have hd0 : w4.cell? ⟨w3.heap.size, 1, none⟩ = some (.int .u8 1) := (hb4.cell (p := ⟨w3.heap.size, 1, none⟩) (by simp)).trans (World.cell?_alloc_mark w3 #[.int .i32 0, .int .u8 1, .int .u8 0, .int .u8 0] 23 (0, 0) 1)
    have hlt34 : w3.heap.size < w4.heap.size := World.block_lt_of_cell? w4 _ hd0
    go_wp2
    go_ret
    exact ⟨rfl, later_alloc _ (later hb1 (later_alloc _ (later hb2 (later hb3 (later_alloc _ (later hb4 ((Below.refl _ _).alloc (Nat.le_refl _) _)))))))⟩
end Go.Proofs.Ytljjklhkifehaaa
