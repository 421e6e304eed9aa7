/- pen.Colour; and the laws' act, walked. -/
import Derived.Test.YtljjklhkifehaaaBlkL
import Derived.Test.YtljjklhkifehaaaSrcL
import Derived.RegionTactic
import Derived.ChangeAlike
import Derived.BigRegion
namespace Go.Proofs.Ytljjklhkifehaaa
open Go.RowKit
set_option maxRecDepth 100000 in
theorem part_any (n : Int) (w : World) : Calls Try.prog 20 #[.int .i64 n] w fun e w' => e = .returned (.int .i64 (min (max n 0) 255 / 43)) ∧ w = w' := by
  rcases (show n < 0 ∨ n = 0 ∨ (0 < n ∧ n < 255) ∨ n = 255 ∨ 255 < n by omega) with h | h | h | h | h
  · have hm : min (max n 0) 255 / 43 = 0 := by omega
    rw [hm]; clear hm
    go_enter Try.func20, Try.ntmps20
    go_wp2
    go_ret
    exact ⟨rfl, rfl⟩
  · subst h
    go_enter Try.func20, Try.ntmps20
    go_wp2
    go_ret
    exact ⟨rfl, rfl⟩
  · obtain ⟨h1, h2⟩ := h
    have hm : min (max n 0) 255 / 43 = n / 43 := by omega
    rw [hm]; clear hm
    go_enter Try.func20, Try.ntmps20
    go_wp2
    go_ret
    exact ⟨rfl, rfl⟩
  · subst h
    go_enter Try.func20, Try.ntmps20
    go_wp2
    go_ret
    exact ⟨rfl, rfl⟩
  · have hm : min (max n 0) 255 / 43 = 5 := by omega
    rw [hm]; clear hm
    go_enter Try.func20, Try.ntmps20
    go_wp2
    go_ret
    exact ⟨rfl, rfl⟩
def col (r g b : Int) : Int := 16 + 36 * (min (max r 0) 255 / 43) + 6 * (min (max g 0) 255 / 43) + min (max b 0) 255 / 43
set_option maxRecDepth 100000 in
theorem colours_any (r g b : Int) (w : World) : Calls Try.prog 10 #[.int .i64 r, .int .i64 g, .int .i64 b] w fun e w' => e = .returned (.int .u8 (col r g b)) ∧ w = w' := by
  have h1 : 0 ≤ min (max r 0) 255 / 43 ∧ min (max r 0) 255 / 43 ≤ 5 := by omega
  have h2 : 0 ≤ min (max g 0) 255 / 43 ∧ min (max g 0) 255 / 43 ≤ 5 := by omega
  have h3 : 0 ≤ min (max b 0) 255 / 43 ∧ min (max b 0) 255 / 43 ≤ 5 := by omega
  unfold col
  go_enter Try.func10, Try.ntmps10
  go_wp2_with fail
  refine (part_any _ _).mono ?_
  rintro e w' ⟨rfl, rfl⟩
  generalize hx : min (max r 0) 255 / 43 = x at h1 ⊢
  have HX := Lib.hid hx
  clear hx
  go_wp2_with fail
  refine (part_any _ _).mono ?_
  rintro e w' ⟨rfl, rfl⟩
  generalize hy : min (max g 0) 255 / 43 = y at h2 ⊢
  have HY := Lib.hid hy
  clear hy
  go_wp2_with fail
  refine (part_any _ _).mono ?_
  rintro e w' ⟨rfl, rfl⟩
  generalize hz : min (max b 0) 255 / 43 = z at h3 ⊢
  have HZ := Lib.hid hz
  clear hz
  obtain ⟨h1, h1'⟩ := h1
  obtain ⟨h2, h2'⟩ := h2
  obtain ⟨h3, h3'⟩ := h3
  go_wp2_with fail
  go_ret
  refine ⟨?_, rfl⟩
  rw [HX.out, HY.out, HZ.out]
  rfl
/-- An act of m that has the numbers l, to 8. -/
def actA (l : List Int) : Array Value := #[.int .i64 4, .int .i32 109, .int .u8 0, .int .u8 0, .int .i64 (l.length : Nat), .int .i64 (l.getD 0 0), .int .i64 (l.getD 1 0), .int .i64 (l.getD 2 0), .int .i64 (l.getD 3 0), .int .i64 (l.getD 4 0), .int .i64 (l.getD 5 0), .int .i64 (l.getD 6 0), .int .i64 (l.getD 7 0)]
theorem actA_step (l : List Int) (k : Nat) (hk : k < l.length) (h8 : k < 8) : ((actA (l.take k)).setIfInBounds (5 + k) (.int .i64 (l.getD k 0))).setIfInBounds 4 (.int .i64 ((k + 1 : Nat) : Int)) = actA (l.take (k + 1)) := by
  have hg : ∀ j, (l.take (k + 1)).getD j 0 = if j = k then l.getD k 0 else (l.take k).getD j 0 := fun j => by
    simp only [List.getD, List.getElem?_take]
    by_cases h1 : j = k
    · subst h1; simp
    · by_cases h2 : j < k
      · simp [h1, h2, show j < k + 1 by omega]
      · simp [h1, h2, show ¬ j < k + 1 by omega]
  have hl : (l.take (k + 1)).length = k + 1 := by rw [List.length_take]; omega
  unfold actA
  rw [hl, hg, hg, hg, hg, hg, hg, hg, hg]
  rcases (show k = 0 ∨ k = 1 ∨ k = 2 ∨ k = 3 ∨ k = 4 ∨ k = 5 ∨ k = 6 ∨ k = 7 by omega) with rfl | rfl | rfl | rfl | rfl | rfl | rfl | rfl <;> simp [Array.setIfInBounds]
theorem actA_take (l : List Int) (h : l.length ≤ 8) : [l.getD 0 0, l.getD 1 0, l.getD 2 0, l.getD 3 0, l.getD 4 0, l.getD 5 0, l.getD 6 0, l.getD 7 0].take l.length = l := by
  apply List.ext_getElem?
  intro i
  rw [List.getElem?_take]
  split
  · rcases (show i = 0 ∨ i = 1 ∨ i = 2 ∨ i = 3 ∨ i = 4 ∨ i = 5 ∨ i = 6 ∨ i = 7 by omega) with rfl | rfl | rfl | rfl | rfl | rfl | rfl | rfl <;> simp [List.getD, *]
  · rw [List.getElem?_eq_none (by omega)]
def md (x : Int) : Int := x % 112
theorem md_eq (x : Int) : x.tmod 112 % 112 = x % 112 := by
  rw [Int.tmod_def]
  omega
theorem tmod_112 (x : Int) : -112 < x.tmod 112 ∧ x.tmod 112 < 112 := by
  have h1 := Int.tmod_lt_of_pos x (show (0 : Int) < 112 by omega)
  have h2 := Int.tmod_lt_of_pos (-x) (show (0 : Int) < 112 by omega)
  rw [Int.neg_tmod] at h2
  omega
theorem blk13 {w : World} {g t : Nat} {x0 x1 x2 x3 x4 x5 x6 x7 x8 x9 x10 x11 x12 : Value} (h : Blk w g t #[x0, x1, x2, x3, x4, x5, x6, x7, x8, x9, x10, x11, x12]) :
    w.cell? ⟨g, 0, none⟩ = some x0 ∧ w.cell? ⟨g, 1, none⟩ = some x1 ∧ w.cell? ⟨g, 2, none⟩ = some x2 ∧ w.cell? ⟨g, 3, none⟩ = some x3 ∧ w.cell? ⟨g, 4, none⟩ = some x4 ∧ w.cell? ⟨g, 5, none⟩ = some x5 ∧ w.cell? ⟨g, 6, none⟩ = some x6 ∧
      w.cell? ⟨g, 7, none⟩ = some x7 ∧ w.cell? ⟨g, 8, none⟩ = some x8 ∧ w.cell? ⟨g, 9, none⟩ = some x9 ∧ w.cell? ⟨g, 10, none⟩ = some x10 ∧ w.cell? ⟨g, 11, none⟩ = some x11 ∧ w.cell? ⟨g, 12, none⟩ = some x12 :=
  ⟨h.cell 0, h.cell 1, h.cell 2, h.cell 3, h.cell 4, h.cell 5, h.cell 6, h.cell 7, h.cell 8, h.cell 9, h.cell 10, h.cell 11, h.cell 12⟩
set_option maxRecDepth 100000 in
set_option maxHeartbeats 6000000 in
theorem act_any (A : Option Addr) (n c : Nat) (xs : List Int) (w : World) (hn : xs.length = n) (hm : n ≤ maxLen) (hA : Ints w A xs) (hx : Fit xs) :
    Calls Try.prog 9 #[.slice A n c] w fun e w' => e = .returned (.agg (actA ((xs.map md).take 8))) ∧ Below w.heap.size w w' := by
  subst hn
  unfold maxLen at hm
  obtain ⟨l, hl⟩ : ∃ l, l = (xs.map md).take 8 := ⟨_, rfl⟩
  have hll : l.length = min 8 xs.length := by rw [hl, List.length_take, List.length_map]
  rw [← hl]
  have HL := Lib.hid hl
  have HLL := Lib.hid hll
  clear hl hll
  go_enter Try.func9, Try.ntmps9
  go_wp2
  obtain ⟨Z, hZ⟩ : ∃ Z : Array Value, Z = #[.int .i64 0, .int .i32 0, .int .u8 0, .int .u8 0, .int .i64 0, .int .i64 0, .int .i64 0, .int .i64 0, .int .i64 0, .int .i64 0, .int .i64 0, .int .i64 0, .int .i64 0] := ⟨_, rfl⟩
  go_loopw [4] (fun i wr => ∃ k : Nat, k ≤ l.length ∧ i = .int .i64 k ∧ Blk wr (w.heap.size + 1) 26 (actA (l.take k)) ∧ Blk wr w.heap.size 26 #[.int .i64 0, .int .i32 0, .int .u8 0, .int .u8 0, .int .i64 0, .int .i64 0, .int .i64 0, .int .i64 0, .int .i64 0, .int .i64 0, .int .i64 0, .int .i64 0, .int .i64 0] ∧ Below w.heap.size w wr) (fun i _ => 9 - (intOf i).toNat)
  case atStart =>
    refine ⟨0, Nat.zero_le _, rfl, ?_, (Blk.new _ _ _).alloc _, ((Below.refl _ _).alloc (Nat.le_refl _) _).alloc (by simp) _⟩
    have h := Blk.new (w.alloc (.cells #[.int .i64 0, .int .i32 0, .int .u8 0, .int .u8 0, .int .i64 0, .int .i64 0, .int .i64 0, .int .i64 0, .int .i64 0, .int .i64 0, .int .i64 0, .int .i64 0, .int .i64 0] 26)) 26 (actA (l.take 0))
    rw [World.size_alloc] at h
    exact h
  case round =>
    obtain ⟨k, hk, rfl, hB, hC, hb⟩ := hrel
    have hk8 : k ≤ 8 := by have := HLL.out; omega
    by_cases hlt : k < xs.length ∧ k < 8
    · obtain ⟨hlt, hlt8⟩ := hlt
      obtain ⟨ad, rfl, hc⟩ := (hA.below hb).at_ hlt
      obtain ⟨x, hxk⟩ : ∃ x, x = xs.getD k 0 := ⟨_, rfl⟩
      have hX : x ∈ xs := by rw [hxk]; simp [hlt, List.getD]
      obtain ⟨hx0, hx1⟩ := hx x hX
      rw [← hxk] at hc
      have hlk : l.getD k 0 = x % 112 := by rw [HL.out, hxk]; simp [List.getD, hlt, hlt8, md]
      obtain ⟨t0, t1⟩ := tmod_112 x
      have hmd := md_eq x
      have hkl : k < l.length := by have := HLL.out; omega
      have hst := actA_step l k hkl hlt8
      rw [hlk] at hst
      have hset := (hB.set (5 + k) (.int .i64 (x % 112))).set 4 (.int .i64 ((k + 1 : Nat) : Int))
      rw [hst] at hset
      have hO := only_set (only_set (only_refl (w.heap.size + 1) wr) (5 + k) (.int .i64 (x % 112))) 4 (.int .i64 ((k + 1 : Nat) : Int))
      have hC2 := hC.grown hO (by simp)
      have hb2 := hb.trans (only_below hO (by omega) hb.size)
      obtain ⟨y, hy⟩ : ∃ y, wr.cell? ⟨w.heap.size + 1, 5 + k, none⟩ = some y := by
        rw [hB.cell (5 + k), Array.getElem?_eq_getElem (by simp [actA]; omega)]
        exact ⟨_, rfl⟩
      have hy4 : wr.cell? ⟨w.heap.size + 1, 4, none⟩ = some (.int .i64 ((l.take k).length : Nat)) := hB.cell 4
      have g1 := hB.free (5 + k)
      have g2 := hB.free 4
      have HF := Lib.hid (And.intro hset (And.intro hC2 hb2))
      have HMD := Lib.hid hmd
      clear hst hset hO hC2 hb2 hlk hB hC hxk hX hA hb hmd
      go_wp2
      go_roundw
      case rel =>
        obtain ⟨hset, hC2, hb2⟩ := HF.out
        rw [HMD.out]
        exact ⟨k + 1, by omega, by go_num, hset, hC2, hb2⟩
      case measure => simp [intOf]; omega
    · have hkk : l.take k = l := List.take_of_length_le (by have := HLL.out; omega)
      rw [hkk] at hB
      obtain ⟨b0, b1, b2, b3, b4, b5, b6, b7, b8, b9, b10, b11, b12⟩ := blk13 (show Blk wr (w.heap.size + 1) 26 #[.int .i64 4, .int .i32 109, .int .u8 0, .int .u8 0, .int .i64 (l.length : Nat), .int .i64 (l.getD 0 0), .int .i64 (l.getD 1 0), .int .i64 (l.getD 2 0), .int .i64 (l.getD 3 0), .int .i64 (l.getD 4 0), .int .i64 (l.getD 5 0), .int .i64 (l.getD 6 0), .int .i64 (l.getD 7 0)] from hB)
      obtain ⟨c0, c1, c2, c3, c4, c5, c6, c7, c8, c9, c10, c11, c12⟩ := blk13 hC
      have f := hC.free
      have f0 := f 0
      have f1 := f 1
      have f2 := f 2
      have f3 := f 3
      have f4 := f 4
      have f5 := f 5
      have f6 := f 6
      have f7 := f 7
      have f8 := f 8
      have f9 := f 9
      have f10 := f 10
      have f11 := f 11
      have f12 := f 12
      obtain ⟨q0, hq0⟩ : ∃ q, q = l.getD 0 0 := ⟨_, rfl⟩
      obtain ⟨q1, hq1⟩ : ∃ q, q = l.getD 1 0 := ⟨_, rfl⟩
      obtain ⟨q2, hq2⟩ : ∃ q, q = l.getD 2 0 := ⟨_, rfl⟩
      obtain ⟨q3, hq3⟩ : ∃ q, q = l.getD 3 0 := ⟨_, rfl⟩
      obtain ⟨q4, hq4⟩ : ∃ q, q = l.getD 4 0 := ⟨_, rfl⟩
      obtain ⟨q5, hq5⟩ : ∃ q, q = l.getD 5 0 := ⟨_, rfl⟩
      obtain ⟨q6, hq6⟩ : ∃ q, q = l.getD 6 0 := ⟨_, rfl⟩
      obtain ⟨q7, hq7⟩ : ∃ q, q = l.getD 7 0 := ⟨_, rfl⟩
      rw [← hq0] at b5
      rw [← hq1] at b6
      rw [← hq2] at b7
      rw [← hq3] at b8
      rw [← hq4] at b9
      rw [← hq5] at b10
      rw [← hq6] at b11
      rw [← hq7] at b12
      have hfin : actA l = #[.int .i64 4, .int .i32 109, .int .u8 0, .int .u8 0, .int .i64 (l.length : Nat), .int .i64 q0, .int .i64 q1, .int .i64 q2, .int .i64 q3, .int .i64 q4, .int .i64 q5, .int .i64 q6, .int .i64 q7] := by
        unfold actA
        rw [hq0, hq1, hq2, hq3, hq4, hq5, hq6, hq7]
      have HFIN := Lib.hid hfin
      clear hfin hq0 hq1 hq2 hq3 hq4 hq5 hq6 hq7 f hkk hB hC hA hx
      rcases (show ¬ k < xs.length ∨ (k < xs.length ∧ k = 8) by omega) with h | ⟨h, h8⟩
      · clear hlt
        go_wp2
        refine bodyPost_ret (v := .agg #[.int .i64 4, .int .i32 109, .int .u8 0, .int .u8 0, .int .i64 (l.length : Nat), .int .i64 q0, .int .i64 q1, .int .i64 q2, .int .i64 q3, .int .i64 q4, .int .i64 q5, .int .i64 q6, .int .i64 q7]) ?_ rfl ⟨by rw [HFIN.out], ?_⟩
        · simp [results, Try.results9, go_sem, c0, c1, c2, c3, c4, c5, c6, c7, c8, c9, c10, c11, c12]
        · repeat (first | with_reducible exact hb | refine Below.setCell ?_ (by simp; try omega) _)
      · subst h8
        clear hlt
        go_wp2
        refine bodyPost_ret (v := .agg #[.int .i64 4, .int .i32 109, .int .u8 0, .int .u8 0, .int .i64 (l.length : Nat), .int .i64 q0, .int .i64 q1, .int .i64 q2, .int .i64 q3, .int .i64 q4, .int .i64 q5, .int .i64 q6, .int .i64 q7]) ?_ rfl ⟨by rw [HFIN.out], ?_⟩
        · simp [results, Try.results9, go_sem, c0, c1, c2, c3, c4, c5, c6, c7, c8, c9, c10, c11, c12]
        · repeat (first | with_reducible exact hb | refine Below.setCell ?_ (by simp; try omega) _)
end Go.Proofs.Ytljjklhkifehaaa
