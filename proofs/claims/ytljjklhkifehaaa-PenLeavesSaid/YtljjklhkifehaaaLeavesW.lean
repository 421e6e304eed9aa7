/- What is no sequence of m changes no pen: the statement's walk. -/
import Derived.Test.YtljjklhkifehaaaPenAwk
import Derived.Test.YtljjklhkifehaaaPenBits
import Derived.Test.YtljjklhkifehaaaActW
import Derived.Deep.RegionHeld3
import Derived.Deep.Cut
import Derived.Deep.CutRange
import Derived.Deep.DeepCutAuto
import Derived.Deep.DrawnRows
import Derived.Outline
namespace Go.Proofs.Ytljjklhkifehaaa
open Go.RowKit
attribute [local go_sem ↓] Go.wp_at_zero Go.wp_at_succ
theorem mask10 (q : Int) : ∃ k : Nat, bits .and .i64 q 1023 = (k : Int) ∧ k ≤ 1023 := by
  refine ⟨(BitVec.ofInt 64 q).toNat % 1024, ?_, by omega⟩
  show IntKind.i64.wrap ((BitVec.ofInt 64 q &&& BitVec.ofInt 64 1023).toNat : Int) = _
  rw [BitVec.toNat_and, show (BitVec.ofInt 64 1023).toNat = 2 ^ 10 - 1 from by decide, Nat.and_two_pow_sub_one_eq_mod, IntKind.wrap_i64]
  omega
def says (q : Int) : Bool := decide (q ≤ 5 ∨ q = 7 ∨ (22 ≤ q ∧ q ≤ 25) ∨ q = 27 ∨ (30 ≤ q ∧ q ≤ 49) ∨ (90 ≤ q ∧ q ≤ 107))
theorem runs_one (s : Int × Int × Int) (q : Int) (h0 : 0 ≤ s.2.2) (h1 : s.2.2 ≤ 255) : ∃ t, Runs 1 [q] s t ∧ (says q = true ∨ t = s) := by
  by_cases h38 : q = 38 ∨ q = 48
  · exact ⟨s, .inr (.inr (.inl ⟨q, rfl, h38, rfl⟩)), .inr rfl⟩
  · refine ⟨obeyP s q, .inr (.inl ⟨q, [], rfl, by omega, by omega, rfl, rfl⟩), ?_⟩
    by_cases hs : says q = true
    · exact .inl hs
    · refine .inr (obey_not_said s h0 h1 q ?_)
      simp only [says, decide_eq_true_eq] at hs
      omega
set_option maxRecDepth 100000 in
set_option maxHeartbeats 8000000 in
theorem penLeaves_walk (r s0 s1 s2 k rr p m n' n0 n1 n2 n3 n4 n5 n6 n7 n : Int) (w : World) (hs0 : 0 ≤ s2) (hs1 : s2 ≤ 255) :
    Calls Try.prog 3 #[.agg #[.int .i32 r, .int .u8 s0, .int .u8 s1, .int .u8 s2], .agg #[.int .i64 k, .int .i32 rr, .int .u8 p, .int .u8 m, .int .i64 n', .int .i64 n0, .int .i64 n1, .int .i64 n2, .int .i64 n3, .int .i64 n4, .int .i64 n5, .int .i64 n6, .int .i64 n7], .int .i64 n] w fun e w' => e = .returned (.bool true) ∧ Below w.heap.size w w' := by
  obtain ⟨q, hq, hq2⟩ := mask10 n
  obtain ⟨t, ht, hts⟩ := runs_one (s0, s1, s2) q hs0 hs1
  have HT := Lib.hid ht
  have HTS := Lib.hid hts
  clear ht hts
  have HQ := Lib.hid hq
  clear hq
  go_enter Try.func3, Try.ntmps3
  go_wp2_with fail
  refine (awake_pen _).mono ?_
  rintro e w1 ⟨rfl, hb1⟩
  have hB1 : Blk w1 w.heap.size 23 #[.int .i32 r, .int .u8 s0, .int .u8 s1, .int .u8 s2] := ((Blk.new w 23 #[.int .i32 r, .int .u8 s0, .int .u8 s1, .int .u8 s2]).alloc _).below hb1 (by simp; omega)
  have hA1 : Blk w1 (w.heap.size + 1) 26 #[.int .i64 k, .int .i32 rr, .int .u8 p, .int .u8 m, .int .i64 n', .int .i64 n0, .int .i64 n1, .int .i64 n2, .int .i64 n3, .int .i64 n4, .int .i64 n5, .int .i64 n6, .int .i64 n7] := by
    have h := Blk.new (w.alloc (.cells #[.int .i32 r, .int .u8 s0, .int .u8 s1, .int .u8 s2] 23)) 26 #[.int .i64 k, .int .i32 rr, .int .u8 p, .int .u8 m, .int .i64 n', .int .i64 n0, .int .i64 n1, .int .i64 n2, .int .i64 n3, .int .i64 n4, .int .i64 n5, .int .i64 n6, .int .i64 n7]
    rw [World.size_alloc] at h
    exact h.below hb1 (by simp)
  have hb : Below w.heap.size w w1 := later_alloc _ (later_alloc _ hb1)
  have hlt1 := hA1.lt
  clear hb1
  go_upto_region 2 with fail
  go_cut [1, 29] from 12 to 88 (fun _s1 s29 wx => s29 = .bool (decide (k = 4 ∧ rr = 109 ∧ p = 0 ∧ m = 0)) ∧ wx = w1)
  case first =>
    obtain ⟨a0, a1, a2, a3, _⟩ := blk13 hA1
    go_wp2_with fail
    all_goals (go_meet; exact ⟨congrArg Value.bool (by first | (simp_all; done) | (rw [Bool.eq_iff_iff]; simp_all)), rfl⟩)
  case rest =>
  obtain ⟨rfl, rfl⟩ := hcut
  go_upto_if 29 with fail
  go_cut [] from 12 to 88 (fun wx => ∃ m', ¬ (k = 4 ∧ rr = 109 ∧ p = 0 ∧ m' = 0) ∧ Blk wx w.heap.size 23 #[.int .i32 r, .int .u8 s0, .int .u8 s1, .int .u8 s2] ∧ Blk wx (w.heap.size + 1) 26 #[.int .i64 k, .int .i32 rr, .int .u8 p, .int .u8 m', .int .i64 n', .int .i64 n0, .int .i64 n1, .int .i64 n2, .int .i64 n3, .int .i64 n4, .int .i64 n5, .int .i64 n6, .int .i64 n7] ∧ Below w.heap.size w wx)
  case first =>
    by_cases hm : k = 4 ∧ rr = 109 ∧ p = 0 ∧ m = 0
    · have hd : decide (k = 4 ∧ rr = 109 ∧ p = 0 ∧ m = 0) = true := by simp [hm]
      have c3 := (blk13 hA1).2.2.2.1
      have f3 := hA1.free 3
      rw [hd]
      go_wp2_with fail
      go_meet
      case rel =>
      exact ⟨33, by omega, hB1.far (by simp) _, hA1.set 3 _, hb.setCell (by simp) _⟩
    · have hd : decide (k = 4 ∧ rr = 109 ∧ p = 0 ∧ m = 0) = false := by simp [hm]
      rw [hd]
      go_wp2_with fail
      go_meet
      exact ⟨m, hm, hB1, hA1, hb⟩
  case rest =>
  obtain ⟨m', hm', hB2, hA2, hb2⟩ := hcut
  clear hB1 hA1 hb hlt1
  generalize wc = w2 at *
  have hq := HQ.out
  go_upto_region 5 with fail
  clear hq
  go_cut [8, 9] from 12 to 88 (fun s8 s9 wx => s8 = .int .i64 q ∧ s9 = .bool (says q) ∧ wx = w2)
  case first =>
    go_wp2_with fail
    all_goals (go_meet; exact ⟨congrArg (Value.int .i64) (by omega), congrArg Value.bool (by unfold says; rw [Bool.eq_iff_iff]; simp only [Bool.or_eq_true, decide_eq_true_eq, beq_iff_eq, true_iff]; omega), rfl⟩)
  case rest =>
  obtain ⟨rfl, rfl, rfl⟩ := hcut
  obtain ⟨b0, b1, b2, b3, _⟩ := blk4 hB2
  go_upto_region 6 with fail
  go_cut [10] from 12 to 88 (fun s10 wx => ∃ g, s10 = .pointer (some ⟨g, 0, none⟩) ∧ Blk wx w.heap.size 23 #[.int .i32 r, .int .u8 s0, .int .u8 s1, .int .u8 s2] ∧ Blk wx (w.heap.size + 1) 26 #[.int .i64 k, .int .i32 rr, .int .u8 p, .int .u8 m', .int .i64 n', .int .i64 n0, .int .i64 n1, .int .i64 n2, .int .i64 n3, .int .i64 n4, .int .i64 n5, .int .i64 n6, .int .i64 n7] ∧ Blk wx g 23 (cellA r t) ∧ Below w.heap.size w wx)
  case first =>
    go_wp2_with fail
    refine (apply_m r (s0, s1, s2) t 1 q 0 0 0 0 0 0 0 1 _ (by decide) (by decide) HT.out).mono ?_
    rintro e w3 ⟨rfl, hb3⟩
    unfold cellA
    go_wp2_with fail
    go_meet
    case rel =>
    exact ⟨_, rfl, (hB2.below hb3 hB2.lt).alloc _, (hA2.below hb3 hA2.lt).alloc _, Blk.new _ _ _, (later hb2 hb3).alloc (by have := hb3.size; have := hb2.size; omega) _⟩
  case rest =>
  obtain ⟨g, rfl, hB3, hA3, hC3, hb3⟩ := hcut
  clear hB2 hA2 hb2 b0 b1 b2 b3
  have hts := HTS.out
  obtain ⟨t0, t1, t2⟩ := t
  unfold cellA at hC3
  clear HT HQ HTS
  obtain ⟨a0, a1, a2, a3, a4, a5, a6, a7, a8, a9, a10, a11, a12⟩ := blk13 hA3
  obtain ⟨b0, b1, b2, b3, g0, g1, g2, g3⟩ := blk4 hB3
  obtain ⟨c0, c1, c2, c3, j0, j1, j2, j3⟩ := blk4 hC3
  clear g0 g1 g2 g3 j0 j1 j2 j3
  generalize says q = sy at hts ⊢
  cases sy
  · obtain ⟨rfl, rfl, rfl⟩ : t0 = s0 ∧ t1 = s1 ∧ t2 = s2 := by simpa using hts
    go_upto_region 7 with fail
    go_region_held3 (fun w' => (w'.cell? ⟨w.heap.size + 1, 0, none⟩ = some (.int .i64 k)) ∧ (w'.cell? ⟨w.heap.size + 1, 1, none⟩ = some (.int .i32 rr)) ∧ (w'.cell? ⟨w.heap.size + 1, 2, none⟩ = some (.int .u8 p)) ∧ (w'.cell? ⟨w.heap.size + 1, 3, none⟩ = some (.int .u8 m')) ∧ (w'.cell? ⟨w.heap.size + 1, 4, none⟩ = some (.int .i64 n')) ∧ (w'.cell? ⟨w.heap.size + 1, 5, none⟩ = some (.int .i64 n0)) ∧ (w'.cell? ⟨w.heap.size + 1, 6, none⟩ = some (.int .i64 n1)) ∧ (w'.cell? ⟨w.heap.size + 1, 7, none⟩ = some (.int .i64 n2)) ∧ (w'.cell? ⟨w.heap.size + 1, 8, none⟩ = some (.int .i64 n3)) ∧ (w'.cell? ⟨w.heap.size + 1, 9, none⟩ = some (.int .i64 n4)) ∧ (w'.cell? ⟨w.heap.size + 1, 10, none⟩ = some (.int .i64 n5)) ∧ (w'.cell? ⟨w.heap.size + 1, 11, none⟩ = some (.int .i64 n6)) ∧ (w'.cell? ⟨w.heap.size + 1, 12, none⟩ = some (.int .i64 n7)) ∧ (w'.cell? ⟨w.heap.size, 0, none⟩ = some (.int .i32 r)) ∧ (w'.cell? ⟨w.heap.size, 1, none⟩ = some (.int .u8 t0)) ∧ (w'.cell? ⟨w.heap.size, 2, none⟩ = some (.int .u8 t1)) ∧ (w'.cell? ⟨w.heap.size, 3, none⟩ = some (.int .u8 t2)) ∧ (w'.cell? ⟨g, 0, none⟩ = some (.int .i32 r)) ∧ (w'.cell? ⟨g, 1, none⟩ = some (.int .u8 t0)) ∧ (w'.cell? ⟨g, 2, none⟩ = some (.int .u8 t1)) ∧ (w'.cell? ⟨g, 3, none⟩ = some (.int .u8 t2))) (first | exact ⟨a0, a1, a2, a3, a4, a5, a6, a7, a8, a9, a10, a11, a12, b0, b1, b2, b3, c0, c1, c2, c3⟩ | exact ⟨a0', a1', a2', a3', a4', a5', a6', a7', a8', a9', a10', a11', a12', b0', b1', b2', b3', c0', c1', c2', c3'⟩) (first | (go_at_call 8; refine (apply_no r t0 t1 t2 k rr p m' n' n0 n1 n2 n3 n4 n5 n6 n7 _ (by exact hm')).mono ?_; rintro e w4 ⟨rfl, hb4⟩; (have hA4 := hA3.drew.below hb4 hA3.drew.lt); (have hB4 := hB3.drew.below hb4 hB3.drew.lt); (have hC4 := hC3.drew.below hb4 hC3.drew.lt); (obtain ⟨a0', a1', a2', a3', a4', a5', a6', a7', a8', a9', a10', a11', a12'⟩ := blk13 hA4); (obtain ⟨b0', b1', b2', b3', _⟩ := blk4 hB4); (obtain ⟨c0', c1', c2', c3', _⟩ := blk4 hC4)))
    go_wp2_with fail
    refine bodyPost_ret (v := .bool true) ?_ rfl ⟨rfl, ?_⟩
    · simp [results, Try.results3, go_sem]
    · exact later hb3.drew hb4
  · clear hts
    go_upto_region 7 with fail
    clear a0 a1 a2 a3 a4 a5 a6 a7 a8 a9 a10 a11 a12 c0 c1 c2 c3
    obtain ⟨a0, a1, a2, a3, a4, a5, a6, a7, a8, a9, a10, a11, a12⟩ := blk13 hA3
    go_region_with (first | (go_simp; go_at_call 8; refine (apply_no r s0 s1 s2 k rr p m' n' n0 n1 n2 n3 n4 n5 n6 n7 _ (by exact hm')).mono ?_; rintro e w4 ⟨rfl, hb4⟩; (have hB4 := hB3.drew.below hb4 hB3.drew.lt); (obtain ⟨b0', b1', b2', b3', _⟩ := blk4 hB4)))
    all_goals
      go_wp2_with fail
      refine bodyPost_ret (v := .bool true) ?_ rfl ⟨rfl, ?_⟩
      · simp [results, Try.results3, go_sem]
      · exact later hb3.drew hb4
end Go.Proofs.Ytljjklhkifehaaa
