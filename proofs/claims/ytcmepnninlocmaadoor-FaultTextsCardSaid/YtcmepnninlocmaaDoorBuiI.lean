/- built, walked: one branch of its choice (printed by mkbuilt.py). -/
import Derived.Test.YtcmepnninlocmaaDoorBuiP
namespace Go.Proofs.YtcmepnninlocmaaDoor
open Go.RowKit
set_option linter.unusedVariables false in
set_option maxRecDepth 100000 in
set_option maxHeartbeats 60000000 in
theorem built_I (ad : Addr) (n c : Nat) (w wr wc : World) (i0 i1 : TypeInfo)
    (hi : Tryd.prog.info? 29 = some i0) (hz0 : i0.zero = some .nilIface) (hz1 : i0.size = 1) (hz2 : i0.bytes = 16)
    (ki : Tryd.prog.info? 45 = some i1) (kz0 : i1.zero = some (.agg #[.int .i64 0, .int .i64 0, .int .i64 0, .string ByteArray.empty, .slice none 0 0])) (kz1 : i1.size = 5) (kz2 : i1.bytes = 64)
    (k N : Nat) (hn : n ≤ 2 ^ 63 - 1) (hk30 : k ≤ 30) (hkn : k ≤ n) (hNk : N ≤ k) (hlt : k < n) (hl30 : k < 30)
    (kd cd pl : Int) (s : ByteArray) (far : Bool) (hfc : Fit64 cd) (hfp : Fit64 pl) (hH : w.heap.size ≤ wr.heap.size)
    (vs : List Value) (es : List E5) (fs : List (Option Ft)) (hvl : vs.length = N) (hel : es.length = N) (hpot : pot fs ≤ 60 * k)
    (Aa Ab : Option Addr) (ca cb : Nat) (s' : ByteArray) (hs' : s'.size ≤ 8) (kk : Nat) (hkk : kk ≤ 7) (j3 : Nat) (hj3 : j3 ≤ 3) (e3 : bits .and .i64 cd 3 = (j3 : Nat))
    (cc : Int) (hcc : Fit64 cc) (hO : Blk wc wr.heap.size 43 (opC kd cd pl s far))
    (hS : St wc w.heap.size (.slice Aa N ca) (.slice Ab N cb) vs es fs) (hba : Below w.heap.size w wc)
    (c1 : wc.cell? ⟨wr.heap.size, 1, none⟩ = some (.int .i64 cd)) (c2 : wc.cell? ⟨wr.heap.size, 2, none⟩ = some (.int .i64 pl))
    (h : kk = 5) {K K0 K1 : Act → World → Prop} {R : Ending → World → Prop}
    (hK : ∀ (s4 s5 u7 u8 u9 u10 u11 u12 u13 u14 u15 u16 u17 u18 u19 u20 u21 u22 u23 u24 u25 u26 u27 u28 u29 u30 u31 u32 u33 u34 u35 u36 u37 u38 u39 u40 u41 u42 u43 u44 u45 u46 u47 u48 u49 u50 u51 u52 u53 u54 u55 u56 u57 u58 u59 u60 u61 u62 u63 u64 u65 u66 u67 u68 u69 u70 u71 u72 u73 u74 u75 u76 u77 u78 u79 u80 u81 u82 u83 u84 u85 u86 u87 u88 u89 u90 u91 u92 u93 u94 u95 u96 u97 u98 u99 u100 u101 u102 u103 u104 u105 u106 u107 u108 u109 u110 u111 u112 u113 u114 u115 u116 u117 u118 u119 u120 u121 u122 u123 u124 u125 u126 u127 u128 u129 u130 u131 u132 u133 u134 u135 u136 u137 u138 u139 u140 : Value) (wx : World) (N' : Nat), N' ≤ k + 1 → PileAt wx w.heap.size s4 s5 N' (60 * (k + 1)) → Below w.heap.size w wx → K ⟨#[.slice (some ad) n c, undef, .slice none 0 0, .slice none 0 0, s4, s5, .int .i64 (k : Nat), u7, u8, u9, u10, u11, u12, u13, u14, u15, u16, u17, u18, u19, u20, u21, u22, u23, u24, u25, u26, u27, u28, u29, u30, u31, u32, u33, u34, u35, u36, u37, u38, u39, u40, u41, u42, u43, u44, u45, u46, u47, u48, u49, u50, u51, u52, u53, u54, u55, u56, u57, u58, u59, u60, u61, u62, u63, u64, u65, u66, u67, u68, u69, u70, u71, u72, u73, u74, u75, u76, u77, u78, u79, u80, u81, u82, u83, u84, u85, u86, u87, u88, u89, u90, u91, u92, u93, u94, u95, u96, u97, u98, u99, u100, u101, u102, u103, u104, u105, u106, u107, u108, u109, u110, u111, u112, u113, u114, u115, u116, u117, u118, u119, u120, u121, u122, u123, u124, u125, u126, u127, u128, u129, u130, u131, u132, u133, u134, u135, u136, u137, u138, u139, u140, undef, undef], []⟩ wx)
    {u11 u12 u13 u14 u15 u16 u17 u18 u19 u20 u21 u22 u23 u24 u25 u26 u27 u28 u29 u30 u31 u32 u33 u34 u35 u36 u37 u38 u39 u40 u41 u42 u43 u44 u48 u49 u50 u51 u52 u53 u54 u55 u56 u57 u58 u59 u60 u61 u62 u63 u64 u65 u66 u67 u68 u69 u70 u71 u72 u73 u74 u75 u76 u77 u78 u79 u80 u81 u82 u83 u84 u85 u86 u87 u88 u89 u90 u91 u92 u93 u94 u95 u96 u97 u98 u99 u100 u101 u102 u103 u104 u105 u106 u107 u108 u109 u110 u111 u112 u113 u114 u115 u116 u117 u118 u119 u120 u121 u122 u123 u124 u125 u126 u127 u128 u129 u130 u131 u132 u133 u134 u135 u136 u137 u138 u139 u140 : Value} :
    Code.wp Tryd.prog brCode (Exit.inBlock 1 (Exit.then K (Exit.then K0 (Exit.inBlock 0 (Exit.then K1 (bodyPost Tryd.prog Tryd.f6 R)))))) ⟨#[.slice (some ad) n c, undef, .slice none 0 0, .slice none 0 0, .slice Aa N ca, .slice Ab N cb, .int .i64 (k : Nat), .pointer (some ⟨wr.heap.size, 0, none⟩), .int .i64 ((N : Int) - 1), .string s', .int .i64 cc, u11, u12, u13, u14, u15, u16, u17, u18, u19, u20, u21, u22, u23, u24, u25, u26, u27, u28, u29, u30, u31, u32, u33, u34, u35, u36, u37, u38, u39, u40, u41, u42, u43, u44, .pointer (some ⟨wr.heap.size, 0, none⟩), .int .i64 kd, .int .i64 (kk : Nat), u48, u49, u50, u51, u52, u53, u54, u55, u56, u57, u58, u59, u60, u61, u62, u63, u64, u65, u66, u67, u68, u69, u70, u71, u72, u73, u74, u75, u76, u77, u78, u79, u80, u81, u82, u83, u84, u85, u86, u87, u88, u89, u90, u91, u92, u93, u94, u95, u96, u97, u98, u99, u100, u101, u102, u103, u104, u105, u106, u107, u108, u109, u110, u111, u112, u113, u114, u115, u116, u117, u118, u119, u120, u121, u122, u123, u124, u125, u126, u127, u128, u129, u130, u131, u132, u133, u134, u135, u136, u137, u138, u139, u140, undef, undef], []⟩ wc := by
  conv => arg 2; whnf
  subst h
  clear c1 c2 e3 hj3 hO
  rcases N with _ | j
  · have hneg : decide (((0 : Nat) : Int) - 1 ≥ 0) = false := by decide
    have hP' : PileAt wc w.heap.size (.slice Aa 0 ca) (.slice Ab 0 cb) 0 (60 * (k + 1)) := ⟨vs, es, fs, hvl, hel, hS, by omega⟩
    go_wp2_with fail
    apply hK
    · show 0 ≤ k + 1; omega
    · exact hP'
    · exact hba
  · obtain ⟨ga, gb, v, F, kd', c', p', s6, A6, n6, cc6, rfl, rfl, hFj, hFv, hca, hfa, hb0, hb1, hb2, hb3, hb4, hfb, hla, hlb, hgg, hBa, hBb⟩ := hS.last hvl hel
    have e8 : (((j + 1 : Nat) : Int) - 1) = (j : Nat) := by omega
    rw [e8]
    clear e8
    have q0 : (0 : Int) ≤ (j : Int) := by omega
    have q1 : (j : Int) < ((j + 1 : Nat) : Int) := by omega
    have hI2 := hS.in2
    go_wp2_with fail
    refine (in_o s' _ hI2 hFv).mono ?_
    rintro e w4 ⟨⟨v', rfl, hFv'⟩, hb4'⟩
    have hS4 := hS.below hb4'
    have hca4 : w4.cell? ⟨ga, j, none⟩ = some v := (hb4'.cell (p := ⟨ga, j, none⟩) hla).trans hca
    have hfa4 : w4.frozen? ⟨ga, j, none⟩ = false := (hb4'.frozen (p := ⟨ga, j, none⟩) hla).trans hfa
    have hS5 := hS4.set_a j (by omega) hFv'
    have hb5 : Below w.heap.size w (w4.setCell ⟨ga, j, none⟩ v') := (hba.trans (hb4'.mono hba.size)).setCell hBa _
    have hcell : ∀ q u, wc.cell? ⟨gb, q, none⟩ = some u → (w4.setCell ⟨ga, j, none⟩ v').cell? ⟨gb, q, none⟩ = some u := fun q u hu => by
      rw [Only.cell' (grown_setCell w4 ga j v') (p := ⟨gb, q, none⟩) (show gb < w4.heap.size by have := hb4'.size; omega) (show gb ≠ ga from fun e => hgg e.symm), hb4'.cell (p := ⟨gb, q, none⟩) hlb]
      exact hu
    have b0 := hcell _ _ hb0
    have b1 := hcell _ _ hb1
    have b2 := hcell _ _ hb2
    have b3 := hcell _ _ hb3
    have b4 := hcell _ _ hb4
    have hfb5 : ∀ q, (w4.setCell ⟨ga, j, none⟩ v').frozen? ⟨gb, q, none⟩ = false := fun q => by
      rw [Only.frozen (grown_setCell w4 ga j v') (p := ⟨gb, q, none⟩) (show gb < w4.heap.size by have := hb4'.size; omega) (show gb ≠ ga from fun e => hgg e.symm), hb4'.frozen (p := ⟨gb, q, none⟩) hlb]
      exact hfb q
    have hlb5 : gb < (w4.setCell ⟨ga, j, none⟩ v').heap.size := by have := hb4'.size; simp [World.setCell]; omega
    clear hS hS4 hca hfa hb0 hb1 hb2 hb3 hb4 hfb hcell
    rcases hFv'.isErr with rfl | ⟨T, x, rfl⟩
    all_goals
      go_upto_region 25 with fail
      generalize w4.setCell ⟨ga, j, none⟩ _ = w5 at hS5 hb5 b0 b1 b2 b3 b4 hfb5 hlb5 ⊢
      go_wp2_with fail
      refine (refIn_any kd' c' p' s6 A6 n6 cc6 s' w5).mono ?_
      rintro e w6 ⟨⟨k7, c7, p7, s7, A7, n7, cc7, rfl⟩, hb6⟩
      have hS6 := hS5.below hb6
      have hb7 := hb5.trans (hb6.mono hb5.size)
      have d0 : w6.cell? ⟨gb, j * 5, none⟩ = _ := (hb6.cell (p := ⟨gb, j * 5, none⟩) hlb5).trans b0
      have d1 : w6.cell? ⟨gb, j * 5 + 1, none⟩ = _ := (hb6.cell (p := ⟨gb, j * 5 + 1, none⟩) hlb5).trans b1
      have d2 : w6.cell? ⟨gb, j * 5 + 2, none⟩ = _ := (hb6.cell (p := ⟨gb, j * 5 + 2, none⟩) hlb5).trans b2
      have d3 : w6.cell? ⟨gb, j * 5 + 3, none⟩ = _ := (hb6.cell (p := ⟨gb, j * 5 + 3, none⟩) hlb5).trans b3
      have d4 : w6.cell? ⟨gb, j * 5 + 4, none⟩ = _ := (hb6.cell (p := ⟨gb, j * 5 + 4, none⟩) hlb5).trans b4
      have f0 : w6.frozen? ⟨gb, j * 5, none⟩ = false := (hb6.frozen (p := ⟨gb, j * 5, none⟩) hlb5).trans (hfb5 _)
      have f1 : w6.frozen? ⟨gb, j * 5 + 1, none⟩ = false := (hb6.frozen (p := ⟨gb, j * 5 + 1, none⟩) hlb5).trans (hfb5 _)
      have f2 : w6.frozen? ⟨gb, j * 5 + 2, none⟩ = false := (hb6.frozen (p := ⟨gb, j * 5 + 2, none⟩) hlb5).trans (hfb5 _)
      have f3 : w6.frozen? ⟨gb, j * 5 + 3, none⟩ = false := (hb6.frozen (p := ⟨gb, j * 5 + 3, none⟩) hlb5).trans (hfb5 _)
      have f4 : w6.frozen? ⟨gb, j * 5 + 4, none⟩ = false := (hb6.frozen (p := ⟨gb, j * 5 + 4, none⟩) hlb5).trans (hfb5 _)
      have hS7 := hS6.set_b j (by omega) (k7, c7, p7, s7, A7, n7, cc7) rfl
      have hpl := inO_len F s' hs'
      have hps := pot_set fs j (inO F s') F hFj
      have hb8 := ((((hb7.setCell hBb (p := ⟨gb, j * 5, none⟩) (.int .i64 k7)).setCell hBb (p := ⟨gb, j * 5 + 1, none⟩) (.int .i64 c7)).setCell hBb (p := ⟨gb, j * 5 + 2, none⟩) (.int .i64 p7)).setCell hBb (p := ⟨gb, j * 5 + 3, none⟩) (.string s7)).setCell hBb (p := ⟨gb, j * 5 + 4, none⟩) (.slice A7 n7 cc7)
      have hP' := (⟨_, _, _, by simp [hvl], by simp [hel], hS7, by omega⟩ : PileAt _ w.heap.size (.slice (some ⟨ga, 0, none⟩) (j + 1) ca) (.slice (some ⟨gb, 0, none⟩) (j + 1) cb) (j + 1) (60 * (k + 1)))
      clear hS5 hS6 hS7 b0 b1 b2 b3 b4 hfb5 hpl hps
      go_wp2_with fail
      apply hK
      · show j + 1 ≤ k + 1; omega
      · exact hP'
      · exact hb8
end Go.Proofs.YtcmepnninlocmaaDoor
