/- built, walked: one branch of its choice (printed by mkbuilt.py). -/
import Derived.Test.YtcmepnninlocmaaDoorBuiP
namespace Go.Proofs.YtcmepnninlocmaaDoor
open Go.RowKit
set_option linter.unusedVariables false in
set_option maxRecDepth 100000 in
set_option maxHeartbeats 60000000 in
theorem built_A (ad : Addr) (n c : Nat) (w wr wc : World) (i0 i1 : TypeInfo)
    (hi : Tryd.prog.info? 29 = some i0) (hz0 : i0.zero = some .nilIface) (hz1 : i0.size = 1) (hz2 : i0.bytes = 16)
    (ki : Tryd.prog.info? 45 = some i1) (kz0 : i1.zero = some (.agg #[.int .i64 0, .int .i64 0, .int .i64 0, .string ByteArray.empty, .slice none 0 0])) (kz1 : i1.size = 5) (kz2 : i1.bytes = 64)
    (k N : Nat) (hn : n ≤ 2 ^ 63 - 1) (hk30 : k ≤ 30) (hkn : k ≤ n) (hNk : N ≤ k) (hlt : k < n) (hl30 : k < 30)
    (kd cd pl : Int) (s : ByteArray) (far : Bool) (hfc : Fit64 cd) (hfp : Fit64 pl) (hH : w.heap.size ≤ wr.heap.size)
    (vs : List Value) (es : List E5) (fs : List (Option Ft)) (hvl : vs.length = N) (hel : es.length = N) (hpot : pot fs ≤ 60 * k)
    (Aa Ab : Option Addr) (ca cb : Nat) (s' : ByteArray) (hs' : s'.size ≤ 8) (kk : Nat) (hkk : kk ≤ 7) (j3 : Nat) (hj3 : j3 ≤ 3) (e3 : bits .and .i64 cd 3 = (j3 : Nat))
    (cc : Int) (hcc : Fit64 cc) (hO : Blk wc wr.heap.size 43 (opC kd cd pl s far))
    (hS : St wc w.heap.size (.slice Aa N ca) (.slice Ab N cb) vs es fs) (hba : Below w.heap.size w wc)
    (c1 : wc.cell? ⟨wr.heap.size, 1, none⟩ = some (.int .i64 cd)) (c2 : wc.cell? ⟨wr.heap.size, 2, none⟩ = some (.int .i64 pl))
    (h : kk = 3 ∨ kk = 4) {K K0 K1 : Act → World → Prop} {R : Ending → World → Prop}
    (hK : ∀ (s4 s5 u7 u8 u9 u10 u11 u12 u13 u14 u15 u16 u17 u18 u19 u20 u21 u22 u23 u24 u25 u26 u27 u28 u29 u30 u31 u32 u33 u34 u35 u36 u37 u38 u39 u40 u41 u42 u43 u44 u45 u46 u47 u48 u49 u50 u51 u52 u53 u54 u55 u56 u57 u58 u59 u60 u61 u62 u63 u64 u65 u66 u67 u68 u69 u70 u71 u72 u73 u74 u75 u76 u77 u78 u79 u80 u81 u82 u83 u84 u85 u86 u87 u88 u89 u90 u91 u92 u93 u94 u95 u96 u97 u98 u99 u100 u101 u102 u103 u104 u105 u106 u107 u108 u109 u110 u111 u112 u113 u114 u115 u116 u117 u118 u119 u120 u121 u122 u123 u124 u125 u126 u127 u128 u129 u130 u131 u132 u133 u134 u135 u136 u137 u138 u139 u140 : Value) (wx : World) (N' : Nat), N' ≤ k + 1 → PileAt wx w.heap.size s4 s5 N' (60 * (k + 1)) → Below w.heap.size w wx → K ⟨#[.slice (some ad) n c, undef, .slice none 0 0, .slice none 0 0, s4, s5, .int .i64 (k : Nat), u7, u8, u9, u10, u11, u12, u13, u14, u15, u16, u17, u18, u19, u20, u21, u22, u23, u24, u25, u26, u27, u28, u29, u30, u31, u32, u33, u34, u35, u36, u37, u38, u39, u40, u41, u42, u43, u44, u45, u46, u47, u48, u49, u50, u51, u52, u53, u54, u55, u56, u57, u58, u59, u60, u61, u62, u63, u64, u65, u66, u67, u68, u69, u70, u71, u72, u73, u74, u75, u76, u77, u78, u79, u80, u81, u82, u83, u84, u85, u86, u87, u88, u89, u90, u91, u92, u93, u94, u95, u96, u97, u98, u99, u100, u101, u102, u103, u104, u105, u106, u107, u108, u109, u110, u111, u112, u113, u114, u115, u116, u117, u118, u119, u120, u121, u122, u123, u124, u125, u126, u127, u128, u129, u130, u131, u132, u133, u134, u135, u136, u137, u138, u139, u140, undef, undef], []⟩ wx)
    {u11 u12 u13 u14 u15 u16 u17 u18 u19 u20 u21 u22 u23 u24 u25 u26 u27 u28 u29 u30 u31 u32 u33 u34 u35 u36 u37 u38 u39 u40 u41 u42 u43 u44 u48 u49 u50 u51 u52 u53 u54 u55 u56 u57 u58 u59 u60 u61 u62 u63 u64 u65 u66 u67 u68 u69 u70 u71 u72 u73 u74 u75 u76 u77 u78 u79 u80 u81 u82 u83 u84 u85 u86 u87 u88 u89 u90 u91 u92 u93 u94 u95 u96 u97 u98 u99 u100 u101 u102 u103 u104 u105 u106 u107 u108 u109 u110 u111 u112 u113 u114 u115 u116 u117 u118 u119 u120 u121 u122 u123 u124 u125 u126 u127 u128 u129 u130 u131 u132 u133 u134 u135 u136 u137 u138 u139 u140 : Value} :
    Code.wp Tryd.prog brCode (Exit.inBlock 1 (Exit.then K (Exit.then K0 (Exit.inBlock 0 (Exit.then K1 (bodyPost Tryd.prog Tryd.f6 R)))))) ⟨#[.slice (some ad) n c, undef, .slice none 0 0, .slice none 0 0, .slice Aa N ca, .slice Ab N cb, .int .i64 (k : Nat), .pointer (some ⟨wr.heap.size, 0, none⟩), .int .i64 ((N : Int) - 1), .string s', .int .i64 cc, u11, u12, u13, u14, u15, u16, u17, u18, u19, u20, u21, u22, u23, u24, u25, u26, u27, u28, u29, u30, u31, u32, u33, u34, u35, u36, u37, u38, u39, u40, u41, u42, u43, u44, .pointer (some ⟨wr.heap.size, 0, none⟩), .int .i64 kd, .int .i64 (kk : Nat), u48, u49, u50, u51, u52, u53, u54, u55, u56, u57, u58, u59, u60, u61, u62, u63, u64, u65, u66, u67, u68, u69, u70, u71, u72, u73, u74, u75, u76, u77, u78, u79, u80, u81, u82, u83, u84, u85, u86, u87, u88, u89, u90, u91, u92, u93, u94, u95, u96, u97, u98, u99, u100, u101, u102, u103, u104, u105, u106, u107, u108, u109, u110, u111, u112, u113, u114, u115, u116, u117, u118, u119, u120, u121, u122, u123, u124, u125, u126, u127, u128, u129, u130, u131, u132, u133, u134, u135, u136, u137, u138, u139, u140, undef, undef], []⟩ wc := by
  conv => arg 2; whnf
  clear c1 e3 hj3
  rcases N with _ | j
  · clear c2 hO
    have hP' : PileAt wc w.heap.size (.slice Aa 0 ca) (.slice Ab 0 cb) 0 (60 * (k + 1)) := ⟨vs, es, fs, hvl, hel, hS, by omega⟩
    rcases h with rfl | rfl
    all_goals
      go_wp2_with fail
      apply hK
      · show 0 ≤ k + 1; omega
      · exact hP'
      · exact hba
  · obtain ⟨ga, gb, v, F, kd', c', p', s6, A6, n6, cc6, rfl, rfl, hFj, hFv, hca, hfa, hb0, hb1, hb2, hb3, hb4, hfb, hla, hlb, hgg, hBa, hBb⟩ := hS.last hvl hel
    have e8 : (((j + 1 : Nat) : Int) - 1) = (j : Nat) := by omega
    rw [e8]
    clear e8
    have q0 : (0 : Int) ≤ (j : Int) := by omega
    have q1 : (j : Int) < ((j + 1 : Nat) : Int) := by omega
    have hOga : ga ≠ wr.heap.size := fun e => by
      have hx := hS.a
      rw [hvl] at hx
      obtain ⟨cur, hcur⟩ := own_blk hx
      subst e
      have := hcur.symm.trans hO
      injection this with this
      injection this with _ this
      revert this
      decide
    have hOgb : gb ≠ wr.heap.size := fun e => by
      have hx := hS.b
      rw [hel] at hx
      obtain ⟨cur, hcur⟩ := own_blk hx
      subst e
      have := hcur.symm.trans hO
      injection this with this
      injection this with _ this
      revert this
      decide
    have hSd : St wc.drew w.heap.size (.slice (some ⟨ga, 0, none⟩) (j + 1) ca) (.slice (some ⟨gb, 0, none⟩) (j + 1) cb) vs es fs := hS.below (Below.refl _ _).drew
    have hFd : FtO (hide2 wc.drew (some ga) (some gb)) F v := hFv.kp (Kp.belowH _ _ (Below.refl _ _).drew)
    have hI2 := hSd.in2
    have fin : ∀ (w4 : World) (v' : Value), FtO (hide2 w4 (some ga) (some gb)) (atO F pl) v' → Below wc.drew.heap.size wc.drew w4 →
        (∃ vs' fs', vs'.length = j + 1 ∧ St (w4.setCell ⟨ga, j, none⟩ v') w.heap.size (.slice (some ⟨ga, 0, none⟩) (j + 1) ca) (.slice (some ⟨gb, 0, none⟩) (j + 1) cb) vs' es fs' ∧ pot fs' ≤ 60 * k + 30) ∧ Below w.heap.size w (w4.setCell ⟨ga, j, none⟩ v') ∧ Blk (w4.setCell ⟨ga, j, none⟩ v') wr.heap.size 43 (opC kd cd pl s far) := fun w4 v' hF4 hb4' => by
      have hb4'' : Below wc.heap.size wc w4 := (Below.refl _ _).drew.trans hb4'
      have hS5 := (hSd.below hb4').set_a j (by omega) hF4
      have hpl := atO_len F pl hfp
      have hps := pot_set fs j (atO F pl) F hFj
      refine ⟨⟨_, _, by simp [hvl], hS5, by omega⟩, (hba.trans (hb4''.mono hba.size)).setCell hBa _, ?_⟩
      exact (hO.below hb4'' hO.lt).far (p := ⟨ga, j, none⟩) (show wr.heap.size ≠ ga from fun e => hOga e.symm) _
    have FIN := Lib.hid fin
    clear fin
    have hca' : wc.drew.cell? ⟨ga, j, none⟩ = some v := hca
    have c2' : wc.drew.cell? ⟨wr.heap.size, 2, none⟩ = some (.int .i64 pl) := c2
    clear hb0 hb1 hb2 hb3 hb4 hfb
    go_upto_if 58 with fail
    go_cut [58] from 14 to 140 (fun s58 wx => s58 = .bool true ∧ wx = wc)
    case first =>
      rcases h with rfl | rfl
      all_goals
        go_wp2_with fail
        go_meet
        exact ⟨rfl, rfl⟩
    case rest =>
    obtain ⟨rfl, hwc⟩ := hcut
    subst hwc
    go_upto_region 20 with fail
    go_cut [] from 14 to 140 (fun wx => (∃ vs' fs', vs'.length = j + 1 ∧ St wx w.heap.size (.slice (some ⟨ga, 0, none⟩) (j + 1) ca) (.slice (some ⟨gb, 0, none⟩) (j + 1) cb) vs' es fs' ∧ pot fs' ≤ 60 * k + 30) ∧ Below w.heap.size w wx ∧ Blk wx wr.heap.size 43 (opC kd cd pl s far))
    case first =>
      cases F with
      | none =>
        obtain rfl : v = .nilIface := hFd
        go_region_with (first
          | (go_simp; go_at_call 10; refine (at_nil pl _).mono ?_; rintro e w4 ⟨rfl, rfl⟩))
        all_goals
          go_wp2_with fail
          go_meet
          exact FIN.out _ .nilIface rfl (Below.refl _ _)
      | some F1 =>
        obtain ⟨T0, x0, rfl⟩ := FtAt.isErr (show FtAt (hide2 _ (some ga) (some gb)) F1 v from hFd)
        go_region_with (first
          | (go_simp; go_at_call 10; refine (at_o_some pl _ hfp hI2 hFd).mono ?_; rintro e w4 ⟨T, x, rfl, hFv', hb4'⟩; have hca4 : w4.cell? ⟨ga, j, none⟩ = some (.iface T0 x0) := (hb4'.cell (p := ⟨ga, j, none⟩) hla).trans hca; have hfa4 : w4.frozen? ⟨ga, j, none⟩ = false := (hb4'.frozen (p := ⟨ga, j, none⟩) hla).trans hfa))
        all_goals
          go_wp2_with fail
          go_meet
          exact FIN.out _ _ hFv' hb4'
    case rest =>
    obtain ⟨⟨vs', fs', hvl', hS', hpot'⟩, hbx, hOx⟩ := hcut
    clear hFd hSd hI2 FIN hS hFv hca hfa hca' c2' hO c2
    obtain ⟨ga', gb', v9, F9, kd', c', p', s6, A6, n6, cc6, e1, e2, hFj9, hFv9, hca9, hfa9, hb0, hb1, hb2, hb3, hb4, hfb, hla9, hlb9, _, _, _⟩ := hS'.last hvl' hel
    injection e1 with e1
    injection e1 with e1
    injection e2 with e2
    injection e2 with e2
    subst e1
    subst e2
    clear hFv9 hca9 hfa9 hFj9
    generalize hwx : wc = wx at hS' hbx hOx hb0 hb1 hb2 hb3 hb4 hfb hla9 hlb9 ⊢
    clear hwx
    have p2 : wx.drew.cell? ⟨wr.heap.size, 2, none⟩ = some (.int .i64 pl) := hOx.cell 2
    have b0 : wx.drew.cell? ⟨gb, j * 5, none⟩ = _ := hb0
    have b1 : wx.drew.cell? ⟨gb, j * 5 + 1, none⟩ = _ := hb1
    have b2 : wx.drew.cell? ⟨gb, j * 5 + 2, none⟩ = _ := hb2
    have b3 : wx.drew.cell? ⟨gb, j * 5 + 3, none⟩ = _ := hb3
    have b4 : wx.drew.cell? ⟨gb, j * 5 + 4, none⟩ = _ := hb4
    have fin : ∀ (w6 : World) (k7 c7 p7 : Int) (s7 : ByteArray) (A7 : Option Addr) (n7 cc7 : Nat), Below wx.drew.heap.size wx.drew w6 →
        PileAt (((((w6.setCell ⟨gb, j * 5, none⟩ (.int .i64 k7)).setCell ⟨gb, j * 5 + 1, none⟩ (.int .i64 c7)).setCell ⟨gb, j * 5 + 2, none⟩ (.int .i64 p7)).setCell ⟨gb, j * 5 + 3, none⟩ (.string s7)).setCell ⟨gb, j * 5 + 4, none⟩ (.slice A7 n7 cc7)) w.heap.size (.slice (some ⟨ga, 0, none⟩) (j + 1) ca) (.slice (some ⟨gb, 0, none⟩) (j + 1) cb) (j + 1) (60 * (k + 1)) ∧
        Below w.heap.size w (((((w6.setCell ⟨gb, j * 5, none⟩ (.int .i64 k7)).setCell ⟨gb, j * 5 + 1, none⟩ (.int .i64 c7)).setCell ⟨gb, j * 5 + 2, none⟩ (.int .i64 p7)).setCell ⟨gb, j * 5 + 3, none⟩ (.string s7)).setCell ⟨gb, j * 5 + 4, none⟩ (.slice A7 n7 cc7)) := fun w6 k7 c7 p7 s7 A7 n7 cc7 hb6 => by
      have hb6' : Below wx.heap.size wx w6 := (Below.refl _ _).drew.trans hb6
      have hS7 := (hS'.below hb6').set_b j (by omega) (k7, c7, p7, s7, A7, n7, cc7) rfl
      have hb7 := hbx.trans (hb6'.mono hbx.size)
      refine ⟨⟨_, _, _, hvl', by simp [hel], hS7, by omega⟩, ?_⟩
      exact ((((hb7.setCell hBb (p := ⟨gb, j * 5, none⟩) (.int .i64 k7)).setCell hBb (p := ⟨gb, j * 5 + 1, none⟩) (.int .i64 c7)).setCell hBb (p := ⟨gb, j * 5 + 2, none⟩) (.int .i64 p7)).setCell hBb (p := ⟨gb, j * 5 + 3, none⟩) (.string s7)).setCell hBb (p := ⟨gb, j * 5 + 4, none⟩) (.slice A7 n7 cc7)
    have FIN := Lib.hid fin
    have HFB := Lib.hid hfb
    clear fin hfb hS' hOx
    go_upto_region 21 with fail
    go_region_with (first
      | (go_simp; go_at_call 16; refine (refAt_any kd' c' p' s6 A6 n6 cc6 pl wx.drew).mono ?_; rintro e w6 ⟨⟨k7, c7, p7, s7, A7, n7, cc7, rfl⟩, hb6⟩; have d0 : w6.cell? ⟨gb, j * 5, none⟩ = _ := (hb6.cell (p := ⟨gb, j * 5, none⟩) hlb9).trans b0; have d1 : w6.cell? ⟨gb, j * 5 + 1, none⟩ = _ := (hb6.cell (p := ⟨gb, j * 5 + 1, none⟩) hlb9).trans b1; have d2 : w6.cell? ⟨gb, j * 5 + 2, none⟩ = _ := (hb6.cell (p := ⟨gb, j * 5 + 2, none⟩) hlb9).trans b2; have d3 : w6.cell? ⟨gb, j * 5 + 3, none⟩ = _ := (hb6.cell (p := ⟨gb, j * 5 + 3, none⟩) hlb9).trans b3; have d4 : w6.cell? ⟨gb, j * 5 + 4, none⟩ = _ := (hb6.cell (p := ⟨gb, j * 5 + 4, none⟩) hlb9).trans b4; have f0 : w6.frozen? ⟨gb, j * 5, none⟩ = false := (hb6.frozen (p := ⟨gb, j * 5, none⟩) hlb9).trans (HFB.out _); have f1 : w6.frozen? ⟨gb, j * 5 + 1, none⟩ = false := (hb6.frozen (p := ⟨gb, j * 5 + 1, none⟩) hlb9).trans (HFB.out _); have f2 : w6.frozen? ⟨gb, j * 5 + 2, none⟩ = false := (hb6.frozen (p := ⟨gb, j * 5 + 2, none⟩) hlb9).trans (HFB.out _); have f3 : w6.frozen? ⟨gb, j * 5 + 3, none⟩ = false := (hb6.frozen (p := ⟨gb, j * 5 + 3, none⟩) hlb9).trans (HFB.out _); have f4 : w6.frozen? ⟨gb, j * 5 + 4, none⟩ = false := (hb6.frozen (p := ⟨gb, j * 5 + 4, none⟩) hlb9).trans (HFB.out _)))
    all_goals
      go_wp2_with fail
      have hfin := FIN.out w6 k7 c7 p7 s7 A7 n7 cc7 hb6
      apply hK
      · show j + 1 ≤ k + 1; omega
      · exact hfin.1
      · exact hfin.2
end Go.Proofs.YtcmepnninlocmaaDoor
