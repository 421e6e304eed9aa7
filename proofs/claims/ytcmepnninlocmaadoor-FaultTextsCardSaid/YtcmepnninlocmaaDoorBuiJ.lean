/- built, walked: one branch of its choice (printed by mkbuilt.py). -/
import Derived.Test.YtcmepnninlocmaaDoorBuiP
namespace Go.Proofs.YtcmepnninlocmaaDoor
open Go.RowKit
set_option linter.unusedVariables false in
set_option maxRecDepth 100000 in
set_option maxHeartbeats 60000000 in
theorem built_J (ad : Addr) (n c : Nat) (w wr wc : World) (i0 i1 : TypeInfo)
    (hi : Tryd.prog.info? 29 = some i0) (hz0 : i0.zero = some .nilIface) (hz1 : i0.size = 1) (hz2 : i0.bytes = 16)
    (ki : Tryd.prog.info? 45 = some i1) (kz0 : i1.zero = some (.agg #[.int .i64 0, .int .i64 0, .int .i64 0, .string ByteArray.empty, .slice none 0 0])) (kz1 : i1.size = 5) (kz2 : i1.bytes = 64)
    (k N : Nat) (hn : n ≤ 2 ^ 63 - 1) (hk30 : k ≤ 30) (hkn : k ≤ n) (hNk : N ≤ k) (hlt : k < n) (hl30 : k < 30)
    (kd cd pl : Int) (s : ByteArray) (far : Bool) (hfc : Fit64 cd) (hfp : Fit64 pl) (hH : w.heap.size ≤ wr.heap.size)
    (vs : List Value) (es : List E5) (fs : List (Option Ft)) (hvl : vs.length = N) (hel : es.length = N) (hpot : pot fs ≤ 60 * k)
    (Aa Ab : Option Addr) (ca cb : Nat) (s' : ByteArray) (hs' : s'.size ≤ 8) (kk : Nat) (hkk : kk ≤ 7) (j3 : Nat) (hj3 : j3 ≤ 3) (e3 : bits .and .i64 cd 3 = (j3 : Nat))
    (cc : Int) (hcc : Fit64 cc) (hO : Blk wc wr.heap.size 43 (opC kd cd pl s far))
    (hS : St wc w.heap.size (.slice Aa N ca) (.slice Ab N cb) vs es fs) (hba : Below w.heap.size w wc)
    (c1 : wc.cell? ⟨wr.heap.size, 1, none⟩ = some (.int .i64 cd)) (c2 : wc.cell? ⟨wr.heap.size, 2, none⟩ = some (.int .i64 pl))
    (h : kk = 6 ∨ kk = 7) {K K0 K1 : Act → World → Prop} {R : Ending → World → Prop}
    (hK : ∀ (s4 s5 u7 u8 u9 u10 u11 u12 u13 u14 u15 u16 u17 u18 u19 u20 u21 u22 u23 u24 u25 u26 u27 u28 u29 u30 u31 u32 u33 u34 u35 u36 u37 u38 u39 u40 u41 u42 u43 u44 u45 u46 u47 u48 u49 u50 u51 u52 u53 u54 u55 u56 u57 u58 u59 u60 u61 u62 u63 u64 u65 u66 u67 u68 u69 u70 u71 u72 u73 u74 u75 u76 u77 u78 u79 u80 u81 u82 u83 u84 u85 u86 u87 u88 u89 u90 u91 u92 u93 u94 u95 u96 u97 u98 u99 u100 u101 u102 u103 u104 u105 u106 u107 u108 u109 u110 u111 u112 u113 u114 u115 u116 u117 u118 u119 u120 u121 u122 u123 u124 u125 u126 u127 u128 u129 u130 u131 u132 u133 u134 u135 u136 u137 u138 u139 u140 : Value) (wx : World) (N' : Nat), N' ≤ k + 1 → PileAt wx w.heap.size s4 s5 N' (60 * (k + 1)) → Below w.heap.size w wx → K ⟨#[.slice (some ad) n c, undef, .slice none 0 0, .slice none 0 0, s4, s5, .int .i64 (k : Nat), u7, u8, u9, u10, u11, u12, u13, u14, u15, u16, u17, u18, u19, u20, u21, u22, u23, u24, u25, u26, u27, u28, u29, u30, u31, u32, u33, u34, u35, u36, u37, u38, u39, u40, u41, u42, u43, u44, u45, u46, u47, u48, u49, u50, u51, u52, u53, u54, u55, u56, u57, u58, u59, u60, u61, u62, u63, u64, u65, u66, u67, u68, u69, u70, u71, u72, u73, u74, u75, u76, u77, u78, u79, u80, u81, u82, u83, u84, u85, u86, u87, u88, u89, u90, u91, u92, u93, u94, u95, u96, u97, u98, u99, u100, u101, u102, u103, u104, u105, u106, u107, u108, u109, u110, u111, u112, u113, u114, u115, u116, u117, u118, u119, u120, u121, u122, u123, u124, u125, u126, u127, u128, u129, u130, u131, u132, u133, u134, u135, u136, u137, u138, u139, u140, undef, undef], []⟩ wx)
    {u11 u12 u13 u14 u15 u16 u17 u18 u19 u20 u21 u22 u23 u24 u25 u26 u27 u28 u29 u30 u31 u32 u33 u34 u35 u36 u37 u38 u39 u40 u41 u42 u43 u44 u48 u49 u50 u51 u52 u53 u54 u55 u56 u57 u58 u59 u60 u61 u62 u63 u64 u65 u66 u67 u68 u69 u70 u71 u72 u73 u74 u75 u76 u77 u78 u79 u80 u81 u82 u83 u84 u85 u86 u87 u88 u89 u90 u91 u92 u93 u94 u95 u96 u97 u98 u99 u100 u101 u102 u103 u104 u105 u106 u107 u108 u109 u110 u111 u112 u113 u114 u115 u116 u117 u118 u119 u120 u121 u122 u123 u124 u125 u126 u127 u128 u129 u130 u131 u132 u133 u134 u135 u136 u137 u138 u139 u140 : Value} :
    Code.wp Tryd.prog brCode (Exit.inBlock 1 (Exit.then K (Exit.then K0 (Exit.inBlock 0 (Exit.then K1 (bodyPost Tryd.prog Tryd.f6 R)))))) ⟨#[.slice (some ad) n c, undef, .slice none 0 0, .slice none 0 0, .slice Aa N ca, .slice Ab N cb, .int .i64 (k : Nat), .pointer (some ⟨wr.heap.size, 0, none⟩), .int .i64 ((N : Int) - 1), .string s', .int .i64 cc, u11, u12, u13, u14, u15, u16, u17, u18, u19, u20, u21, u22, u23, u24, u25, u26, u27, u28, u29, u30, u31, u32, u33, u34, u35, u36, u37, u38, u39, u40, u41, u42, u43, u44, .pointer (some ⟨wr.heap.size, 0, none⟩), .int .i64 kd, .int .i64 (kk : Nat), u48, u49, u50, u51, u52, u53, u54, u55, u56, u57, u58, u59, u60, u61, u62, u63, u64, u65, u66, u67, u68, u69, u70, u71, u72, u73, u74, u75, u76, u77, u78, u79, u80, u81, u82, u83, u84, u85, u86, u87, u88, u89, u90, u91, u92, u93, u94, u95, u96, u97, u98, u99, u100, u101, u102, u103, u104, u105, u106, u107, u108, u109, u110, u111, u112, u113, u114, u115, u116, u117, u118, u119, u120, u121, u122, u123, u124, u125, u126, u127, u128, u129, u130, u131, u132, u133, u134, u135, u136, u137, u138, u139, u140, undef, undef], []⟩ wc := by
  conv => arg 2; whnf
  clear c2 hO
  have hsa : (Aa = none ∧ N = 0 ∧ ca = 0) ∨ ∃ ga, Aa = some ⟨ga, 0, none⟩ ∧ N ≤ ca := own_shape (hvl ▸ hS.a)
  have hsb : (Ab = none ∧ N = 0 ∧ cb = 0) ∨ ∃ gb, Ab = some ⟨gb, 0, none⟩ ∧ N ≤ cb := own_shape (hel ▸ hS.b)
  obtain ⟨q, hq⟩ : ∃ q, q = N - min j3 N := ⟨_, rfl⟩
  have hqN : q ≤ N := by omega
  have HQ := Lib.hid hq
  clear hq
  have t3 : ((kk : Int) == 3) = false := by simp; omega
  have t4 : ((kk : Int) == 4) = false := by simp; omega
  have t5 : ((kk : Int) == 5) = false := by simp; omega
  go_upto_if 105 with fail
  go_cut [105] from 14 to 140 (fun s105 wx => s105 = .bool true ∧ wx = wc)
  case first =>
    rcases h with rfl | rfl
    all_goals
      go_wp2_with fail
      go_meet
      exact ⟨rfl, rfl⟩
  case rest =>
  obtain ⟨rfl, hwc⟩ := hcut
  subst hwc
  clear t3 t4 t5 h
  go_upto_region 28 with fail
  go_cut [11] from 14 to 140 (fun s11 wx => s11 = .int .i64 (q : Nat) ∧ wx = wc)
  case first =>
    go_wp2_with fail
    go_meet
    exact ⟨congrArg (Value.int .i64) (by have := HQ.out; omega), rfl⟩
  case rest =>
  obtain ⟨rfl, hwc⟩ := hcut
  subst hwc
  clear HQ e3 c1
  have hI2 := hS.in2
  have hFd : FtOs (hide2 _ (Value.slice Aa N ca).ownBlock (Value.slice Ab N cb).ownBlock) (fs.drop q) (vs.drop q) := hS.f.drop q
  have hvd : (vs.drop q).length = N - q := by rw [List.length_drop, hvl]
  go_upto_region 29 with fail
  go_cut [12] from 14 to 140 (fun s12 wx => ∃ v, s12 = v ∧ FtO (hide2 wx (Value.slice Aa N ca).ownBlock (Value.slice Ab N cb).ownBlock) (joinO (fs.drop q)) v ∧ Below wc.heap.size wc wx)
  case first =>
    have hsrc : ∀ ga, Aa = some ⟨ga, 0, none⟩ → Src wc (some ⟨ga, q, none⟩) (vs.drop q) := fun ga hga h0 => ⟨_, rfl, fun i u hu => by
      have h1 : vs[q + i]? = some u := by rw [List.getElem?_drop] at hu; exact hu
      have h2 := hS.a.cells (g := ga) (by rw [hga]; rfl) (q + i) u h1
      rw [add_zero'] at h2
      rw [add_any]
      exact h2⟩
    rcases hsa with ⟨rfl, rfl, rfl⟩ | ⟨ga, rfl, hNc⟩
    · obtain rfl : q = 0 := by omega
      go_wp2_with fail
      refine (join_o none 0 0 (vs.drop 0) _ hvd (by omega) (fun h => by rw [hvd] at h; omega) hI2 hFd).mono ?_
      rintro e w4 ⟨⟨v', rfl, hFv'⟩, hb4'⟩
      go_wp2_with fail
      go_meet
      exact ⟨v', rfl, hFv', hb4'⟩
    · have hs0 := hsrc ga rfl
      have q0 : (0 : Int) ≤ (q : Int) := by omega
      have q1 : (q : Int) ≤ (N : Int) := by omega
      have q2 : (N : Int) ≤ (ca : Int) := by omega
      clear hsrc
      by_cases hqc : ca = q
      · subst hqc
        obtain rfl : N = ca := by omega
        go_wp2_with fail
        refine (join_o (some ⟨ga, 0, none⟩) 0 0 (vs.drop N) _ (by rw [hvd]; omega) (by omega) (fun h => by rw [hvd] at h; omega) hI2 hFd).mono ?_
        rintro e w4 ⟨⟨v', rfl, hFv'⟩, hb4'⟩
        go_wp2_with fail
        go_meet
        exact ⟨v', rfl, hFv', hb4'⟩
      · have hqc' : decide (ca = q) = false := decide_eq_false hqc
        go_wp2_with fail
        refine (join_o (some ⟨ga, q, none⟩) (N - q) (ca - q) (vs.drop q) _ hvd (by omega) hs0 hI2 hFd).mono ?_
        rintro e w4 ⟨⟨v', rfl, hFv'⟩, hb4'⟩
        go_wp2_with fail
        go_meet
        exact ⟨v', rfl, hFv', hb4'⟩
  case rest =>
  obtain ⟨x12, rfl, hFx, hbx⟩ := hcut
  have hSx := hS.below hbx
  have hbx' := hba.trans (hbx.mono hba.size)
  clear hS hba hFd hvd hbx hI2
  have hed : (es.drop q).length = N - q := by rw [List.length_drop, hel]
  go_upto_region 30 with fail
  generalize hw3 : wc = w3 at hFx hSx hbx' ⊢
  clear hw3
  go_cut [13] from 14 to 140 (fun s13 wx => ∃ (g : Nat) (kd c p : Int) (s : ByteArray) (A : Option Addr) (n cc : Nat), s13 = .pointer (some ⟨g, 0, none⟩) ∧ Blk wx g 45 #[.int .i64 kd, .int .i64 c, .int .i64 p, .string s, .slice A n cc] ∧ w3.heap.size ≤ g ∧ Below w3.heap.size w3 wx)
  case first =>
    have hsrc : ∀ gb, Ab = some ⟨gb, 0, none⟩ → Src w3 (some ⟨gb, q * 5, none⟩) ((es.drop q).flatMap e5) := fun gb hgb h0 => ⟨_, rfl, fun i u hu => by
      have h1 : (es.flatMap e5)[q * 5 + i]? = some u := by rw [e5_drop, List.getElem?_drop] at hu; exact hu
      have h2 := hSx.b.cells (g := gb) (by rw [hgb]; rfl) (q * 5 + i) u h1
      rw [add_zero'] at h2
      rw [add_any]
      exact h2⟩
    rcases hsb with ⟨rfl, rfl, rfl⟩ | ⟨gb, rfl, hNc⟩
    · obtain rfl : q = 0 := by omega
      go_wp2_with fail
      refine (refJoin_any none 0 0 (es.drop 0) _ hed (by omega) (fun h => by rw [e5_len, hed] at h; omega)).mono ?_
      rintro e w4 ⟨⟨k7, c7, p7, s7, A7, n7, cc7, rfl⟩, hb4⟩
      have hfin := Blk.new w4 45 #[.int .i64 k7, .int .i64 c7, .int .i64 p7, .string s7, .slice A7 n7 cc7]
      go_wp2_with fail
      go_meet
      exact ⟨w4.heap.size, k7, c7, p7, s7, A7, n7, cc7, rfl, hfin, hb4.size, hb4.alloc hb4.size _⟩
    · have hs0 := hsrc gb rfl
      have q0 : (0 : Int) ≤ (q : Int) := by omega
      have q1 : (q : Int) ≤ (N : Int) := by omega
      have q2 : (N : Int) ≤ (cb : Int) := by omega
      clear hsrc
      by_cases hqc : cb = q
      · subst hqc
        obtain rfl : N = cb := by omega
        go_wp2_with fail
        refine (refJoin_any (some ⟨gb, 0, none⟩) 0 0 (es.drop N) _ (by rw [hed]; omega) (by omega) (fun h => by rw [e5_len, hed] at h; omega)).mono ?_
        rintro e w4 ⟨⟨k7, c7, p7, s7, A7, n7, cc7, rfl⟩, hb4⟩
        have hfin := Blk.new w4 45 #[.int .i64 k7, .int .i64 c7, .int .i64 p7, .string s7, .slice A7 n7 cc7]
        go_wp2_with fail
        go_meet
        exact ⟨w4.heap.size, k7, c7, p7, s7, A7, n7, cc7, rfl, hfin, hb4.size, hb4.alloc hb4.size _⟩
      · have hqc' : decide (cb = q) = false := decide_eq_false hqc
        go_wp2_with fail
        refine (refJoin_any (some ⟨gb, q * 5, none⟩) (N - q) (cb - q) (es.drop q) _ hed (by omega) hs0).mono ?_
        rintro e w4 ⟨⟨k7, c7, p7, s7, A7, n7, cc7, rfl⟩, hb4⟩
        have hfin := Blk.new w4 45 #[.int .i64 k7, .int .i64 c7, .int .i64 p7, .string s7, .slice A7 n7 cc7]
        go_wp2_with fail
        go_meet
        exact ⟨w4.heap.size, k7, c7, p7, s7, A7, n7, cc7, rfl, hfin, hb4.size, hb4.alloc hb4.size _⟩
  case rest =>
  obtain ⟨g13, k7, c7, p7, s7, A7, n7, cc7, rfl, hB13, hg13, hbj⟩ := hcut
  have hFj := hFx.kp (Kp.belowH _ _ hbj)
  have hSj := hSx.below hbj
  have hbj' := hbx'.trans (hbj.mono hbx'.size)
  clear hFx hSx hbx' hed
  go_upto_region 31 with fail
  generalize hw5 : wc = w5 at hFj hSj hbj' hB13 ⊢
  clear hw5 hbj
  go_cut [4] from 14 to 140 (fun s4 wx => ∃ (va' x : Value), s4 = va' ∧ St wx w.heap.size va' (.slice Ab N cb) (vs.take q ++ [x]) es (fs.take q ++ [joinO (fs.drop q)]) ∧ Below w5.heap.size w5 wx)
  case first =>
    have hO0 : (w5.alloc (.cells #[] 29)).ownsRow w5.heap.size 29 1 (.slice (some ⟨w5.heap.size, 0, none⟩) 0 0) 0 [] := own_empty w5 29 1
    have hv1 : ∀ u ∈ vs.take q, u.oneCell' = true := fun u hu => isErr_one (hSj.f.errs u (List.mem_of_mem_take hu))
    have hlq : (vs.take q).length = q * 1 := by rw [List.length_take, hvl]; omega
    have hFj' := hFj
    have hn1 := fun w => src_one w u12 29
    have hn2 : Src ((w5.alloc (.cells #[] 29)).alloc (.cells #[u12] 29)) (some ⟨w5.heap.size + 1, 0, none⟩) [u12] := by
      have h := src_one (w5.alloc (.cells #[] 29)) u12 29
      rw [World.size_alloc] at h
      exact h
    have ho1 : ∀ u ∈ [u12], u.oneCell' = true := fun u hu => by obtain rfl := List.mem_singleton.1 hu; exact isErr_one hFj.isErr
    rcases hFj.isErr with hu12 | ⟨T, x, hu12⟩
    all_goals
      subst hu12
      rcases hsa with ⟨rfl, rfl, rfl⟩ | ⟨ga, rfl, hNc⟩
      · obtain rfl : q = 0 := by omega
        go_wp2_with (at_builtin; refine wpList_append_src rfl (.tmp 129) (.tmp 131) 24 rfl w5.heap.size 29 i0 .nilIface 1 16 Tryd.underlying24 hi hz0 hz1 hz2 rfl (by decide) (.slice (some ⟨w5.heap.size, 0, none⟩) 0 0) 0 [] rfl (hO0.alloc _) _ _ _ _ rfl rfl hn2 (fun h => by cases h) ho1 (by unfold maxLen; omega) (by omega) (by simp; omega) ?_)
        intro v2 w7 hO7 hg7
        have hb7 : Below w5.heap.size w5 w7 := (((Below.refl _ _).alloc (Nat.le_refl _) (.cells #[] 29)).alloc (by simp) _).grown hg7 (by simp; omega) (fun g hg => (hO0.lt g hg).1)
        have hS7 := hSj.new_a 0 (by omega) hb7 hFj' (by simpa using hO7)
        go_wp2_with fail
        go_meet
        exact ⟨_, _, rfl, hS7, hb7⟩
      · have hsrc : Src w5 (some ⟨ga, 0, none⟩) (vs.take q) := fun h0 => ⟨_, rfl, fun i u hu => by
          have h1 : vs[i]? = some u := by
            rw [List.getElem?_take] at hu
            split at hu
            · exact hu
            · cases hu
          exact hSj.a.cells (g := ga) rfl i u h1⟩
        have q0 : (0 : Int) ≤ (q : Int) := by omega
        have q1 : (q : Int) ≤ (N : Int) := by omega
        have q2 : (q : Int) ≤ (ca : Int) := by omega
        go_wp2_with (at_builtin; refine wpList_append_src rfl (.tmp 125) (.tmp 128) 24 rfl w5.heap.size 29 i0 .nilIface 1 16 Tryd.underlying24 hi hz0 hz1 hz2 rfl (by decide) (.slice (some ⟨w5.heap.size, 0, none⟩) 0 0) 0 [] rfl hO0 (some ⟨ga, 0, none⟩) q ca (vs.take q) rfl hlq (hsrc.alloc _) (fun h => by cases h) hv1 ?c1 ?c2 ?c3 ?_)
        case c1 => unfold maxLen; omega
        case c2 => omega
        try case c3 => simp
        intro v1 w6 hO6 hg6
        have hO6' : w6.ownsRow w5.heap.size 29 1 v1 q (vs.take q) := by simpa using hO6
        have hb6 : Below w5.heap.size w5 w6 := ((Below.refl _ _).alloc (Nat.le_refl _) (.cells #[] 29)).grown hg6 (by simp) (fun g hg => Nat.le_of_eq (by injection hg))
        go_wp2_with (at_builtin; refine wpList_append_src rfl (.tmp 129) (.tmp 131) 24 rfl w5.heap.size 29 i0 .nilIface 1 16 Tryd.underlying24 hi hz0 hz1 hz2 rfl (by decide) v1 q (vs.take q) rfl (hO6'.alloc _) _ _ _ _ rfl rfl (hn1 w6) (fun h => by cases h) ho1 (by unfold maxLen; omega) (by omega) (by have := hb6.size; rw [World.size_alloc]; omega) ?_)
        intro v2 w7 hO7 hg7
        have hb7 : Below w5.heap.size w5 w7 := (hb6.alloc hb6.size _).grown hg7 (Nat.le_trans hb6.size (by simp)) (fun g hg => (hO6'.lt g hg).1)
        have hS7 := hSj.new_a q (by omega) hb7 hFj' hO7
        go_wp2_with fail
        go_meet
        exact ⟨_, _, rfl, hS7, hb7⟩
  case rest =>
  obtain ⟨va', x', rfl, hSk, hbk⟩ := hcut
  have hB14 := hB13.below hbk hB13.lt
  have hbk' := hbj'.trans (hbk.mono hbj'.size)
  clear hSj hFj hbj' hB13
  go_upto_region 32 with fail
  generalize hw6 : wc = w6 at hSk hB14 hbk' ⊢
  clear hw6 hbk
  have hl1 : ((es.take q).flatMap e5).length = q * 5 := by rw [e5_len, List.length_take, hel]; congr 1; omega
  have ho1 : ∀ u ∈ (es.take q).flatMap e5, u.oneCell' = true := fun u hu => e5_one _ u hu
  have ho2 : ∀ u ∈ e5 (k7, c7, p7, s7, A7, n7, cc7), u.oneCell' = true := fun u hu => e5_one [(k7, c7, p7, s7, A7, n7, cc7)] u (by simpa using hu)
  have hlt13 := hB14.lt
  have hSB : ∀ wx, Below w6.heap.size w6 wx → (wx.cell? ⟨g13, 0, none⟩ = some (.int .i64 k7) ∧ wx.cell? ⟨g13, 1, none⟩ = some (.int .i64 c7) ∧ wx.cell? ⟨g13, 2, none⟩ = some (.int .i64 p7) ∧ wx.cell? ⟨g13, 3, none⟩ = some (.string s7) ∧ wx.cell? ⟨g13, 4, none⟩ = some (.slice A7 n7 cc7)) ∧ Below w6.heap.size w6 wx := fun wx hb => by
    have hB := hB14.below hb hlt13
    exact ⟨⟨hB.cell 0, hB.cell 1, hB.cell 2, hB.cell 3, hB.cell 4⟩, hb⟩
  have hb0 : Below w6.heap.size w6 w6 := Below.refl _ _
  have hbA : Below w6.heap.size w6 (w6.alloc (.cells #[] 45)).drew := (hb0.alloc (Nat.le_refl _) _).drew
  have hbB : Below w6.heap.size w6 ((w6.alloc (.cells #[] 45)).alloc (.cells #[.int .i64 k7, .int .i64 c7, .int .i64 p7, .string s7, .slice A7 n7 cc7] 45)).drew := ((hb0.alloc (Nat.le_refl _) _).alloc (by simp) _).drew
  have hbC : Below w6.heap.size w6 ((w6.alloc (.cells #[.int .i64 k7, .int .i64 c7, .int .i64 p7, .string s7, .slice A7 n7 cc7] 45)).alloc (.cells #[] 45)).drew := ((hb0.alloc (Nat.le_refl _) _).alloc (by simp) _).drew
  have hbD : Below w6.heap.size w6 (w6.alloc (.cells #[.int .i64 k7, .int .i64 c7, .int .i64 p7, .string s7, .slice A7 n7 cc7] 45)).drew := (hb0.alloc (Nat.le_refl _) _).drew
  have hzA : w6.heap.size ≤ (w6.alloc (.cells #[] 45)).drew.heap.size := hbA.size
  have hzB : w6.heap.size ≤ ((w6.alloc (.cells #[] 45)).alloc (.cells #[.int .i64 k7, .int .i64 c7, .int .i64 p7, .string s7, .slice A7 n7 cc7] 45)).drew.heap.size := hbB.size
  have hzC : w6.heap.size ≤ ((w6.alloc (.cells #[.int .i64 k7, .int .i64 c7, .int .i64 p7, .string s7, .slice A7 n7 cc7] 45)).alloc (.cells #[] 45)).drew.heap.size := hbC.size
  have hOA : (w6.alloc (.cells #[] 45)).drew.ownsRow w6.heap.size 45 5 (.slice (some ⟨w6.heap.size, 0, none⟩) 0 0) 0 [] := own_blank 5 (heap_alloc_new w6 _) (Nat.le_refl _)
  have hOB : ((w6.alloc (.cells #[] 45)).alloc (.cells #[.int .i64 k7, .int .i64 c7, .int .i64 p7, .string s7, .slice A7 n7 cc7] 45)).drew.ownsRow w6.heap.size 45 5 (.slice (some ⟨w6.heap.size, 0, none⟩) 0 0) 0 [] := own_blank 5 ((Below.heap_alloc _ _ _ (by simp)).trans (heap_alloc_new w6 _)) (Nat.le_refl _)
  have hOC : ((w6.alloc (.cells #[.int .i64 k7, .int .i64 c7, .int .i64 p7, .string s7, .slice A7 n7 cc7] 45)).alloc (.cells #[] 45)).drew.ownsRow w6.heap.size 45 5 (.slice (some ⟨w6.heap.size + 1, 0, none⟩) 0 0) 0 [] := own_blank 5 (by
    have h := heap_alloc_new (w6.alloc (.cells #[.int .i64 k7, .int .i64 c7, .int .i64 p7, .string s7, .slice A7 n7 cc7] 45)) (.cells #[] 45)
    rw [World.size_alloc] at h
    exact h) (by omega)
  have hnew : ∀ wx : World, Src (wx.alloc (.cells #[.int .i64 k7, .int .i64 c7, .int .i64 p7, .string s7, .slice A7 n7 cc7] 45)) (some ⟨wx.heap.size, 0, none⟩) (e5 (k7, c7, p7, s7, A7, n7, cc7)) := fun wx _ => ⟨_, rfl, news_all wx #[.int .i64 k7, .int .i64 c7, .int .i64 p7, .string s7, .slice A7 n7 cc7] 45⟩
  have hnA : ∀ w7, (w6.alloc (.cells #[] 45)).drew.grownBy w7 (some w6.heap.size) → True := fun _ _ => trivial
  have hnB : ∀ w7, ((w6.alloc (.cells #[] 45)).alloc (.cells #[.int .i64 k7, .int .i64 c7, .int .i64 p7, .string s7, .slice A7 n7 cc7] 45)).drew.grownBy w7 (some w6.heap.size) → Src w7 (some ⟨w6.heap.size + 1, 0, none⟩) (e5 (k7, c7, p7, s7, A7, n7, cc7)) := fun w7 hg => by
    have h := hnew (w6.alloc (.cells #[] 45))
    rw [World.size_alloc] at h
    exact Src.grown (w := ((w6.alloc (.cells #[] 45)).alloc (.cells #[.int .i64 k7, .int .i64 c7, .int .i64 p7, .string s7, .slice A7 n7 cc7] 45)).drew) h hg (fun e => by injection e; omega)
  have hnC : ∀ w7, ((w6.alloc (.cells #[.int .i64 k7, .int .i64 c7, .int .i64 p7, .string s7, .slice A7 n7 cc7] 45)).alloc (.cells #[] 45)).drew.grownBy w7 (some (w6.heap.size + 1)) → Src w7 (some ⟨w6.heap.size, 0, none⟩) (e5 (k7, c7, p7, s7, A7, n7, cc7)) := fun w7 hg => by
    have h := (hnew w6).alloc (.cells #[] 45)
    exact Src.grown (w := ((w6.alloc (.cells #[.int .i64 k7, .int .i64 c7, .int .i64 p7, .string s7, .slice A7 n7 cc7] 45)).alloc (.cells #[] 45)).drew) h hg (fun e => by injection e; omega)
  have hpj := joinO_len fs q
  rcases hsb with ⟨rfl, rfl, rfl⟩ | ⟨gb, rfl, hNc⟩
  · obtain rfl : q = 0 := by omega
    have hsrc : Src w6 none ((es.take 0).flatMap e5) := fun h0 => by simp at h0
    have hsA : Src (w6.alloc (.cells #[] 45)).drew none ((es.take 0).flatMap e5) := hsrc.alloc _
    have hsB : Src ((w6.alloc (.cells #[] 45)).alloc (.cells #[.int .i64 k7, .int .i64 c7, .int .i64 p7, .string s7, .slice A7 n7 cc7] 45)).drew none ((es.take 0).flatMap e5) := (hsrc.alloc _).alloc _
    have hsC : Src ((w6.alloc (.cells #[.int .i64 k7, .int .i64 c7, .int .i64 p7, .string s7, .slice A7 n7 cc7] 45)).alloc (.cells #[] 45)).drew none ((es.take 0).flatMap e5) := (hsrc.alloc _).alloc _
    have hnl : (none : Option Addr) = none → 0 = 0 ∧ 0 = 0 := fun _ => ⟨rfl, rfl⟩
    go_region_held3 (fun wx => (wx.cell? ⟨g13, 0, none⟩ = some (.int .i64 k7) ∧ wx.cell? ⟨g13, 1, none⟩ = some (.int .i64 c7) ∧ wx.cell? ⟨g13, 2, none⟩ = some (.int .i64 p7) ∧ wx.cell? ⟨g13, 3, none⟩ = some (.string s7) ∧ wx.cell? ⟨g13, 4, none⟩ = some (.slice A7 n7 cc7)) ∧ Below w6.heap.size w6 wx)
      (first | exact hSB _ hb0.drew | exact hSB _ hbA | exact hSB _ hbB | exact hSB _ hbC | exact hSB _ hbD | exact hSB _ hb8 | exact hSB _ hb7 | exact hSB _ (hb7.alloc hb7.size _))
      (first
        | (refine step_append_src rfl (.tmp 133) (.tmp 136) 25 rfl w6.heap.size 45 i1 _ 5 64 Tryd.underlying25 ki kz0 kz1 kz2 rfl (by decide) (.slice (some ⟨w6.heap.size, 0, none⟩) 0 0) 0 [] rfl hOA none 0 0 _ rfl hl1 hsA hnl ho1 (by unfold maxLen; omega) (by omega) hzA ?_; intro v1 w7 hO7 hg7; have hb7 := hbA.grown hg7 hzA (fun g hg => by have e : w6.heap.size = g := Option.some.inj hg; omega); have hn7 := hnA _ hg7)
        | (refine step_append_src rfl (.tmp 133) (.tmp 136) 25 rfl w6.heap.size 45 i1 _ 5 64 Tryd.underlying25 ki kz0 kz1 kz2 rfl (by decide) (.slice (some ⟨w6.heap.size, 0, none⟩) 0 0) 0 [] rfl hOB none 0 0 _ rfl hl1 hsB hnl ho1 (by unfold maxLen; omega) (by omega) hzB ?_; intro v1 w7 hO7 hg7; have hb7 := hbB.grown hg7 hzB (fun g hg => by have e : w6.heap.size = g := Option.some.inj hg; omega); have hn7 := hnB _ hg7)
        | (refine step_append_src rfl (.tmp 133) (.tmp 136) 25 rfl w6.heap.size 45 i1 _ 5 64 Tryd.underlying25 ki kz0 kz1 kz2 rfl (by decide) (.slice (some ⟨w6.heap.size + 1, 0, none⟩) 0 0) 0 [] rfl hOC none 0 0 _ rfl hl1 hsC hnl ho1 (by unfold maxLen; omega) (by omega) hzC ?_; intro v1 w7 hO7 hg7; have hb7 := hbC.grown hg7 hzC (fun g hg => by have e : w6.heap.size + 1 = g := Option.some.inj hg; omega); have hn7 := hnC _ hg7)
        | (refine step_append_src rfl (.tmp 137) (.tmp 139) 25 rfl w6.heap.size 45 i1 _ 5 64 Tryd.underlying25 ki kz0 kz1 kz2 rfl (by decide) _ _ _ rfl (hO7.alloc _) (some ⟨w7.heap.size, 0, none⟩) 1 1 (e5 (k7, c7, p7, s7, A7, n7, cc7)) rfl rfl (hnew w7) (fun h => by cases h) ho2 (by unfold maxLen; omega) (by omega) (Nat.le_trans hb7.size (by simp)) ?_; intro v2 w8 hO8 hg8; have hb8 := (hb7.alloc hb7.size _).grown hg8 (Nat.le_trans hb7.size (by simp)) (fun g hg => (hO7.lt g hg).1))
        | (refine step_append_src rfl (.tmp 137) (.tmp 139) 25 rfl w6.heap.size 45 i1 _ 5 64 Tryd.underlying25 ki kz0 kz1 kz2 rfl (by decide) _ _ _ rfl hO7 (some ⟨w6.heap.size + 1, 0, none⟩) 1 1 (e5 (k7, c7, p7, s7, A7, n7, cc7)) rfl rfl hn7 (fun h => by cases h) ho2 (by unfold maxLen; omega) (by omega) hb7.size ?_; intro v2 w8 hO8 hg8; have hb8 := hb7.grown hg8 hb7.size (fun g hg => (hO7.lt g hg).1))
        | (refine step_append_src rfl (.tmp 137) (.tmp 139) 25 rfl w6.heap.size 45 i1 _ 5 64 Tryd.underlying25 ki kz0 kz1 kz2 rfl (by decide) _ _ _ rfl hO7 (some ⟨w6.heap.size, 0, none⟩) 1 1 (e5 (k7, c7, p7, s7, A7, n7, cc7)) rfl rfl hn7 (fun h => by cases h) ho2 (by unfold maxLen; omega) (by omega) hb7.size ?_; intro v2 w8 hO8 hg8; have hb8 := hb7.grown hg8 hb7.size (fun g hg => (hO7.lt g hg).1)))
    all_goals
      have hS8 := hSk.new_b 0 (by omega) hb8 (by simpa using hO8)
      have hlv : (vs.take 0 ++ [x']).length = 0 + 1 := by simp
      have hle : (es.take 0 ++ [(k7, c7, p7, s7, A7, n7, cc7)]).length = 0 + 1 := by simp
      have hP' := (⟨_, _, _, hlv, hle, hS8, by omega⟩ : PileAt _ w.heap.size _ v2 (0 + 1) (60 * (k + 1)))
      have hbf := hbk'.trans (hb8.mono hbk'.size)
      clear hS8 hlv hle hSk hO7 hO8 hg7 hg8 hb7 hb8 hn7 hsA hsB hsC hnA hnB hnC hnew hOA hOB hOC hbA hbB hbC hbD hzA hzB hzC hSB hl1 ho1 ho2 hpj hB14
      go_wp2_with fail
      apply hK
      · show 0 + 1 ≤ k + 1; omega
      · exact hP'
      · exact hbf
  · have hsrc : Src w6 (some ⟨gb, 0, none⟩) ((es.take q).flatMap e5) := fun h0 => ⟨_, rfl, fun i u hu => by
      have h1 : (es.flatMap e5)[i]? = some u := by
        rw [e5_take, List.getElem?_take] at hu
        split at hu
        · exact hu
        · cases hu
      exact hSk.b.cells (g := gb) rfl i u h1⟩
    have hsA : Src (w6.alloc (.cells #[] 45)).drew (some ⟨gb, 0, none⟩) ((es.take q).flatMap e5) := hsrc.alloc _
    have hsB : Src ((w6.alloc (.cells #[] 45)).alloc (.cells #[.int .i64 k7, .int .i64 c7, .int .i64 p7, .string s7, .slice A7 n7 cc7] 45)).drew (some ⟨gb, 0, none⟩) ((es.take q).flatMap e5) := (hsrc.alloc _).alloc _
    have hsC : Src ((w6.alloc (.cells #[.int .i64 k7, .int .i64 c7, .int .i64 p7, .string s7, .slice A7 n7 cc7] 45)).alloc (.cells #[] 45)).drew (some ⟨gb, 0, none⟩) ((es.take q).flatMap e5) := (hsrc.alloc _).alloc _
    have hnl : (some (⟨gb, 0, none⟩ : Addr)) = none → q = 0 ∧ cb = 0 := fun h => by cases h
    have q0 : (0 : Int) ≤ (q : Int) := by omega
    have q1 : (q : Int) ≤ (N : Int) := by omega
    have q2 : (q : Int) ≤ (cb : Int) := by omega
    go_region_held3 (fun wx => (wx.cell? ⟨g13, 0, none⟩ = some (.int .i64 k7) ∧ wx.cell? ⟨g13, 1, none⟩ = some (.int .i64 c7) ∧ wx.cell? ⟨g13, 2, none⟩ = some (.int .i64 p7) ∧ wx.cell? ⟨g13, 3, none⟩ = some (.string s7) ∧ wx.cell? ⟨g13, 4, none⟩ = some (.slice A7 n7 cc7)) ∧ Below w6.heap.size w6 wx)
      (first | exact hSB _ hb0.drew | exact hSB _ hbA | exact hSB _ hbB | exact hSB _ hbC | exact hSB _ hbD | exact hSB _ hb8 | exact hSB _ hb7 | exact hSB _ (hb7.alloc hb7.size _))
      (first
        | (refine step_append_src rfl (.tmp 133) (.tmp 136) 25 rfl w6.heap.size 45 i1 _ 5 64 Tryd.underlying25 ki kz0 kz1 kz2 rfl (by decide) (.slice (some ⟨w6.heap.size, 0, none⟩) 0 0) 0 [] rfl hOA (some ⟨gb, 0, none⟩) q cb _ rfl hl1 hsA hnl ho1 (by unfold maxLen; omega) (by omega) hzA ?_; intro v1 w7 hO7 hg7; have hb7 := hbA.grown hg7 hzA (fun g hg => by have e : w6.heap.size = g := Option.some.inj hg; omega); have hn7 := hnA _ hg7)
        | (refine step_append_src rfl (.tmp 133) (.tmp 136) 25 rfl w6.heap.size 45 i1 _ 5 64 Tryd.underlying25 ki kz0 kz1 kz2 rfl (by decide) (.slice (some ⟨w6.heap.size, 0, none⟩) 0 0) 0 [] rfl hOB (some ⟨gb, 0, none⟩) q cb _ rfl hl1 hsB hnl ho1 (by unfold maxLen; omega) (by omega) hzB ?_; intro v1 w7 hO7 hg7; have hb7 := hbB.grown hg7 hzB (fun g hg => by have e : w6.heap.size = g := Option.some.inj hg; omega); have hn7 := hnB _ hg7)
        | (refine step_append_src rfl (.tmp 133) (.tmp 136) 25 rfl w6.heap.size 45 i1 _ 5 64 Tryd.underlying25 ki kz0 kz1 kz2 rfl (by decide) (.slice (some ⟨w6.heap.size + 1, 0, none⟩) 0 0) 0 [] rfl hOC (some ⟨gb, 0, none⟩) q cb _ rfl hl1 hsC hnl ho1 (by unfold maxLen; omega) (by omega) hzC ?_; intro v1 w7 hO7 hg7; have hb7 := hbC.grown hg7 hzC (fun g hg => by have e : w6.heap.size + 1 = g := Option.some.inj hg; omega); have hn7 := hnC _ hg7)
        | (refine step_append_src rfl (.tmp 137) (.tmp 139) 25 rfl w6.heap.size 45 i1 _ 5 64 Tryd.underlying25 ki kz0 kz1 kz2 rfl (by decide) _ _ _ rfl (hO7.alloc _) (some ⟨w7.heap.size, 0, none⟩) 1 1 (e5 (k7, c7, p7, s7, A7, n7, cc7)) rfl rfl (hnew w7) (fun h => by cases h) ho2 (by unfold maxLen; omega) (by omega) (Nat.le_trans hb7.size (by simp)) ?_; intro v2 w8 hO8 hg8; have hb8 := (hb7.alloc hb7.size _).grown hg8 (Nat.le_trans hb7.size (by simp)) (fun g hg => (hO7.lt g hg).1))
        | (refine step_append_src rfl (.tmp 137) (.tmp 139) 25 rfl w6.heap.size 45 i1 _ 5 64 Tryd.underlying25 ki kz0 kz1 kz2 rfl (by decide) _ _ _ rfl hO7 (some ⟨w6.heap.size + 1, 0, none⟩) 1 1 (e5 (k7, c7, p7, s7, A7, n7, cc7)) rfl rfl hn7 (fun h => by cases h) ho2 (by unfold maxLen; omega) (by omega) hb7.size ?_; intro v2 w8 hO8 hg8; have hb8 := hb7.grown hg8 hb7.size (fun g hg => (hO7.lt g hg).1))
        | (refine step_append_src rfl (.tmp 137) (.tmp 139) 25 rfl w6.heap.size 45 i1 _ 5 64 Tryd.underlying25 ki kz0 kz1 kz2 rfl (by decide) _ _ _ rfl hO7 (some ⟨w6.heap.size, 0, none⟩) 1 1 (e5 (k7, c7, p7, s7, A7, n7, cc7)) rfl rfl hn7 (fun h => by cases h) ho2 (by unfold maxLen; omega) (by omega) hb7.size ?_; intro v2 w8 hO8 hg8; have hb8 := hb7.grown hg8 hb7.size (fun g hg => (hO7.lt g hg).1)))
    all_goals
      have hS8 := hSk.new_b q (by omega) hb8 (by simpa using hO8)
      have hlv : (vs.take q ++ [x']).length = q + 1 := by simp; omega
      have hle : (es.take q ++ [(k7, c7, p7, s7, A7, n7, cc7)]).length = q + 1 := by simp; omega
      have hP' := (⟨_, _, _, hlv, hle, hS8, by omega⟩ : PileAt _ w.heap.size _ v2 (q + 1) (60 * (k + 1)))
      have hbf := hbk'.trans (hb8.mono hbk'.size)
      clear hS8 hlv hle hSk hO7 hO8 hg7 hg8 hb7 hb8 hn7 hsA hsB hsC hnA hnB hnC hnew hOA hOB hOC hbA hbB hbC hbD hzA hzB hzC hSB hl1 ho1 ho2 hpj hB14
      go_wp2_with fail
      apply hK
      · show q + 1 ≤ k + 1; omega
      · exact hP'
      · exact hbf
end Go.Proofs.YtcmepnninlocmaaDoor
