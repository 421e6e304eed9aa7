/- built, walked: one branch of its choice (printed by mkbuilt.py). -/
import Derived.Test.YtcmepnninlocmaaDoorBuiP
namespace Go.Proofs.YtcmepnninlocmaaDoor
open Go.RowKit
set_option linter.unusedVariables false in
set_option maxRecDepth 100000 in
set_option maxHeartbeats 60000000 in
theorem built_N (ad : Addr) (n c : Nat) (w wr wc : World) (i0 i1 : TypeInfo)
    (hi : Tryd.prog.info? 29 = some i0) (hz0 : i0.zero = some .nilIface) (hz1 : i0.size = 1) (hz2 : i0.bytes = 16)
    (ki : Tryd.prog.info? 45 = some i1) (kz0 : i1.zero = some (.agg #[.int .i64 0, .int .i64 0, .int .i64 0, .string ByteArray.empty, .slice none 0 0])) (kz1 : i1.size = 5) (kz2 : i1.bytes = 64)
    (k N : Nat) (hn : n ≤ 2 ^ 63 - 1) (hk30 : k ≤ 30) (hkn : k ≤ n) (hNk : N ≤ k) (hlt : k < n) (hl30 : k < 30)
    (kd cd pl : Int) (s : ByteArray) (far : Bool) (hfc : Fit64 cd) (hfp : Fit64 pl) (hH : w.heap.size ≤ wr.heap.size)
    (vs : List Value) (es : List E5) (fs : List (Option Ft)) (hvl : vs.length = N) (hel : es.length = N) (hpot : pot fs ≤ 60 * k)
    (Aa Ab : Option Addr) (ca cb : Nat) (s' : ByteArray) (hs' : s'.size ≤ 8) (kk : Nat) (hkk : kk ≤ 7) (j3 : Nat) (hj3 : j3 ≤ 3) (e3 : bits .and .i64 cd 3 = (j3 : Nat))
    (cc : Int) (hcc : Fit64 cc) (hO : Blk wc wr.heap.size 43 (opC kd cd pl s far))
    (hS : St wc w.heap.size (.slice Aa N ca) (.slice Ab N cb) vs es fs) (hba : Below w.heap.size w wc)
    (c1 : wc.cell? ⟨wr.heap.size, 1, none⟩ = some (.int .i64 cd)) (c2 : wc.cell? ⟨wr.heap.size, 2, none⟩ = some (.int .i64 pl))
    (h : kk = 0 ∨ kk = 1 ∨ kk = 2) {K K0 K1 : Act → World → Prop} {R : Ending → World → Prop}
    (hK : ∀ (s4 s5 u7 u8 u9 u10 u11 u12 u13 u14 u15 u16 u17 u18 u19 u20 u21 u22 u23 u24 u25 u26 u27 u28 u29 u30 u31 u32 u33 u34 u35 u36 u37 u38 u39 u40 u41 u42 u43 u44 u45 u46 u47 u48 u49 u50 u51 u52 u53 u54 u55 u56 u57 u58 u59 u60 u61 u62 u63 u64 u65 u66 u67 u68 u69 u70 u71 u72 u73 u74 u75 u76 u77 u78 u79 u80 u81 u82 u83 u84 u85 u86 u87 u88 u89 u90 u91 u92 u93 u94 u95 u96 u97 u98 u99 u100 u101 u102 u103 u104 u105 u106 u107 u108 u109 u110 u111 u112 u113 u114 u115 u116 u117 u118 u119 u120 u121 u122 u123 u124 u125 u126 u127 u128 u129 u130 u131 u132 u133 u134 u135 u136 u137 u138 u139 u140 : Value) (wx : World) (N' : Nat), N' ≤ k + 1 → PileAt wx w.heap.size s4 s5 N' (60 * (k + 1)) → Below w.heap.size w wx → K ⟨#[.slice (some ad) n c, undef, .slice none 0 0, .slice none 0 0, s4, s5, .int .i64 (k : Nat), u7, u8, u9, u10, u11, u12, u13, u14, u15, u16, u17, u18, u19, u20, u21, u22, u23, u24, u25, u26, u27, u28, u29, u30, u31, u32, u33, u34, u35, u36, u37, u38, u39, u40, u41, u42, u43, u44, u45, u46, u47, u48, u49, u50, u51, u52, u53, u54, u55, u56, u57, u58, u59, u60, u61, u62, u63, u64, u65, u66, u67, u68, u69, u70, u71, u72, u73, u74, u75, u76, u77, u78, u79, u80, u81, u82, u83, u84, u85, u86, u87, u88, u89, u90, u91, u92, u93, u94, u95, u96, u97, u98, u99, u100, u101, u102, u103, u104, u105, u106, u107, u108, u109, u110, u111, u112, u113, u114, u115, u116, u117, u118, u119, u120, u121, u122, u123, u124, u125, u126, u127, u128, u129, u130, u131, u132, u133, u134, u135, u136, u137, u138, u139, u140, undef, undef], []⟩ wx)
    {u11 u12 u13 u14 u15 u16 u17 u18 u19 u20 u21 u22 u23 u24 u25 u26 u27 u28 u29 u30 u31 u32 u33 u34 u35 u36 u37 u38 u39 u40 u41 u42 u43 u44 u48 u49 u50 u51 u52 u53 u54 u55 u56 u57 u58 u59 u60 u61 u62 u63 u64 u65 u66 u67 u68 u69 u70 u71 u72 u73 u74 u75 u76 u77 u78 u79 u80 u81 u82 u83 u84 u85 u86 u87 u88 u89 u90 u91 u92 u93 u94 u95 u96 u97 u98 u99 u100 u101 u102 u103 u104 u105 u106 u107 u108 u109 u110 u111 u112 u113 u114 u115 u116 u117 u118 u119 u120 u121 u122 u123 u124 u125 u126 u127 u128 u129 u130 u131 u132 u133 u134 u135 u136 u137 u138 u139 u140 : Value} :
    Code.wp Tryd.prog brCode (Exit.inBlock 1 (Exit.then K (Exit.then K0 (Exit.inBlock 0 (Exit.then K1 (bodyPost Tryd.prog Tryd.f6 R)))))) ⟨#[.slice (some ad) n c, undef, .slice none 0 0, .slice none 0 0, .slice Aa N ca, .slice Ab N cb, .int .i64 (k : Nat), .pointer (some ⟨wr.heap.size, 0, none⟩), .int .i64 ((N : Int) - 1), .string s', .int .i64 cc, u11, u12, u13, u14, u15, u16, u17, u18, u19, u20, u21, u22, u23, u24, u25, u26, u27, u28, u29, u30, u31, u32, u33, u34, u35, u36, u37, u38, u39, u40, u41, u42, u43, u44, .pointer (some ⟨wr.heap.size, 0, none⟩), .int .i64 kd, .int .i64 (kk : Nat), u48, u49, u50, u51, u52, u53, u54, u55, u56, u57, u58, u59, u60, u61, u62, u63, u64, u65, u66, u67, u68, u69, u70, u71, u72, u73, u74, u75, u76, u77, u78, u79, u80, u81, u82, u83, u84, u85, u86, u87, u88, u89, u90, u91, u92, u93, u94, u95, u96, u97, u98, u99, u100, u101, u102, u103, u104, u105, u106, u107, u108, u109, u110, u111, u112, u113, u114, u115, u116, u117, u118, u119, u120, u121, u122, u123, u124, u125, u126, u127, u128, u129, u130, u131, u132, u133, u134, u135, u136, u137, u138, u139, u140, undef, undef], []⟩ wc := by
  conv => arg 2; whnf
  clear c1 c2 e3 hj3 hO
  have hOa := hS.a
  have hI2 := hS.in2
  have t3 : ((kk : Int) == 3) = false := by simp; omega
  have t4 : ((kk : Int) == 4) = false := by simp; omega
  have t5 : ((kk : Int) == 5) = false := by simp; omega
  have t6 : ((kk : Int) == 6) = false := by simp; omega
  have t7 : ((kk : Int) == 7) = false := by simp; omega
  skip
  · go_wp2_with fail
    refine (new_o (Value.slice Aa N ca).ownBlock (Value.slice Ab N cb).ownBlock cc _ hcc).mono ?_
    rintro e w4 ⟨⟨v, rfl, hFv⟩, rfl⟩
    have hS4 := hS.below ((Below.refl _ _).alloc (Nat.le_refl _) (.cells #[v] 29))
    have hF4 := hFv.kp (Kp.belowH _ _ ((Below.refl _ _).alloc (Nat.le_refl _) (.cells #[v] 29)))
    have hO4 := hS4.a
    rw [hvl] at hO4
    have hn4 := news_one wc v 29
    rcases hFv.isErr with rfl | ⟨T, x, rfl⟩
    all_goals
      go_wp2_with (at_builtin; refine wpList_append_own_at _ rfl (.tmp 48) (.tmp 51) 24 rfl w.heap.size 29 i0 .nilIface 1 16 Tryd.underlying24 hi hz0 hz1 hz2 rfl (by decide) (.slice Aa N ca) N vs rfl hO4 ⟨wc.heap.size, 0, none⟩ 1 1 [_] rfl rfl hn4 (fun u hu => by obtain rfl := List.mem_singleton.1 hu; rfl) ?c1 ?c2 ?c3 ?_)
      case c1 => unfold maxLen; omega
      case c2 => omega
      case c3 => have := hba.size; simp; omega
      intro va' w5 hO5 hg5 _ hat5
      have hS5 := hS4.push_a hF4 hg5 (by rw [hvl]; exact hO5) (by rcases hat5 with h | h; exact .inl h; exact .inr ⟨_, h, by simp⟩)
      have hb5 := (hba.alloc (by have := hba.size; omega) _).grown hg5 (by have := hba.size; simp; omega) (fun q hq => (hO4.lt q hq).1)
      clear hS4 hF4 hO4 hO5 hg5 hat5 hS
      go_wp2_with fail
      refine (refNew_any cc w5).mono ?_
      rintro e w6 ⟨⟨kd', c', p', s6, A6, n6, cc6, rfl⟩, hb6⟩
      have hb6' := hb5.trans (hb6.mono hb5.size)
      have hS6 := (hS5.below hb6).below ((Below.refl _ _).alloc (Nat.le_refl _) (.cells #[.int .i64 kd', .int .i64 c', .int .i64 p', .string s6, .slice A6 n6 cc6] 45))
      have hO6 := hS6.b
      rw [hel] at hO6
      go_wp2_with (at_builtin; refine wpList_append_own_at _ rfl (.tmp 53) (.tmp 56) 25 rfl w.heap.size 45 i1 (.agg #[.int .i64 0, .int .i64 0, .int .i64 0, .string ByteArray.empty, .slice none 0 0]) 5 64 Tryd.underlying25 ki kz0 kz1 kz2 rfl (by decide) (.slice Ab N cb) N (es.flatMap e5) rfl hO6 ⟨w6.heap.size, 0, none⟩ 1 1 [.int .i64 kd', .int .i64 c', .int .i64 p', .string s6, .slice A6 n6 cc6] rfl rfl (news_all w6 #[.int .i64 kd', .int .i64 c', .int .i64 p', .string s6, .slice A6 n6 cc6] 45) (fun u hu => by simp at hu; rcases hu with rfl | rfl | rfl | rfl | rfl <;> rfl) ?c1 ?c2 ?c3 ?_)
      case c1 => unfold maxLen; omega
      case c2 => omega
      case c3 => have := hb6'.size; simp; omega
      intro vb' w7 hO7 hg7 _ hat7
      have hS7 := hS6.push_b (x := (kd', c', p', s6, A6, n6, cc6)) hg7 (by rw [hel]; exact hO7) (by rcases hat7 with h | h; exact .inl h; exact .inr ⟨_, h, by simp⟩)
      have hb7 := (hb6'.alloc hb6'.size _).grown hg7 (by have := hb6'.size; simp; omega) (fun q hq => (hO6.lt q hq).1)
      have hnl := newO_len cc hcc
      have hP' : PileAt w7 w.heap.size va' vb' (N + 1) (60 * (k + 1)) := ⟨_, _, _, by simp [hvl], by simp [hel], hS7, by rw [pot_push]; omega⟩
      clear hS5 hS6 hO6 hO7 hg7 hat7 hS7 hb6 hb6' hb5
      go_wp2_with fail
      apply hK
      · show N + 1 ≤ k + 1; omega
      · exact hP'
      · exact hb7
end Go.Proofs.YtcmepnninlocmaaDoor
