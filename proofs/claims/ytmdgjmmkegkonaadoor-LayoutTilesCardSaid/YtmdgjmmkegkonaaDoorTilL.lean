/- LayoutTiles: the steps, walked. -/
import Derived.Test.YtmdgjmmkegkonaaDoorRefL
import Derived.Test.YtmdgjmmkegkonaaDoorTilR
import Derived.Deep.OwnRows
namespace Go.Proofs.YtmdgjmmkegkonaaDoor
open Go.RowKit Go.Sort
theorem own_ge {w : World} {B : Nat} {e : TypeId} {size n : Nat} {v : Value} {xs : List Value} (h : w.ownsRow B e size v n xs) : ∀ k, v.ownBlock = some k → B ≤ k := fun k hk => by
  rcases h.2 with ⟨h1, _⟩ | ⟨g, cap, cur, h1, h2, _⟩
  · rw [h1] at hk
    cases hk
  · rw [h1] at hk
    exact Option.some.inj hk ▸ h2
theorem own_nil {w : World} {B : Nat} {e : TypeId} {size n c : Nat} {A : Option Addr} {xs : List Value} (h : w.ownsRow B e size (.slice A n c) n xs) : A = none → n = 0 ∧ c = 0 := fun hA => by
  subst hA
  rcases h.2 with ⟨h1, _⟩ | ⟨g, cap, cur, h1, _⟩
  · injection h1 with _ h2 h3
    exact ⟨h2, h3⟩
  · injection h1 with h2
    cases h2
/-- A layout that lies at the window's corner, and its size. -/
def Win (w : World) (B0 b : Nat) (rc : Rc) (nw : Int) : Prop := rc.x = 0 ∧ rc.y = 0 ∧ rc.w ≤ 200 ∧ rc.h ≤ 60 ∧ ∃ t, Lay w b t rc nw ∧ Lo B0 b t
theorem Win.later {w w' : World} {B0 b : Nat} {rc : Rc} {nw : Int} (h : Win w B0 b rc nw) (hb : Below w.heap.size w w') : Win w' B0 b rc nw := by
  obtain ⟨h1, h2, h3, h4, t, h5, h6⟩ := h
  exact ⟨h1, h2, h3, h4, t, h5.later hb, h6⟩
section
variable {w w' : World} {B0 b : Nat} {t : Tr} {rc : Rc} {nw id : Int} {e : Ending}
theorem close_w (hw : rc.x = 0 ∧ rc.y = 0 ∧ rc.w ≤ 200 ∧ rc.h ≤ 60) (h : Lay w b t rc nw) (hl : Lo B0 b t) (hB : B0 ≤ w.heap.size) (hs : CloseOk w w' b t rc nw id e) : ∃ v nw', e = .returned v ∧ Win w' B0 b rc nw' ∧ nw' ≤ nw + 1 ∧ Below B0 w w' := by
  obtain ⟨v, h1, t', nw', h2, h3, h4, h5⟩ := close_step h hl hB hs
  exact ⟨v, nw', h1, ⟨hw.1, hw.2.1, hw.2.2.1, hw.2.2.2, t', h2, h3⟩, h4, h5⟩
theorem split_w {a : Bool} (hw : rc.x = 0 ∧ rc.y = 0 ∧ rc.w ≤ 200 ∧ rc.h ≤ 60) (h : Lay w b t rc nw) (hl : Lo B0 b t) (hB : B0 ≤ w.heap.size) (hs : SplitOk w w' b t rc nw id a e) : ∃ v nw', e = .returned v ∧ Win w' B0 b rc nw' ∧ nw' ≤ nw + 1 ∧ Below B0 w w' := by
  obtain ⟨v, h1, t', nw', h2, h3, h4, h5⟩ := split_step h hl hB hs
  exact ⟨v, nw', h1, ⟨hw.1, hw.2.1, hw.2.2.1, hw.2.2.2, t', h2, h3⟩, h4, h5⟩
theorem move_w (hw : rc.x = 0 ∧ rc.y = 0 ∧ rc.w ≤ 200 ∧ rc.h ≤ 60) (h : Lay w b t rc nw) (hl : Lo B0 b t) (hB : B0 ≤ w.heap.size) (hs : MoveOk w w' b t rc nw id e) : ∃ v nw', e = .returned v ∧ Win w' B0 b rc nw' ∧ nw' ≤ nw + 1 ∧ Below B0 w w' := by
  rcases hs with ⟨c, _, _, rfl, hb⟩ | ⟨cx, g, aa, p0, q0, p', q', l0, tr, rfl, _, rfl, hL, hbt⟩
  · exact ⟨_, nw, rfl, ⟨hw.1, hw.2.1, hw.2.2.1, hw.2.2.2, t, h.later hb, hl⟩, by omega, hb.mono hB⟩
  · exact ⟨_, nw, rfl, ⟨hw.1, hw.2.1, hw.2.2.1, hw.2.2.2, _, hL, hl.move⟩, by omega, hbt.below hB (fun k hk => by
      simp at hk
      rw [hk]
      exact hl.bl g (plug_mem.2 (.inr (by simp [Tr.bl]))))⟩
theorem resize_w {x y : Int} (hw : rc.x = 0 ∧ rc.y = 0 ∧ rc.w ≤ 200 ∧ rc.h ≤ 60) (h : Lay w b t rc nw) (hl : Lo B0 b t) (hB : B0 ≤ w.heap.size) (hs : ResizeOk w w' b t nw x y e) : ∃ v c, e = .returned v ∧ IsC v c ∧ Below B0 w w' ∧ ((c ≠ 0 ∧ Win w' B0 b rc nw) ∨ (c = 0 ∧ Win w' B0 b ⟨0, 0, x, y⟩ nw)) := by
  rcases hs with ⟨c, hc, _, rfl, hb⟩ | ⟨_, h2, _, h4, rfl, hL, hbt⟩
  · exact ⟨_, c, rfl, .inr rfl, hb.mono hB, .inl ⟨hc, hw.1, hw.2.1, hw.2.2.1, hw.2.2.2, t, h.later hb, hl⟩⟩
  · exact ⟨_, 0, rfl, .inl ⟨rfl, rfl⟩, hbt.below hB (fun k hk => by simp at hk; rw [hk]; exact hl.top), .inr ⟨rfl, rfl, rfl, h2, h4, t, hL, hl⟩⟩
end
set_option maxRecDepth 100000 in
set_option maxHeartbeats 1000000 in
theorem layoutTiles_walk (x y : Int) (A : Option Addr) (n c : Nat) (w : World) (hA : OpsAt w A n) (hn : n ≤ maxLen) (hg : ErrT w) :
    Calls Tryd.prog 6 #[.agg #[.int .i64 x, .int .i64 y], .slice A n c] w fun e w' => e = .returned (.bool true) ∧ Below w.heap.size w w' := by
  unfold maxLen at hn
  have hb0 := (Below.refl w.heap.size w).alloc (Nat.le_refl _) (.cells #[.int .i64 x, .int .i64 y] 22)
  have hq := Blk.new w 22 #[.int .i64 x, .int .i64 y]
  go_enter Tryd.func6, Tryd.ntmps6
  go_upto_region 1 with fail
  generalize w.alloc (.cells #[.int .i64 x, .int .i64 y] 22) = w0 at hb0 hq ⊢
  have hawk := awake_any w0
  go_upto_region 2 with (go_at_call 7; refine hawk.mono ?_; rintro e w1 ⟨rfl, hb1⟩)
  have hq1 := hq.below hb1 hq.lt
  have q0 := hq1.cell 0
  have q1 := hq1.cell 1
  have hsz := size_any x y w1
  go_upto_region 3 with (go_at_call 8; refine hsz.mono ?_; rintro e w2 ⟨⟨p, q, rfl, hp1, hp2, hq1', hq2⟩, hb2⟩)
  have hnew := new_any (p : Int) (q : Int) w2 ⟨by omega, by omega, by omega, by omega⟩
  go_upto_region 4 with (go_at_call 9; refine hnew.mono ?_; rintro e w3 ⟨rfl, hL3, hb3⟩)
  have hb02 := hb0.trans (((hb1.trans (hb2.mono hb1.size))).mono hb0.size)
  have hb03 := hb02.trans (hb3.mono hb02.size)
  have hA3 := hA.below hb03
  have hLay := new_lay hL3 ⟨hp1, by omega⟩ ⟨hq1', by omega⟩
  have hLo : Lo w2.heap.size (w2.heap.size + 1) (.pane w2.heap.size 1) := ⟨by omega, fun k hk => by simp [Tr.bl] at hk; omega⟩
  have hws : w2.heap.size ≤ w3.heap.size := hb3.size
  clear hawk hsz hnew hq hq1 q0 q1 hL3 hb1 hb2 hb0 hb3
  generalize Tr.pane w2.heap.size 1 = t0 at hLay hLo
  generalize hb : w2.heap.size + 1 = b at hLay hLo ⊢
  obtain ⟨B0, hB0⟩ : ∃ B0, B0 = w2.heap.size := ⟨_, rfl⟩
  rw [← hB0] at hLo hws
  have hwB0 : w.heap.size ≤ B0 := by rw [hB0]; exact hb02.size
  clear hb hb02 hB0
  go_upto_block 0 with fail
  go_cut [6, 7] from 9 to 86 (fun s6 s7 wx => ∃ (rc : Rc) (nw : Int), s6 = .int .i64 rc.w ∧ s7 = .int .i64 rc.h ∧ Win wx B0 b rc nw ∧ Below B0 w3 wx)
  case first =>
    go_wp2_with fail
    go_loopw [6, 7, 9] (fun s6 s7 x wr => ∃ (k : Nat) (rc : Rc) (nw : Int), k ≤ 40 ∧ k ≤ n ∧ x = .int .i64 (k : Nat) ∧ s6 = .int .i64 rc.w ∧ s7 = .int .i64 rc.h ∧ Win wr B0 b rc nw ∧ nw ≤ 1 + k ∧ Below B0 w3 wr) (fun _ _ x _ => 40 - (intOf x).toNat)
    case atStart => exact ⟨0, ⟨0, 0, p, q⟩, 1, by omega, by omega, rfl, rfl, rfl, ⟨rfl, rfl, by simp; omega, by simp; omega, t0, hLay, hLo⟩, by omega, Below.refl _ _⟩
    case round =>
      clear hLay hLo
      obtain ⟨k, rc, nw, hk20, hkn, rfl, rfl, rfl, hWin, hnw, hbr⟩ := hrel
      by_cases hlt : k < n ∧ k < 40
      · have hd1 : decide ((k : Int) < (n : Int)) = true := decide_eq_true (by omega)
        have hd2 : decide ((k : Int) < 40) = true := decide_eq_true (by omega)
        have hd3 : decide (k < n) = true := decide_eq_true hlt.1
        have hd4 : decide (k < 40) = true := decide_eq_true hlt.2
        obtain ⟨ad, rfl, kd', id', by'', hi', a', nr', hf, hc⟩ := hA k hlt.1
        have hbw : Below w.heap.size w wr := hb03.trans (hbr.mono hwB0)
        have e0 : wr.cell? (ad.add (k * 6)) = some (.int .i64 kd') := keepc hbw (hc 0 _ rfl)
        have e1 : wr.cell? ⟨(ad.add (k * 6)).block, (ad.add (k * 6)).off + 1, none⟩ = some (.int .i64 id') := keepc hbw (hc 1 _ rfl)
        have e2 : wr.cell? ⟨(ad.add (k * 6)).block, (ad.add (k * 6)).off + 2, none⟩ = some (.int .i64 by'') := keepc hbw (hc 2 _ rfl)
        have e3 : wr.cell? ⟨(ad.add (k * 6)).block, (ad.add (k * 6)).off + 3, none⟩ = some (.int .i64 hi') := keepc hbw (hc 3 _ rfl)
        have e4 : wr.cell? ⟨(ad.add (k * 6)).block, (ad.add (k * 6)).off + 4, none⟩ = some (.bool a') := keepc hbw (hc 4 _ rfl)
        have e5 : wr.cell? ⟨(ad.add (k * 6)).block, (ad.add (k * 6)).off + 5, none⟩ = some (.bool nr') := keepc hbw (hc 5 _ rfl)
        obtain ⟨kq, hkq, hkqe⟩ := and_low kd' 7 7 rfl (by omega)
        have hbx := (Below.refl wr.heap.size wr).alloc (Nat.le_refl _) (.cells #[.int .i64 kd', .int .i64 id', .int .i64 by'', .int .i64 hi', .bool a', .bool nr'] 25)
        have hox := Blk.new wr 25 #[.int .i64 kd', .int .i64 id', .int .i64 by'', .int .i64 hi', .bool a', .bool nr']
        have hWx := hWin.later hbx
        have hwx : B0 ≤ wr.heap.size := Nat.le_trans hws hbr.size
        go_upto_region 10 with fail
        generalize wr.alloc (.cells #[.int .i64 kd', .int .i64 id', .int .i64 by'', .int .i64 hi', .bool a', .bool nr'] 25) = wx at *
        have x0 := hox.cell 0
        have x1 := hox.cell 1
        have x2 := hox.cell 2
        have x3 := hox.cell 3
        have x4 := hox.cell 4
        have x5 := hox.cell 5
        have hop := op_any kd' id' by'' hi' a' nr' wx hf.2
        clear hWin hc hf e0 e1 e2 e3 e4 e5 hbw hA hA3
        go_upto_region 11 with (go_at_call 15; refine hop.mono ?_; rintro e w5 ⟨⟨id, n1, m1, rfl, hfi, hfn, hfm⟩, hb5⟩)
        clear hop x0 x1 x2 x3 x4 x5
        have hW5 := hWx.later hb5
        have hox5 := hox.below hb5 hox.lt
        have z0 := hox5.cell 0
        have z4 := hox5.cell 4
        have hw5 : B0 ≤ w5.heap.size := Nat.le_trans hwx (Nat.le_trans hbx.size hb5.size)
        have hb35 : Below B0 w3 w5 := hbr.trans ((hbx.mono hwx).trans (hb5.mono (Nat.le_trans hwx hbx.size)))
        have hg5 : ErrT w5 := hg.below (hb03.trans (hb35.mono hwB0))
        clear hWx hox hox5 hb5 hbx
        obtain ⟨r1, r2, r3, r4, t, hL, hO⟩ := hW5
        have Hw := Lib.hid (show rc.x = 0 ∧ rc.y = 0 ∧ rc.w ≤ 200 ∧ rc.h ≤ 60 from ⟨r1, r2, r3, r4⟩)
        have errt : ErrT w5 → ∀ {w7 : World}, Below B0 w5 w7 → ErrT w7 := fun h _ hS => (hS.cell (p := ⟨0, 0, none⟩) (Nat.lt_of_lt_of_le (World.block_lt_of_cell? w _ hg) hwB0)).trans h
        clear r1 r2 r3 r4
        by_cases hk4 : kq = 4
        · have hq1 : ((kq : Int) == 4) = true := by simp; omega
          clear hk4
          have hcon := close_any b t rc nw id w5 hL
          go_wp2_with (go_at_call 13; refine hcon.mono ?_; intro e w7 h7; obtain ⟨v7, nw7, rfl, hW7, hn7, hb7⟩ := close_w Hw.out hL hO hw5 h7)
          go_round
          case rel => exact ⟨k + 1, rc, nw7, by omega, by omega, by go_num, rfl, rfl, hW7, by omega, hb35.trans hb7⟩
          case measure => simp [intOf]; omega
        · have hq1 : ((kq : Int) == 4) = false := by simp; omega
          by_cases hk5 : kq = 5
          · have hq2 : ((kq : Int) == 5) = true := by simp; omega
            clear hk5
            have hcon := move_any b t rc nw id a' n1 w5 hL hfn
            go_wp2_with (go_at_call 16; refine hcon.mono ?_; intro e w7 h7; obtain ⟨v7, nw7, rfl, hW7, hn7, hb7⟩ := move_w Hw.out hL hO hw5 h7)
            go_round
            case rel => exact ⟨k + 1, rc, nw7, by omega, by omega, by go_num, rfl, rfl, hW7, by omega, hb35.trans hb7⟩
            case measure => simp [intOf]; omega
          · have hq2 : ((kq : Int) == 5) = false := by simp; omega
            by_cases hk6 : kq = 6
            · have hq3 : ((kq : Int) == 6) = true := by simp; omega
              clear hk6
              have hcon := resize_any b t rc nw n1 m1 w5 hL
              go_upto_region 19 with (go_at_call 17; refine hcon.mono ?_; intro e w7 h7; obtain ⟨v7, c7, rfl, hC7, hb7, hW7⟩ := resize_w Hw.out hL hO hw5 h7)
              have hco := code_any hC7 w7 (errt hg5 hb7)
              rcases hW7 with ⟨hc7, hW7⟩ | ⟨rfl, hW7⟩
              · have hc0 : (c7 == 0) = false := by simpa using hc7
                go_wp2_with (go_at_call 12; refine hco.mono ?_; rintro e w8 ⟨rfl, hb8⟩)
                go_round
                case rel => exact ⟨k + 1, rc, nw, by omega, by omega, by go_num, rfl, rfl, hW7.later hb8, by omega, hb35.trans (hb7.trans (hb8.mono (Nat.le_trans hw5 hb7.size)))⟩
                case measure => simp [intOf]; omega
              · go_wp2_with (go_at_call 12; refine hco.mono ?_; rintro e w8 ⟨rfl, hb8⟩)
                go_round
                case rel => exact ⟨k + 1, ⟨0, 0, n1, m1⟩, nw, by omega, by omega, by go_num, rfl, rfl, hW7.later hb8, by omega, hb35.trans (hb7.trans (hb8.mono (Nat.le_trans hw5 hb7.size)))⟩
                case measure => simp [intOf]; omega
            · have hq3 : ((kq : Int) == 6) = false := by simp; omega
              have hcon := split_any b t rc nw id a' w5 hL (by omega)
              go_wp2_with (go_at_call 10; refine hcon.mono ?_; intro e w7 h7; obtain ⟨v7, nw7, rfl, hW7, hn7, hb7⟩ := split_w Hw.out hL hO hw5 h7)
              go_round
              case rel => exact ⟨k + 1, rc, nw7, by omega, by omega, by go_num, rfl, rfl, hW7, by omega, hb35.trans hb7⟩
              case measure => simp [intOf]; omega
      · by_cases hkn' : k < n
        · have hd1 : decide ((k : Int) < (n : Int)) = true := decide_eq_true (by omega)
          have hd2 : decide ((k : Int) < 40) = false := decide_eq_false (by omega)
          have hd3 : decide (k < n) = true := decide_eq_true hkn'
          have hd4 : decide (k < 40) = false := decide_eq_false (by omega)
          clear hA hA3
          go_wp2_with fail
          go_meet
          exact ⟨rc, nw, rfl, rfl, hWin, hbr⟩
        · have hd1 : decide ((k : Int) < (n : Int)) = false := decide_eq_false (by omega)
          have hd3 : decide (k < n) = false := decide_eq_false hkn'
          clear hA hA3
          go_wp2_with fail
          go_meet
          exact ⟨rc, nw, rfl, rfl, hWin, hbr⟩
  case rest =>
  clear hLay hLo hA hA3 hn
  obtain ⟨⟨rx, ry, rw', rh⟩, nw, rfl, rfl, ⟨rc1, rc2, rc3, rc4, t, hL, hO⟩, hbc⟩ := hcut
  simp only at rc1 rc2 rc3 rc4
  subst rc1
  subst rc2
  have hrco := hL.rc
  obtain ⟨_, _, _, _, hw1, hh1⟩ := hrco
  simp only at hw1 hh1
  obtain ⟨wn, rfl⟩ := Int.eq_ofNat_of_zero_le (show 0 ≤ rw' by omega)
  obtain ⟨hn, rfl⟩ := Int.eq_ofNat_of_zero_le (show 0 ≤ rh by omega)
  dsimp only
  generalize hrc : (⟨0, 0, (wn : Int), (hn : Int)⟩ : Rc) = rc at hL
  have Hrc := Lib.hid hrc
  clear hrc
  have hwn : wn ≤ 200 := by omega
  have hhn : hn ≤ 60 := by omega
  obtain ⟨N, hN⟩ : ∃ N, N = wn * hn := ⟨_, rfl⟩
  have hNI : (wn : Int) * (hn : Int) = (N : Int) := by rw [hN, Int.natCast_mul]
  have hN2 : N ≤ 12000 := by
    rw [hN]
    exact Nat.le_trans (Nat.mul_le_mul (show wn ≤ 200 by omega) (show hn ≤ 60 by omega)) (by decide)
  have hmw : wrap64 ((wn : Int) * (hn : Int)) = (N : Int) := by
    rw [hNI]
    unfold wrap64
    omega
  have HN := Lib.hid hN
  have HNI := Lib.hid hNI
  clear hN hNI
  obtain ⟨j0, hj, hy0, hy1, hy2⟩ := info_parts (show (Tryd.prog.info? 3).map (fun i => (i.zero, i.size, i.bytes)) = some (some (.int .i64 0), 1, 8) from by kernel_rfl)
  have HB : RowKit.Hid (j0.bytes * N ≤ 281474976710656) := Lib.hid (by rw [hy2]; exact Nat.le_trans (Nat.mul_le_mul_left 8 hN2) (by decide))
  have H63 : RowKit.Hid (N ≤ 9223372036854775807) := Lib.hid (Nat.le_trans hN2 (by decide))
  go_upto_region 23 with (at_make; refine wpList_make_row _ rfl (.tmp 89) (.tmp 89) 52 rfl 3 j0 (.int .i64 0) Tryd.underlying52 hj hy0 hy1 rfl .i64 .i64 N ?h1 ?h2 HB.out H63.out ?_; (case h1 => go_simp); (case h2 => go_simp); have hR := World.rowIs_made wc (.int .i64 0) N 3; have hbm := (Below.refl wc.heap.size wc).alloc (Nat.le_refl _) (.cells (madeCells #[.int .i64 0] N) 3); generalize wc.alloc (.cells (madeCells #[.int .i64 0] N) 3) = wm at hR hbm ⊢)
  have hrg := hR.lt
  have hbg : b < wc.heap.size := hL.mem.blk.lt
  have htg : ∀ k ∈ t.bl, k < wc.heap.size := hL.mem.tree.lt t
  have hLm := hL.later hbm
  have hpan := panes_any b t rc nw wm hLm.mem hLm.rc hLm.nums hLm.fits hLm.nl
  have hfew : (panesP t rc).length ≤ 16 := by rw [panes_len]; exact hL.few
  go_upto_block 3 with (go_at_call 11; refine hpan.mono ?_; rintro e w4 ⟨⟨v, rfl, hv⟩, hb4⟩; obtain ⟨r1, c1, rfl, hr1, hP⟩ := Pn.of_own hv (panes_ne t rc))
  have hL4 := hLm.later hb4
  have hr1g : r1 ≠ wc.heap.size := by omega
  have hgw : w.heap.size ≤ wc.heap.size := Nat.le_trans hb03.size hbc.size
  have hR4 := hR.of_block (hb4.block _ hR.lt)
  have hpok : ∀ (k : Nat) (z : Int × Rc), (panesP t rc)[k]? = some z → RcOk z.2 := fun k z hz => by
    have h1 : z.2 ∈ boxes t rc := List.mem_append_left _ (List.mem_map_of_mem (List.mem_of_getElem? hz))
    obtain ⟨u, hu, he⟩ := boxes_mem h1
    rw [he]
    exact box_ok t rc hL.rc hL.nums hL.fits u hu
  have hB4 : Below B0 w3 w4 := hbc.trans ((hbm.trans (hb4.mono hbm.size)).mono (Nat.le_trans hws hbc.size))
  have hw4 : B0 ≤ w4.heap.size := Nat.le_trans hws hB4.size
  clear hpan hv hL hLm hR hbm hb4 hbc hrg
  obtain ⟨k0, hi, hz0, hz1, hz2⟩ := info_parts (show (Tryd.prog.info? 41).map (fun i => (i.zero, i.size, i.bytes)) = some (some (.agg #[.int .i64 0, .int .i64 0, .int .i64 0, .int .i64 0]), 4, 32) from by kernel_rfl)
  generalize wc.heap.size = gi at *
  go_cut [16] from 18 to 122 (fun s16 wx => ∃ v, s16 = v ∧ wx.ownsRow w4.heap.size 41 4 v (panesP t rc).length (((panesP t rc).map (·.2)).flatMap rectV) ∧ Below w4.heap.size w4 wx)
  case first =>
    have hca := hP.cap
    have hba := hP.big
    go_wp2_with fail
    go_loopw [16, 18] (fun s16 x wr => ∃ k : Nat, k ≤ (panesP t rc).length ∧ x = .int .i64 (k : Nat) ∧ wr.ownsRow w4.heap.size 41 4 s16 k ((((panesP t rc).take k).map (·.2)).flatMap rectV) ∧ Below w4.heap.size w4 wr) (fun _ x _ => (panesP t rc).length - (intOf x).toNat)
    case atStart => exact ⟨0, Nat.zero_le _, rfl, World.ownsRow_nil _ _ _ _, Below.refl _ _⟩
    case round =>
      obtain ⟨k, hk, rfl, hO, hbr⟩ := hrel
      by_cases hlt : k < (panesP t rc).length
      · have hx : (panesP t rc)[k]? = some (panesP t rc)[k] := List.getElem?_eq_getElem hlt
        have htk : (((panesP t rc).take (k + 1)).map (·.2)).flatMap rectV = (((panesP t rc).take k).map (·.2)).flatMap rectV ++ rectV ((panesP t rc)[k]).2 := by
          rw [List.take_succ_eq_append_getElem hlt, List.map_append, List.flatMap_append]
          simp
        have hok := hpok k _ hx
        generalize (panesP t rc)[k] = x at hx htk hok
        have hkeep := fun j u (hu : (paneV x)[j]? = some u) => (hbr.cell (p := ⟨r1, k * 5 + j, none⟩) hP.lt).trans (hP.at' k x hx j u hu)
        have q1 : wr.cell? ⟨r1, k * 5 + 1, none⟩ = some (.int .i64 x.2.x) := hkeep 1 _ rfl
        have q2 : wr.cell? ⟨r1, k * 5 + 2, none⟩ = some (.int .i64 x.2.y) := hkeep 2 _ rfl
        have q3 : wr.cell? ⟨r1, k * 5 + 3, none⟩ = some (.int .i64 x.2.w) := hkeep 3 _ rfl
        have q4 : wr.cell? ⟨r1, k * 5 + 4, none⟩ = some (.int .i64 x.2.h) := hkeep 4 _ rfl
        have hd1 : decide ((k : Int) < ((panesP t rc).length : Int)) = true := decide_eq_true (by omega)
        have hd2 : decide (k < (panesP t rc).length) = true := decide_eq_true hlt
        have hw0 : decide (x.2.w < 1) = false := decide_eq_false (by have := hok.w1; omega)
        have hh0 : decide (x.2.h < 1) = false := decide_eq_false (by have := hok.h1; omega)
        have hsz := hbr.size
        have Hx := Lib.hid hx
        have Htk := Lib.hid htk
        have Hpok := Lib.hid hpok
        clear hkeep hx htk hpok hok
        have hb6 := (Below.refl wr.heap.size wr).alloc (Nat.le_refl _) (.cells (rectV x.2).toArray 41)
        have hO6 := own_below hO hb6
        have hn6 := World.news_of_block (Blk.new wr 41 (rectV x.2).toArray)
        have hS6 := hb6.size
        have hbr6 := hbr.alloc hbr.size (.cells (rectV x.2).toArray 41)
        go_wp2_with (at_builtin; refine wpList_append_own _ rfl (.tmp 115) (.tmp 121) 53 rfl w4.heap.size 41 k0 _ 4 32 Tryd.underlying53 hi hz0 hz1 hz2 rfl (by decide) u16 k _ rfl hO6 ⟨wr.heap.size, 0, none⟩ 1 1 (rectV x.2) rfl rfl hn6 ?c1 ?c2 ?c3 ?c4 ?_; (case c1 => simp [rectV, Value.oneCell']); (case c2 => unfold maxLen; omega); (case c3 => omega); (case c4 => exact Nat.le_trans hsz hS6); intro v7 w7 hO7 hg7 _)
        go_round
        case rel =>
          refine ⟨k + 1, by omega, by go_num, ?_, hbr6.grown hg7 (Nat.le_trans hsz hS6) (own_ge hO6)⟩
          rw [Htk.out]
          exact hO7
        case measure => simp [intOf]; omega
      · have hd1 : decide ((k : Int) < ((panesP t rc).length : Int)) = false := decide_eq_false (by omega)
        have hd2 : decide (k < (panesP t rc).length) = false := decide_eq_false hlt
        obtain rfl : k = (panesP t rc).length := by omega
        rw [List.take_length] at hO
        go_wp2_with fail
        go_meet
        case rel => exact ⟨u16, rfl, hO, hbr⟩
  case rest =>
  obtain ⟨v16, rfl, hO16, hb16⟩ := hcut
  have hL5 := hL4.later (hb16.mono (Nat.le_refl _))
  have hR5 := hR4.of_block (hb16.block _ hR4.lt)
  have hbo := borders_any b t rc nw wc hL5.mem hL5.rc hL5.nums hL5.fits (Nat.le_trans hL5.nl (by decide))
  have hlen := boxes_len t rc
  have hbl : (boxes t rc).length = (panesP t rc).length + (bordersP t rc).length := by
    unfold boxes
    rw [List.length_append, List.length_map]
  have hfew' := hL5.few
  have hbx : (boxes t rc).flatMap rectV = ((panesP t rc).map (·.2)).flatMap rectV ++ (bordersP t rc).flatMap rectV := by
    unfold boxes
    rw [List.flatMap_append]
  have hones : ∀ u ∈ (bordersP t rc).flatMap rectV, u.oneCell' = true := fun u hu => by
    rw [List.mem_flatMap] at hu
    obtain ⟨x, _, hx⟩ := hu
    simp only [rectV, List.mem_cons, List.not_mem_nil, or_false] at hx
    rcases hx with rfl | rfl | rfl | rfl <;> rfl
  have hflen : ((bordersP t rc).flatMap rectV).length = (bordersP t rc).length * 4 := by
    generalize bordersP t rc = l
    induction l with
    | nil => rfl
    | cons x l ih => rw [List.flatMap_cons, List.length_append, ih]; show 4 + l.length * 4 = (l.length + 1) * 4; omega
  have hs16 := hb16.size
  have Hlen := Lib.hid hlen
  have Hbl := Lib.hid hbl
  have Hbx := Lib.hid hbx
  have Hpok := Lib.hid hpok
  have HP := Lib.hid hP
  have hsum : (panesP t rc).length + (bordersP t rc).length ≤ 31 := by omega
  have Hsum := Lib.hid hsum
  clear hlen hbl hbx hpok hP hsum hfew'
  go_upto_region 32 with (first | (go_at_call 18; refine hbo.mono ?_; rintro e w5 ⟨⟨v5, rfl, hO5⟩, hb5⟩; have hO6 := own_below hO16 hb5; obtain ⟨A5, c5, rfl⟩ := own_slice hO5; have hs5 := hb5.size; have hsrc := Src.of_own hO5; have hnil5 := own_nil hO5) | (at_builtin; refine wpList_append_src rfl (.tmp 123) (.tmp 125) 53 rfl w4.heap.size 41 k0 _ 4 32 Tryd.underlying53 hi hz0 hz1 hz2 rfl (by decide) u16 _ _ rfl hO6 A5 _ c5 _ rfl hflen hsrc hnil5 hones ?c1 ?c2 ?c3 ?_; (case c1 => exact Nat.le_trans Hsum.out (by decide)); (case c2 => exact Nat.le_trans (Nat.mul_le_mul_right 32 Hsum.out) (by decide)); (case c3 => exact Nat.le_trans hs16 hs5); intro v7 w7 hO7 hg7))
  have hbne : boxes t rc ≠ [] := fun h0 => by
    have h1 := congrArg List.length h0
    have h2 := Hbl.out
    have h3 := List.length_pos_iff.2 (panes_ne t rc)
    simp only [List.length_nil] at h1
    omega
  have hO8 : w7.ownsRow w4.heap.size 41 4 v7 (boxes t rc).length ((boxes t rc).flatMap rectV) := by
    rw [Hbl.out, Hbx.out]
    exact hO7
  have hR6 := hR5.of_block (hb5.block _ hR5.lt)
  have hR7 := hR6.of_block (hg7.block _ hR6.lt (fun he => by have h1 := own_ge hO16 _ he.symm; have h2 := hR4.lt; omega))
  have hB7 : Below w4.heap.size w4 w7 := (hb16.trans (hb5.mono hs16)).grown hg7 (Nat.le_trans hs16 hs5) (own_ge hO16)
  obtain ⟨g7, c7, rfl, hg70, hBx⟩ := Bx.of_own hO8 hbne
  clear hO7 hO8 hg7 hb5 hR5 hR6 hb16 hO16 hL5 hbo
  have hbl31 : (boxes t rc).length ≤ 31 := by rw [Hbl.out]; exact Hsum.out
  have hR8 : TilI w7 w7 gi N wn 0 (boxes t rc) := ⟨only_refl _ _, hR7.congr fun i _ => by simp [cntR, cnt]⟩
  have hgi7 : gi < w7.heap.size := hR7.lt
  have hgiw : w.heap.size ≤ gi := hgw
  have hL7 := lat_below hL4.mem hB7 (Nat.lt_trans hbg hR4.lt) (fun k hk => Nat.lt_trans (htg k hk) hR4.lt)
  have hP7 : ∀ (k : Nat) (p : Int × Rc), (panesP t rc)[k]? = some p → w7.cell? ⟨r1, k * 5 + 0, none⟩ = some (.int .i64 p.1) := fun k p hp => (hB7.cell (p := ⟨r1, k * 5 + 0, none⟩) HP.out.lt).trans (HP.out.at' k p hp 0 _ rfl)
  have hr17 : r1 < w7.heap.size := Nat.lt_of_lt_of_le HP.out.lt hB7.size
  have hg7g : g7 ≠ gi := by have := hR4.lt; omega
  have HL7 := Lib.hid hL7
  have HL4 := Lib.hid hL4
  have HP7 := Lib.hid hP7
  have HBx := Lib.hid hBx
  have HB7 := Lib.hid hB7
  have Htg := Lib.hid htg
  have Hbl31 := Lib.hid hbl31
  have Hfin := Lib.hid (show Below w.heap.size w w7 from hb03.trans ((hB4.trans (hB7.mono hw4)).mono hwB0))
  clear hR7 hL7 hP7 hL4 hBx hB7 htg hbl31 hones hflen hR4 hfew
  clear hB4 hO hg hO6 hO5 hsrc hnil5 hs5 hs16 hi hz0 hz1 hz2 hj hy0 hy1 hy2 hw4 hbne hwB0 hws hb03
  go_wp2_with fail
  go_loopw [19, 20, 21, 22] (fun s19 _ _ _ wr => ∃ k : Nat, k ≤ (boxes t rc).length ∧ s19 = .int .i64 (k : Nat) ∧ TilI w7 wr gi N wn k (boxes t rc)) (fun s19 _ _ _ _ => (boxes t rc).length - (intOf s19).toNat)
  case atStart => exact ⟨0, Nat.zero_le _, rfl, hR8⟩
  case round =>
    clear hR8
    obtain ⟨k, hk, rfl, hI⟩ := hrel
    by_cases hlt : k < (boxes t rc).length
    · have hx : (boxes t rc)[k]? = some (boxes t rc)[k] := List.getElem?_eq_getElem hlt
      have htk : (boxes t rc).take (k + 1) = (boxes t rc).take k ++ [(boxes t rc)[k]] := List.take_succ_eq_append_getElem hlt
      obtain ⟨X, Y, W, H, hz, hW1, hH1, hXW, hYH⟩ := box_nat HL4.out Hrc.out (List.getElem_mem hlt)
      rw [hz] at hx htk
      clear hz
      have hBr := HBx.out.keep (hI.1.block g7 HBx.out.lt (fun he => hg7g (Option.some.inj he)))
      have q0 : wr.cell? ⟨g7, k * 4, none⟩ = some (.int .i64 (X : Int)) := hBr.at' k _ hx 0 _ rfl
      have q1 : wr.cell? ⟨g7, k * 4 + 1, none⟩ = some (.int .i64 (Y : Int)) := hBr.at' k _ hx 1 _ rfl
      have q2 : wr.cell? ⟨g7, k * 4 + 2, none⟩ = some (.int .i64 (W : Int)) := hBr.at' k _ hx 2 _ rfl
      have q3 : wr.cell? ⟨g7, k * 4 + 3, none⟩ = some (.int .i64 (H : Int)) := hBr.at' k _ hx 3 _ rfl
      have hd1 : decide ((k : Int) < ((boxes t rc).length : Int)) = true := decide_eq_true (by omega)
      have hd2 : decide (k < (boxes t rc).length) = true := decide_eq_true hlt
      have Hx := Lib.hid hx
      have Htk := Lib.hid htk
      have HI := Lib.hid hI
      clear hx htk hI hBr
      go_upto_region 36 with fail
      have hJ := TilJ.start HI.out ⟨(X : Int), (Y : Int), (W : Int), (H : Int)⟩ (.cells #[.int .i64 (X : Int), .int .i64 (Y : Int), .int .i64 (W : Int), .int .i64 (H : Int)] 41)
      have hO8 := only_alloc HI.out.1 (.cells #[.int .i64 (X : Int), .int .i64 (Y : Int), .int .i64 (W : Int), .int .i64 (H : Int)] 41)
      have hfin : ∀ (wy : World) (x : Int), TilJ (wr.alloc (.cells #[.int .i64 (X : Int), .int .i64 (Y : Int), .int .i64 (W : Int), .int .i64 (H : Int)] 41)) wy gi N wn k (boxes t rc) ⟨(X : Int), (Y : Int), (W : Int), (H : Int)⟩ ((Y : Int) + (H : Int)) x → TilI w7 wy gi N wn (k + 1) (boxes t rc) := fun wy x h => TilJ.fin HI.out h Htk.out
      have hr := Blk.new wr 41 #[.int .i64 (X : Int), .int .i64 (Y : Int), .int .i64 (W : Int), .int .i64 (H : Int)]
      have hgr : wr.heap.size ≠ gi := by have := HI.out.1.size; omega
      generalize wr.alloc (.cells #[.int .i64 (X : Int), .int .i64 (Y : Int), .int .i64 (W : Int), .int .i64 (H : Int)] 41) = w8 at hJ hO8 hfin hr ⊢
      generalize wr.heap.size = gr at hr hgr ⊢
      have Hfi := Lib.hid hfin
      have HO8 := Lib.hid hO8
      clear hfin hO8 HI q0 q1 q2 q3
      have b0 := hr.cell 0
      have b1 := hr.cell 1
      have b2 := hr.cell 2
      have b3 := hr.cell 3
      obtain ⟨XW, e1⟩ : ∃ XW, XW = X + W := ⟨_, rfl⟩
      obtain ⟨YH, e2⟩ : ∃ YH, YH = Y + H := ⟨_, rfl⟩
      obtain ⟨⟨s1, s2⟩, t0, t1, t2, t3, t4, t5⟩ := box_tests e1 e2 hwn hhn hW1 hH1 hXW hYH
      have t6 := til_notlt e1 hXW
      have t7 := til_notlt e2 hYH
      have E1 := Lib.hid e1
      have E2 := Lib.hid e2
      have HXW := Lib.hid hXW
      have HYH := Lib.hid hYH
      clear e1 e2 hXW hYH hW1 hH1
      go_wp2_with fail
      clear t0 t1 t2 t3 t4 t5 t6 t7 b0 b1 b2 b3
      go_loopw [21, 22] (fun s21 _ wx => ∃ py : Nat, Y ≤ py ∧ py ≤ YH ∧ s21 = .int .i64 (py : Nat) ∧ TilJ w8 wx gi N wn k (boxes t rc) ⟨(X : Int), (Y : Int), (W : Int), (H : Int)⟩ (py : Int) (X : Int)) (fun s21 _ _ => YH - (intOf s21).toNat)
      case atStart => exact ⟨Y, Nat.le_refl _, til_le E2.out, rfl, hJ⟩
      case round =>
        clear hJ
        obtain ⟨py, hy1, hy2, rfl, hJ⟩ := hrel
        have b1 := (hJ.1.cell' (p := ⟨gr, 1, none⟩) hr.lt hgr).trans (hr.cell 1)
        have b3 := (hJ.1.cell' (p := ⟨gr, 3, none⟩) hr.lt hgr).trans (hr.cell 3)
        have b0 := (hJ.1.cell' (p := ⟨gr, 0, none⟩) hr.lt hgr).trans (hr.cell 0)
        by_cases hy : py < YH
        · have d1 : decide ((py : Int) < (YH : Int)) = true := decide_eq_true (Int.ofNat_lt.2 hy)
          have d3 : decide (py < YH) = true := decide_eq_true hy
          have d1' : decide ((py : Int) < (Y : Int) + (H : Int)) = true := decide_eq_true (til_z E2.out hy)
          go_wp2_with fail
          go_loopw [22] (fun s22 wx => ∃ px : Nat, X ≤ px ∧ px ≤ XW ∧ s22 = .int .i64 (px : Nat) ∧ TilJ w8 wx gi N wn k (boxes t rc) ⟨(X : Int), (Y : Int), (W : Int), (H : Int)⟩ (py : Int) (px : Int)) (fun s22 _ => XW - (intOf s22).toNat)
          case atStart => exact ⟨X, Nat.le_refl _, til_le E1.out, rfl, hJ⟩
          case round =>
            clear hJ b1 b3 b0
            obtain ⟨px, hx1, hx2, rfl, hJ⟩ := hrel
            have b0 := (hJ.1.cell' (p := ⟨gr, 0, none⟩) hr.lt hgr).trans (hr.cell 0)
            have b2 := (hJ.1.cell' (p := ⟨gr, 2, none⟩) hr.lt hgr).trans (hr.cell 2)
            by_cases hx : px < XW
            · have d2 : decide ((px : Int) < (XW : Int)) = true := decide_eq_true (Int.ofNat_lt.2 hx)
              have d4 : decide (px < XW) = true := decide_eq_true hx
              have d2' : decide ((px : Int) < (X : Int) + (W : Int)) = true := decide_eq_true (til_z E1.out hx)
              obtain ⟨yw, pl, v, v1, f1, f2, f3, f4, f5, f6, hJ2⟩ := til_facts hJ Hbl31.out HN.out hwn hhn (til_lt E1.out HXW.out hx) (til_lt E2.out HYH.out hy) (Int.ofNat_le.2 hx1) (til_z E1.out hx) (Int.ofNat_le.2 hy1) (til_z E2.out hy)
              have f7 : decide (pl < N) = true := decide_eq_true f3
              clear hJ
              have HJ := Lib.hid hJ2
              clear hJ2
              go_upto_region 45 with fail
              have hJ3 := HJ.out
              clear HJ f1 f2 f3 f4 f5 f6 f7 d1 d1' d2 d2' d3 d4 b0 b2
              generalize wr.setCell ⟨gi, pl, none⟩ (.int .i64 (v1 : Int)) = ws at hJ3 ⊢
              have hIn := til_in E1.out E2.out hx1 hx hy1 hy
              have hOs := only_trans HO8.out hJ3.1
              have hLs := lat_below HL7.out (only_below hOs (Nat.le_refl _) (Nat.le_of_lt hgi7)) hbg Htg.out
              by_cases hkp : k < (panesP t rc).length
              · obtain ⟨i0, hp⟩ := boxes_pane hkp Hx.out
                have hat : atP t rc px py = i0 := at_box HL4.out hp hIn
                have m0 : ws.cell? ⟨r1, k * 5, none⟩ = some (.int .i64 i0) := (hOs.cell' (p := ⟨r1, k * 5, none⟩) hr17 hr1g).trans (HP7.out k _ hp)
                have m1 := cell_regrown m0
                have hca := at_any b t rc nw px py
                rw [hat] at hca
                have cA : ∀ d os, Calls Tryd.prog 19 #[.pointer (some ⟨b, 0, none⟩), .int .i64 (px : Int), .int .i64 (py : Int)] (grow (redrawn ws d) os) fun e w'' => e = .returned (.int .i64 i0) ∧ ∃ p : Regrown, w'' = grow (redrawn ws p.d) p.os := fun d os => Calls.regrown_of (hca _ (hLs.later (below_regrown ws d os)) HL4.out.rc HL4.out.nums HL4.out.fits)
                have g1 : decide ((k : Int) < ((panesP t rc).length : Int)) = true := decide_eq_true (Int.ofNat_lt.2 hkp)
                have g2 : decide (k < (panesP t rc).length) = true := decide_eq_true hkp
                clear hca hat hp m0 hIn hLs hOs
                have hca := HP.out.cap
                have hba := HP.out.big
                refine wp_region_quiet_below (by kernel_rfl) (by kernel_rfl) ?_
                repeat (first | go_big_quiet_step (exact cA _ _) | quiet_step (exact cA _ _))
                refine wpQuiet_nil ?_
                intro _ hw'
                obtain ⟨⟨dq, osq⟩, hw''⟩ := hw'
                subst hw''
                have hJ4 := hJ3.below (below_regrown ws dq osq)
                clear cA m1 g1 g2 hca hba hJ3
                generalize grow (redrawn ws dq) osq = wz at hJ4 ⊢
                go_wp2_with fail
                have hnx := til_next (til_lt E1.out HXW.out hx) (Nat.le_trans hwn (by decide))
                go_round
                case rel => exact ⟨px + 1, Nat.le_succ_of_le hx1, hx, congrArg (Value.int .i64) hnx, hJ4⟩
                case measure => exact til_mea hx hnx
              · have g1 : decide ((k : Int) < ((panesP t rc).length : Int)) = false := decide_eq_false (fun h => hkp (Int.ofNat_lt.1 h))
                have g2 : decide (k < (panesP t rc).length) = false := decide_eq_false hkp
                clear hIn hLs hOs
                refine wp_region_quiet_below (by kernel_rfl) (by kernel_rfl) ?_
                repeat (first | go_big_quiet_step (fail) | quiet_step (fail))
                refine wpQuiet_nil ?_
                intro _ hw'
                obtain ⟨⟨dq, osq⟩, hw''⟩ := hw'
                subst hw''
                have hJ4 := hJ3.below (below_regrown ws dq osq)
                clear g1 g2 hJ3
                generalize grow (redrawn ws dq) osq = wz at hJ4 ⊢
                go_wp2_with fail
                have hnx := til_next (til_lt E1.out HXW.out hx) (Nat.le_trans hwn (by decide))
                go_round
                case rel => exact ⟨px + 1, Nat.le_succ_of_le hx1, hx, congrArg (Value.int .i64) hnx, hJ4⟩
                case measure => exact til_mea hx hnx
            · have hxe : px = XW := Nat.le_antisymm hx2 (Nat.le_of_not_lt hx)
              have hJ4 := TilJ.rowE E1.out hJ hxe
              have d2 : decide ((px : Int) < (XW : Int)) = false := decide_eq_false (fun h => hx (Int.ofNat_lt.1 h))
              have d4 : decide (px < XW) = false := decide_eq_false hx
              clear hxe hJ
              have HJ := Lib.hid hJ4
              clear hJ4
              go_wp2_with fail
              have hnx := til_next (til_lt E2.out HYH.out hy) (Nat.le_trans hhn (by decide))
              go_round
              case rel => exact ⟨py + 1, Nat.le_succ_of_le hy1, hy, congrArg (Value.int .i64) hnx, HJ.out⟩
              case measure => exact til_mea hy hnx
        · have hye : py = YH := Nat.le_antisymm hy2 (Nat.le_of_not_lt hy)
          have hI2 := Hfi.out _ _ (TilJ.finE E2.out hJ hye)
          have d1 : decide ((py : Int) < (YH : Int)) = false := decide_eq_false (fun h => hy (Int.ofNat_lt.1 h))
          have d3 : decide (py < YH) = false := decide_eq_false hy
          clear hye hJ
          have HI := Lib.hid hI2
          clear hI2
          go_wp2_with fail
          have hnx := til_next hlt (Nat.le_trans Hbl31.out (by decide))
          go_round
          case rel => exact ⟨k + 1, hlt, congrArg (Value.int .i64) hnx, HI.out⟩
          case measure => exact til_mea hlt hnx
    · have hd1 : decide ((k : Int) < ((boxes t rc).length : Int)) = false := decide_eq_false (fun h => hlt (Int.ofNat_lt.1 h))
      have hd2 : decide (k < (boxes t rc).length) = false := decide_eq_false hlt
      have hrow := til_all HL4.out Hrc.out HN.out (Nat.le_of_not_lt hlt) hI
      have hOn := hI.1
      obtain ⟨P2, v1, v2, v3, v4⟩ := til_last (L := (boxes t rc).length) (P := (panesP t rc).length) (by rw [Hlen.out, panes_len]) (by rw [panes_len]; exact HL4.out.few)
      clear hI
      go_wp2_with fail
      go_loopw [23] (fun s23 wx => ∃ j : Nat, j ≤ N ∧ s23 = .int .i64 (j : Nat) ∧ wx.rowIs gi 3 N (fun _ => .int .i64 1) ∧ Only gi w7 wx) (fun s23 _ => N - (intOf s23).toNat)
      case atStart => exact ⟨0, Nat.zero_le _, rfl, hrow, hOn⟩
      case round =>
        clear hrow hOn
        obtain ⟨j, hj, rfl, hrow, hOn⟩ := hrel
        by_cases hjn : j < N
        · have hd3 : decide ((j : Int) < (N : Int)) = true := decide_eq_true (Int.ofNat_lt.2 hjn)
          have hd4 : decide (j < N) = true := decide_eq_true hjn
          have q0 := hrow.cell hjn
          go_wp2_with fail
          go_round
          case rel => exact ⟨j + 1, hjn, rfl, hrow, hOn⟩
          case measure => exact Nat.sub_lt_sub_left hjn (Nat.lt_succ_self j)
        · have hd3 : decide ((j : Int) < (N : Int)) = false := decide_eq_false (fun h => hjn (Int.ofNat_lt.1 h))
          have hd4 : decide (j < N) = false := decide_eq_false hjn
          clear hrow
          have hend := Hfin.out.trans ((only_below hOn (Nat.le_refl _) (Nat.le_of_lt hgi7)).mono hgiw)
          clear hOn
          go_wp2_with fail
          go_ret
          exact ⟨rfl, hend⟩
end Go.Proofs.YtmdgjmmkegkonaaDoor
