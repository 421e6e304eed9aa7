/- LayoutNext: walked. -/
import Derived.Test.YtmdgjmmkegkonaaDoorBackL
namespace Go.Proofs.YtmdgjmmkegkonaaDoor
open Go.RowKit
theorem ids_bd : ∀ t : Tr, Nums t → ∀ i ∈ t.ids, 1 ≤ i ∧ i ≤ 1000
  | .pane g i, h, j, hj => by
    simp only [Tr.ids, List.mem_singleton] at hj
    subst hj
    exact h
  | .split g a p q l r, h, j, hj => by
    simp only [Tr.ids, List.mem_append] at hj
    rcases hj with hj | hj
    · exact ids_bd l h.2.2.2.1 j hj
    · exact ids_bd r h.2.2.2.2 j hj
def idAt (l : List (Int × Rc)) (j : Nat) : Int := (l.getD j (0, ⟨0, 0, 0, 0⟩)).1
theorem idAt_get {l : List (Int × Rc)} {j : Nat} {x : Int × Rc} (h : l[j]? = some x) : idAt l j = x.1 := by simp [idAt, List.getD_eq_getElem?_getD, h]
theorem idAt_inj {l : List (Int × Rc)} (h : (l.map (·.1)).Nodup) {i j : Nat} (hi : i < l.length) (hj : j < l.length) (e : idAt l i = idAt l j) : i = j := by
  have h1 := idAt_get (List.getElem?_eq_getElem hi)
  have h2 := idAt_get (List.getElem?_eq_getElem hj)
  rw [h1, h2] at e
  have hp := List.pairwise_iff_getElem.1 h
  rcases Nat.lt_trichotomy i j with h3 | h3 | h3
  · exact absurd (by rw [List.getElem_map, List.getElem_map]; exact e) (hp i j (by simpa using hi) (by simpa using hj) h3)
  · exact h3
  · exact absurd (by rw [List.getElem_map, List.getElem_map]; exact e.symm) (hp j i (by simpa using hj) (by simpa using hi) h3)
theorem next_at {l : List (Int × Rc)} (h : (l.map (·.1)).Nodup) {j : Nat} (hj : j < l.length) : nextP l (idAt l j) = idAt l ((j + 1) % l.length) := by
  have hx := List.getElem?_eq_getElem hj
  have hy := List.getElem?_eq_getElem (Nat.mod_lt (j + 1) (show 0 < l.length by omega))
  rw [idAt_get hx, idAt_get hy]
  refine nextP_hit hx (fun i hi y hy e => ?_) hy
  have h1 := idAt_get hy
  have h2 := idAt_inj h (i := i) (j := j) (by omega) hj (by rw [h1, idAt_get hx]; exact e)
  omega
/-- A step's closing, told by halves. -/
theorem close_step {w w' : World} {b : Nat} {t : Tr} {r : Rc} {nw id : Int} {e : Ending} {B0 : Nat} (h : Lay w b t r nw) (hl : Lo B0 b t) (hB : B0 ≤ w.heap.size) (hs : CloseOk w w' b t r nw id e) : ∃ v, e = .returned v ∧ ∃ t' nw', Lay w' b t' r nw' ∧ Lo B0 b t' ∧ nw' ≤ nw + 1 ∧ Below B0 w w' := by
  rcases hs with ⟨c, _, _, _, rfl, hb⟩ | ⟨cx, left, gu, a, p, q, gp, o, rfl, _, _, rfl, hL, hbt⟩
  · exact ⟨_, rfl, t, nw, h.later hb, hl, by omega, hb.mono hB⟩
  · exact ⟨_, rfl, _, nw, hL, hl.close, by omega, hbt.below hB (fun k hk => by
      simp at hk
      rw [hk]
      exact hl.g_close)⟩
set_option maxRecDepth 100000 in
set_option maxHeartbeats 4000000 in
theorem layoutNext_walk (x y : Int) (A : Option Addr) (n c : Nat) (fr : Int) (w : World) (hA : OpsAt w A n) (hn : n ≤ maxLen) (hfr : Fit64 fr) :
    Calls Tryd.prog 4 #[.agg #[.int .i64 x, .int .i64 y], .slice A n c, .int .i64 fr] w fun e w' => e = .returned (.bool true) ∧ Below w.heap.size w w' := by
  unfold maxLen at hn
  obtain ⟨hf1, hf2⟩ := hfr
  have hb0 := (Below.refl w.heap.size w).alloc (Nat.le_refl _) (.cells #[.int .i64 x, .int .i64 y] 22)
  have hq := Blk.new w 22 #[.int .i64 x, .int .i64 y]
  go_enter Tryd.func4, Tryd.ntmps4
  go_upto_region 1 with fail
  generalize w.alloc (.cells #[.int .i64 x, .int .i64 y] 22) = w0 at hb0 hq ⊢
  have hawk := awake_any w0
  go_upto_region 2 with (go_at_call 7; refine hawk.mono ?_; rintro e w1 ⟨rfl, hb1⟩)
  have hq1 := hq.below hb1 hq.lt
  have q0 := hq1.cell 0
  have q1 := hq1.cell 1
  have hsz := size_any x y w1
  go_upto_region 3 with (go_at_call 8; refine hsz.mono ?_; rintro e w2 ⟨⟨p, q, rfl, hp1, hp2, hq1', hq2⟩, hb2⟩)
  have hnew := new_any (p : Int) (q : Int) w2 ⟨by omega, by omega, by omega, by omega⟩
  go_upto_region 4 with (go_at_call 9; refine hnew.mono ?_; rintro e w3 ⟨rfl, hL3, hb3⟩)
  have hb02 := hb0.trans (((hb1.trans (hb2.mono hb1.size))).mono hb0.size)
  have hb03 := hb02.trans (hb3.mono hb02.size)
  have hA3 := hA.below hb03
  have hLay := new_lay hL3 ⟨hp1, by omega⟩ ⟨hq1', by omega⟩
  have hLo : Lo w2.heap.size (w2.heap.size + 1) (.pane w2.heap.size 1) := ⟨by omega, fun k hk => by simp [Tr.bl] at hk; omega⟩
  have hws : w2.heap.size ≤ w3.heap.size := hb3.size
  clear hawk hsz hnew hq hq1 q0 q1 hL3 hb1 hb2 hb0 hb3
  generalize Tr.pane w2.heap.size 1 = t0 at hLay hLo
  generalize hb : w2.heap.size + 1 = b at hLay hLo ⊢
  obtain ⟨B0, hB0⟩ : ∃ B0, B0 = w2.heap.size := ⟨_, rfl⟩
  rw [← hB0] at hLo hws
  have hwB0 : w.heap.size ≤ B0 := by rw [hB0]; exact hb02.size
  clear hb hb02 hB0
  generalize hrc : (⟨0, 0, (p : Int), (q : Int)⟩ : Rc) = rc at hLay
  clear hrc
  go_upto_block 0 with fail
  go_cut [10] from 11 to 63 (fun s10 wx => s10 = .pointer (some ⟨b, 0, none⟩) ∧ ∃ (t : Tr) (nw : Int), Lay wx b t rc nw ∧ Lo B0 b t ∧ nw ≤ 41 ∧ Below B0 w3 wx)
  case first =>
    go_wp2_with fail
    go_loopw [11] (fun x wr => ∃ (k : Nat) (t : Tr) (nw : Int), k ≤ 40 ∧ k ≤ n ∧ x = .int .i64 (k : Nat) ∧ Lay wr b t rc nw ∧ Lo B0 b t ∧ nw ≤ 1 + k ∧ Below B0 w3 wr) (fun x _ => 40 - (intOf x).toNat)
    case atStart => exact ⟨0, t0, 1, by omega, by omega, rfl, hLay, hLo, by omega, Below.refl _ _⟩
    case round =>
      obtain ⟨k, t, nw, hk20, hkn, rfl, hL, hO, hnw, hbr⟩ := hrel
      by_cases hlt : k < n ∧ k < 40
      · have hd1 : decide ((k : Int) < (n : Int)) = true := decide_eq_true (by omega)
        have hd2 : decide ((k : Int) < 40) = true := decide_eq_true (by omega)
        have hd3 : decide (k < n) = true := decide_eq_true hlt.1
        have hd4 : decide (k < 40) = true := decide_eq_true hlt.2
        obtain ⟨ad, rfl, kd', id', by'', hi', a', nr', hf, hc⟩ := hA k hlt.1
        have hbw : Below w.heap.size w wr := hb03.trans (hbr.mono hwB0)
        have e0 : wr.cell? (ad.add (k * 6)) = some (.int .i64 kd') := keepc hbw (hc 0 _ rfl)
        have e1 : wr.cell? ⟨(ad.add (k * 6)).block, (ad.add (k * 6)).off + 1, none⟩ = some (.int .i64 id') := keepc hbw (hc 1 _ rfl)
        have e2 : wr.cell? ⟨(ad.add (k * 6)).block, (ad.add (k * 6)).off + 2, none⟩ = some (.int .i64 by'') := keepc hbw (hc 2 _ rfl)
        have e3 : wr.cell? ⟨(ad.add (k * 6)).block, (ad.add (k * 6)).off + 3, none⟩ = some (.int .i64 hi') := keepc hbw (hc 3 _ rfl)
        have e4 : wr.cell? ⟨(ad.add (k * 6)).block, (ad.add (k * 6)).off + 4, none⟩ = some (.bool a') := keepc hbw (hc 4 _ rfl)
        have e5 : wr.cell? ⟨(ad.add (k * 6)).block, (ad.add (k * 6)).off + 5, none⟩ = some (.bool nr') := keepc hbw (hc 5 _ rfl)
        obtain ⟨m, hm, hm1, hm2, hm3, hm4⟩ := near_mod id'
        obtain ⟨kq, hkq, hkqe⟩ := and_low kd' 7 7 rfl (by omega)
        have hd20 : (20 : Int) ≠ 0 := by decide
        have hbx := (Below.refl wr.heap.size wr).alloc (Nat.le_refl _) (.cells #[.int .i64 kd', .int .i64 id', .int .i64 by'', .int .i64 hi', .bool a', .bool nr'] 25)
        have hox := Blk.new wr 25 #[.int .i64 kd', .int .i64 id', .int .i64 by'', .int .i64 hi', .bool a', .bool nr']
        have hLx := hL.later hbx
        have hwx : B0 ≤ wr.heap.size := Nat.le_trans hws hbr.size
        have hspl := fun i => split_any b t rc nw i a' _ hLx (by omega)
        have hclo := fun i => close_any b t rc nw i _ hLx
        clear hc hf hA hA3 hLay hLo
        go_upto_region 10 with fail
        generalize wr.alloc (.cells #[.int .i64 kd', .int .i64 id', .int .i64 by'', .int .i64 hi', .bool a', .bool nr'] 25) = wx at *
        have x0 := hox.cell 0
        have x1 := hox.cell 1
        have x4 := hox.cell 4
        clear hox e0 e1 e2 e3 e4 e5
        by_cases hk4 : kq = 4
        · have hq1 : ((kq : Int) == 4) = true := by simp; omega
          go_wp2_with (go_at_call 13; refine (hclo _).mono ?_; intro e w4 hs4; obtain ⟨v, rfl, t', nw', hL', hO', hnw', hb'⟩ := close_step hLx hO (Nat.le_trans hwx hbx.size) hs4)
          go_round
          case rel => exact ⟨k + 1, t', nw', by omega, by omega, by go_num, hL', hO', by omega, hbr.trans ((hbx.mono hwx).trans hb')⟩
          case measure => simp [intOf]; omega
        · have hq1 : ((kq : Int) == 4) = false := by simp; omega
          go_wp2_with (go_at_call 10; refine (hspl _).mono ?_; intro e w4 hs4; obtain ⟨v, rfl, t', nw', hL', hO', hnw', hb'⟩ := split_step hLx hO (Nat.le_trans hwx hbx.size) hs4)
          go_round
          case rel => exact ⟨k + 1, t', nw', by omega, by omega, by go_num, hL', hO', by omega, hbr.trans ((hbx.mono hwx).trans hb')⟩
          case measure => simp [intOf]; omega
      · by_cases hkn' : k < n
        · have hd1 : decide ((k : Int) < (n : Int)) = true := decide_eq_true (by omega)
          have hd2 : decide ((k : Int) < 40) = false := decide_eq_false (by omega)
          have hd3 : decide (k < n) = true := decide_eq_true hkn'
          have hd4 : decide (k < 40) = false := decide_eq_false (by omega)
          clear hA hA3 hLay hLo
          go_wp2_with fail
          go_meet
          exact ⟨rfl, t, nw, hL, hO, by omega, hbr⟩
        · have hd1 : decide ((k : Int) < (n : Int)) = false := decide_eq_false (by omega)
          have hd3 : decide (k < n) = false := decide_eq_false hkn'
          clear hA hA3 hLay hLo
          go_wp2_with fail
          go_meet
          exact ⟨rfl, t, nw, hL, hO, by omega, hbr⟩
  case rest =>
  clear hLay hLo hA hA3 hn
  obtain ⟨rfl, t, nw, hL, hO, hnw, hbc⟩ := hcut
  have hpan1 := panes_any b t rc nw wc hL.mem hL.rc hL.nums hL.fits hL.nl
  go_upto_region 14 with (go_at_call 11; refine hpan1.mono ?_; rintro e w4 ⟨⟨v, rfl, hv1⟩, hb4⟩; obtain ⟨r1, c1, rfl, _, hP1⟩ := Pn.of_own hv1 (panes_ne t rc))
  have hL4 := hL.later hb4
  have hbB := hb03.trans ((hbc.trans (hb4.mono (Nat.le_trans hws hbc.size))).mono hwB0)
  have hws4 : w.heap.size ≤ w4.heap.size := hbB.size
  have hfew : (panesP t rc).length ≤ 16 := by rw [panes_len]; exact hL.few
  have hpos : 0 < (panesP t rc).length := List.length_pos_iff.2 (panes_ne t rc)
  have hnd : ((panesP t rc).map (·.1)).Nodup := by rw [panes_ids]; exact hL.idnd
  have hone : ∀ j, j < (panesP t rc).length → 1 ≤ idAt (panesP t rc) j := fun j hj => by
    rw [idAt_get (List.getElem?_eq_getElem hj)]
    exact (ids_bd t hL.nums _ (by rw [← panes_ids t rc]; exact List.mem_map_of_mem (List.getElem_mem hj))).1
  have hnext := fun (wr : World) (hb : Below w4.heap.size w4 wr) (id : Int) => next_any b t rc nw id wr (hL4.later hb)
  clear hpan1 hv1 hL hbc hO hb4 hL4
  generalize panesP t rc = l at *
  have hca := hP1.cap
  have hba := hP1.big
  have hl0 : ¬ (l.length : Int) = 0 := by omega
  have hl1 : ((l.length : Int) == 0) = false := by simpa using hl0
  have hl2 : ¬ l.length = 0 := by omega
  obtain ⟨m0, hm0⟩ : ∃ m0, fr.tmod (l.length : Int) = m0 := ⟨_, rfl⟩
  have hm1 : m0 < l.length := by rw [← hm0]; exact Int.tmod_lt_of_pos fr (by omega)
  have hm2 : -(l.length : Int) < m0 := by
    have h1 := Int.tmod_lt_of_pos (-fr) (show (0 : Int) < l.length by omega)
    rw [Int.neg_tmod, hm0] at h1
    omega
  obtain ⟨s, hs⟩ : ∃ s : Nat, (m0 + l.length).tmod (l.length : Int) = (s : Int) := ⟨((m0 + l.length).tmod (l.length : Int)).toNat, by rw [Int.toNat_of_nonneg (Int.tmod_nonneg _ (by omega))]⟩
  have hsl : s < l.length := by
    have h1 := Int.tmod_lt_of_pos (m0 + l.length) (show (0 : Int) < l.length by omega)
    omega
  have hs2 : m0 % (l.length : Int) = (s : Int) := by
    rw [Int.tmod_eq_emod_of_nonneg (by omega), Int.add_emod_right] at hs
    exact hs
  have hx := List.getElem?_eq_getElem hsl
  have c0 : w4.cell? ⟨r1, s * 5, none⟩ = some (.int .i64 (idAt l s)) := by
    rw [idAt_get hx]
    exact hP1.at' s _ hx 0 _ rfl
  have hds : decide ((s : Int) < (l.length : Int)) = true := decide_eq_true (by omega)
  have hds2 : decide (s < l.length) = true := decide_eq_true hsl
  clear hx hP1
  go_upto_block 2 with fail
  clear hm0 hm1 hm2 hs hs2 hds hds2 c0
  go_wp2_with fail
  go_loopw [14, 16] (fun i x wr => ∃ k : Nat, k ≤ l.length ∧ x = .int .i64 (k : Nat) ∧ i = .int .i64 (idAt l ((s + k) % l.length)) ∧ Below w4.heap.size w4 wr) (fun _ x _ => l.length - (intOf x).toNat)
  case atStart => exact ⟨0, Nat.zero_le _, rfl, by rw [Nat.add_zero, Nat.mod_eq_of_lt hsl], Below.refl _ _⟩
  case round =>
    obtain ⟨k, hk, rfl, rfl, hbr⟩ := hrel
    by_cases hlt : k < l.length
    · have hd1 : decide ((k : Int) < (l.length : Int)) = true := decide_eq_true (by omega)
      have hd2 : decide (k < l.length) = true := decide_eq_true hlt
      have hnx := hnext wr hbr (idAt l ((s + k) % l.length))
      have hml := Nat.mod_lt (s + k) hpos
      rw [next_at hnd hml] at hnx
      have he1 : ((s + k) % l.length + 1) % l.length = (s + (k + 1)) % l.length := by rw [Nat.mod_add_mod]; rfl
      rw [he1] at hnx
      have hge := hone ((s + (k + 1)) % l.length) (Nat.mod_lt _ hpos)
      have hdl : decide (idAt l ((s + (k + 1)) % l.length) < 1) = false := decide_eq_false (by omega)
      have hiff : idAt l ((s + (k + 1)) % l.length) = idAt l s ↔ k + 1 = l.length := by
        constructor
        · intro e
          have h1 := idAt_inj hnd (Nat.mod_lt _ hpos) hsl e
          rcases Nat.lt_or_ge (s + (k + 1)) l.length with h2 | h2
          · rw [Nat.mod_eq_of_lt h2] at h1
            omega
          · rw [Nat.mod_eq_sub_mod h2, Nat.mod_eq_of_lt (by omega)] at h1
            omega
        · intro e
          rw [e, Nat.add_mod_right, Nat.mod_eq_of_lt hsl]
      have Hnx := Lib.hid hnx
      have Hiff := Lib.hid hiff
      generalize hj : idAt l ((s + (k + 1)) % l.length) = j at *
      have Hj := Lib.hid hj
      clear hnx hiff hj hnext hone hnd he1
      by_cases hke : k + 1 = l.length
      · have e1 : (j == idAt l s) = true := by simpa using Hiff.out.2 hke
        have e2 : ((k : Int) == (l.length : Int) - 1) = true := by simp; omega
        go_wp2_with (go_at_call 14; refine Hnx.out.mono ?_; rintro e w5 ⟨rfl, hb5⟩)
        go_round
        case rel => exact ⟨k + 1, by omega, by go_num, by rw [Hj.out], hbr.trans (hb5.mono hbr.size)⟩
        case measure => simp [intOf]; omega
      · have e1 : (j == idAt l s) = false := by simpa using fun h => hke (Hiff.out.1 h)
        have e2 : ((k : Int) == (l.length : Int) - 1) = false := by simp; omega
        go_wp2_with (go_at_call 14; refine Hnx.out.mono ?_; rintro e w5 ⟨rfl, hb5⟩)
        go_round
        case rel => exact ⟨k + 1, by omega, by go_num, by rw [Hj.out], hbr.trans (hb5.mono hbr.size)⟩
        case measure => simp [intOf]; omega
    · have hd1 : decide ((k : Int) < (l.length : Int)) = false := decide_eq_false (by omega)
      have hd2 : decide (k < l.length) = false := decide_eq_false hlt
      clear hnext hone hnd
      go_wp2_with fail
      go_ret
      exact ⟨rfl, hbB.trans (hbr.mono hws4)⟩
end Go.Proofs.YtmdgjmmkegkonaaDoor
