/- grid.rows (a range over a function), Check: walked (for DiffTells). -/
import Derived.Test.YtpjafocgabhieaaGrdW
import Derived.Test.YtpjafocgabhieaaRngL
namespace Go.Proofs.Ytpjafocgabhieaa
open Go.RowKit Go.Shelf
attribute [local go_sem] Oper.semAt_some
set_option maxRecDepth 100000 in
theorem rows_any (x y : Int) (A : Option Addr) (n c : Nat) (w : World) (t e : Int) : Calls Try.prog 39 #[grv x y A n c, .int .i64 t, .int .i64 e] w fun r w' => r = .returned (.func (.func 58) #[] #[.pointer (some ⟨w.heap.size + 1, 0, none⟩), .pointer (some ⟨w.heap.size + 2, 0, none⟩), .pointer (some ⟨w.heap.size, 0, none⟩)]) ∧
    w' = ((w.alloc (.cells #[.int .i64 x, .int .i64 y, .slice A n c] 32)).alloc (.cells #[.int .i64 t] 3)).alloc (.cells #[.int .i64 e] 3) := by
  go_enter Try.func39, Try.ntmps39
  go_wp2_with fail
  go_ret
  exact ⟨rfl, rfl⟩
/-- What an iteration over a grid's rows needs. -/
structure GBox (w : World) (B wn hn : Nat) (ad : Addr) (n c : Nat) : Prop where
  g : Blk w B 32 #[.int .i64 (wn : Int), .int .i64 (hn : Int), .slice (some ad) n c]
  t : Blk w (B + 1) 3 #[.int .i64 0]
  e : Blk w (B + 2) 3 #[.int .i64 (hn : Int)]
theorem GBox.below {w w' : World} {B wn hn : Nat} {ad : Addr} {n c : Nat} (h : GBox w B wn hn ad n c) (hb : Below w.heap.size w w') : GBox w' B wn hn ad n c := ⟨h.g.below hb h.g.lt, h.t.below hb h.t.lt, h.e.below hb h.e.lt⟩
theorem GBox.kp {w w' : World} {S : Nat → Prop} {B wn hn : Nat} {ad : Addr} {n c : Nat} (h : GBox w B wn hn ad n c) (hb : KpS S w w') (h0 : S B) (h1 : S (B + 1)) (h2 : S (B + 2)) : GBox w' B wn hn ad n c := ⟨hb.blk h0 h.g, hb.blk h1 h.t, hb.blk h2 h.e⟩
abbrev encRow (ad : Addr) (wn hn : Nat) (y : Sub (List.range hn)) : Array Value := #[.int .i64 (y.1 : Nat), .slice (some (ad.add (y.1 * wn * 4))) wn wn]
set_option maxRecDepth 100000 in
set_option maxHeartbeats 4000000 in
theorem rows_stops (m : Nat) (hm : 1 ≤ m) (S : Nat → Prop) (B wn hn : Nat) (ad : Addr) (n c : Nat) (w : World) (hw : 1 ≤ wn) (hw2 : wn ≤ 200) (hh : hn ≤ 60) (hnw : n = wn * hn) (hnc : n ≤ c) (h0 : S B) (h1 : S (B + 1)) (h2 : S (B + 2)) (h : GBox w B wn hn ad n c) :
    SeqStopsK Fence.wide m Try.prog 58 #[.pointer (some ⟨B + 1, 0, none⟩), .pointer (some ⟨B + 2, 0, none⟩), .pointer (some ⟨B, 0, none⟩)] (encRow ad wn hn) (KpS S) (fun xs => xs = allS (List.range hn)) (fun pre => pre <+: allS (List.range hn)) hn w := fun l J Jx W hW hJ hJx hY hJ0 => by
  refine callsIn_of_wp Try.func58 rfl trivial ?_ rfl
  simp only [Try.ntmps58, List.size_toArray, List.length_cons, List.length_nil, Nat.reduceAdd, Nat.reduceSub, Array.replicate_succ, Array.replicate_zero, List.push_toArray, List.append_toArray, List.nil_append, List.cons_append]
  have hGW := h.below hW
  have t0 : W.cell? ⟨B + 1, 0, none⟩ = some (.int .i64 0) := hGW.t.cell 0
  have HN := Lib.hid hnw
  clear hnw
  gi_wp2
  gi_loopw [5] (fun s5 wr => ∃ k : Nat, k ≤ hn ∧ s5 = .int .i64 (k : Nat) ∧ J ((allS (List.range hn)).take k) wr ∧ GBox wr B wn hn ad n c ∧ W.heap.size ≤ wr.heap.size) (fun s5 _ => hn - (intOf s5).toNat)
  case atStart => exact ⟨0, by omega, rfl, hJ0, hGW, Nat.le_refl _⟩
  case round =>
    clear t0 hGW hJ0
    obtain ⟨k, hk, rfl, hJr, hGr, hsz⟩ := hrel
    have b0 : wr.cell? ⟨B + 1, 0, none⟩ = some (.int .i64 0) := hGr.t.cell 0
    have b1 : wr.cell? ⟨B + 2, 0, none⟩ = some (.int .i64 (hn : Int)) := hGr.e.cell 0
    have g0 : wr.cell? ⟨B, 0, none⟩ = some (.int .i64 (wn : Int)) := hGr.g.cell 0
    have g1 : wr.cell? ⟨B, 1, none⟩ = some (.int .i64 (hn : Int)) := hGr.g.cell 1
    have g2 : wr.cell? ⟨B, 2, none⟩ = some (.slice (some ad) n c) := hGr.g.cell 2
    by_cases hlt : k < hn
    · have d1 : decide ((k : Int) < (hn : Int)) = true := decide_eq_true (by omega)
      have d2 : decide (k < hn) = true := decide_eq_true hlt
      obtain ⟨⟨y, hy⟩, hyk, hat, htk⟩ := all_at (L := List.range hn) (k := k) (x := k) (by simp [hlt])
      simp only at hyk
      subst hyk
      have hpl : ((allS (List.range hn)).take y).length < hn := by
        rw [List.length_take, all_len, List.length_range]
        omega
      have hcut := cut_gen ad n c wn hn y wr hw hw2 hh HN.out hlt hnc
      gi_wp2
      refine ⟨trivial, (callsIn_wide.2 hcut).mono ?_⟩
      clear hcut
      rintro e w2 ⟨rfl, hb2⟩
      have hJ2 := hJ _ wr _ none hJr (grown_none' hb2) (fun r e => by cases e)
      have hG2 := hGr.below hb2
      obtain ⟨fn, tmps, assign, body, hyy, hR⟩ := hY _ ⟨y, hy⟩ _ hJ2 hpl
      dsimp only [encRow] at hyy
      clear b0 b1 g0 g1 g2
      gi_wp2
      refine hR.mono ?_
      rintro e W' (⟨rfl, hJ3, hk3⟩ | ⟨rfl, hJx3⟩)
      · have hG3 := hG2.kp hk3 h0 h1 h2
        have hsz3 := Nat.le_trans hsz (Nat.le_trans hb2.size hk3.1)
        gi_wp2
        go_roundw
        case rel => exact ⟨y + 1, hlt, by go_num, by rw [htk]; exact hJ3, hG3, hsz3⟩
        case measure => simp [intOf]; omega
      · gi_wp2
        refine bodyPost_ret (results_none rfl _ _ _) rfl ?_
        exact ⟨⟨_, rfl⟩, .inr ⟨_, take_prefix _ (y + 1), by rw [htk]; exact hJx3⟩⟩
    · have d1 : decide ((k : Int) < (hn : Int)) = false := decide_eq_false (by omega)
      have d2 : decide (k < hn) = false := decide_eq_false hlt
      obtain rfl : k = hn := by omega
      gi_wp2
      go_end0
      exact ⟨⟨_, rfl⟩, .inl ⟨_, rfl, by rwa [List.take_of_length_le (by rw [all_len, List.length_range]; exact Nat.le_refl _)] at hJr⟩⟩
set_option maxRecDepth 100000 in
set_option maxHeartbeats 4000000 in
theorem checkG_gen (x y : Int) (A : Option Addr) (n c : Nat) (l : List Cl) (w : World) (hS : RowS w A n c l) :
    Calls Try.prog 16 #[grv x y A n c] w fun e w' => e = .returned (.bool (gridP x y l)) ∧ Below w.heap.size w w' := by
  have HS := Lib.hid hS
  have hlen := hS.len
  have hsz := fun W => fits_any x y W
  clear hS
  have hN := (Blk.new w 32 #[.int .i64 x, .int .i64 y, .slice A n c]).alloc (.cells #[.bool false] 4)
  have hR0 := Blk.new (w.alloc (.cells #[.int .i64 x, .int .i64 y, .slice A n c] 32)) 4 #[.bool false]
  rw [World.size_alloc] at hR0
  have hb0 := ((Below.refl w.heap.size w).alloc (Nat.le_refl _) (.cells #[.int .i64 x, .int .i64 y, .slice A n c] 32)).alloc (by simp) (.cells #[.bool false] 4)
  have hsz0 : ((w.alloc (.cells #[.int .i64 x, .int .i64 y, .slice A n c] 32)).alloc (.cells #[.bool false] 4)).heap.size = w.heap.size + 2 := by simp
  obtain ⟨W0, hW0⟩ : ∃ W0, (w.alloc (.cells #[.int .i64 x, .int .i64 y, .slice A n c] 32)).alloc (.cells #[.bool false] 4) = W0 := ⟨_, rfl⟩
  rw [hW0] at hN hR0 hb0 hsz0
  have k0 : W0.cell? ⟨w.heap.size, 0, none⟩ = some (.int .i64 x) := hN.cell 0
  have k1 : W0.cell? ⟨w.heap.size, 1, none⟩ = some (.int .i64 y) := hN.cell 1
  have k2 : W0.cell? ⟨w.heap.size, 2, none⟩ = some (.slice A n c) := hN.cell 2
  have r0 : W0.cell? ⟨w.heap.size + 1, 0, none⟩ = some (.bool false) := hR0.cell 0
  have f0 : W0.frozen? ⟨w.heap.size + 1, 0, none⟩ = false := hR0.free 0
  refine (callsIn_wide (n := 4)).1 ?_
  cases hz : sizeP x y with
  | false =>
    have HP := Lib.hid (gridP_no (l := l) hz)
    rw [hz] at hsz
    clear hz hlen
    refine callsIn_of_wp_marks Try.func16 rfl trivial ?_ rfl
    simp only [Try.ntmps16, List.size_toArray, List.length_cons, List.length_nil, Nat.reduceAdd, Nat.reduceSub, Array.replicate_succ, Array.replicate_zero, List.push_toArray, List.append_toArray, List.nil_append, List.cons_append]
    gi_wp2
    refine ⟨trivial, (callsIn_wide.2 (hsz _)).mono ?_⟩
    rintro e w1 ⟨rfl, rfl⟩
    gi_wp2
    have hR1 := hR0.set 0 (.bool false)
    have d0 : (W0.setCell ⟨w.heap.size + 1, 0, none⟩ (.bool false)).cell? ⟨w.heap.size + 1, 0, none⟩ = some (.bool false) := hR1.cell 0
    refine ⟨.bool false, ?_, ?_⟩
    · simp [results, Try.results16, go_sem, d0]
    · exact ⟨ret_bool HP.out.symm, hb0.setCell (Nat.le_succ _) _⟩
  | true =>
    obtain ⟨wn, hh, rfl, rfl, hw1, hw2, hh1, hh2⟩ := size_parts hz
    rw [hz] at hsz
    obtain ⟨m, hm⟩ : ∃ m, m = wn * hh := ⟨_, rfl⟩
    obtain ⟨hmul, hm12⟩ := mul_facts hw2 hh2 hm
    by_cases hnm : n = m
    · have HM := Lib.hid (hnm.trans hm)
      have HZ := Lib.hid hz
      subst hnm
      clear hm hz
      obtain ⟨ad, rfl⟩ : ∃ ad, A = some ad := by
        have h1 := HS.out.nil'
        cases A with
        | some ad => exact ⟨ad, rfl⟩
        | none =>
          have h2 := (h1 rfl).1
          have h3 := HM.out
          have h4 := Nat.mul_le_mul hw1 hh1
          omega
      have hnc := HS.out.cap
      refine callsIn_of_wp_marks Try.func16 rfl trivial ?_ rfl
      simp only [Try.ntmps16, List.size_toArray, List.length_cons, List.length_nil, Nat.reduceAdd, Nat.reduceSub, Array.replicate_succ, Array.replicate_zero, List.push_toArray, List.append_toArray, List.nil_append, List.cons_append]
      gi_wp2
      refine ⟨trivial, (callsIn_wide.2 (hsz _)).mono ?_⟩
      rintro e w1 ⟨rfl, rfl⟩
      gi_wp2
      refine ⟨trivial, (callsIn_wide.2 (rows_any wn hh (some ad) n c _ 0 hh)).mono ?_⟩
      rintro e w1 ⟨rfl, hw1e⟩
      have hbA := (Below.refl W0.heap.size W0).alloc (Nat.le_refl _) (.cells #[.int .i64 (wn : Int), .int .i64 (hh : Int), .slice (some ad) n c] 32)
      have hbB := hbA.alloc (by simp) (.cells #[.int .i64 0] 3)
      have hbC := hbB.alloc (by simp; omega) (.cells #[.int .i64 (hh : Int)] 3)
      rw [← hw1e] at hbC
      have hG : GBox w1 W0.heap.size wn hh ad n c := by
        rw [hw1e]
        refine ⟨((Blk.new W0 32 _).alloc _).alloc _, ?_, ?_⟩
        · have h := (Blk.new (W0.alloc (.cells #[.int .i64 (wn : Int), .int .i64 (hh : Int), .slice (some ad) n c] 32)) 3 #[.int .i64 0]).alloc (.cells #[.int .i64 (hh : Int)] 3)
          simpa using h
        · have h := Blk.new ((W0.alloc (.cells #[.int .i64 (wn : Int), .int .i64 (hh : Int), .slice (some ad) n c] 32)).alloc (.cells #[.int .i64 0] 3)) 3 #[.int .i64 (hh : Int)]
          simpa using h
      have hs1 : w1.heap.size = w.heap.size + 5 := by
        rw [hw1e]
        simp [hsz0]
      have hR1 := hR0.below hbC hR0.lt
      have hb1 := hb0.trans (hbC.mono hb0.size)
      rw [hsz0] at hG
      rw [hsz0]
      clear hw1e hbA hbB hbC hmul hN hb0 k0 k1 k2 r0 f0 hR0 hsz hsz0 hW0
      gi_wp2
      refine wpIn_rangeFunc_ownH (F := Fence.wide) rfl (by omega) (gf := 58) (lb := #[.pointer (some ⟨w.heap.size + 2 + 1, 0, none⟩), .pointer (some ⟨w.heap.size + 2 + 2, 0, none⟩), .pointer (some ⟨w.heap.size + 2, 0, none⟩)]) rfl trivial (enters_of Try.func58 (by kernel_rfl) rfl)
        (rows_stops 3 (by omega) (fun b => w.heap.size + 2 ≤ b ∧ b < w.heap.size + 5) (w.heap.size + 2) wn hh ad n c w1 hw1 hw2 hh2 HM.out hnc ⟨by omega, by omega⟩ ⟨by omega, by omega⟩ ⟨by omega, by omega⟩ hG) KpS.trans (KpS.putObj (by omega)) (Below.refl _ _) (fun _ => rfl)
        (fun pre W => (∀ y ∈ vals pre, rightP (rowAt l wn y) = true) ∧ Blk W (w.heap.size + 1) 4 #[.bool false] ∧ Below w.heap.size w W ∧ w.heap.size + 5 ≤ W.heap.size)
        (fun cd pre W => cd = .ret ∧ (∃ y ∈ vals pre, rightP (rowAt l wn y) = false) ∧ Blk W (w.heap.size + 1) 4 #[.bool false] ∧ Below w.heap.size w W ∧ w.heap.size + 5 ≤ W.heap.size)
        (OwnFrom.and (ownFrom_pure _ _) (OwnFrom.and (blk_own _ _ _ (fun _ => #[.bool false])) (OwnFrom.and (ownFrom_below (Nat.le_refl _) (by omega)) (size_own _ _))))
        (fun cd => OwnFrom.and (ownFrom_pure _ _) (OwnFrom.and (ownFrom_pure _ _) (OwnFrom.and (blk_own _ _ _ (fun _ => #[.bool false])) (OwnFrom.and (ownFrom_below (Nat.le_refl _) (by omega)) (size_own _ _)))))
        ⟨fun y hy => by simp at hy, hR1, hb1, by omega⟩
        (fun x a' _ => a' = { tmps := #[grv (wn : Int) (hh : Int) (some ad) n c, .pointer (some ⟨w.heap.size, 0, none⟩), .pointer (some ⟨w.heap.size + 1, 0, none⟩), undef, .slice (some (ad.add (x.1 * wn * 4))) wn wn, .pointer (some ⟨w.heap.size, 0, none⟩), .int .i64 (wn : Int), .pointer (some ⟨w.heap.size, 1, none⟩), .int .i64 (hh : Int), .bool true, .bool false, .bool false, .pointer (some ⟨w.heap.size, 2, none⟩), .slice (some ad) n c, .int .i64 (n : Int), .pointer (some ⟨w.heap.size, 0, none⟩), .int .i64 (wn : Int), .pointer (some ⟨w.heap.size, 1, none⟩), .int .i64 (hh : Int), .int .i64 (wrap64 ((wn : Int) * (hh : Int))), .bool false, .bool false, .agg #[.int .i64 (wn : Int), .int .i64 (hh : Int), .slice (some ad) n c], .pointer (some ⟨w.heap.size, 1, none⟩), .int .i64 (hh : Int), .func (.func 58) #[] #[.pointer (some ⟨w.heap.size + 2 + 1, 0, none⟩), .pointer (some ⟨w.heap.size + 2 + 2, 0, none⟩), .pointer (some ⟨w.heap.size + 2, 0, none⟩)], .int .i64 (x.1 : Nat), .slice (some (ad.add (x.1 * wn * 4))) wn wn, undef, undef, undef], defers := [] })
        (fun x a' => ownFrom_pure _ (fun _ => a' = _))
        ?assign ?body ?done ?stop
      case assign =>
        intro l1 pre x W K hI hK
        gi_wp2
        exact hK _ _ (KeepsFrom.refl _ _) (KpS.refl _ _) hI rfl
      case body =>
        rintro l1 pre x a' W hl ⟨r, hr⟩ ⟨hI1, hI2, hI3, hI4⟩ rfl hlt
        obtain ⟨y, hy⟩ := x
        have hyh : y < hh := List.mem_range.1 hy
        have hR : Cels W (ad.add (y * wn * 4)) (rowAt l wn y) := by
          obtain ⟨ad', he, hC⟩ := (HS.out.below hI3).row (by
            have h3 := HM.out
            have h4 := Nat.mul_le_mul hw1 hh1
            omega)
          injection he with he
          subst he
          exact hC.sub (y * wn) wn
        have hlen2 : (rowAt l wn y).length = wn := by
          have h3 := HM.out
          have h4 : y * wn + wn ≤ hh * wn := by
            rw [← Nat.succ_mul]
            exact Nat.mul_le_mul_right _ hyh
          have h5 : hh * wn = wn * hh := Nat.mul_comm _ _
          rw [rowAt_len]
          omega
        have hright := right_gen (some (ad.add (y * wn * 4))) wn wn (rowAt l wn y) W hlen2 (by omega) (fun _ => ⟨_, rfl, hR⟩)
        clear hlen2
        cases hq : rightP (rowAt l wn y) with
        | true =>
          rw [hq] at hright
          gi_wp2
          refine ⟨trivial, (CallsIn.inRound l1 (callsIn_wide.2 hright)).mono ?_⟩
          clear hright
          rintro e W1 ⟨rfl, hb1⟩
          gi_wp2
          refine ⟨(KeepsOthers.of_grownBy (grown_none' hb1) (fun j o e _ => by cases e)).from _, KpS.of_below hb1 (fun b hb => by omega), ?_, hI2.below hb1 hI2.lt, hI3.trans (hb1.mono hI3.size), Nat.le_trans hI4 hb1.size⟩
          intro z hz
          simp only [vals, List.map_append, List.mem_append, List.map_cons, List.map_nil, List.mem_singleton] at hz
          rcases hz with hz | rfl
          · exact hI1 z hz
          · exact hq
        | false =>
          rw [hq] at hright
          gi_wp2
          refine ⟨trivial, (CallsIn.inRound l1 (callsIn_wide.2 hright)).mono ?_⟩
          clear hright
          rintro e W1 ⟨rfl, hb1⟩
          have hI5 := hI2.below hb1 hI2.lt
          have r0 : W1.cell? ⟨w.heap.size + 1, 0, none⟩ = some (.bool false) := hI5.cell 0
          have f0 : W1.frozen? ⟨w.heap.size + 1, 0, none⟩ = false := hI5.free 0
          have hI6 := hI3.trans (hb1.mono hI3.size)
          have hI7 := Nat.le_trans hI4 hb1.size
          have hK1 := (KeepsOthers.of_grownBy (grown_none' hb1) (fun j o e _ => by cases e))
          gi_wp2
          refine ⟨(hK1.trans (KeepsOthers.setCell _ _ _)).from _, rfl, ⟨y, by simp [vals], hq⟩, hI5.set 0 (.bool false), hI6.setCell (Nat.le_succ _) _, ?_⟩
          simpa [World.setCell] using hI7
      case done =>
        rintro D ys W hD rfl ⟨hI1, hI2, hI3, hI4⟩ hK
        rw [vals_all] at hI1
        have HP := Lib.hid (gridP_yes HZ.out hlen HM.out (fun j hj => hI1 j (List.mem_range.2 hj)))
        have r0 : W.cell? ⟨w.heap.size + 1, 0, none⟩ = some (.bool false) := hI2.cell 0
        have f0 : W.frozen? ⟨w.heap.size + 1, 0, none⟩ = false := hI2.free 0
        clear hI1
        gi_wp2
        have hI5 := hI2.set 0 (.bool true)
        have hI6 := hI3.setCell (p := ⟨w.heap.size + 1, 0, none⟩) (Nat.le_succ _) (.bool true)
        have hK1 := (KeepsOthers.setCell W ⟨w.heap.size + 1, 0, none⟩ (.bool true)).same D _ hK rfl
        refine ⟨by simp, .inl ⟨_, _, rfl, run_takeDeferred hK1, ?_⟩⟩
        have hI7 := hI5.putObj (D := D) (.deferred none) (by omega)
        have d0 : ((W.setCell ⟨w.heap.size + 1, 0, none⟩ (.bool true)).putObj D (.deferred none)).cell? ⟨w.heap.size + 1, 0, none⟩ = some (.bool true) := hI7.cell 0
        refine ⟨.bool true, ?_, ret_bool HP.out.symm, hI6.trans (belowK_b (w := w) (Nat.le_refl _) _ D _ _ (by omega) hK1 rfl rfl)⟩
        simp [results, Try.results16, go_sem, d0]
      case stop =>
        rintro D cd pre W hD hpre ⟨rfl, ⟨y, hy, hq⟩, hI2, hI3, hI4⟩ hK
        have hyh : y < hh := by
          simp only [vals, List.mem_map] at hy
          obtain ⟨⟨z, hz⟩, _, rfl⟩ := hy
          exact List.mem_range.1 hz
        have HP := Lib.hid (gridP_row (l := l) hyh hq)
        gi_wp2
        refine ⟨by simp, .inl ⟨_, _, rfl, run_takeDeferred hK, ?_⟩⟩
        have hI7 := hI2.putObj (D := D) (.deferred none) (by omega)
        have d0 : (W.putObj D (.deferred none)).cell? ⟨w.heap.size + 1, 0, none⟩ = some (.bool false) := hI7.cell 0
        refine ⟨.bool false, ?_, ret_bool HP.out.symm, hI3.trans (belowK_b (w := w) (Nat.le_refl _) _ D _ _ (by omega) hK rfl rfl)⟩
        simp [results, Try.results16, go_sem, d0]
    · have HP := Lib.hid (gridP_len (l := l) hm (by rw [hlen]; exact hnm))
      have e1 : ((n : Int) == (m : Int)) = false := by
        rw [beq_eq_false_iff_ne]
        omega
      have e2 : (n == m) = false := by
        rw [beq_eq_false_iff_ne]
        exact hnm
      clear hm hz hlen
      refine callsIn_of_wp_marks Try.func16 rfl trivial ?_ rfl
      simp only [Try.ntmps16, List.size_toArray, List.length_cons, List.length_nil, Nat.reduceAdd, Nat.reduceSub, Array.replicate_succ, Array.replicate_zero, List.push_toArray, List.append_toArray, List.nil_append, List.cons_append]
      gi_wp2
      refine ⟨trivial, (callsIn_wide.2 (hsz _)).mono ?_⟩
      rintro e w1 ⟨rfl, rfl⟩
      gi_wp2
      have hR1 := hR0.set 0 (.bool false)
      have d0 : (W0.setCell ⟨w.heap.size + 1, 0, none⟩ (.bool false)).cell? ⟨w.heap.size + 1, 0, none⟩ = some (.bool false) := hR1.cell 0
      refine ⟨.bool false, ?_, ?_⟩
      · simp [results, Try.results16, go_sem, d0]
      · exact ⟨ret_bool HP.out.symm, hb0.setCell (Nat.le_succ _) _⟩
end Go.Proofs.Ytpjafocgabhieaa
