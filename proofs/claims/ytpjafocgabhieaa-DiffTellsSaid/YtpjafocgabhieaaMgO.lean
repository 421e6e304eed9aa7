/- The document's Put of cells into a grid: walked (for DiffTells). -/
import Derived.Test.YtpjafocgabhieaaMgR
namespace Go.Proofs.Ytpjafocgabhieaa
open Go.RowKit Go.Sort
theorem wrap_kind {a b : Int} (h : wrap64 a = b) : IntKind.i64.wrap a = b := by
  rw [IntKind.wrap_i64]
  unfold wrap64 at h
  exact h
theorem sum_facts {a b : Nat} (ha : a ≤ 100000) (hb : b ≤ 100000) : wrap64 ((a : Int) + (b : Int)) = ((a + b : Nat) : Int) := by
  unfold wrap64
  omega
theorem put_facts {wn hn n py px k : Nat} (hw1 : 1 ≤ wn) (hw2 : wn ≤ 200) (hh2 : hn ≤ 60) (hnw : n = wn * hn) (hy : py < hn) (hin : px + k < wn) (hpx : px ≤ 1000) :
    ∃ yw K1 K : Nat, wrap64 ((py : Int) * (wn : Int)) = (yw : Int) ∧ wrap64 ((yw : Int) + (px : Int)) = (K1 : Int) ∧ wrap64 ((K1 : Int) + (k : Int)) = (K : Int) ∧ K < n := by
  obtain ⟨yw, ye, -, hye, hle, hn12, f1, -, -⟩ := row_facts hw1 hw2 hh2 hnw hy
  clear hnw
  exact ⟨yw, yw + px, yw + px + k, f1, sum_facts (by clear f1; omega) (by omega), sum_facts (by clear f1; omega) (by omega), by clear f1; omega⟩
/-- What the loop of Put keeps: its grid's variable, the result's, the marks of rows, the cells. -/
structure PutI (w wr : World) (R g : Nat) (x y : Int) (A : Option Addr) (n c hn cg : Nat) (f : Nat → Value) : Prop where
  grid : Blk wr w.heap.size 32 (grA x y A n c)
  res : Blk wr (w.heap.size + 1) 32 (grA 0 0 none 0 0)
  marks : wr.rowIs R 4 hn f
  row : ∃ l', RowW wr g n cg l'
  below : Below w.heap.size w wr
theorem PutI.put {w wr : World} {R g : Nat} {x y : Int} {A : Option Addr} {n c hn cg : Nat} {f : Nat → Value} (h : PutI w wr R g x y A n c hn cg f) (h1 : w.heap.size + 1 < R) (h2 : R < g) {k : Nat} (hk : k < n) {d : Cl} (ok : OkC d) : PutI w (putC wr g k d) R g x y A n c hn cg f := by
  obtain ⟨hG, hR, hM, ⟨l', hW⟩, hb⟩ := h
  have ho := only_putC wr g k d
  exact ⟨hG.grown ho (fun e => by injection e with e; omega), hR.grown ho (fun e => by injection e with e; omega), hM.of_block (ho.block R hM.lt (fun e => by injection e with e; omega)), ⟨_, hW.put hk ok⟩, hb.trans (only_below ho (by omega) hb.size)⟩
theorem PutI.drew {w wr : World} {R g : Nat} {x y : Int} {A : Option Addr} {n c hn cg : Nat} {f : Nat → Value} (h : PutI w wr R g x y A n c hn cg f) : PutI w wr.drew R g x y A n c hn cg f := by
  obtain ⟨hG, hR, hM, ⟨l', hW⟩, hb⟩ := h
  exact ⟨hG.drew, hR.drew, hM.drew, ⟨l', hW.below (Below.refl _ _).drew⟩, hb.drew⟩
set_option maxRecDepth 100000 in
set_option maxHeartbeats 8000000 in
theorem putGR_gen (wx hx : Int) (A : Option Addr) (n c : Nat) (l : List Cl) (px py : Nat) (B : Option Addr) (m cb : Nat) (lb : List Cl) (w : World) (hpx : px ≤ 1000) (hpy : py ≤ 1000) (hm : m ≤ 160) (hS : RowS w A n c l) (hC : RowS w B m cb lb) :
    Calls Try.prog 15 #[grv wx hx A n c, .int .i64 (px : Nat), .int .i64 (py : Nat), .slice B m cb] w fun e w' => ∃ A' n' c' l', e = .returned (grv wx hx A' n' c') ∧ RowS w' A' n' c' l' ∧ (∀ G, G < w.heap.size → Off A n G → Off A' n' G) ∧ Below w.heap.size w w' := by
  obtain ⟨i1, ki, kz0, kz1, kz2⟩ := info_parts Try.info55
  have HS := Lib.hid hS
  have HC := Lib.hid hC
  have hG := (Blk.new w 32 (grA wx hx A n c)).alloc (.cells (grA 0 0 none 0 0) 32)
  have hR := Blk.new (w.alloc (.cells (grA wx hx A n c) 32)) 32 (grA 0 0 none 0 0)
  have hb0 := ((Below.refl w.heap.size w).alloc (Nat.le_refl _) (.cells (grA wx hx A n c) 32)).alloc (by simp) (.cells (grA 0 0 none 0 0) 32)
  rw [World.size_alloc] at hR
  obtain ⟨W0, hW0⟩ : ∃ W0, (w.alloc (.cells (grA wx hx A n c) 32)).alloc (.cells (grA 0 0 none 0 0) 32) = W0 := ⟨_, rfl⟩
  rw [hW0] at hG hR hb0
  have hck := checkRG_gen wx hx A n c l W0 (HS.out.below hb0)
  have k0 : W0.cell? ⟨w.heap.size, 0, none⟩ = some (.int .i64 wx) := hG.cell 0
  have k1 : W0.cell? ⟨w.heap.size, 1, none⟩ = some (.int .i64 hx) := hG.cell 1
  have k2 : W0.cell? ⟨w.heap.size, 2, none⟩ = some (.slice A n c) := hG.cell 2
  clear hS hC
  go_enter Try.func15, Try.ntmps15
  go_upto_region 1 with fail
  clear hW0
  go_upto_region 2 with (go_at_call 20; refine hck.mono ?_; rintro e w1 ⟨rfl, hb1⟩)
  have hG1 := hG.below hb1 hG.lt
  have hR1 := hR.below hb1 hR.lt
  have hb01 := hb0.trans (hb1.mono hb0.size)
  clear hG hR hb0 hck hb1 k0 k1 k2
  have k0 : w1.cell? ⟨w.heap.size, 0, none⟩ = some (.int .i64 wx) := hG1.cell 0
  have k1 : w1.cell? ⟨w.heap.size, 1, none⟩ = some (.int .i64 hx) := hG1.cell 1
  have k2 : w1.cell? ⟨w.heap.size, 2, none⟩ = some (.slice A n c) := hG1.cell 2
  have HP := Lib.hid (fun h => gridP_parts (x := wx) (y := hx) (l := l) h)
  by_cases hgo : gridP wx hx l = true ∧ (py : Int) < hx
  · obtain ⟨hg, hlt⟩ := hgo
    obtain ⟨wn, hn, rfl, rfl, hw1, hw2, hh1, hh2, hln, _⟩ := HP.out hg
    rw [hg]
    have hnE := HS.out.len
    have hnw : n = wn * hn := hnE.symm.trans hln
    have d1 : decide ((py : Int) < 0) = false := decide_eq_false (by omega)
    have d2 : decide ((hn : Int) ≤ (py : Int)) = false := decide_eq_false (by omega)
    have d3 : decide (hn ≤ py) = false := decide_eq_false (by omega)
    have hlt' : py < hn := by omega
    clear hg hln
    obtain ⟨j0, hj, hy0, hy1, hy2⟩ := info_parts (show (Try.prog.info? 4).map (fun i => (i.zero, i.size, i.bytes)) = some (some (.bool false), 1, 1) from by kernel_rfl)
    have HB : RowKit.Hid (j0.bytes * hn ≤ 281474976710656) := Lib.hid (by rw [hy2]; omega)
    have H63 : RowKit.Hid (hn ≤ 9223372036854775807) := Lib.hid (by omega)
    have hRm := World.rowIs_made w1 (.bool false) hn 4
    have hbm := (Below.refl w1.heap.size w1).alloc (Nat.le_refl _) (.cells (madeCells #[.bool false] hn) 4)
    have hGm := hG1.below hbm hG1.lt
    have hRrm := hR1.below hbm hR1.lt
    have hbwm := hb01.trans (hbm.mono hb01.size)
    have HNW := Lib.hid hnw
    clear hnw hbm
    go_upto_region 5 with (at_make; refine wpList_make_row _ rfl (.tmp 29) (.tmp 29) 68 rfl 4 j0 (.bool false) Try.underlying68 hj hy0 hy1 rfl .i64 .i64 hn ?h1 ?h2 HB.out H63.out ?_; (case h1 => go_simp); (case h2 => go_simp))
    have hszm : w1.heap.size < (w1.alloc (.cells (madeCells #[.bool false] hn) 4)).heap.size := by simp
    have HRS := Lib.hid (show w.heap.size + 1 < w1.heap.size from hR1.lt)
    clear hG1 hR1 hb01 k0 k1 k2 hj hy0 hy1 hy2 HB H63
    generalize w1.alloc (.cells (madeCells #[.bool false] hn) 4) = wm at *
    generalize w1.heap.size = R at *
    have q0 := hRm.cell hlt'
    have q1 := hRm.frozen py
    have hRs := hRm.set py (.bool true)
    have hGs := hGm.far (p := ⟨R, py, none⟩) (by have := HRS.out; simp only; omega) (.bool true)
    have hRrs := hRrm.far (p := ⟨R, py, none⟩) (by have := HRS.out; simp only; omega) (.bool true)
    have hbs := hbwm.setCell (p := ⟨R, py, none⟩) (by have := HRS.out; simp only; omega) (.bool true)
    have hszs : R < (wm.setCell ⟨R, py, none⟩ (.bool true)).heap.size := hRs.lt
    have i0 : (0 : Int) ≤ (py : Int) := by omega
    have i1' : (py : Int) < (hn : Int) := by omega
    clear d1 d2 d3 hGm hRrm hbwm hRm hszm
    go_upto_region 6 with fail
    clear q0 q1
    generalize wm.setCell ⟨R, py, none⟩ (.bool true) = ws at *
    have hge := (Below.refl ws.heap.size ws).alloc (Nat.le_refl _) (.cells #[] 55)
    have hGe := hGs.below hge hGs.lt
    have k2 : (ws.alloc (.cells #[] 55)).cell? ⟨w.heap.size, 2, none⟩ = some (.slice A n c) := hGe.cell 2
    have hn1 : 1 ≤ n := by
      rw [HNW.out]
      exact Nat.mul_le_mul hw1 hh1
    have hn12 : n ≤ 12000 := by
      rw [HNW.out]
      exact Nat.mul_le_mul hw2 hh2
    have H1 := Lib.hid (show 0 + n ≤ maxLen by unfold maxLen; omega)
    have H2 := Lib.hid (show (0 + n) * 8 ≤ 140737488355328 by omega)
    have hSe := (HS.out.below hbs).below hge
    have hbe := hbs.alloc hbs.size (.cells #[] 55)
    have hLV : (rowV l).length = n * 4 := by rw [rowV_len, hnE]
    go_upto_region 7 with (at_builtin; refine wpList_append_src rfl (.tmp 34) (.tmp 36) 30 rfl ws.heap.size 55 i1 _ 4 8 Try.underlying30 ki kz0 kz1 kz2 rfl (by decide) _ 0 [] rfl (own_empty ws ws.heap.size _ 4 (Nat.le_refl _)) A n c (rowV l) rfl hLV hSe.src (fun h => hSe.nil' h) (rowV_one _) H1.out H2.out hge.size ?_; intro v3 w3 hO3 hg3)
    rw [Nat.zero_add, List.nil_append] at hO3
    have hHR := HRS.out
    obtain ⟨g, cg, cur, rfl, hgb⟩ : ∃ g cg cur, v3 = .slice (some ⟨g, 0, none⟩) n cg ∧ ws.heap.size ≤ g := by
      rcases hO3.2 with ⟨_, h0⟩ | ⟨g, cg, cur, e, hg, _⟩
      · omega
      · exact ⟨g, cg, (), e, hg⟩
    have hRow := RowW.of_own hSe.ok hO3
    have hOB : ∀ q, some q = (Value.slice (some ⟨ws.heap.size, 0, none⟩) 0 0).ownBlock → ws.heap.size = q := fun q e => by simpa [Value.ownBlock] using e.symm
    have hI : PutI w w3 R g wn hn A n c hn cg (fun j => if j = py then .bool true else .bool false) :=
      ⟨hGe.grown hg3 (fun e => by have := hOB _ e; omega), (hRrs.below hge hRrs.lt).grown hg3 (fun e => by have := hOB _ e; omega), (hRs.alloc (.cells #[] 55)).of_block (hg3.block R (Nat.lt_of_lt_of_le hszs hge.size) (fun e => by have := hOB _ e; omega)), ⟨l, hRow⟩, hbe.grown hg3 hbe.size (fun q hq => by have := hOB _ hq.symm; have := hbs.size; omega)⟩
    have HRg := Lib.hid (show R < g by omega)
    clear hOB cur hRow hO3 hg3 hgb hge hGe k2 hSe hLV H1 H2 hRs hGs hRrs hbs hbe hszs
    have HF : RowKit.Hid (∀ y, ∃ b, (fun j => if j = py then Value.bool true else Value.bool false) y = .bool b) := Lib.hid (fun y => by
      by_cases e : y = py
      · exact ⟨true, by simp [e]⟩
      · exact ⟨false, by simp [e]⟩)
    generalize (fun j => if j = py then Value.bool true else Value.bool false) = f at hI HF
    have HLT := Lib.hid hlt'
    have HSS := Lib.hid (show 1 ≤ wn ∧ wn ≤ 200 ∧ 1 ≤ hn ∧ hn ≤ 60 ∧ n ≤ 12000 from ⟨hw1, hw2, hh1, hh2, hn12⟩)
    clear i0 i1' hn1 hn12 hHR hnE
    go_wp2_with fail
    go_loopw [12] (fun s12 wr => ∃ k : Nat, k ≤ m ∧ s12 = .int .i64 (k : Nat) ∧ PutI w wr R g wn hn A n c hn cg f) (fun s12 _ => m - (intOf s12).toNat)
    case atStart => exact ⟨0, by omega, rfl, hI⟩
    case round =>
      clear hI
      obtain ⟨k, hk, rfl, hI⟩ := hrel
      by_cases hlk : k < m
      · have d1 : decide ((k : Int) < (m : Int)) = true := decide_eq_true (by omega)
        have d2 : decide (k < m) = true := decide_eq_true hlk
        have x0 : decide ((0 : Int) ≤ (px : Int)) = true := decide_eq_true (by omega)
        have x1 : decide ((px : Int) < 0) = false := decide_eq_false (by omega)
        have k0 : wr.cell? ⟨w.heap.size, 0, none⟩ = some (.int .i64 (wn : Int)) := hI.grid.cell 0
        by_cases hin : px + k < wn
        · have d5 : decide ((px : Int) < (wn : Int) - (k : Int)) = true := decide_eq_true (by omega)
          have d6 : (px : Int) < (wn : Int) - (k : Int) := by omega
          obtain ⟨hw1, hw2, hh1, hh2, hn12⟩ := HSS.out
          obtain ⟨yw, K1, K, f1', f2', f3', hKn⟩ := put_facts hw1 hw2 hh2 HNW.out HLT.out hin hpx
          have F1 := Lib.hid f1'
          have F2 := Lib.hid f2'
          have F3 := Lib.hid f3'
          clear f1' f2' f3'
          obtain ⟨adB, rfl, hCB⟩ := HC.out.some_ad' (show 1 ≤ m by omega)
          have hlm := HC.out.len
          obtain ⟨d, hd⟩ : ∃ d, lb[k]? = some d := ⟨_, List.getElem?_eq_getElem (by omega)⟩
          obtain ⟨⟨c0, c1, c2, c3⟩, okd⟩ := (hCB.below hI.below) k d hd
          have hlB : (adB.add (k * 4)).block < w.heap.size := World.block_lt_of_cell? w _ (hCB k d hd).1.c0
          clear hCB hd hlm
          go_upto_region 11 with fail
          obtain ⟨l', hRow⟩ := hI.row
          obtain ⟨e, he⟩ : ∃ e, l'[K]? = some e := ⟨_, List.getElem?_eq_getElem (by rw [hRow.len]; exact hKn)⟩
          obtain ⟨t0, t1, t2, t3, _⟩ := hRow.cell he
          have q0 := hRow.free (K * 4)
          have q1 := hRow.free (K * 4 + 1)
          have q2 := hRow.free (K * 4 + 2)
          have q3 := hRow.free (K * 4 + 3)
          have hHR := HRS.out
          have hHg := HRg.out
          have hS1 : wr.drew.cell? ⟨w.heap.size, 0, none⟩ = some (.int .i64 (wn : Int)) ∧ wr.drew.cell? (adB.add (k * 4)) = some (.int .i32 d.r) ∧ wr.drew.cell? ⟨(adB.add (k * 4)).block, (adB.add (k * 4)).off + 1, none⟩ = some (.int .u8 (d.f : Int)) ∧ wr.drew.cell? ⟨(adB.add (k * 4)).block, (adB.add (k * 4)).off + 2, none⟩ = some (.int .u8 (d.b : Int)) ∧ wr.drew.cell? ⟨(adB.add (k * 4)).block, (adB.add (k * 4)).off + 3, none⟩ = some (.int .u8 (d.x : Int)) := ⟨k0, c0, c1, c2, c3⟩
          have hwsz := hI.below.size
          have hS2 : (putC wr g K d).drew.cell? ⟨w.heap.size, 0, none⟩ = some (.int .i64 (wn : Int)) ∧ (putC wr g K d).drew.cell? (adB.add (k * 4)) = some (.int .i32 d.r) ∧ (putC wr g K d).drew.cell? ⟨(adB.add (k * 4)).block, (adB.add (k * 4)).off + 1, none⟩ = some (.int .u8 (d.f : Int)) ∧ (putC wr g K d).drew.cell? ⟨(adB.add (k * 4)).block, (adB.add (k * 4)).off + 2, none⟩ = some (.int .u8 (d.b : Int)) ∧ (putC wr g K d).drew.cell? ⟨(adB.add (k * 4)).block, (adB.add (k * 4)).off + 3, none⟩ = some (.int .u8 (d.x : Int)) := by
            have ho := only_drew (only_putC wr g K d)
            have hq : w.heap.size < wr.heap.size := hI.grid.lt
            have hb : (adB.add (k * 4)).block < wr.heap.size := Nat.lt_of_lt_of_le hlB hI.below.size
            have hn : (adB.add (k * 4)).block ≠ g := by omega
            exact ⟨(ho.cell' (p := ⟨w.heap.size, 0, none⟩) hq (by simp only; omega)).trans k0, (ho.cell' hb hn).trans c0, (ho.cell' (p := ⟨(adB.add (k * 4)).block, (adB.add (k * 4)).off + 1, none⟩) hb hn).trans c1, (ho.cell' (p := ⟨(adB.add (k * 4)).block, (adB.add (k * 4)).off + 2, none⟩) hb hn).trans c2, (ho.cell' (p := ⟨(adB.add (k * 4)).block, (adB.add (k * 4)).off + 3, none⟩) hb hn).trans c3⟩
          have hI2 := (hI.put hHR hHg hKn okd).drew
          have z1 : (0 : Int) ≤ (K : Int) := by omega
          have z2 : (K : Int) < (n : Int) := by omega
          have z3 : (0 : Int) ≤ (k : Int) := by omega
          have z4 : (k : Int) < (m : Int) := by omega
          have hpx' := Lib.hid hpx
          have hpy' := Lib.hid hpy
          have hm' := Lib.hid hm
          have hin' := Lib.hid hin
          have hww := Lib.hid hlB
          clear hpx hpy hm hin hlB hwsz hHR hHg hw1 hw2 hh1 hh2 hn12 k0 c0 c1 c2 c3 hRow he d5 d6 d1 d2 x0 x1 hlt' hI
          have f1 := wrap_kind F1.out
          have f2 := wrap_kind F2.out
          have f3 := wrap_kind F3.out
          go_region_held3 (fun w' => w'.cell? ⟨w.heap.size, 0, none⟩ = some (.int .i64 (wn : Int)) ∧ w'.cell? (adB.add (k * 4)) = some (.int .i32 d.r) ∧ w'.cell? ⟨(adB.add (k * 4)).block, (adB.add (k * 4)).off + 1, none⟩ = some (.int .u8 (d.f : Int)) ∧ w'.cell? ⟨(adB.add (k * 4)).block, (adB.add (k * 4)).off + 2, none⟩ = some (.int .u8 (d.b : Int)) ∧ w'.cell? ⟨(adB.add (k * 4)).block, (adB.add (k * 4)).off + 3, none⟩ = some (.int .u8 (d.x : Int))) (first | exact hS1 | exact hS2) (fail)
          have hm2 := hm'.out
          clear f1 f2 f3 hS1 hS2 t0 t1 t2 t3 q0 q1 q2 q3 z1 z2 z3 z4
          go_wp2_with fail
          go_roundw
          case rel => exact ⟨k + 1, hlk, by go_num, hI2⟩
          case measure =>
            show m - ((k : Int) + 1).toNat < m - (k : Int).toNat
            omega
        · have d5 : decide ((px : Int) < (wn : Int) - (k : Int)) = false := decide_eq_false (by omega)
          have d6 : ¬ (px : Int) < (wn : Int) - (k : Int) := by omega
          go_wp2_with fail
          go_roundw
          case rel => exact ⟨k + 1, hlk, by go_num, hI⟩
          case measure =>
            show m - ((k : Int) + 1).toNat < m - (k : Int).toNat
            omega
      · have d1 : decide ((k : Int) < (m : Int)) = false := decide_eq_false (by omega)
        have d2 : decide (k < m) = false := decide_eq_false hlk
        obtain ⟨hw1, hw2, hh1, hh2, hn12⟩ := HSS.out
        have k0 : wr.cell? ⟨w.heap.size, 0, none⟩ = some (.int .i64 (wn : Int)) := hI.grid.cell 0
        have k1 : wr.cell? ⟨w.heap.size, 1, none⟩ = some (.int .i64 (hn : Int)) := hI.grid.cell 1
        obtain ⟨l', hRow⟩ := hI.row
        have hall := allR_gen wn hn n ⟨R, 0, none⟩ hn ⟨g, 0, none⟩ cg l' wr hw1 hw2 hh2 HNW.out hRow.s (fun y hy => by
          obtain ⟨b, hb⟩ := HF.out y
          refine ⟨b, ?_⟩
          rw [at_add, ← hb]
          exact hI.marks.cell hy)
        have hres := hI.res
        have hbI := hI.below
        clear hI hRow
        go_upto_region 12 with fail
        go_wp2_with (go_at_call 38; refine hall.mono ?_; rintro e w5 ⟨A5, c5, l5, rfl, hR5, hN5, hb5⟩; have hr5 := hres.below hb5 hres.lt; have hbb := hbI.trans (hb5.mono hbI.size); have r0 : w5.cell? ⟨w.heap.size + 1, 0, none⟩ = some (.int .i64 0) := hr5.cell 0; have r1 : w5.cell? ⟨w.heap.size + 1, 1, none⟩ = some (.int .i64 0) := hr5.cell 1; have r2 : w5.cell? ⟨w.heap.size + 1, 2, none⟩ = some (.slice none 0 0) := hr5.cell 2; have f0 := hr5.free 0; have f1 := hr5.free 1; have f2 := hr5.free 2)
        have hne : ∀ i : Nat, Off A5 n (⟨w.heap.size + 1, i, none⟩ : Addr).block := fun i => Off.new hN5 hres.lt
        have hOff : ∀ G, G < w.heap.size → Off A n G → Off A5 n G := fun G hG _ => Off.new hN5 (Nat.lt_of_lt_of_le hG hbI.size)
        have hR6 := ((hR5.far ⟨w.heap.size + 1, 0, none⟩ (hne 0) (.int .i64 (wn : Int))).far ⟨w.heap.size + 1, 1, none⟩ (hne 1) (.int .i64 (hn : Int))).far ⟨w.heap.size + 1, 2, none⟩ (hne 2) (.slice A5 n c5)
        have g1 : Blk (w5.setCell ⟨w.heap.size + 1, 0, none⟩ (.int .i64 (wn : Int))) (w.heap.size + 1) 32 #[.int .i64 (wn : Int), .int .i64 0, .slice none 0 0] := hr5.set 0 _
        have g2 : Blk ((w5.setCell ⟨w.heap.size + 1, 0, none⟩ (.int .i64 (wn : Int))).setCell ⟨w.heap.size + 1, 1, none⟩ (.int .i64 (hn : Int))) (w.heap.size + 1) 32 #[.int .i64 (wn : Int), .int .i64 (hn : Int), .slice none 0 0] := g1.set 1 _
        have g3 : Blk (((w5.setCell ⟨w.heap.size + 1, 0, none⟩ (.int .i64 (wn : Int))).setCell ⟨w.heap.size + 1, 1, none⟩ (.int .i64 (hn : Int))).setCell ⟨w.heap.size + 1, 2, none⟩ (.slice A5 n c5)) (w.heap.size + 1) 32 (grA wn hn A5 n c5) := g2.set 2 _
        have hb6 := ((hbb.setCell (p := ⟨w.heap.size + 1, 0, none⟩) (by simp) (.int .i64 (wn : Int))).setCell (p := ⟨w.heap.size + 1, 1, none⟩) (by simp) (.int .i64 (hn : Int))).setCell (p := ⟨w.heap.size + 1, 2, none⟩) (by simp) (.slice A5 n c5)
        generalize ((w5.setCell ⟨w.heap.size + 1, 0, none⟩ (.int .i64 (wn : Int))).setCell ⟨w.heap.size + 1, 1, none⟩ (.int .i64 (hn : Int))).setCell ⟨w.heap.size + 1, 2, none⟩ (.slice A5 n c5) = w6 at hR6 g3 hb6 ⊢
        have d0 : w6.cell? ⟨w.heap.size + 1, 0, none⟩ = some (.int .i64 (wn : Int)) := g3.cell 0
        have d1 : w6.cell? ⟨w.heap.size + 1, 1, none⟩ = some (.int .i64 (hn : Int)) := g3.cell 1
        have d2 : w6.cell? ⟨w.heap.size + 1, 2, none⟩ = some (.slice A5 n c5) := g3.cell 2
        refine bodyPost_ret (v := grv wn hn A5 n c5) ?_ rfl ⟨A5, n, c5, l5, rfl, hR6, hOff, hb6⟩
        simp [results, Try.results15, go_sem, d0, d1, d2]
  · have r0 : w1.cell? ⟨w.heap.size + 1, 0, none⟩ = some (.int .i64 0) := hR1.cell 0
    have r1 : w1.cell? ⟨w.heap.size + 1, 1, none⟩ = some (.int .i64 0) := hR1.cell 1
    have r2 : w1.cell? ⟨w.heap.size + 1, 2, none⟩ = some (.slice none 0 0) := hR1.cell 2
    have f0 := hR1.free 0
    have f1 := hR1.free 1
    have f2 := hR1.free 2
    have g1 : Blk (w1.setCell ⟨w.heap.size + 1, 0, none⟩ (.int .i64 wx)) (w.heap.size + 1) 32 #[.int .i64 wx, .int .i64 0, .slice none 0 0] := hR1.set 0 _
    have g2 : Blk ((w1.setCell ⟨w.heap.size + 1, 0, none⟩ (.int .i64 wx)).setCell ⟨w.heap.size + 1, 1, none⟩ (.int .i64 hx)) (w.heap.size + 1) 32 #[.int .i64 wx, .int .i64 hx, .slice none 0 0] := g1.set 1 _
    have g3 : Blk (((w1.setCell ⟨w.heap.size + 1, 0, none⟩ (.int .i64 wx)).setCell ⟨w.heap.size + 1, 1, none⟩ (.int .i64 hx)).setCell ⟨w.heap.size + 1, 2, none⟩ (.slice A n c)) (w.heap.size + 1) 32 (grA wx hx A n c) := g2.set 2 _
    have hb6 := ((hb01.setCell (p := ⟨w.heap.size + 1, 0, none⟩) (by simp) (.int .i64 wx)).setCell (p := ⟨w.heap.size + 1, 1, none⟩) (by simp) (.int .i64 hx)).setCell (p := ⟨w.heap.size + 1, 2, none⟩) (by simp) (.slice A n c)
    have hR6 := HS.out.below hb6
    have hgo2 : gridP wx hx l = false ∨ (gridP wx hx l = true ∧ hx ≤ (py : Int)) := by
      cases hg : gridP wx hx l with
      | false => exact .inl rfl
      | true =>
        refine .inr ⟨rfl, ?_⟩
        rcases Int.lt_or_le (py : Int) hx with h | h
        · exact absurd ⟨hg, h⟩ hgo
        · exact h
    have x0 : decide ((py : Int) < 0) = false := decide_eq_false (by omega)
    clear hgo HP
    rcases hgo2 with hg | ⟨hg, hle⟩
    · rw [hg]
      clear hg
      go_wp2_with fail
      generalize ((w1.setCell ⟨w.heap.size + 1, 0, none⟩ (.int .i64 wx)).setCell ⟨w.heap.size + 1, 1, none⟩ (.int .i64 hx)).setCell ⟨w.heap.size + 1, 2, none⟩ (.slice A n c) = w6 at hR6 g3 hb6 ⊢
      have d0 : w6.cell? ⟨w.heap.size + 1, 0, none⟩ = some (.int .i64 wx) := g3.cell 0
      have d1 : w6.cell? ⟨w.heap.size + 1, 1, none⟩ = some (.int .i64 hx) := g3.cell 1
      have d2 : w6.cell? ⟨w.heap.size + 1, 2, none⟩ = some (.slice A n c) := g3.cell 2
      refine bodyPost_ret (v := grv wx hx A n c) ?_ rfl ⟨A, n, c, l, rfl, hR6, fun _ _ h => h, hb6⟩
      simp [results, Try.results15, go_sem, d0, d1, d2]
    · rw [hg]
      have x1 : decide (hx ≤ (py : Int)) = true := decide_eq_true hle
      clear hg
      go_wp2_with fail
      generalize ((w1.setCell ⟨w.heap.size + 1, 0, none⟩ (.int .i64 wx)).setCell ⟨w.heap.size + 1, 1, none⟩ (.int .i64 hx)).setCell ⟨w.heap.size + 1, 2, none⟩ (.slice A n c) = w6 at hR6 g3 hb6 ⊢
      have d0 : w6.cell? ⟨w.heap.size + 1, 0, none⟩ = some (.int .i64 wx) := g3.cell 0
      have d1 : w6.cell? ⟨w.heap.size + 1, 1, none⟩ = some (.int .i64 hx) := g3.cell 1
      have d2 : w6.cell? ⟨w.heap.size + 1, 2, none⟩ = some (.slice A n c) := g3.cell 2
      refine bodyPost_ret (v := grv wx hx A n c) ?_ rfl ⟨A, n, c, l, rfl, hR6, fun _ _ h => h, hb6⟩
      simp [results, Try.results15, go_sem, d0, d1, d2]
end Go.Proofs.Ytpjafocgabhieaa

/- A grid by numbers, as the law makes it: walked (for DiffTells). -/
namespace Go.Proofs.Ytpjafocgabhieaa
open Go.RowKit Go.Sort
theorem rem_facts (W m : Int) (hm : 1 ≤ m) (hm2 : m ≤ 12) : ∃ (a : Int) (b : Nat), W.tmod m = a ∧ (a + m).tmod m = (b : Int) ∧ -m < a ∧ a < m ∧ (b : Int) < m := by
  have h1 : -m < W.tmod m := Int.lt_tmod_of_pos W (by omega)
  have h2 : W.tmod m < m := Int.tmod_lt_of_pos W (by omega)
  have h3 : 0 ≤ (W.tmod m + m).tmod m := Int.tmod_nonneg m (by omega)
  have h4 : (W.tmod m + m).tmod m < m := Int.tmod_lt_of_pos _ (by omega)
  exact ⟨W.tmod m, ((W.tmod m + m).tmod m).toNat, rfl, by omega, h1, h2, by omega⟩
abbrev numv (W H : Int) (A : Option Addr) (n c : Nat) : Value := .agg #[.int .i64 W, .int .i64 H, .slice A n c]
theorem RowS.take {w : World} {A : Option Addr} {n c : Nat} {l : List Cl} (h : RowS w A n c l) {k : Nat} (hk : k ≤ n) : RowS w A k c (l.take k) := by
  have h1 := h.len
  have h2 := h.cap
  refine ⟨by rw [List.length_take]; omega, by omega, h.cm, fun h0 => ?_, h.nil⟩
  rw [List.length_take] at h0
  obtain ⟨ad, e, hC⟩ := h.row (by omega)
  refine ⟨ad, e, fun i x hx => hC i x ?_⟩
  have hi := (List.getElem?_eq_some_iff.1 hx).1
  rw [List.length_take] at hi
  rwa [List.getElem?_take_of_lt (by omega)] at hx
/-- A grid stored whole. -/
abbrev stG (w : World) (G : Nat) (x y : Int) (A : Option Addr) (n c : Nat) : World := ((w.setCell ⟨G, 0, none⟩ (.int .i64 x)).setCell ⟨G, 1, none⟩ (.int .i64 y)).setCell ⟨G, 2, none⟩ (.slice A n c)
theorem stG_blk {w : World} {G : Nat} {x0 y0 : Int} {A0 : Option Addr} {n0 c0 : Nat} (h : Blk w G 32 (grA x0 y0 A0 n0 c0)) (x y : Int) (A : Option Addr) (n c : Nat) : Blk (stG w G x y A n c) G 32 (grA x y A n c) := by
  have g1 : Blk (w.setCell ⟨G, 0, none⟩ (.int .i64 x)) G 32 #[.int .i64 x, .int .i64 y0, .slice A0 n0 c0] := h.set 0 _
  have g2 : Blk ((w.setCell ⟨G, 0, none⟩ (.int .i64 x)).setCell ⟨G, 1, none⟩ (.int .i64 y)) G 32 #[.int .i64 x, .int .i64 y, .slice A0 n0 c0] := g1.set 1 _
  exact g2.set 2 _
theorem stG_only (w : World) (G : Nat) (x y : Int) (A : Option Addr) (n c : Nat) : Only G w (stG w G x y A n c) := only_set (only_set (only_set (only_refl G w) _ _) _ _) _ _
theorem stG_row {w : World} {G : Nat} {B : Option Addr} {m k : Nat} {l : List Cl} (h : RowS w B m k l) (ho : Off B m G) (x y : Int) (A : Option Addr) (n c : Nat) : RowS (stG w G x y A n c) B m k l := ((h.far ⟨G, 0, none⟩ ho _).far ⟨G, 1, none⟩ ho _).far ⟨G, 2, none⟩ ho _
theorem stG_far {w : World} {G g : Nat} {t : TypeId} {cs : Array Value} (h : Blk w g t cs) (hg : g ≠ G) (x y : Int) (A : Option Addr) (n c : Nat) : Blk (stG w G x y A n c) g t cs := ((h.far (p := ⟨G, 0, none⟩) hg _).far (p := ⟨G, 1, none⟩) hg _).far (p := ⟨G, 2, none⟩) hg _
theorem stG_below {B : Nat} {a w : World} (h : Below B a w) {G : Nat} (hB : B ≤ G) (x y : Int) (A : Option Addr) (n c : Nat) : Below B a (stG w G x y A n c) := ((h.setCell (p := ⟨G, 0, none⟩) hB _).setCell (p := ⟨G, 1, none⟩) hB _).setCell (p := ⟨G, 2, none⟩) hB _
theorem RowS.drop {w : World} {A : Option Addr} {n c : Nat} {l : List Cl} (h : RowS w A n c l) {k : Nat} (hk : k ≤ n) : RowS w (if c = k then A else A.map fun ad => ad.add (k * 4)) (n - k) (c - k) (l.drop k) := by
  have h1 := h.len
  have h2 := h.cap
  have h3 := h.cm
  refine ⟨by rw [List.length_drop]; omega, by omega, by omega, fun h0 => ?_, fun e => ?_⟩
  · rw [List.length_drop] at h0
    obtain ⟨ad, rfl, hC⟩ := h.row (by omega)
    refine ⟨ad.add (k * 4), by rw [if_neg (by omega)]; rfl, fun i x hx => ?_⟩
    have h4 := hC (k + i) x (by rwa [List.getElem?_drop] at hx)
    rw [Go.Deep.add_add, ← Nat.add_mul]
    exact h4
  · split at e
    · omega
    · rename_i hne
      cases A with
      | none =>
        have := h.nil rfl
        omega
      | some ad => cases e
theorem Off.drop {A : Option Addr} {n c k G : Nat} (h : Off A n G) : Off (if c = k then A else A.map fun ad => ad.add (k * 4)) (n - k) G := fun h1 ad e => by
  split at e
  · exact h (by omega) ad e
  · cases A with
    | none => cases e
    | some ad' =>
      injection e with e
      subst e
      rw [block_add]
      exact h (by omega) ad' rfl
/-- What the loop of Num.grid keeps. -/
structure NumI (w wr : World) (G wn hn : Nat) : Prop where
  res : Blk wr (w.heap.size + 1) 32 (grA 0 0 none 0 0)
  g : ∃ (A : Option Addr) (n c : Nat) (l : List Cl), Blk wr G 32 (grA wn hn A n c) ∧ RowS wr A n c l ∧ Off A n G ∧ ∀ X, X ≤ w.heap.size + 1 → Off A n X
  below : Below w.heap.size w wr
set_option maxRecDepth 100000 in
set_option maxHeartbeats 8000000 in
theorem gridN_gen (W H : Int) (A : Option Addr) (n c : Nat) (xs : List Int) (w : World) (hn : xs.length = n) (hA : Ints w A xs) :
    Calls Try.prog 5 #[numv W H A n c] w fun e w' => ∃ (wn hn : Nat) (A' : Option Addr) (n' c' : Nat) (l' : List Cl), e = .returned (grv wn hn A' n' c') ∧ 1 ≤ wn ∧ wn ≤ 12 ∧ 1 ≤ hn ∧ hn ≤ 6 ∧ RowS w' A' n' c' l' ∧ (∀ X, X < w.heap.size → Off A' n' X) ∧ Below w.heap.size w w' := by
  obtain ⟨a1, b1, p1, p2, p3, p4, p5⟩ := rem_facts W 12 (by omega) (by omega)
  obtain ⟨a2, b2, r1, r2, r3, r4, r5⟩ := rem_facts H 6 (by omega) (by omega)
  have q1 : (1 : Int) + (b1 : Int) = ((1 + b1 : Nat) : Int) := by omega
  have q2 : (1 : Int) + (b2 : Int) = ((1 + b2 : Nat) : Int) := by omega
  have hN := (Blk.new w 24 #[.int .i64 W, .int .i64 H, .slice A n c]).alloc (.cells (grA 0 0 none 0 0) 32)
  have hR := Blk.new (w.alloc (.cells #[.int .i64 W, .int .i64 H, .slice A n c] 24)) 32 (grA 0 0 none 0 0)
  have hb0 := ((Below.refl w.heap.size w).alloc (Nat.le_refl _) (.cells #[.int .i64 W, .int .i64 H, .slice A n c] 24)).alloc (by simp) (.cells (grA 0 0 none 0 0) 32)
  rw [World.size_alloc] at hR
  obtain ⟨W0, hW0⟩ : ∃ W0, (w.alloc (.cells #[.int .i64 W, .int .i64 H, .slice A n c] 24)).alloc (.cells (grA 0 0 none 0 0) 32) = W0 := ⟨_, rfl⟩
  rw [hW0] at hN hR hb0
  have k0 : W0.cell? ⟨w.heap.size, 0, none⟩ = some (.int .i64 W) := hN.cell 0
  have k1 : W0.cell? ⟨w.heap.size, 1, none⟩ = some (.int .i64 H) := hN.cell 1
  have HA := Lib.hid hA
  clear hA
  go_enter Try.func5, Try.ntmps5
  go_upto_region 1 with fail
  clear hW0
  have hng := newGR_gen (1 + b1) (1 + b2) _ W0 (by omega) (by omega) (by omega) (by omega) rfl
  have hwb : 1 ≤ 1 + b1 ∧ 1 + b1 ≤ 12 := by omega
  have hhb : 1 ≤ 1 + b2 ∧ 1 + b2 ≤ 6 := by omega
  generalize 1 + b1 = wn at *
  generalize 1 + b2 = hn' at *
  go_upto_region 2 with (go_at_call 14; refine hng.mono ?_; rintro e w1 ⟨A1, c1, l1, rfl, hR1, hn1, hb1⟩)
  have hN1 := hN.below hb1 hN.lt
  have hr1 := hR.below hb1 hR.lt
  have hb01 := hb0.trans (hb1.mono hb0.size)
  have hof := hR1.off (Nat.le_refl _)
  have hof1 : ∀ X, X ≤ w.heap.size + 1 → Off A1 (wn * hn') X := fun X hX => Off.new hn1 (Nat.lt_of_le_of_lt hX hR.lt)
  have hbn := (Below.refl w1.heap.size w1).alloc (Nat.le_refl _) (.cells (grA wn hn' A1 (wn * hn') c1) 32)
  have hG2 := Blk.new w1 32 (grA wn hn' A1 (wn * hn') c1)
  have hN2 := hN1.below hbn hN1.lt
  have hr2 := hr1.below hbn hr1.lt
  have hR2 := hR1.below hbn
  have hb2 := hb01.trans (hbn.mono hb01.size)
  have HG := Lib.hid (show w.heap.size + 1 < w1.heap.size from hr1.lt)
  clear hN hR hb0 k0 k1 hng p1 p2 p3 p4 p5 r1 r2 r3 r4 r5 q1 q2 hb1 hN1 hr1 hb01 hR1 hbn
  generalize w1.alloc (.cells (grA wn hn' A1 (wn * hn') c1) 32) = w2 at *
  generalize w1.heap.size = G at *
  have k2 : w2.cell? ⟨w.heap.size, 2, none⟩ = some (.slice A n c) := hN2.cell 2
  have hcl := cells_gen A n c xs w2 hn (Elems.below HA.out hb2)
  go_upto_region 3 with (go_at_call 12; refine hcl.mono ?_; rintro e w3 ⟨A3, c3, m, rfl, hR3, hne3, hb3⟩)
  have hI3 : NumI w w3 G wn hn' := ⟨hr2.below hb3 hr2.lt, ⟨A1, wn * hn', c1, l1, hG2.below hb3 hG2.lt, hR2.below hb3, hof, hof1⟩, hb2.trans (hb3.mono hb2.size)⟩
  have hO3 : Off A3 m G := Off.new hne3 hG2.lt
  have hm3 : m ≤ 160 := by
    rw [← hR3.len]
    exact cellsP_len xs
  have hR3' : ∃ l3, RowS w3 A3 m c3 l3 := ⟨_, hR3⟩
  clear hN2 hr2 hR2 hb2 hof hG2 k2 hcl hb3 hne3 hR3
  go_wp2_with fail
  go_loopw [4, 5] (fun s4 s5 wr => ∃ (y : Nat) (Ac : Option Addr) (m cc : Nat) (lc : List Cl), y ≤ hn' ∧ m ≤ 160 ∧ s5 = .int .i64 (y : Nat) ∧ s4 = .slice Ac m cc ∧ RowS wr Ac m cc lc ∧ Off Ac m G ∧ NumI w wr G wn hn') (fun _ s5 _ => hn' - (intOf s5).toNat)
  case atStart =>
    obtain ⟨l3, h3⟩ := hR3'
    exact ⟨0, A3, m, c3, l3, by omega, hm3, rfl, rfl, h3, hO3, hI3⟩
  case round =>
    clear hR3' hO3 hI3 hm3
    obtain ⟨y, Ac, m, cc, lc, hy, hm, rfl, rfl, hRc, hOc, hI⟩ := hrel
    obtain ⟨hres, ⟨Ag, ng, cg, lg, hG, hRg, hOg, hOr⟩, hb⟩ := hI
    have g0 : wr.cell? ⟨G, 0, none⟩ = some (.int .i64 (wn : Int)) := hG.cell 0
    have g1 : wr.cell? ⟨G, 1, none⟩ = some (.int .i64 (hn' : Int)) := hG.cell 1
    have g2 : wr.cell? ⟨G, 2, none⟩ = some (.slice Ag ng cg) := hG.cell 2
    by_cases hlt : y < hn'
    · have d1 : decide ((y : Int) < (hn' : Int)) = true := decide_eq_true (by omega)
      have d2 : decide (y < hn') = true := decide_eq_true hlt
      go_upto_region 6 with fail
      go_cut [6] from 29 to 33 (fun s6 wx => s6 = .int .i64 ((min m wn : Nat) : Int) ∧ wx = wr)
      case first =>
        by_cases hmw : m ≤ wn
        · have e1 : min m wn = m := Nat.min_eq_left hmw
          have x1 : (m : Int) ≤ (wn : Int) := by omega
          have x2 : ¬ (wn : Int) < (m : Int) := by omega
          go_wp2_with fail
          go_meet
          exact ⟨by rw [e1], rfl⟩
        · have e1 : min m wn = wn := Nat.min_eq_right (by omega)
          have x1 : (wn : Int) < (m : Int) := by omega
          have x2 : ¬ (m : Int) ≤ (wn : Int) := by omega
          go_wp2_with fail
          go_meet
          exact ⟨by rw [e1], rfl⟩
      case rest =>
      obtain ⟨rfl, hwx⟩ := hcut
      rename World => wx
      subst hwx
      have hk1 : min m wn ≤ m := Nat.min_le_left _ _
      generalize min m wn = kk at hk1 ⊢
      have hcc := hRc.cap
      have hcm := hRc.cm
      have hput := putGR_gen wn hn' Ag ng cg lg 0 y Ac kk cc (lc.take kk) wx.drew (by omega) (by omega) (by omega) (hRg.below (Below.refl _ _).drew) ((hRc.take hk1).below (Below.refl _ _).drew)
      rw [show ((0 : Nat) : Int) = 0 from rfl] at hput
      have hGd := hG.drew
      have s1 : (kk : Int) ≤ (cc : Int) := by omega
      have s2 : decide ((kk : Int) ≤ (cc : Int)) = true := decide_eq_true s1
      have s3 : kk ≤ cc := by omega
      go_upto_region 7 with fail
      go_region_with (first
        | (go_simp; go_at_call 15; refine hput.mono ?_; rintro e w4 ⟨A4, n4, c4, l4, rfl, hR4, hof4, hb4⟩; have hG4 := hGd.below hb4 hGd.lt; have y0 : w4.cell? ⟨G, 0, none⟩ = some (.int .i64 (wn : Int)) := hG4.cell 0; have y1 : w4.cell? ⟨G, 1, none⟩ = some (.int .i64 (hn' : Int)) := hG4.cell 1; have y2 : w4.cell? ⟨G, 2, none⟩ = some (.slice Ag ng cg) := hG4.cell 2; have f0 := hG4.free 0; have f1 := hG4.free 1; have f2 := hG4.free 2))
      have hGs := stG_blk hG4 wn hn' A4 n4 c4
      have hgl := hGd.lt
      have hOg4 := hof4 G hgl hOg
      have hOr4 : ∀ X, X ≤ w.heap.size + 1 → Off A4 n4 X := fun X hX => hof4 X (Nat.lt_of_le_of_lt hX hres.lt) (hOr X hX)
      have hGG := HG.out
      have hb4' : Below wx.heap.size wx w4 := (Below.refl wx.heap.size wx).drew.trans hb4
      have hI5 : NumI w (stG w4 G wn hn' A4 n4 c4) G wn hn' := ⟨stG_far (hres.below hb4' hres.lt) (by omega) _ _ _ _ _, ⟨A4, n4, c4, l4, hGs, stG_row hR4 hOg4 _ _ _ _ _, hOg4, hOr4⟩, stG_below (hb.trans (hb4'.mono hb.size)) (by omega) _ _ _ _ _⟩
      have hR5 := stG_row ((hRc.below hb4').drop hk1) hOc.drop wn hn' A4 n4 c4
      have hO5 : Off _ _ G := hOc.drop (c := cc) (k := kk)
      clear hb4' y0 y1 y2 f0 f1 f2 hGs hOg4 hG4 hb4 hR4 hof4 hput hGd g0 g1 g2 hOg hRg hG hres hb hRc hOc
      go_wp2_with fail
      go_roundw
      case rel => exact ⟨y + 1, _, m - kk, cc - kk, lc.drop kk, hlt, by omega, by go_num, rfl, hR5, hO5, hI5⟩
      case measure =>
        show hn' - ((y : Int) + 1).toNat < hn' - (y : Int).toNat
        omega
    · have d1 : decide ((y : Int) < (hn' : Int)) = false := decide_eq_false (by omega)
      have d2 : decide (y < hn') = false := decide_eq_false hlt
      have r0 : wr.cell? ⟨w.heap.size + 1, 0, none⟩ = some (.int .i64 0) := hres.cell 0
      have r1 : wr.cell? ⟨w.heap.size + 1, 1, none⟩ = some (.int .i64 0) := hres.cell 1
      have r2 : wr.cell? ⟨w.heap.size + 1, 2, none⟩ = some (.slice none 0 0) := hres.cell 2
      have f0 := hres.free 0
      have f1 := hres.free 1
      have f2 := hres.free 2
      go_wp2_with fail
      have g3 := stG_blk hres wn hn' Ag ng cg
      have hb6 := stG_below hb (Nat.le_succ w.heap.size) wn hn' Ag ng cg
      have hR6 := stG_row hRg (hOr _ (Nat.le_refl _)) wn hn' Ag ng cg
      have d0 : (stG wr (w.heap.size + 1) wn hn' Ag ng cg).cell? ⟨w.heap.size + 1, 0, none⟩ = some (.int .i64 (wn : Int)) := g3.cell 0
      have d1 : (stG wr (w.heap.size + 1) wn hn' Ag ng cg).cell? ⟨w.heap.size + 1, 1, none⟩ = some (.int .i64 (hn' : Int)) := g3.cell 1
      have d2 : (stG wr (w.heap.size + 1) wn hn' Ag ng cg).cell? ⟨w.heap.size + 1, 2, none⟩ = some (.slice Ag ng cg) := g3.cell 2
      show bodyPost _ _ _ Exit.ret _ (stG wr (w.heap.size + 1) wn hn' Ag ng cg)
      generalize stG wr (w.heap.size + 1) wn hn' Ag ng cg = w6 at *
      refine bodyPost_ret (v := grv wn hn' Ag ng cg) ?_ rfl ⟨wn, hn', Ag, ng, cg, lg, rfl, hwb.1, hwb.2, hhb.1, hhb.2, hR6, fun X hX => hOr X (by omega), hb6⟩
      simp [results, Try.results5, go_sem, d0, d1, d2]
end Go.Proofs.Ytpjafocgabhieaa

/- Another grid of the same size, as the law makes it: walked (for DiffTells). -/
namespace Go.Proofs.Ytpjafocgabhieaa
open Go.RowKit Go.Sort
/-- The cells of an Other. -/
abbrev othA (W H : Int) (A : Option Addr) (n c : Nat) (a0 a1 a2 a3 a4 a5 : Int) (A0 : Option Addr) (n0 c0 : Nat) (A1 : Option Addr) (n1 c1 : Nat) (A2 : Option Addr) (n2 c2 : Nat) (all : Bool) : Array Value :=
  #[.int .i64 W, .int .i64 H, .slice A n c, .int .i64 a0, .int .i64 a1, .int .i64 a2, .int .i64 a3, .int .i64 a4, .int .i64 a5, .slice A0 n0 c0, .slice A1 n1 c1, .slice A2 n2 c2, .bool all]
/-- What the loop of Other.other keeps. -/
structure OthI (w wr : World) (oc : Array Value) (wn hn : Nat) : Prop where
  o : Blk wr w.heap.size 29 oc
  g : ∃ (A : Option Addr) (n c : Nat) (l : List Cl), Blk wr (w.heap.size + 1) 32 (grA wn hn A n c) ∧ RowS wr A n c l ∧ Off A n (w.heap.size + 1) ∧ Off A n (w.heap.size + 2)
  r : Blk wr (w.heap.size + 2) 32 (grA 0 0 none 0 0)
  below : Below w.heap.size w wr
set_option maxRecDepth 100000 in
set_option maxHeartbeats 8000000 in
theorem otherO_gen (W H : Int) (A : Option Addr) (n c : Nat) (xs : List Int) (a0 a1 a2 a3 a4 a5 : Int) (A0 : Option Addr) (n0 c0 : Nat) (x0 : List Int) (A1 : Option Addr) (n1 c1 : Nat) (x1 : List Int) (A2 : Option Addr) (n2 c2 : Nat) (x2 : List Int) (all : Bool)
    (wn hn : Nat) (Ag : Option Addr) (ng cg : Nat) (lg : List Cl) (w : World) (hwn : 1 ≤ wn ∧ wn ≤ 12) (hhn : 1 ≤ hn ∧ hn ≤ 6)
    (hA : xs.length = n ∧ Ints w A xs) (h0 : (x0.length = n0 ∧ n0 ≤ c0) ∧ Ints w A0 x0) (h1 : (x1.length = n1 ∧ n1 ≤ c1) ∧ Ints w A1 x1) (h2 : (x2.length = n2 ∧ n2 ≤ c2) ∧ Ints w A2 x2) (hG : RowS w Ag ng cg lg) :
    Calls Try.prog 6 #[.agg (othA W H A n c a0 a1 a2 a3 a4 a5 A0 n0 c0 A1 n1 c1 A2 n2 c2 all), grv wn hn Ag ng cg] w fun e w' => ∃ (x y : Int) (A' : Option Addr) (n' c' : Nat) (l' : List Cl), e = .returned (grv x y A' n' c') ∧ RowS w' A' n' c' l' ∧ Below w.heap.size w w' := by
  have HA := Lib.hid hA
  have H0 := Lib.hid h0
  have H1 := Lib.hid h1
  have H2 := Lib.hid h2
  have HG := Lib.hid hG
  have hO := ((Blk.new w 29 (othA W H A n c a0 a1 a2 a3 a4 a5 A0 n0 c0 A1 n1 c1 A2 n2 c2 all)).alloc (.cells (grA wn hn Ag ng cg) 32)).alloc (.cells (grA 0 0 none 0 0) 32)
  have hg := (Blk.new (w.alloc (.cells (othA W H A n c a0 a1 a2 a3 a4 a5 A0 n0 c0 A1 n1 c1 A2 n2 c2 all) 29)) 32 (grA wn hn Ag ng cg)).alloc (.cells (grA 0 0 none 0 0) 32)
  have hR := Blk.new ((w.alloc (.cells (othA W H A n c a0 a1 a2 a3 a4 a5 A0 n0 c0 A1 n1 c1 A2 n2 c2 all) 29)).alloc (.cells (grA wn hn Ag ng cg) 32)) 32 (grA 0 0 none 0 0)
  have hb0 := (((Below.refl w.heap.size w).alloc (Nat.le_refl _) (.cells (othA W H A n c a0 a1 a2 a3 a4 a5 A0 n0 c0 A1 n1 c1 A2 n2 c2 all) 29)).alloc (by simp) (.cells (grA wn hn Ag ng cg) 32)).alloc (by simp; omega) (.cells (grA 0 0 none 0 0) 32)
  rw [World.size_alloc, World.size_alloc] at hR
  rw [World.size_alloc] at hg
  obtain ⟨W0, hW0⟩ : ∃ W0, ((w.alloc (.cells (othA W H A n c a0 a1 a2 a3 a4 a5 A0 n0 c0 A1 n1 c1 A2 n2 c2 all) 29)).alloc (.cells (grA wn hn Ag ng cg) 32)).alloc (.cells (grA 0 0 none 0 0) 32) = W0 := ⟨_, rfl⟩
  rw [hW0] at hO hg hR hb0
  have k12 : W0.cell? ⟨w.heap.size, 12, none⟩ = some (.bool all) := hO.cell 12
  clear hA h0 h1 h2 hG
  go_enter Try.func6, Try.ntmps6
  go_upto_region 1 with fail
  clear hW0
  rw [show w.heap.size + 1 + 1 = w.heap.size + 2 from rfl] at hR ⊢
  have g0 : W0.cell? ⟨w.heap.size + 1, 0, none⟩ = some (.int .i64 (wn : Int)) := hg.cell 0
  have g1 : W0.cell? ⟨w.heap.size + 1, 1, none⟩ = some (.int .i64 (hn : Int)) := hg.cell 1
  have hw1 := hwn.1
  have hw2 := hwn.2
  have hh1 := hhn.1
  have hh2 := hhn.2
  cases all with
  | true =>
    have o0 : W0.cell? ⟨w.heap.size, 0, none⟩ = some (.int .i64 W) := hO.cell 0
    have o1 : W0.cell? ⟨w.heap.size, 1, none⟩ = some (.int .i64 H) := hO.cell 1
    have o2 : W0.cell? ⟨w.heap.size, 2, none⟩ = some (.slice A n c) := hO.cell 2
    have f0 := hO.free 0
    have f1 := hO.free 1
    go_upto_region 4 with fail
    have hb1 := (hb0.setCell (p := ⟨w.heap.size, 0, none⟩) (Nat.le_refl _) (.int .i64 ((wn : Int) - 1))).setCell (p := ⟨w.heap.size, 1, none⟩) (Nat.le_refl _) (.int .i64 ((hn : Int) - 1))
    have hR1 := (hR.far (p := ⟨w.heap.size, 0, none⟩) (by simp) (.int .i64 ((wn : Int) - 1))).far (p := ⟨w.heap.size, 1, none⟩) (by simp) (.int .i64 ((hn : Int) - 1))
    have hgn := gridN_gen ((wn : Int) - 1) ((hn : Int) - 1) A n c xs ((W0.setCell ⟨w.heap.size, 0, none⟩ (.int .i64 ((wn : Int) - 1))).setCell ⟨w.heap.size, 1, none⟩ (.int .i64 ((hn : Int) - 1))) HA.out.1 (Elems.below HA.out.2 hb1)
    go_wp2_with (go_at_call 5; refine hgn.mono ?_; rintro e w5 ⟨wn', hn', A5, n5, c5, l5, rfl, _, _, _, _, hR5, hof5, hb5⟩; have hr5 := hR1.below hb5 hR1.lt; have hbb := hb1.trans (hb5.mono hb1.size); have r0 : w5.cell? ⟨w.heap.size + 2, 0, none⟩ = some (.int .i64 0) := hr5.cell 0; have r1 : w5.cell? ⟨w.heap.size + 2, 1, none⟩ = some (.int .i64 0) := hr5.cell 1; have r2 : w5.cell? ⟨w.heap.size + 2, 2, none⟩ = some (.slice none 0 0) := hr5.cell 2; have f0 := hr5.free 0; have f1 := hr5.free 1; have f2 := hr5.free 2)
    have g3 := stG_blk hr5 wn' hn' A5 n5 c5
    have hb6 := stG_below hbb (Nat.le_add_right w.heap.size 2) wn' hn' A5 n5 c5
    have hR6 := stG_row hR5 (hof5 (w.heap.size + 2) hR1.lt) wn' hn' A5 n5 c5
    have d0 : (stG w5 (w.heap.size + 2) wn' hn' A5 n5 c5).cell? ⟨w.heap.size + 2, 0, none⟩ = some (.int .i64 (wn' : Int)) := g3.cell 0
    have d1 : (stG w5 (w.heap.size + 2) wn' hn' A5 n5 c5).cell? ⟨w.heap.size + 2, 1, none⟩ = some (.int .i64 (hn' : Int)) := g3.cell 1
    have d2 : (stG w5 (w.heap.size + 2) wn' hn' A5 n5 c5).cell? ⟨w.heap.size + 2, 2, none⟩ = some (.slice A5 n5 c5) := g3.cell 2
    show bodyPost _ _ _ Exit.ret _ (stG w5 (w.heap.size + 2) wn' hn' A5 n5 c5)
    generalize stG w5 (w.heap.size + 2) wn' hn' A5 n5 c5 = w6 at *
    refine bodyPost_ret (v := grv wn' hn' A5 n5 c5) ?_ rfl ⟨wn', hn', A5, n5, c5, l5, rfl, hR6, hb6⟩
    simp [results, Try.results6, go_sem, d0, d1, d2]
  | false =>
    have hI0 : OthI w W0 (othA W H A n c a0 a1 a2 a3 a4 a5 A0 n0 c0 A1 n1 c1 A2 n2 c2 false) wn hn := ⟨hO, ⟨Ag, ng, cg, lg, hg, HG.out.below hb0, HG.out.off (by omega), HG.out.off (by omega)⟩, hR, hb0⟩
    clear hO hg hR hb0 g0 g1
    go_wp2_with fail
    clear k12
    go_loopw [5] (fun s5 wr => ∃ k : Nat, k ≤ 3 ∧ s5 = .int .i64 (k : Nat) ∧ OthI w wr (othA W H A n c a0 a1 a2 a3 a4 a5 A0 n0 c0 A1 n1 c1 A2 n2 c2 false) wn hn) (fun s5 _ => 3 - (intOf s5).toNat)
    case atStart => exact ⟨0, by omega, rfl, hI0⟩
    case round =>
      clear hI0
      obtain ⟨k, hk, rfl, hI⟩ := hrel
      by_cases hlt : k < 3
      · have d1 : decide ((k : Int) < 3) = true := decide_eq_true (by omega)
        have d2 : decide (k < 3) = true := decide_eq_true hlt
        have z3 : (k : Int) < 3 := by omega
        have z0 : (0 : Int) ≤ (k : Int) := by omega
        obtain ⟨p, q, Ap, np, cp, xp, hp, hq, hs, hxl, hcp, hAp⟩ : ∃ (p q : Int) (Ap : Option Addr) (np cp : Nat) (xp : List Int), wr.cell? ⟨w.heap.size, 3 + k * 2, none⟩ = some (.int .i64 p) ∧ wr.cell? ⟨w.heap.size, 3 + k * 2 + 1, none⟩ = some (.int .i64 q) ∧ wr.cell? ⟨w.heap.size, 9 + k, none⟩ = some (.slice Ap np cp) ∧ xp.length = np ∧ np ≤ cp ∧ Ints w Ap xp := by
          rcases (show k = 0 ∨ k = 1 ∨ k = 2 by omega) with rfl | rfl | rfl
          · exact ⟨a0, a1, A0, n0, c0, x0, hI.o.cell 3, hI.o.cell 4, hI.o.cell 9, H0.out.1.1, H0.out.1.2, H0.out.2⟩
          · exact ⟨a2, a3, A1, n1, c1, x1, hI.o.cell 5, hI.o.cell 6, hI.o.cell 10, H1.out.1.1, H1.out.1.2, H1.out.2⟩
          · exact ⟨a4, a5, A2, n2, c2, x2, hI.o.cell 7, hI.o.cell 8, hI.o.cell 11, H2.out.1.1, H2.out.1.2, H2.out.2⟩
        have x1 : np ≤ 4 ∨ 4 < np := by omega
        go_upto_if 32 with fail
        go_cut [6] from 30 to 34 (fun s6 wx => ∃ (np' : Nat) (xp' : List Int), s6 = .slice Ap np' cp ∧ xp'.length = np' ∧ Ints w Ap xp' ∧ wx = wr)
        case first =>
          rcases x1 with x1 | x1
          · have y1 : decide ((4 : Int) < (np : Int)) = false := decide_eq_false (by omega)
            have y2 : decide (4 < np) = false := decide_eq_false (by omega)
            have y3 : ¬ (4 : Int) < (np : Int) := by omega
            go_wp2_with fail
            go_meet
            exact ⟨np, xp, rfl, hxl, hAp, rfl⟩
          · have y1 : decide ((4 : Int) < (np : Int)) = true := decide_eq_true (by omega)
            have y2 : decide (4 < np) = true := decide_eq_true (by omega)
            have y3 : (4 : Int) < (np : Int) := by omega
            have y4 : (4 : Int) ≤ (cp : Int) := by omega
            have y5 : 4 ≤ cp := by omega
            go_wp2_with fail
            go_meet
            exact ⟨4, xp.take 4, rfl, by rw [List.length_take]; omega, Ints.take hAp 4, rfl⟩
        case rest =>
        obtain ⟨np', xp', rfl, hxl', hAp', hwx⟩ := hcut
        rename World => wx
        subst hwx
        obtain ⟨hO, ⟨A5, n5, c5, l5, hg, hR5, hof1, hof2⟩, hR, hb⟩ := hI
        obtain ⟨ap, bp, p1, p2, p3, p4, p5⟩ := rem_facts p wn (by omega) (by omega)
        obtain ⟨aq, bq, q1, q2, q3, q4, q5⟩ := rem_facts q hn (by omega) (by omega)
        have e1 : IntKind.i64.wrap (ap + (wn : Int)) = ap + (wn : Int) := by
          rw [IntKind.wrap_i64]
          omega
        have e2 : IntKind.i64.wrap (aq + (hn : Int)) = aq + (hn : Int) := by
          rw [IntKind.wrap_i64]
          omega
        have v1 : ¬ (wn : Int) = 0 := by omega
        have v2 : ((wn : Int) == 0) = false := by
          rw [beq_eq_false_iff_ne]
          exact v1
        have v3 : ¬ wn = 0 := by omega
        have v4 : ¬ (hn : Int) = 0 := by omega
        have v5 : ((hn : Int) == 0) = false := by
          rw [beq_eq_false_iff_ne]
          exact v4
        have v6 : ¬ hn = 0 := by omega
        go_upto_region 11 with fail
        have g0 : wx.drew.cell? ⟨w.heap.size + 1, 0, none⟩ = some (.int .i64 (wn : Int)) := hg.cell 0
        have g1 : wx.drew.cell? ⟨w.heap.size + 1, 1, none⟩ = some (.int .i64 (hn : Int)) := hg.cell 1
        have g2 : wx.drew.cell? ⟨w.heap.size + 1, 2, none⟩ = some (.slice A5 n5 c5) := hg.cell 2
        have hS1 : wx.drew.cell? ⟨w.heap.size + 1, 0, none⟩ = some (.int .i64 (wn : Int)) ∧ wx.drew.cell? ⟨w.heap.size + 1, 1, none⟩ = some (.int .i64 (hn : Int)) ∧ wx.drew.cell? ⟨w.heap.size, 3 + k * 2, none⟩ = some (.int .i64 p) ∧ wx.drew.cell? ⟨w.heap.size, 3 + k * 2 + 1, none⟩ = some (.int .i64 q) := ⟨g0, g1, hp, hq⟩
        have hcl := cells_gen Ap np' cp xp' wx.drew hxl' (Elems.below hAp' hb.drew)
        have hgd := hg.drew
        have hbd := hb.drew
        have hxl1 : (cellsP xp').length ≤ 160 := cellsP_len xp'
        have hz : ∀ W, Below wx.drew.heap.size wx.drew W → (W.cell? ⟨w.heap.size + 1, 0, none⟩ = some (.int .i64 (wn : Int)) ∧ W.cell? ⟨w.heap.size + 1, 1, none⟩ = some (.int .i64 (hn : Int)) ∧ W.cell? ⟨w.heap.size, 3 + k * 2, none⟩ = some (.int .i64 p) ∧ W.cell? ⟨w.heap.size, 3 + k * 2 + 1, none⟩ = some (.int .i64 q)) := fun W hW => ⟨keepc hW hS1.1, keepc hW hS1.2.1, keepc hW hS1.2.2.1, keepc hW hS1.2.2.2⟩
        have HZ := Lib.hid hz
        have hput := fun W hW m A3 c3 l3 (h3 : RowS W A3 m c3 l3) (hm : m ≤ 160) => putGR_gen wn hn A5 n5 c5 l5 bp bq A3 m c3 l3 W (by omega) (by omega) hm ((hR5.below (Below.refl _ _).drew).below (show Below wx.drew.heap.size wx.drew W from hW)) h3
        have HP := Lib.hid hput
        clear hz hput
        refine wp_region_held_drew (S := fun w' => w'.cell? ⟨w.heap.size + 1, 0, none⟩ = some (.int .i64 (wn : Int)) ∧ w'.cell? ⟨w.heap.size + 1, 1, none⟩ = some (.int .i64 (hn : Int)) ∧ w'.cell? ⟨w.heap.size, 3 + k * 2, none⟩ = some (.int .i64 p) ∧ w'.cell? ⟨w.heap.size, 3 + k * 2 + 1, none⟩ = some (.int .i64 q)) (by kernel_rfl) hS1 (fun hHeld => ?_)
        refine wpAnyH_take (i := 1) (v := ?v1) rfl (by kernel_rfl) (by kernel_rfl) (by kernel_rfl) (fun _ _ _ h => h) (Or.inl ⟨by rfl, ?hy1⟩) (by assumption) ?rest1
        case hy1 => (intro w hSw; (try dsimp only at hSw); go_simp; try with_reducible rfl)
        try simp only [Act.put, List.getElem_toArray, List.getElem_cons_succ, List.getElem_cons_zero, List.setIfInBounds_toArray, List.set_cons_zero, List.set_cons_succ]
        refine wpAnyH_take (i := 2) (v := ?v2) rfl (by kernel_rfl) (by kernel_rfl) (by kernel_rfl) (fun _ _ _ h => h) (Or.inl ⟨by rfl, ?hy2⟩) (by assumption) ?rest2
        case hy2 => (intro w hSw; (try dsimp only at hSw); go_simp; try with_reducible rfl)
        try simp only [Act.put, List.getElem_toArray, List.getElem_cons_succ, List.getElem_cons_zero, List.setIfInBounds_toArray, List.set_cons_zero, List.set_cons_succ]
        refine wpAnyH_take (i := 3) (v := ?v3) rfl (by kernel_rfl) (by kernel_rfl) (by kernel_rfl) (fun _ _ _ h => h) (Or.inl ⟨by rfl, ?hy3⟩) (by assumption) ?rest3
        case hy3 => (intro w hSw; (try dsimp only at hSw); go_simp; try with_reducible rfl)
        try simp only [Act.put, List.getElem_toArray, List.getElem_cons_succ, List.getElem_cons_zero, List.setIfInBounds_toArray, List.set_cons_zero, List.set_cons_succ]
        refine wpAnyH_take (i := 4) (v := ?v4) rfl (by kernel_rfl) (by kernel_rfl) (by kernel_rfl) (fun _ _ _ h => h) (Or.inl ⟨by rfl, ?hy4⟩) (by assumption) ?rest4
        case hy4 => (intro w hSw; (try dsimp only at hSw); go_simp; try with_reducible rfl)
        try simp only [Act.put, List.getElem_toArray, List.getElem_cons_succ, List.getElem_cons_zero, List.setIfInBounds_toArray, List.set_cons_zero, List.set_cons_succ]
        refine wpAnyH_take (i := 5) (v := ?v5) rfl (by kernel_rfl) (by kernel_rfl) (by kernel_rfl) (fun _ _ _ h => h) (Or.inl ⟨by rfl, ?hy5⟩) (by assumption) ?rest5
        case hy5 => (intro w hSw; (try dsimp only at hSw); go_simp; try with_reducible rfl)
        try simp only [Act.put, List.getElem_toArray, List.getElem_cons_succ, List.getElem_cons_zero, List.setIfInBounds_toArray, List.set_cons_zero, List.set_cons_succ]
        refine wpAnyH_take (i := 6) (v := ?v6) rfl (by kernel_rfl) (by kernel_rfl) (by kernel_rfl) (fun _ _ _ h => h) (Or.inl ⟨by rfl, ?hy6⟩) (by assumption) ?rest6
        case hy6 => (intro w hSw; (try dsimp only at hSw); go_simp; try with_reducible rfl)
        try simp only [Act.put, List.getElem_toArray, List.getElem_cons_succ, List.getElem_cons_zero, List.setIfInBounds_toArray, List.set_cons_zero, List.set_cons_succ]
        refine wpAnyH_take (i := 7) (v := ?v7) rfl (by kernel_rfl) (by kernel_rfl) (by kernel_rfl) (fun _ _ _ h => h) (Or.inl ⟨by rfl, ?hy7⟩) (by assumption) ?rest7
        case hy7 => (intro w hSw; (try dsimp only at hSw); go_simp; try with_reducible rfl)
        try simp only [Act.put, List.getElem_toArray, List.getElem_cons_succ, List.getElem_cons_zero, List.setIfInBounds_toArray, List.set_cons_zero, List.set_cons_succ]
        refine wpAnyH_take (i := 8) (v := ?v8) rfl (by kernel_rfl) (by kernel_rfl) (by kernel_rfl) (fun _ _ _ h => h) (Or.inl ⟨by rfl, ?hy8⟩) (by assumption) ?rest8
        case hy8 => (intro w hSw; (try dsimp only at hSw); go_simp; try with_reducible rfl)
        try simp only [Act.put, List.getElem_toArray, List.getElem_cons_succ, List.getElem_cons_zero, List.setIfInBounds_toArray, List.set_cons_zero, List.set_cons_succ]
        refine wpAnyH_take (i := 9) (v := ?v9) rfl (by kernel_rfl) (by kernel_rfl) (by kernel_rfl) (fun _ _ _ h => h) (Or.inl ⟨by rfl, ?hy9⟩) (by assumption) ?rest9
        case hy9 => (intro w hSw; (try dsimp only at hSw); go_simp; try with_reducible rfl)
        try simp only [Act.put, List.getElem_toArray, List.getElem_cons_succ, List.getElem_cons_zero, List.setIfInBounds_toArray, List.set_cons_zero, List.set_cons_succ]
        refine wpAnyH_take (i := 10) (v := ?v10) rfl (by kernel_rfl) (by kernel_rfl) (by kernel_rfl) (fun _ _ _ h => h) (Or.inl ⟨by rfl, ?hy10⟩) (by assumption) ?rest10
        case hy10 => (intro w hSw; (try dsimp only at hSw); go_simp; try with_reducible rfl)
        try simp only [Act.put, List.getElem_toArray, List.getElem_cons_succ, List.getElem_cons_zero, List.setIfInBounds_toArray, List.set_cons_zero, List.set_cons_succ]
        refine wpAnyH_take (i := 11) (v := ?v11) rfl (by kernel_rfl) (by kernel_rfl) (by kernel_rfl) (fun _ _ _ h => h) (Or.inl ⟨by rfl, ?hy11⟩) (by assumption) ?rest11
        case hy11 => (intro w hSw; (try dsimp only at hSw); go_simp; try with_reducible rfl)
        try simp only [Act.put, List.getElem_toArray, List.getElem_cons_succ, List.getElem_cons_zero, List.setIfInBounds_toArray, List.set_cons_zero, List.set_cons_succ]
        refine wpAnyH_take (i := 12) (v := ?v12) rfl (by kernel_rfl) (by kernel_rfl) (by kernel_rfl) (fun _ _ _ h => h) (Or.inl ⟨by rfl, ?hy12⟩) (by assumption) ?rest12
        case hy12 => (intro w hSw; (try dsimp only at hSw); go_simp; try with_reducible rfl)
        try simp only [Act.put, List.getElem_toArray, List.getElem_cons_succ, List.getElem_cons_zero, List.setIfInBounds_toArray, List.set_cons_zero, List.set_cons_succ]
        refine wpAnyH_take (i := 13) (v := ?v13) rfl (by kernel_rfl) (by kernel_rfl) (by kernel_rfl) (fun _ _ _ h => h) (Or.inl ⟨by rfl, ?hy13⟩) (by assumption) ?rest13
        case hy13 => (intro w hSw; (try dsimp only at hSw); go_simp; try with_reducible rfl)
        try simp only [Act.put, List.getElem_toArray, List.getElem_cons_succ, List.getElem_cons_zero, List.setIfInBounds_toArray, List.set_cons_zero, List.set_cons_succ]
        refine wpAnyH_take (i := 14) (v := ?v14) rfl (by kernel_rfl) (by kernel_rfl) (by kernel_rfl) (fun _ _ _ h => h) (Or.inl ⟨by rfl, ?hy14⟩) (by assumption) ?rest14
        case hy14 => (intro w hSw; (try dsimp only at hSw); go_simp; try with_reducible rfl)
        try simp only [Act.put, List.getElem_toArray, List.getElem_cons_succ, List.getElem_cons_zero, List.setIfInBounds_toArray, List.set_cons_zero, List.set_cons_succ]
        refine wpAnyH_take (i := 15) (v := ?v15) rfl (by kernel_rfl) (by kernel_rfl) (by kernel_rfl) (fun _ _ _ h => h) (Or.inl ⟨by rfl, ?hy15⟩) (by assumption) ?rest15
        case hy15 => (intro w hSw; (try dsimp only at hSw); go_simp; try with_reducible rfl)
        try simp only [Act.put, List.getElem_toArray, List.getElem_cons_succ, List.getElem_cons_zero, List.setIfInBounds_toArray, List.set_cons_zero, List.set_cons_succ]
        refine wpAnyH_take (i := 16) (v := ?v16) rfl (by kernel_rfl) (by kernel_rfl) (by kernel_rfl) (fun _ _ _ h => h) (Or.inl ⟨by rfl, ?hy16⟩) (by assumption) ?rest16
        case hy16 => (intro w hSw; (try dsimp only at hSw); go_simp; try with_reducible rfl)
        try simp only [Act.put, List.getElem_toArray, List.getElem_cons_succ, List.getElem_cons_zero, List.setIfInBounds_toArray, List.set_cons_zero, List.set_cons_succ]
        refine wpAnyH_take (i := 17) (v := ?v17) rfl (by kernel_rfl) (by kernel_rfl) (by kernel_rfl) (fun _ _ _ h => h) (Or.inl ⟨by rfl, ?hy17⟩) (by assumption) ?rest17
        case hy17 => (intro w hSw; (try dsimp only at hSw); go_simp; try with_reducible rfl)
        try simp only [Act.put, List.getElem_toArray, List.getElem_cons_succ, List.getElem_cons_zero, List.setIfInBounds_toArray, List.set_cons_zero, List.set_cons_succ]
        refine wpAnyH_take (i := 18) (v := ?v18) rfl (by kernel_rfl) (by kernel_rfl) (by kernel_rfl) (fun _ _ _ h => h) (Or.inl ⟨by rfl, ?hy18⟩) (by assumption) ?rest18
        case hy18 => (intro w hSw; (try dsimp only at hSw); go_simp; try with_reducible rfl)
        try simp only [Act.put, List.getElem_toArray, List.getElem_cons_succ, List.getElem_cons_zero, List.setIfInBounds_toArray, List.set_cons_zero, List.set_cons_succ]
        refine wpAnyH_take (i := 19) (v := ?v19) rfl (by kernel_rfl) (by kernel_rfl) (by kernel_rfl) (fun _ _ _ h => h) (Or.inl ⟨by rfl, ?hy19⟩) (by assumption) ?rest19
        case hy19 => (intro w hSw; (try dsimp only at hSw); go_simp; try with_reducible rfl)
        try simp only [Act.put, List.getElem_toArray, List.getElem_cons_succ, List.getElem_cons_zero, List.setIfInBounds_toArray, List.set_cons_zero, List.set_cons_succ]
        refine wpAnyH_take (i := 20) (v := ?v20) rfl (by kernel_rfl) (by kernel_rfl) (by kernel_rfl) (fun _ _ _ h => h) (Or.inl ⟨by rfl, ?hy20⟩) (by assumption) ?rest20
        case hy20 => (intro w hSw; (try dsimp only at hSw); go_simp; try with_reducible rfl)
        try simp only [Act.put, List.getElem_toArray, List.getElem_cons_succ, List.getElem_cons_zero, List.setIfInBounds_toArray, List.set_cons_zero, List.set_cons_succ]
        refine wpAnyH_take (i := 21) (v := ?v21) rfl (by kernel_rfl) (by kernel_rfl) (by kernel_rfl) (fun _ _ _ h => h) (Or.inl ⟨by rfl, ?hy21⟩) (by assumption) ?rest21
        case hy21 => (intro w hSw; (try dsimp only at hSw); go_simp; try with_reducible rfl)
        try simp only [Act.put, List.getElem_toArray, List.getElem_cons_succ, List.getElem_cons_zero, List.setIfInBounds_toArray, List.set_cons_zero, List.set_cons_succ]
        refine wpAnyH_take (i := 22) (v := ?v22) rfl (by kernel_rfl) (by kernel_rfl) (by kernel_rfl) (fun _ _ _ h => h) (Or.inl ⟨by rfl, ?hy22⟩) (by assumption) ?rest22
        case hy22 => (intro w hSw; (try dsimp only at hSw); go_simp; try with_reducible rfl)
        try simp only [Act.put, List.getElem_toArray, List.getElem_cons_succ, List.getElem_cons_zero, List.setIfInBounds_toArray, List.set_cons_zero, List.set_cons_succ]
        refine wpAnyH_take (i := 23) (v := ?v23) rfl (by kernel_rfl) (by kernel_rfl) (by kernel_rfl) (fun _ _ _ h => h) (Or.inl ⟨by rfl, ?hy23⟩) (by assumption) ?rest23
        case hy23 => (intro w hSw; (try dsimp only at hSw); go_simp; try with_reducible rfl)
        try simp only [Act.put, List.getElem_toArray, List.getElem_cons_succ, List.getElem_cons_zero, List.setIfInBounds_toArray, List.set_cons_zero, List.set_cons_succ]
        refine wpAnyH_take (i := 24) (v := ?v24) rfl (by kernel_rfl) (by kernel_rfl) (by kernel_rfl) (fun _ _ _ h => h) (Or.inl ⟨by rfl, ?hy24⟩) (by assumption) ?rest24
        case hy24 => (intro w hSw; (try dsimp only at hSw); go_simp; try with_reducible rfl)
        try simp only [Act.put, List.getElem_toArray, List.getElem_cons_succ, List.getElem_cons_zero, List.setIfInBounds_toArray, List.set_cons_zero, List.set_cons_succ]
        refine wpAnyH_take (i := 25) (v := ?v25) rfl (by kernel_rfl) (by kernel_rfl) (by kernel_rfl) (fun _ _ _ h => h) (Or.inl ⟨by rfl, ?hy25⟩) (by assumption) ?rest25
        case hy25 => (intro w hSw; (try dsimp only at hSw); go_simp; try with_reducible rfl)
        try simp only [Act.put, List.getElem_toArray, List.getElem_cons_succ, List.getElem_cons_zero, List.setIfInBounds_toArray, List.set_cons_zero, List.set_cons_succ]
        refine wpAnyH_take (i := 26) (v := ?v26) rfl (by kernel_rfl) (by kernel_rfl) (by kernel_rfl) (fun _ _ _ h => h) (Or.inl ⟨by rfl, ?hy26⟩) (by assumption) ?rest26
        case hy26 => (intro w hSw; (try dsimp only at hSw); go_simp; try with_reducible rfl)
        try simp only [Act.put, List.getElem_toArray, List.getElem_cons_succ, List.getElem_cons_zero, List.setIfInBounds_toArray, List.set_cons_zero, List.set_cons_succ]
        refine wpAnyH_take (i := 27) (v := ?v27) rfl (by kernel_rfl) (by kernel_rfl) (by kernel_rfl) (fun _ _ _ h => h) (Or.inl ⟨by rfl, ?hy27⟩) (by assumption) ?rest27
        case hy27 => (intro w hSw; (try dsimp only at hSw); go_simp; try with_reducible rfl)
        try simp only [Act.put, List.getElem_toArray, List.getElem_cons_succ, List.getElem_cons_zero, List.setIfInBounds_toArray, List.set_cons_zero, List.set_cons_succ]
        refine wpAnyH_take (i := 28) (v := ?v28) rfl (by kernel_rfl) (by kernel_rfl) (by kernel_rfl) (fun _ _ _ h => h) (Or.inl ⟨by rfl, ?hy28⟩) (by assumption) ?rest28
        case hy28 => (intro w hSw; (try dsimp only at hSw); go_simp; try with_reducible rfl)
        try simp only [Act.put, List.getElem_toArray, List.getElem_cons_succ, List.getElem_cons_zero, List.setIfInBounds_toArray, List.set_cons_zero, List.set_cons_succ]
        refine wpAnyH_take (i := 29) (v := ?v29) rfl (by kernel_rfl) (by kernel_rfl) (by kernel_rfl) (fun _ _ _ h => h) (Or.inl ⟨by rfl, ?hy29⟩) (by assumption) ?rest29
        case hy29 => (intro w hSw; (try dsimp only at hSw); go_simp; try with_reducible rfl)
        try simp only [Act.put, List.getElem_toArray, List.getElem_cons_succ, List.getElem_cons_zero, List.setIfInBounds_toArray, List.set_cons_zero, List.set_cons_succ]
        refine wpAnyH_ready (rs := [0, 30]) (by kernel_rfl) (by simp) ?_
        refine AllReadyH.cons rfl (fun K hK => ?_) (AllReadyH.cons rfl (fun K hK => ?_) AllReadyH.nil)
        · go_simp
          refine hK.out _ _ ?_ (fun hHeld => ?_)
          · first | exact hS1 | exact hS2 | exact hS3 | exact hS4
          clear hK K
          try simp only [Act.put, List.getElem_toArray, List.getElem_cons_succ, List.getElem_cons_zero, List.setIfInBounds_toArray, List.set_cons_zero, List.set_cons_succ]
          refine wpAnyH_ready (rs := [30]) (by kernel_rfl) (by simp) ?_
          refine AllReadyH.cons rfl (fun K hK => ?_) AllReadyH.nil
          · go_simp
            refine hcl.mono ?_
            rintro e w3 ⟨A3, c3, m, rfl, hR3, hne3, hb3⟩
            have hS2 := HZ.out w3 hb3
            have y2 : w3.cell? ⟨w.heap.size + 1, 2, none⟩ = some (.slice A5 n5 c5) := keepc hb3 g2
            dsimp only
            refine hK.out _ _ ?_ (fun hHeld => ?_)
            · first | exact hS1 | exact hS2 | exact hS3 | exact hS4
            clear hK K
            try simp only [Act.put, List.getElem_toArray, List.getElem_cons_succ, List.getElem_cons_zero, List.setIfInBounds_toArray, List.set_cons_zero, List.set_cons_succ]
            refine wpAnyH_ready (rs := [31]) (by kernel_rfl) (by simp) ?_
            refine AllReadyH.cons rfl (fun K hK => ?_) AllReadyH.nil
            · go_simp
              refine (HP.out w3 hb3 m A3 c3 _ hR3 (by rw [← hR3.len]; exact hxl1)).mono ?_
              rintro e w4 ⟨A4, n4, c4, l4, rfl, hR4, hof4, hb4⟩
              have hb34 := hb3.trans (hb4.mono hb3.size)
              have hS3 := HZ.out w4 hb34
              have hg4 := hgd.below hb34 hgd.lt
              have u2 : w4.cell? ⟨w.heap.size + 1, 2, none⟩ = some (.slice A5 n5 c5) := hg4.cell 2
              have f0 := hg4.free 0
              have f1 := hg4.free 1
              have f2 := hg4.free 2
              have hgs := stG_blk hg4 wn hn A4 n4 c4
              have hos := stG_only w4 (w.heap.size + 1) wn hn A4 n4 c4
              have hlo : w.heap.size < w4.heap.size := Nat.lt_trans (Nat.lt_succ_self _) hg4.lt
              have hS4 : (stG w4 (w.heap.size + 1) wn hn A4 n4 c4).cell? ⟨w.heap.size + 1, 0, none⟩ = some (.int .i64 (wn : Int)) ∧ (stG w4 (w.heap.size + 1) wn hn A4 n4 c4).cell? ⟨w.heap.size + 1, 1, none⟩ = some (.int .i64 (hn : Int)) ∧ (stG w4 (w.heap.size + 1) wn hn A4 n4 c4).cell? ⟨w.heap.size, 3 + k * 2, none⟩ = some (.int .i64 p) ∧ (stG w4 (w.heap.size + 1) wn hn A4 n4 c4).cell? ⟨w.heap.size, 3 + k * 2 + 1, none⟩ = some (.int .i64 q) := ⟨hgs.cell 0, hgs.cell 1, (hos.cell' (p := ⟨w.heap.size, 3 + k * 2, none⟩) hlo (by simp)).trans hS3.2.2.1, (hos.cell' (p := ⟨w.heap.size, 3 + k * 2 + 1, none⟩) hlo (by simp)).trans hS3.2.2.2⟩
              dsimp only
              refine hK.out _ _ ?_ (fun hHeld => ?_)
              · first | exact hS1 | exact hS2 | exact hS3 | exact hS4
              clear hK K
              try simp only [Act.put, List.getElem_toArray, List.getElem_cons_succ, List.getElem_cons_zero, List.setIfInBounds_toArray, List.set_cons_zero, List.set_cons_succ]
              refine wpAnyH_ready (rs := [32]) (by kernel_rfl) (by simp) ?_
              refine AllReadyH.cons rfl (fun K hK => ?_) AllReadyH.nil
              · go_simp
                refine hK.out _ _ ?_ (fun hHeld => ?_)
                · first | exact hS1 | exact hS2 | exact hS3 | exact hS4
                clear hK K
                try simp only [Act.put, List.getElem_toArray, List.getElem_cons_succ, List.getElem_cons_zero, List.setIfInBounds_toArray, List.set_cons_zero, List.set_cons_succ]
                refine wpAnyH_done (by kernel_rfl) ?_ _
                have hb34' : Below wx.heap.size wx w4 := (Below.refl wx.heap.size wx).drew.trans hb34
                have hx1 : w.heap.size + 1 < wx.drew.heap.size := hg.lt
                have hx2 : w.heap.size + 2 < wx.drew.heap.size := hR.lt
                have hx3 : w.heap.size + 1 < w3.heap.size := Nat.lt_of_lt_of_le hx1 hb3.size
                have hx4 : w.heap.size + 2 < w3.heap.size := Nat.lt_of_lt_of_le hx2 hb3.size
                have hf1 := hof4 (w.heap.size + 1) hx3 hof1
                have hf2 := hof4 (w.heap.size + 2) hx4 hof2
                have hI5 : OthI w (stG w4 (w.heap.size + 1) wn hn A4 n4 c4) (othA W H A n c a0 a1 a2 a3 a4 a5 A0 n0 c0 A1 n1 c1 A2 n2 c2 false) wn hn :=
                  ⟨stG_far (hO.below hb34' hO.lt) (by omega) _ _ _ _ _, ⟨A4, n4, c4, l4, hgs, stG_row hR4 hf1 _ _ _ _ _, hf1, hf2⟩, stG_far (hR.below hb34' hR.lt) (by omega) _ _ _ _ _, stG_below (hb.trans (hb34'.mono hb.size)) (Nat.le_succ _) _ _ _ _ _⟩
                clear hS1 hS2 hS3 hS4 y2 u2 f0 f1 f2 hgs hos hlo HZ HP hcl g0 g1 g2 p1 p2 p3 p4 p5 q1 q2 q3 q4 q5 e1 e2 v1 v2 v3 v4 v5 v6
                go_wp2_with fail
                go_roundw
                case rel => exact ⟨k + 1, hlt, by go_num, hI5⟩
                case measure =>
                  show 3 - ((k : Int) + 1).toNat < 3 - (k : Int).toNat
                  omega
        · go_simp
          refine hcl.mono ?_
          rintro e w3 ⟨A3, c3, m, rfl, hR3, hne3, hb3⟩
          have hS2 := HZ.out w3 hb3
          have y2 : w3.cell? ⟨w.heap.size + 1, 2, none⟩ = some (.slice A5 n5 c5) := keepc hb3 g2
          dsimp only
          refine hK.out _ _ ?_ (fun hHeld => ?_)
          · first | exact hS1 | exact hS2 | exact hS3 | exact hS4
          clear hK K
          try simp only [Act.put, List.getElem_toArray, List.getElem_cons_succ, List.getElem_cons_zero, List.setIfInBounds_toArray, List.set_cons_zero, List.set_cons_succ]
          refine wpAnyH_ready (rs := [0]) (by kernel_rfl) (by simp) ?_
          refine AllReadyH.cons rfl (fun K hK => ?_) AllReadyH.nil
          · go_simp
            refine hK.out _ _ ?_ (fun hHeld => ?_)
            · first | exact hS1 | exact hS2 | exact hS3 | exact hS4
            clear hK K
            try simp only [Act.put, List.getElem_toArray, List.getElem_cons_succ, List.getElem_cons_zero, List.setIfInBounds_toArray, List.set_cons_zero, List.set_cons_succ]
            refine wpAnyH_ready (rs := [31]) (by kernel_rfl) (by simp) ?_
            refine AllReadyH.cons rfl (fun K hK => ?_) AllReadyH.nil
            · go_simp
              refine (HP.out w3 hb3 m A3 c3 _ hR3 (by rw [← hR3.len]; exact hxl1)).mono ?_
              rintro e w4 ⟨A4, n4, c4, l4, rfl, hR4, hof4, hb4⟩
              have hb34 := hb3.trans (hb4.mono hb3.size)
              have hS3 := HZ.out w4 hb34
              have hg4 := hgd.below hb34 hgd.lt
              have u2 : w4.cell? ⟨w.heap.size + 1, 2, none⟩ = some (.slice A5 n5 c5) := hg4.cell 2
              have f0 := hg4.free 0
              have f1 := hg4.free 1
              have f2 := hg4.free 2
              have hgs := stG_blk hg4 wn hn A4 n4 c4
              have hos := stG_only w4 (w.heap.size + 1) wn hn A4 n4 c4
              have hlo : w.heap.size < w4.heap.size := Nat.lt_trans (Nat.lt_succ_self _) hg4.lt
              have hS4 : (stG w4 (w.heap.size + 1) wn hn A4 n4 c4).cell? ⟨w.heap.size + 1, 0, none⟩ = some (.int .i64 (wn : Int)) ∧ (stG w4 (w.heap.size + 1) wn hn A4 n4 c4).cell? ⟨w.heap.size + 1, 1, none⟩ = some (.int .i64 (hn : Int)) ∧ (stG w4 (w.heap.size + 1) wn hn A4 n4 c4).cell? ⟨w.heap.size, 3 + k * 2, none⟩ = some (.int .i64 p) ∧ (stG w4 (w.heap.size + 1) wn hn A4 n4 c4).cell? ⟨w.heap.size, 3 + k * 2 + 1, none⟩ = some (.int .i64 q) := ⟨hgs.cell 0, hgs.cell 1, (hos.cell' (p := ⟨w.heap.size, 3 + k * 2, none⟩) hlo (by simp)).trans hS3.2.2.1, (hos.cell' (p := ⟨w.heap.size, 3 + k * 2 + 1, none⟩) hlo (by simp)).trans hS3.2.2.2⟩
              dsimp only
              refine hK.out _ _ ?_ (fun hHeld => ?_)
              · first | exact hS1 | exact hS2 | exact hS3 | exact hS4
              clear hK K
              try simp only [Act.put, List.getElem_toArray, List.getElem_cons_succ, List.getElem_cons_zero, List.setIfInBounds_toArray, List.set_cons_zero, List.set_cons_succ]
              refine wpAnyH_ready (rs := [32]) (by kernel_rfl) (by simp) ?_
              refine AllReadyH.cons rfl (fun K hK => ?_) AllReadyH.nil
              · go_simp
                refine hK.out _ _ ?_ (fun hHeld => ?_)
                · first | exact hS1 | exact hS2 | exact hS3 | exact hS4
                clear hK K
                try simp only [Act.put, List.getElem_toArray, List.getElem_cons_succ, List.getElem_cons_zero, List.setIfInBounds_toArray, List.set_cons_zero, List.set_cons_succ]
                refine wpAnyH_done (by kernel_rfl) ?_ _
                have hb34' : Below wx.heap.size wx w4 := (Below.refl wx.heap.size wx).drew.trans hb34
                have hx1 : w.heap.size + 1 < wx.drew.heap.size := hg.lt
                have hx2 : w.heap.size + 2 < wx.drew.heap.size := hR.lt
                have hx3 : w.heap.size + 1 < w3.heap.size := Nat.lt_of_lt_of_le hx1 hb3.size
                have hx4 : w.heap.size + 2 < w3.heap.size := Nat.lt_of_lt_of_le hx2 hb3.size
                have hf1 := hof4 (w.heap.size + 1) hx3 hof1
                have hf2 := hof4 (w.heap.size + 2) hx4 hof2
                have hI5 : OthI w (stG w4 (w.heap.size + 1) wn hn A4 n4 c4) (othA W H A n c a0 a1 a2 a3 a4 a5 A0 n0 c0 A1 n1 c1 A2 n2 c2 false) wn hn :=
                  ⟨stG_far (hO.below hb34' hO.lt) (by omega) _ _ _ _ _, ⟨A4, n4, c4, l4, hgs, stG_row hR4 hf1 _ _ _ _ _, hf1, hf2⟩, stG_far (hR.below hb34' hR.lt) (by omega) _ _ _ _ _, stG_below (hb.trans (hb34'.mono hb.size)) (Nat.le_succ _) _ _ _ _ _⟩
                clear hS1 hS2 hS3 hS4 y2 u2 f0 f1 f2 hgs hos hlo HZ HP hcl g0 g1 g2 p1 p2 p3 p4 p5 q1 q2 q3 q4 q5 e1 e2 v1 v2 v3 v4 v5 v6
                go_wp2_with fail
                go_roundw
                case rel => exact ⟨k + 1, hlt, by go_num, hI5⟩
                case measure =>
                  show 3 - ((k : Int) + 1).toNat < 3 - (k : Int).toNat
                  omega
      · have d1 : decide ((k : Int) < 3) = false := decide_eq_false (by omega)
        have d2 : decide (k < 3) = false := decide_eq_false hlt
        obtain ⟨hO, ⟨A5, n5, c5, l5, hg, hR5, _, hof⟩, hR, hb⟩ := hI
        have g0 : wr.cell? ⟨w.heap.size + 1, 0, none⟩ = some (.int .i64 (wn : Int)) := hg.cell 0
        have g1 : wr.cell? ⟨w.heap.size + 1, 1, none⟩ = some (.int .i64 (hn : Int)) := hg.cell 1
        have g2 : wr.cell? ⟨w.heap.size + 1, 2, none⟩ = some (.slice A5 n5 c5) := hg.cell 2
        have r0 : wr.cell? ⟨w.heap.size + 2, 0, none⟩ = some (.int .i64 0) := hR.cell 0
        have r1 : wr.cell? ⟨w.heap.size + 2, 1, none⟩ = some (.int .i64 0) := hR.cell 1
        have r2 : wr.cell? ⟨w.heap.size + 2, 2, none⟩ = some (.slice none 0 0) := hR.cell 2
        have f0 := hR.free 0
        have f1 := hR.free 1
        have f2 := hR.free 2
        go_wp2_with fail
        have g3 := stG_blk hR wn hn A5 n5 c5
        have hb6 := stG_below hb (Nat.le_add_right w.heap.size 2) wn hn A5 n5 c5
        have hR6 := stG_row hR5 hof wn hn A5 n5 c5
        have d0 : (stG wr (w.heap.size + 2) wn hn A5 n5 c5).cell? ⟨w.heap.size + 2, 0, none⟩ = some (.int .i64 (wn : Int)) := g3.cell 0
        have d1 : (stG wr (w.heap.size + 2) wn hn A5 n5 c5).cell? ⟨w.heap.size + 2, 1, none⟩ = some (.int .i64 (hn : Int)) := g3.cell 1
        have d2 : (stG wr (w.heap.size + 2) wn hn A5 n5 c5).cell? ⟨w.heap.size + 2, 2, none⟩ = some (.slice A5 n5 c5) := g3.cell 2
        show bodyPost _ _ _ Exit.ret _ (stG wr (w.heap.size + 2) wn hn A5 n5 c5)
        generalize stG wr (w.heap.size + 2) wn hn A5 n5 c5 = w6 at *
        refine bodyPost_ret (v := grv wn hn A5 n5 c5) ?_ rfl ⟨wn, hn, A5, n5, c5, l5, rfl, hR6, hb6⟩
        simp [results, Try.results6, go_sem, d0, d1, d2]
end Go.Proofs.Ytpjafocgabhieaa
