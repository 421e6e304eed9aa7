/- The row of counts while one box is counted in. -/
import Derived.Test.YtmdgjmmkegkonaaDoorTilQ
import Derived.Test.YtmdgjmmkegkonaaDoorSplW
import Derived.Deep.OwnRows
namespace Go.Proofs.YtmdgjmmkegkonaaDoor
open Go.RowKit
/-- The row of counts behind k boxes, nothing else turned. -/
def TilI (w7 wr : World) (gi N wn k : Nat) (l : List Rc) : Prop := Only gi w7 wr ∧ wr.rowIs gi 3 N (fun i => .int .i64 ((cntR wn (l.take k) i : Nat) : Int))
def tilv (wn k : Nat) (l : List Rc) (z : Rc) (y x : Int) (i : Nat) : Nat := cntR wn (l.take k) i + part wn z y x i
/-- The row while the box z is counted in: the loops stand at (x, y). -/
def TilJ (w8 wy : World) (gi N wn k : Nat) (l : List Rc) (z : Rc) (y x : Int) : Prop := Only gi w8 wy ∧ wy.rowIs gi 3 N (fun i => .int .i64 ((tilv wn k l z y x i : Nat) : Int))
theorem cnt_le (l : List Rc) (x y : Int) : cnt l x y ≤ l.length := by
  induction l with
  | nil => simp [cnt]
  | cons b l ih =>
    have h4 : cnt (b :: l) x y = isIn x y b + cnt l x y := by simp [cnt]
    have h5 : isIn x y b ≤ 1 := by unfold isIn; split <;> omega
    rw [h4, List.length_cons]
    omega
theorem part_le (wn : Nat) (b : Rc) (y x : Int) (i : Nat) : part wn b y x i ≤ 1 := by
  unfold part partc
  split <;> omega
theorem tilv_le (wn k : Nat) (l : List Rc) (z : Rc) (y x : Int) (i : Nat) (hl : l.length ≤ 31) : tilv wn k l z y x i ≤ 32 := by
  have h1 := part_le wn z y x i
  have h2 : cntR wn (l.take k) i ≤ (l.take k).length := cnt_le _ _ _
  rw [List.length_take] at h2
  unfold tilv
  omega
theorem TilJ.start {w7 wr : World} {gi N wn k : Nat} {l : List Rc} (h : TilI w7 wr gi N wn k l) (z : Rc) (o : Obj) : TilJ (wr.alloc o) (wr.alloc o) gi N wn k l z z.y z.x :=
  ⟨only_refl _ _, (h.2.alloc o).congr fun i _ => by unfold tilv; rw [part_start, Nat.add_zero]⟩
theorem TilJ.row {w8 wy : World} {gi N wn k : Nat} {l : List Rc} {z : Rc} {y : Int} (h : TilJ w8 wy gi N wn k l z y (z.x + z.w)) : TilJ w8 wy gi N wn k l z (y + 1) z.x :=
  ⟨h.1, h.2.congr fun i _ => by unfold tilv; rw [part_row]⟩
theorem TilJ.fin {w7 wr wy : World} {gi N wn k : Nat} {l : List Rc} {z : Rc} {x : Int} {o : Obj} (h0 : TilI w7 wr gi N wn k l) (h : TilJ (wr.alloc o) wy gi N wn k l z (z.y + z.h) x) (hz : l.take (k + 1) = l.take k ++ [z]) : TilI w7 wy gi N wn (k + 1) l :=
  ⟨only_trans (only_alloc h0.1 o) h.1, h.2.congr fun i _ => by unfold tilv; rw [part_end, hz]⟩
theorem TilJ.below {w8 wy wz : World} {gi N wn k : Nat} {l : List Rc} {z : Rc} {y x : Int} (h : TilJ w8 wy gi N wn k l z y x) (hb : Below wy.heap.size wy wz) : TilJ w8 wz gi N wn k l z y x :=
  ⟨h.1.trans ⟨hb.os, hb.tape, hb.output, hb.size, fun k hk _ => hb.block k hk⟩, h.2.of_block (hb.block _ h.2.lt)⟩
theorem TilJ.put {w8 wy : World} {gi N wn k : Nat} {l : List Rc} {z : Rc} {y x : Nat} (h : TilJ w8 wy gi N wn k l z y x) (hx : x < wn) (h1 : z.x ≤ x) (h2 : (x : Int) < z.x + z.w) (h3 : z.y ≤ y) (h4 : (y : Int) < z.y + z.h) (v : Int) (hv : v = ((tilv wn k l z y x (y * wn + x) : Nat) : Int)) :
    TilJ w8 (wy.setCell ⟨gi, y * wn + x, none⟩ (.int .i64 (v + 1))) gi N wn k l z y ((x : Int) + 1) := by
  refine ⟨only_set h.1 _ _, (h.2.set (y * wn + x) (.int .i64 (v + 1))).congr fun i _ => ?_⟩
  subst hv
  have hp := part_step wn z y x i hx h1 h2 h3 h4
  by_cases hi : i = y * wn + x
  · rw [if_pos hi] at hp
    rw [if_pos hi, hi]
    rw [hi] at hp
    unfold tilv
    rw [hp]
    congr 1
  · rw [if_neg hi] at hp ⊢
    unfold tilv
    rw [hp]
theorem box_fit {w : World} {b : Nat} {t : Tr} {rc : Rc} {nw : Int} (h : Lay w b t rc nw) {z : Rc} (hz : z ∈ boxes t rc) : rc.x ≤ z.x ∧ rc.y ≤ z.y ∧ 1 ≤ z.w ∧ 1 ≤ z.h ∧ z.x + z.w ≤ rc.x + rc.w ∧ z.y + z.h ≤ rc.y + rc.h := by
  obtain ⟨u, hu, rfl⟩ := boxes_mem hz
  have h1 := box_ok t rc h.rc h.nums h.fits u hu
  have h2 := box_in t rc h.rc h.nums h.fits u hu
  exact ⟨h2.1, h2.2.2.1, h1.w1, h1.h1, h2.2.1, h2.2.2.2⟩
/-- The box as natural numbers. -/
theorem box_nat {w : World} {b : Nat} {t : Tr} {rc : Rc} {nw : Int} (h : Lay w b t rc nw) {wn hn : Nat} (hrc : (⟨0, 0, (wn : Int), (hn : Int)⟩ : Rc) = rc) {z : Rc} (hz : z ∈ boxes t rc) : ∃ X Y W H : Nat, z = ⟨(X : Int), (Y : Int), (W : Int), (H : Int)⟩ ∧ 1 ≤ W ∧ 1 ≤ H ∧ X + W ≤ wn ∧ Y + H ≤ hn := by
  obtain ⟨h1, h2, h3, h4, h5, h6⟩ := box_fit h hz
  subst hrc
  simp only at h1 h2 h5 h6
  obtain ⟨zx, zy, zw, zh⟩ := z
  simp only at h1 h2 h3 h4 h5 h6
  obtain ⟨X, rfl⟩ := Int.eq_ofNat_of_zero_le h1
  obtain ⟨Y, rfl⟩ := Int.eq_ofNat_of_zero_le h2
  obtain ⟨W, rfl⟩ := Int.eq_ofNat_of_zero_le (show 0 ≤ zw by omega)
  obtain ⟨H, rfl⟩ := Int.eq_ofNat_of_zero_le (show 0 ≤ zh by omega)
  exact ⟨X, Y, W, H, rfl, by omega, by omega, by omega, by omega⟩
theorem lat_below {w w' : World} {B b : Nat} {t : Tr} {rc : Rc} {nw : Int} (h : LAt w b t rc nw) (hb : Below B w w') (h1 : b < B) (h2 : ∀ k ∈ t.bl, k < B) : LAt w' b t rc nw := ⟨h.blk.below hb h1, h.tree.below hb h2⟩
/-- The pane whose box holds the place. -/
theorem at_box {w : World} {b : Nat} {t : Tr} {rc : Rc} {nw : Int} (h : Lay w b t rc nw) {k : Nat} {p : Int × Rc} (hp : (panesP t rc)[k]? = some p) {x y : Int} (hx : inR p.2 x y = true) : atP t rc x y = p.1 := by
  have h1 := cnt_nds t rc h.rc h.nums h.fits x y
  have h2 : isIn x y rc ≤ 1 := by unfold isIn; split <;> omega
  have h3 := at_pane (nds t rc) x y (by omega) p.1 p.2 (List.mem_of_getElem? hp) hx
  unfold atP
  rw [h3]
  rfl
theorem boxes_pane {t : Tr} {rc : Rc} {k : Nat} (hk : k < (panesP t rc).length) {z : Rc} (hz : (boxes t rc)[k]? = some z) : ∃ i : Int, (panesP t rc)[k]? = some (i, z) := by
  unfold boxes at hz
  rw [List.getElem?_append_left (by simpa using hk), List.getElem?_map] at hz
  cases hq : (panesP t rc)[k]? with
  | none => rw [hq] at hz; cases hz
  | some p =>
    rw [hq] at hz
    obtain ⟨i, r⟩ := p
    simp only [Option.map_some, Option.some.injEq] at hz
    subst hz
    exact ⟨i, rfl⟩
/-- Behind all boxes each place is counted once. -/
theorem til_all {w w7 wr : World} {b gi N wn hn : Nat} {t : Tr} {rc : Rc} {nw : Int} (h : Lay w b t rc nw) (hrc : (⟨0, 0, (wn : Int), (hn : Int)⟩ : Rc) = rc) (hN : N = wn * hn) {k : Nat} (hk : (boxes t rc).length ≤ k) (hI : TilI w7 wr gi N wn k (boxes t rc)) : wr.rowIs gi 3 N (fun _ => .int .i64 1) :=
  hI.2.congr fun i hi => by
    have h1 := cnt_boxes t rc h.rc h.nums h.fits ((i % wn : Nat) : Int) ((i / wn : Nat) : Int)
    rw [List.take_of_length_le hk]
    unfold cntR
    rw [h1]
    have hw : 0 < wn := by
      rcases Nat.eq_zero_or_pos wn with h0 | h0
      · subst h0
        simp at hN
        omega
      · exact h0
    have hm := Nat.mod_lt i hw
    have hd : i / wn < hn := by
      rw [Nat.div_lt_iff_lt_mul hw, Nat.mul_comm]
      omega
    have h2 : isIn ((i % wn : Nat) : Int) ((i / wn : Nat) : Int) rc = 1 := by
      unfold isIn
      rw [if_pos]
      rw [inR_iff, ← hrc]
      simp only
      generalize i % wn = m at hm
      generalize i / wn = d at hd
      omega
    rw [h2]
    rfl
/-- The place in the row. -/
theorem til_place {wn hn N x y : Nat} (hN : N = wn * hn) (hw : wn ≤ 200) (hh : hn ≤ 60) (hx : x < wn) (hy : y < hn) : wrap64 ((y : Int) * (wn : Int)) = ((y * wn : Nat) : Int) ∧ wrap64 (((y * wn : Nat) : Int) + (x : Int)) = ((y * wn + x : Nat) : Int) ∧ y * wn + x < N := by
  have h1 : y * wn + wn ≤ hn * wn := by
    rw [← Nat.succ_mul]
    exact Nat.mul_le_mul_right _ hy
  have h2 : hn * wn ≤ 60 * 200 := Nat.mul_le_mul hh hw
  have h3 : (y : Int) * (wn : Int) = ((y * wn : Nat) : Int) := (Int.natCast_mul _ _).symm
  rw [h3, hN, Nat.mul_comm wn hn]
  refine ⟨?_, ?_, by omega⟩
  · unfold wrap64
    omega
  · unfold wrap64
    omega
/-- The tests of a box. -/
theorem box_tests {X Y W H XW YH wn hn : Nat} (e1 : XW = X + W) (e2 : YH = Y + H) (hw : wn ≤ 200) (hh : hn ≤ 60) (h1 : 1 ≤ W) (h2 : 1 ≤ H) (h3 : X + W ≤ wn) (h4 : Y + H ≤ hn) :
    (wrap64 ((X : Int) + (W : Int)) = (XW : Int) ∧ wrap64 ((Y : Int) + (H : Int)) = (YH : Int)) ∧
    decide ((X : Int) < 0) = false ∧ decide ((Y : Int) < 0) = false ∧ decide ((W : Int) < 1) = false ∧ decide ((H : Int) < 1) = false ∧
    decide ((wn : Int) < (XW : Int)) = false ∧ decide ((hn : Int) < (YH : Int)) = false := by
  refine ⟨⟨?_, ?_⟩, decide_eq_false ?_, decide_eq_false ?_, decide_eq_false ?_, decide_eq_false ?_, decide_eq_false ?_, decide_eq_false ?_⟩
  · unfold wrap64
    omega
  · unfold wrap64
    omega
  all_goals omega
/-- All that the step `in[y*w+x]++` wants. -/
theorem til_facts {w8 wy : World} {gi N wn hn k : Nat} {l : List Rc} {z : Rc} {y x : Nat} (h : TilJ w8 wy gi N wn k l z y x) (hl : l.length ≤ 31) (hN : N = wn * hn) (hw : wn ≤ 200) (hh : hn ≤ 60) (hx : x < wn) (hy : y < hn) (h1 : z.x ≤ x) (h2 : (x : Int) < z.x + z.w) (h3 : z.y ≤ y) (h4 : (y : Int) < z.y + z.h) :
    ∃ yw pl v v1 : Nat, wrap64 ((y : Int) * (wn : Int)) = (yw : Int) ∧ wrap64 ((yw : Int) + (x : Int)) = (pl : Int) ∧ pl < N ∧ wy.cell? ⟨gi, pl, none⟩ = some (.int .i64 (v : Int)) ∧ wy.frozen? ⟨gi, pl, none⟩ = false ∧ wrap64 ((v : Int) + 1) = (v1 : Int) ∧ TilJ w8 (wy.setCell ⟨gi, pl, none⟩ (.int .i64 (v1 : Int))) gi N wn k l z y ((x + 1 : Nat) : Int) := by
  obtain ⟨p1, p2, p3⟩ := til_place hN hw hh hx hy
  have hv := tilv_le wn k l z y x (y * wn + x) hl
  refine ⟨y * wn, y * wn + x, tilv wn k l z y x (y * wn + x), tilv wn k l z y x (y * wn + x) + 1, p1, p2, p3, h.2.cell p3, h.2.frozen _, ?_, ?_⟩
  · unfold wrap64
    omega
  · exact h.put hx h1 h2 h3 h4 _ rfl
theorem til_in {X Y W H XW YH x y : Nat} (e1 : XW = X + W) (e2 : YH = Y + H) (h1 : X ≤ x) (h2 : x < XW) (h3 : Y ≤ y) (h4 : y < YH) : inR ⟨(X : Int), (Y : Int), (W : Int), (H : Int)⟩ (x : Int) (y : Int) = true := by
  rw [inR_iff]
  simp only
  omega
theorem til_notlt {X W XW wn : Nat} (e1 : XW = X + W) (h : X + W ≤ wn) : decide (wn < XW) = false := decide_eq_false (by omega)
theorem til_le {X W XW : Nat} (e1 : XW = X + W) : X ≤ XW := by omega
theorem til_lt {X W XW x wn : Nat} (e1 : XW = X + W) (h : X + W ≤ wn) (hx : x < XW) : x < wn := by omega
theorem til_z {X W XW x : Nat} (e1 : XW = X + W) (hx : x < XW) : (x : Int) < (X : Int) + (W : Int) := by omega
theorem til_last {L P : Nat} (h : L + 1 = 2 * P) (h16 : P ≤ 16) : ∃ P2 : Nat, wrap64 (2 * (P : Int)) = (P2 : Int) ∧ wrap64 ((P2 : Int) - 1) = (L : Int) ∧ decide ((P : Int) ≤ 16) = true ∧ decide (P ≤ 16) = true := by
  refine ⟨2 * P, ?_, ?_, decide_eq_true (by omega), decide_eq_true h16⟩
  · unfold wrap64
    omega
  · unfold wrap64
    omega
theorem TilJ.finE {w8 wy : World} {gi N wn k : Nat} {l : List Rc} {X Y W H YH y : Nat} {x : Int} (e2 : YH = Y + H) (h : TilJ w8 wy gi N wn k l ⟨(X : Int), (Y : Int), (W : Int), (H : Int)⟩ (y : Int) x) (hy : y = YH) : TilJ w8 wy gi N wn k l ⟨(X : Int), (Y : Int), (W : Int), (H : Int)⟩ ((Y : Int) + (H : Int)) x := by
  subst hy e2
  exact h
theorem til_next {a b : Nat} (h : a < b) (hb : b ≤ 12000) : wrap64 ((a : Int) + 1) = ((a + 1 : Nat) : Int) := by
  unfold wrap64
  omega
theorem til_mea {y YH : Nat} (h : y < YH) (hn : wrap64 ((y : Int) + 1) = ((y + 1 : Nat) : Int)) : YH - (intOf (.int .i64 (wrap64 ((y : Int) + 1)))).toNat < YH - (intOf (.int .i64 (y : Int))).toNat := by
  rw [hn]
  simp [intOf]
  omega
theorem TilJ.rowE {w8 wy : World} {gi N wn k : Nat} {l : List Rc} {X Y W H XW y x : Nat} (e1 : XW = X + W) (h : TilJ w8 wy gi N wn k l ⟨(X : Int), (Y : Int), (W : Int), (H : Int)⟩ (y : Int) (x : Int)) (hx : x = XW) : TilJ w8 wy gi N wn k l ⟨(X : Int), (Y : Int), (W : Int), (H : Int)⟩ ((y + 1 : Nat) : Int) (X : Int) := by
  subst hx e1
  exact h.row
end Go.Proofs.YtmdgjmmkegkonaaDoor
