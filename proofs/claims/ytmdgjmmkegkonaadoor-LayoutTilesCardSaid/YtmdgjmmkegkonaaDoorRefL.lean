/- LayoutRefuses: walked. -/
import Derived.Test.YtmdgjmmkegkonaaDoorMovW
import Derived.Deep.DeepCutAuto
namespace Go.Proofs.YtmdgjmmkegkonaaDoor
open Go.RowKit
theorem any_ids (t : Tr) (r : Rc) (id : Int) : ((panesP t r).any (fun x => x.1 == id)) = decide (id ∈ t.ids) := by
  rw [← panes_ids t r]
  generalize panesP t r = l
  induction l with
  | nil => simp
  | cons x l ih =>
    simp only [List.any_cons, List.map_cons, List.mem_cons, ih]
    by_cases h : x.1 = id
    · simp [h]
    · simp [h, Ne.symm h]
theorem any_take {l : List (Int × Rc)} {k : Nat} {x : Int × Rc} (hx : l[k]? = some x) (id : Int) : (l.take (k + 1)).any (fun x => x.1 == id) = ((l.take k).any (fun x => x.1 == id) || (x.1 == id)) := by
  obtain ⟨hk, rfl⟩ := List.getElem?_eq_some_iff.1 hx
  rw [List.take_succ_eq_append_getElem hk, List.any_append]
  simp
/-- What a step leaves: the code, the layout, and the row of panes that was read ahead of it. -/
def StepS (w6 : World) (B0 b : Nat) (t : Tr) (rc : Rc) (nw : Int) (r1 c1 : Nat) (s9 s16 s18 : Value) (w' : World) : Prop :=
  ∃ (t' : Tr) (rc' : Rc) (nw' c : Int) (had : Bool), s9 = .int .i64 nw' ∧ s16 = .bool had ∧ s18 = .int .i64 c ∧ Lay w' b t' rc' nw' ∧ Lo B0 b t' ∧ nw' ≤ nw + 1 ∧ Below B0 w6 w' ∧ (c = 12 ↔ had = false) ∧ (c ≠ 0 → panesP t' rc' = panesP t rc) ∧ Pn w' r1 (panesP t rc).length c1 (panesP t rc)
theorem step_no {w6 w' : World} {B0 b : Nat} {t : Tr} {rc : Rc} {nw : Int} {r1 c1 : Nat} (hL : Lay w6 b t rc nw) (hO : Lo B0 b t) (hP : Pn w6 r1 (panesP t rc).length c1 (panesP t rc)) (hB : B0 ≤ w6.heap.size) {c : Int} {had : Bool} (hc : c = 12 ↔ had = false) (hb : Below w6.heap.size w6 w') : StepS w6 B0 b t rc nw r1 c1 (.int .i64 nw) (.bool had) (.int .i64 c) w' :=
  ⟨t, rc, nw, c, had, rfl, rfl, rfl, hL.later hb, hO, by omega, hb.mono hB, hc, fun _ => rfl, hP.later hb⟩
theorem step_ok {w6 w7 w' : World} {B0 b : Nat} {t t' : Tr} {rc rc' : Rc} {nw nw' : Int} {r1 c1 : Nat} {S : List Nat} (hL : Lay w6 b t rc nw) (hO : Lo B0 b t) (hP : Pn w6 r1 (panesP t rc).length c1 (panesP t rc)) (hB : B0 ≤ w6.heap.size) {had : Bool} (hh : had = true) (hL' : Lay w7 b t' rc' nw') (hO' : Lo B0 b t') (hn : nw' ≤ nw + 1) (hbt : But S w6 w7) (hS : ∀ k ∈ S, k = b ∨ k ∈ t.bl) (hb : Below w7.heap.size w7 w') : StepS w6 B0 b t rc nw r1 c1 (.int .i64 nw') (.bool had) (.int .i64 0) w' :=
  ⟨t', rc', nw', 0, had, rfl, rfl, rfl, hL'.later hb, hO', hn, (hbt.trans_below hb).below hB (fun k hk => by
    rcases hS k hk with h | h
    · rw [h]; exact hO.top
    · exact hO.bl k h), by simp [hh], fun h => absurd rfl h, (hP.but hbt (fun k hk => hL.tb (hS k hk))).later hb⟩
theorem Lo.move {B0 b g : Nat} {cx : Cx} {a : Bool} {p q p' q' : Int} {l tr : Tr} (h : Lo B0 b (cx.plug (.split g a p q l tr))) : Lo B0 b (cx.plug (.split g a p' q' l tr)) := ⟨h.top, fun k hk => h.bl k (by rw [plug_mem] at hk ⊢; exact hk)⟩
theorem plug_mem_ids {cx : Cx} {s : Tr} {i : Int} (h : i ∈ s.ids) : i ∈ (cx.plug s).ids := by rw [plug_ids]; simp [h]
theorem not_twelve {c : Int} {P : Prop} [Decidable P] (h : c = 12 ↔ ¬ P) : c = 12 ↔ decide P = false := by rw [h]; simp
theorem StepS.later {w6 w7 w' : World} {B0 b : Nat} {t : Tr} {rc : Rc} {nw : Int} {r1 c1 : Nat} {s9 s16 s18 : Value} (h : StepS w6 B0 b t rc nw r1 c1 s9 s16 s18 w7) (hB : B0 ≤ w6.heap.size) (hb : Below w7.heap.size w7 w') : StepS w6 B0 b t rc nw r1 c1 s9 s16 s18 w' := by
  obtain ⟨t', rc', nw', c, had, h1, h2, h3, h4, h5, h6, h7, h8, h9, h10⟩ := h
  exact ⟨t', rc', nw', c, had, h1, h2, h3, h4.later hb, h5, h6, h7.trans (hb.mono (Nat.le_trans hB h7.size)), h8, h9, h10.later hb⟩
theorem StepS.below {w6 w7 : World} {B0 b : Nat} {t : Tr} {rc : Rc} {nw : Int} {r1 c1 : Nat} {s9 s16 s18 : Value} (h : StepS w6 B0 b t rc nw r1 c1 s9 s16 s18 w7) : Below B0 w6 w7 := by
  obtain ⟨t', rc', nw', c, had, h1, h2, h3, h4, h5, h6, h7, h8, h9, h10⟩ := h
  exact h7
/-- An error of the code c. -/
def IsC (v : Value) (c : Int) : Prop := (c = 0 ∧ v = .nilIface) ∨ v = .iface 37 (.int .i64 c)
theorem code_any {v : Value} {c : Int} (h : IsC v c) (w : World) (hg : ErrT w) : Calls Tryd.prog 12 #[v] w fun e w' => e = .returned (.int .i64 c) ∧ Below w.heap.size w w' := by
  rcases h with ⟨rfl, rfl⟩ | rfl
  · exact code_nil w
  · exact code_hit c w hg
section
variable {w6 w7 : World} {B0 b : Nat} {t : Tr} {rc : Rc} {nw id : Int} {r1 c1 : Nat} {e : Ending}
theorem close_s (hL6 : Lay w6 b t rc nw) (hO : Lo B0 b t) (hP : Pn w6 r1 (panesP t rc).length c1 (panesP t rc)) (hw6 : B0 ≤ w6.heap.size) (h7 : CloseOk w6 w7 b t rc nw id e) : ∃ v c, e = .returned v ∧ IsC v c ∧ StepS w6 B0 b t rc nw r1 c1 (.int .i64 nw) (.bool (decide (id ∈ t.ids))) (.int .i64 c) w7 := by
  rcases h7 with ⟨cc, hcc, h12, _, rfl, hb7⟩ | ⟨cx, lf, gu, aa, p', q', gp, o, rfl, _, _, rfl, hL7, hbt7⟩
  · exact ⟨_, cc, rfl, .inr rfl, step_no hL6 hO hP hw6 (not_twelve h12) hb7⟩
  · exact ⟨_, 0, rfl, .inl ⟨rfl, rfl⟩, step_ok hL6 hO hP hw6 (decide_eq_true (plug_mem_ids (sib_mem lf gu aa p' q' gp id o))) hL7 hO.close (by omega) hbt7 (fun k hk => .inr (by simp at hk; rw [hk]; exact plug_mem.2 (.inr ((sib_bl lf gu aa p' q' gp id o).mem_iff.2 (by simp))))) (Below.refl _ _)⟩
theorem move_s (hL6 : Lay w6 b t rc nw) (hO : Lo B0 b t) (hP : Pn w6 r1 (panesP t rc).length c1 (panesP t rc)) (hw6 : B0 ≤ w6.heap.size) (h7 : MoveOk w6 w7 b t rc nw id e) : ∃ v c, e = .returned v ∧ IsC v c ∧ StepS w6 B0 b t rc nw r1 c1 (.int .i64 nw) (.bool (decide (id ∈ t.ids))) (.int .i64 c) w7 := by
  rcases h7 with ⟨cc, hcc, h12, rfl, hb7⟩ | ⟨cx, g, aa, p0, q0, p', q', l0, tr, rfl, hid, rfl, hL7, hbt7⟩
  · exact ⟨_, cc, rfl, .inr rfl, step_no hL6 hO hP hw6 (not_twelve h12) hb7⟩
  · exact ⟨_, 0, rfl, .inl ⟨rfl, rfl⟩, step_ok hL6 hO hP hw6 (decide_eq_true hid) hL7 hO.move (by omega) hbt7 (fun k hk => .inr (by simp at hk; rw [hk]; exact plug_mem.2 (.inr (by simp [Tr.bl])))) (Below.refl _ _)⟩
theorem split_s {aa : Bool} (hL6 : Lay w6 b t rc nw) (hO : Lo B0 b t) (hP : Pn w6 r1 (panesP t rc).length c1 (panesP t rc)) (hw6 : B0 ≤ w6.heap.size) (h7 : SplitOk w6 w7 b t rc nw id aa e) : ∃ v c k, e = .returned (.tuple #[.int .i64 k, v]) ∧ IsC v c ∧ ((c ≠ 0 ∧ k = 0 ∧ StepS w6 B0 b t rc nw r1 c1 (.int .i64 nw) (.bool (decide (id ∈ t.ids))) (.int .i64 c) w7) ∨ (c = 0 ∧ k = nw + 1 ∧ StepS w6 B0 b t rc nw r1 c1 (.int .i64 (nw + 1)) (.bool (decide (id ∈ t.ids))) (.int .i64 c) w7)) := by
  rcases h7 with ⟨cc, hcc, h12, _, rfl, hb7⟩ | ⟨cx, g, g1, g2, rfl, _, rfl, hL7, hbt7, hg1, hg2⟩
  · exact ⟨_, cc, _, rfl, .inr rfl, .inl ⟨hcc, rfl, step_no hL6 hO hP hw6 (not_twelve h12) hb7⟩⟩
  · have hid : id ∈ (cx.plug (.pane g id)).ids := by rw [plug_ids]; simp [Tr.ids]
    exact ⟨_, 0, _, rfl, .inl ⟨rfl, rfl⟩, .inr ⟨rfl, rfl, step_ok hL6 hO hP hw6 (decide_eq_true hid) hL7 (hO.split (Nat.le_trans hw6 hg1) hg2) (by omega) hbt7 (fun k hk => by simp at hk; rcases hk with rfl | rfl; exact .inl rfl; exact .inr (plug_mem.2 (.inr (by simp [Tr.bl])))) (Below.refl _ _)⟩⟩
theorem resize_s {x y : Int} (hL6 : Lay w6 b t rc nw) (hO : Lo B0 b t) (hP : Pn w6 r1 (panesP t rc).length c1 (panesP t rc)) (hw6 : B0 ≤ w6.heap.size) (h7 : ResizeOk w6 w7 b t nw x y e) : ∃ v c, e = .returned v ∧ IsC v c ∧ StepS w6 B0 b t rc nw r1 c1 (.int .i64 nw) (.bool true) (.int .i64 c) w7 := by
  rcases h7 with ⟨cc, hcc, h12, rfl, hb7⟩ | ⟨_, _, _, _, rfl, hL7, hbt7⟩
  · exact ⟨_, cc, rfl, .inr rfl, step_no hL6 hO hP hw6 (by simp [h12]) hb7⟩
  · exact ⟨_, 0, rfl, .inl ⟨rfl, rfl⟩, step_ok hL6 hO hP hw6 rfl hL7 hO (by omega) hbt7 (fun k hk => .inl (by simpa using hk)) (Below.refl _ _)⟩
end
set_option maxRecDepth 100000 in
set_option maxHeartbeats 4000000 in
theorem layoutRefuses_walk (x y : Int) (A : Option Addr) (n c : Nat) (w : World) (hA : OpsAt w A n) (hn : n ≤ maxLen) (hg : ErrT w) :
    Calls Tryd.prog 5 #[.agg #[.int .i64 x, .int .i64 y], .slice A n c] w fun e w' => e = .returned (.bool true) ∧ Below w.heap.size w w' := by
  unfold maxLen at hn
  have hb0 := (Below.refl w.heap.size w).alloc (Nat.le_refl _) (.cells #[.int .i64 x, .int .i64 y] 22)
  have hq := Blk.new w 22 #[.int .i64 x, .int .i64 y]
  go_enter Tryd.func5, Tryd.ntmps5
  go_upto_region 1 with fail
  generalize w.alloc (.cells #[.int .i64 x, .int .i64 y] 22) = w0 at hb0 hq ⊢
  have hawk := awake_any w0
  go_upto_region 2 with (go_at_call 7; refine hawk.mono ?_; rintro e w1 ⟨rfl, hb1⟩)
  have hq1 := hq.below hb1 hq.lt
  have q0 := hq1.cell 0
  have q1 := hq1.cell 1
  have hsz := size_any x y w1
  go_upto_region 3 with (go_at_call 8; refine hsz.mono ?_; rintro e w2 ⟨⟨p, q, rfl, hp1, hp2, hq1', hq2⟩, hb2⟩)
  have hnew := new_any (p : Int) (q : Int) w2 ⟨by omega, by omega, by omega, by omega⟩
  go_upto_region 4 with (go_at_call 9; refine hnew.mono ?_; rintro e w3 ⟨rfl, hL3, hb3⟩)
  have hb02 := hb0.trans (((hb1.trans (hb2.mono hb1.size))).mono hb0.size)
  have hb03 := hb02.trans (hb3.mono hb02.size)
  have hA3 := hA.below hb03
  have hLay := new_lay hL3 ⟨hp1, by omega⟩ ⟨hq1', by omega⟩
  have hLo : Lo w2.heap.size (w2.heap.size + 1) (.pane w2.heap.size 1) := ⟨by omega, fun k hk => by simp [Tr.bl] at hk; omega⟩
  have hws : w2.heap.size ≤ w3.heap.size := hb3.size
  clear hawk hsz hnew hq hq1 q0 q1 hL3 hb1 hb2 hb0 hb3
  generalize Tr.pane w2.heap.size 1 = t0 at hLay hLo
  generalize hb : w2.heap.size + 1 = b at hLay hLo ⊢
  obtain ⟨B0, hB0⟩ : ∃ B0, B0 = w2.heap.size := ⟨_, rfl⟩
  rw [← hB0] at hLo hws
  have hwB0 : w.heap.size ≤ B0 := by rw [hB0]; exact hb02.size
  clear hb hb02 hB0
  generalize hrc : (⟨0, 0, (p : Int), (q : Int)⟩ : Rc) = rc at hLay
  clear hrc
  go_upto_block 0 with fail
  go_wp2_with fail
  go_loopw [9, 10] (fun s9 x wr => ∃ (k : Nat) (t : Tr) (rc : Rc) (nw : Int), k ≤ 40 ∧ k ≤ n ∧ x = .int .i64 (k : Nat) ∧ s9 = .int .i64 nw ∧ Lay wr b t rc nw ∧ Lo B0 b t ∧ nw ≤ 1 + k ∧ Below B0 w3 wr) (fun _ x _ => 40 - (intOf x).toNat)
  case atStart => exact ⟨0, t0, rc, 1, by omega, by omega, rfl, rfl, hLay, hLo, by omega, Below.refl _ _⟩
  case round =>
    clear hLay hLo
    obtain ⟨k, t, rc, nw, hk20, hkn, rfl, rfl, hL, hO, hnw, hbr⟩ := hrel
    by_cases hlt : k < n ∧ k < 40
    · have hd1 : decide ((k : Int) < (n : Int)) = true := decide_eq_true (by omega)
      have hd2 : decide ((k : Int) < 40) = true := decide_eq_true (by omega)
      have hd3 : decide (k < n) = true := decide_eq_true hlt.1
      have hd4 : decide (k < 40) = true := decide_eq_true hlt.2
      obtain ⟨ad, rfl, kd', id', by'', hi', a', nr', hf, hc⟩ := hA k hlt.1
      have hbw : Below w.heap.size w wr := hb03.trans (hbr.mono hwB0)
      have e0 : wr.cell? (ad.add (k * 6)) = some (.int .i64 kd') := keepc hbw (hc 0 _ rfl)
      have e1 : wr.cell? ⟨(ad.add (k * 6)).block, (ad.add (k * 6)).off + 1, none⟩ = some (.int .i64 id') := keepc hbw (hc 1 _ rfl)
      have e2 : wr.cell? ⟨(ad.add (k * 6)).block, (ad.add (k * 6)).off + 2, none⟩ = some (.int .i64 by'') := keepc hbw (hc 2 _ rfl)
      have e3 : wr.cell? ⟨(ad.add (k * 6)).block, (ad.add (k * 6)).off + 3, none⟩ = some (.int .i64 hi') := keepc hbw (hc 3 _ rfl)
      have e4 : wr.cell? ⟨(ad.add (k * 6)).block, (ad.add (k * 6)).off + 4, none⟩ = some (.bool a') := keepc hbw (hc 4 _ rfl)
      have e5 : wr.cell? ⟨(ad.add (k * 6)).block, (ad.add (k * 6)).off + 5, none⟩ = some (.bool nr') := keepc hbw (hc 5 _ rfl)
      obtain ⟨kq, hkq, hkqe⟩ := and_low kd' 7 7 rfl (by omega)
      have hbx := (Below.refl wr.heap.size wr).alloc (Nat.le_refl _) (.cells #[.int .i64 kd', .int .i64 id', .int .i64 by'', .int .i64 hi', .bool a', .bool nr'] 25)
      have hox := Blk.new wr 25 #[.int .i64 kd', .int .i64 id', .int .i64 by'', .int .i64 hi', .bool a', .bool nr']
      have hLx := hL.later hbx
      have hwx : B0 ≤ wr.heap.size := Nat.le_trans hws hbr.size
      go_upto_region 11 with fail
      generalize wr.alloc (.cells #[.int .i64 kd', .int .i64 id', .int .i64 by'', .int .i64 hi', .bool a', .bool nr'] 25) = wx at *
      have x0 := hox.cell 0
      have x1 := hox.cell 1
      have x2 := hox.cell 2
      have x3 := hox.cell 3
      have x4 := hox.cell 4
      have x5 := hox.cell 5
      have hop := op_any kd' id' by'' hi' a' nr' wx hf.2
      clear hL hc hf e0 e1 e2 e3 e4 e5 hbw hA hA3
      go_upto_region 12 with (go_at_call 15; refine hop.mono ?_; rintro e w5 ⟨⟨id, n1, m1, rfl, hfi, hfn, hfm⟩, hb5⟩)
      clear hop x0 x1 x2 x3 x4 x5
      have hL5 := hLx.later hb5
      have hpan := panes_any b t rc nw w5 hL5.mem hL5.rc hL5.nums hL5.fits hL5.nl
      go_upto_block 2 with (go_at_call 11; refine hpan.mono ?_; rintro e w6 ⟨⟨v, rfl, hv⟩, hb6⟩; obtain ⟨r1, c1, rfl, _, hP⟩ := Pn.of_own hv (panes_ne t rc))
      have hL6 := hL5.later hb6
      have hox6 := hox.below (hb5.trans (hb6.mono hb5.size)) hox.lt
      have hb36 : Below B0 w3 w6 := hbr.trans ((hbx.mono hwx).trans ((hb5.mono (Nat.le_trans hwx hbx.size)).trans (hb6.mono (Nat.le_trans hwx (Nat.le_trans hbx.size hb5.size)))))
      have hw6 : B0 ≤ w6.heap.size := Nat.le_trans hws hb36.size
      have hids := any_ids t rc id
      clear hpan hv hL5 hLx hb5 hb6 hbx hox
      go_cut [16] (fun s16 w' => s16 = .bool (decide (id ∈ t.ids)) ∧ w6 = w')
      case first =>
        have hfew : (panesP t rc).length ≤ 16 := by rw [panes_len]; exact hL6.few
        have hca := hP.cap
        have hba := hP.big
        go_wp2_with fail
        go_loopw [16, 17] (fun s16 x w' => ∃ j : Nat, j ≤ (panesP t rc).length ∧ x = .int .i64 (j : Nat) ∧ s16 = .bool (((panesP t rc).take j).any (fun x => x.1 == id)) ∧ w6 = w') (fun _ x _ => (panesP t rc).length - (intOf x).toNat)
        case atStart => exact ⟨0, Nat.zero_le _, rfl, rfl, rfl⟩
        case round =>
          obtain ⟨j, hj, rfl, rfl, rfl⟩ := hrel
          by_cases hlj : j < (panesP t rc).length
          · have hx : (panesP t rc)[j]? = some (panesP t rc)[j] := List.getElem?_eq_getElem hlj
            generalize (panesP t rc)[j] = v at hx
            have a0 : w6.cell? ⟨r1, j * 5, none⟩ = some (.int .i64 v.1) := hP.at' j v hx 0 _ rfl
            have hT := Lib.hid (any_take hx id)
            have hdj : decide ((j : Int) < ((panesP t rc).length : Int)) = true := decide_eq_true (by omega)
            have hdj2 : decide (j < (panesP t rc).length) = true := decide_eq_true hlj
            generalize hq : ((panesP t rc).take j).any (fun x => x.1 == id) = qb at *
            clear hP hx hL6 hids hq
            cases qb
            · go_wp2_with fail
              go_round
              case rel => exact ⟨j + 1, by omega, by go_num, by rw [hT.out]; simp, trivial⟩
              case measure => simp [intOf]; omega
            · go_wp2_with fail
              go_round
              case rel => exact ⟨j + 1, by omega, by go_num, by rw [hT.out]; simp, trivial⟩
              case measure => simp [intOf]; omega
          · have hdj : decide ((j : Int) < ((panesP t rc).length : Int)) = false := decide_eq_false (by omega)
            have hdj2 : decide (j < (panesP t rc).length) = false := decide_eq_false hlj
            obtain rfl : j = (panesP t rc).length := by omega
            rw [List.take_length, hids]
            clear hP hL6 hids
            go_wp2_with fail
            go_meet
            exact ⟨rfl, rfl⟩
      case rest =>
      obtain ⟨rfl, rfl⟩ := hcut
      have z0 := hox6.cell 0
      have z4 := hox6.cell 4
      have hg6 : ErrT w6 := hg.below (hb03.trans (hb36.mono hwB0))
      clear hids hox6
      go_upto_block 4 with fail
      go_cut [9, 16, 18] (fun s9 s16 s18 w' => StepS w6 B0 b t rc nw r1 c1 s9 s16 s18 w')
      case first =>
        have errt : ErrT w6 → ∀ {s9 s16 s18 : Value} {w7 : World}, StepS w6 B0 b t rc nw r1 c1 s9 s16 s18 w7 → ErrT w7 := fun h _ _ _ _ hS => (hS.below.cell (p := ⟨0, 0, none⟩) (Nat.lt_of_lt_of_le (World.block_lt_of_cell? w _ hg) hwB0)).trans h
        clear hg
        by_cases hk4 : kq = 4
        · have hq1 : ((kq : Int) == 4) = true := by simp; omega
          clear hk4
          have hcon := close_any b t rc nw id w6 hL6
          go_wp2_with (first
            | (go_at_call 13; refine hcon.mono ?_; intro e w7 h7; obtain ⟨v7, c7, rfl, hC7, hS7⟩ := close_s hL6 hO hP hw6 h7; have hco := code_any hC7 w7 (errt hg6 hS7))
            | (go_at_call 12; refine hco.mono ?_; rintro e w8 ⟨rfl, hb8⟩))
          go_meet
          exact hS7.later hw6 hb8
        · have hq1 : ((kq : Int) == 4) = false := by simp; omega
          by_cases hk5 : kq = 5
          · have hq2 : ((kq : Int) == 5) = true := by simp; omega
            clear hk5
            have hcon := move_any b t rc nw id a' n1 w6 hL6 hfn
            go_wp2_with (first
              | (go_at_call 16; refine hcon.mono ?_; intro e w7 h7; obtain ⟨v7, c7, rfl, hC7, hS7⟩ := move_s hL6 hO hP hw6 h7; have hco := code_any hC7 w7 (errt hg6 hS7))
              | (go_at_call 12; refine hco.mono ?_; rintro e w8 ⟨rfl, hb8⟩))
            go_meet
            exact hS7.later hw6 hb8
          · have hq2 : ((kq : Int) == 5) = false := by simp; omega
            by_cases hk6 : kq = 6
            · have hq3 : ((kq : Int) == 6) = true := by simp; omega
              clear hk6
              have hcon := resize_any b t rc nw n1 m1 w6 hL6
              go_wp2_with (first
                | (go_at_call 17; refine hcon.mono ?_; intro e w7 h7; obtain ⟨v7, c7, rfl, hC7, hS7⟩ := resize_s hL6 hO hP hw6 h7; have hco := code_any hC7 w7 (errt hg6 hS7))
                | (go_at_call 12; refine hco.mono ?_; rintro e w8 ⟨rfl, hb8⟩))
              go_meet
              exact hS7.later hw6 hb8
            · have hq3 : ((kq : Int) == 6) = false := by simp; omega
              have hspl := split_any b t rc nw id a' w6 hL6 (by omega)
              have hpos := hL6.pos
              go_upto_region 21 with (go_at_call 10; refine hspl.mono ?_; intro e w7 h7; obtain ⟨v7, c7, k7, rfl, hC7, hS7⟩ := split_s hL6 hO hP hw6 h7)
              rcases hS7 with ⟨hcc, rfl, hS7⟩ | ⟨rfl, rfl, hS7⟩
              · have hc0 : (c7 == 0) = false := by simpa using hcc
                have hc1 : (c7 != 0) = true := by simpa using hcc
                have hco := code_any hC7 w7 (errt hg6 hS7)
                go_wp2_with (go_at_call 12; refine hco.mono ?_; rintro e w8 ⟨rfl, hb8⟩)
                go_meet
                exact hS7.later hw6 hb8
              · have hco := code_any hC7 w7 (errt hg6 hS7)
                go_wp2_with (go_at_call 12; refine hco.mono ?_; rintro e w8 ⟨rfl, hb8⟩)
                go_meet
                exact hS7.later hw6 hb8
      case rest =>
      obtain ⟨t', rc', nw', cc, had, rfl, rfl, rfl, hL7, hO7, hnw7, hb67, h12, hsame, hP7⟩ := hcut
      have hpan7 := panes_any b t' rc' nw' wc hL7.mem hL7.rc hL7.nums hL7.fits hL7.nl
      have hne7 := panes_ne t' rc'
      have hfew : (panesP t rc).length ≤ 16 := by rw [panes_len]; exact hL6.few
      have hwc : B0 ≤ wc.heap.size := Nat.le_trans hw6 hb67.size
      have hb3c : Below B0 w3 wc := hb36.trans hb67
      clear hP hL6 hb67 z0 z4 hg6 hg hb36
      by_cases hc0 : cc = 0
      · subst hc0
        obtain rfl : had = true := by
          cases had
          · exact absurd (h12.2 rfl) (by decide)
          · rfl
        clear h12 hsame hP7
        go_upto_block 5 with (go_at_call 11; refine hpan7.mono ?_; rintro e w9 ⟨⟨v, rfl, hv⟩, hb9⟩; obtain ⟨A9, c9, rfl⟩ := own_slice hv)
        have hL9 := hL7.later hb9
        have hb39 := hb3c.trans (hb9.mono hwc)
        clear hv hL7 hpan7
        go_wp2_with fail
        go_loopw [22] (fun x w' => w9 = w') (fun x _ => 0)
        case atStart => rfl
        case round =>
          obtain rfl := hrel
          go_wp2_with fail
          go_round
          case rel => first
            | exact ⟨k + 1, t', rc', nw', by omega, by omega, by go_num, rfl, hL9, hO7, by omega, hb39⟩
            | (repeat apply Exists.intro
               refine And.intro ?rel2 ?eqs
               case eqs => (repeat' (first | exact rfl | apply And.intro))
               case rel2 => exact ⟨k + 1, t', rc', nw', by omega, by omega, by go_num, rfl, hL9, hO7, by omega, hb39⟩)
          case measure => simp [intOf]; omega
      · rw [hsame hc0] at hpan7
        have hsm := hsame hc0
        rw [hsm] at hne7
        have hc1 : (cc == 0) = false := by simpa using hc0
        have hc2 : (cc != 0) = true := by simpa using hc0
        have h12' : (cc == 12) = !had := by
          cases had
          · simpa using h12.2 rfl
          · simpa using fun h => by have := h12.1 h; cases this
        have HP7 := Lib.hid hP7
        clear h12 hsame hsm hP7
        generalize panesP t rc = l at *
        go_upto_region 34 with (go_at_call 11; refine hpan7.mono ?_; rintro e w9 ⟨⟨v, rfl, hv⟩, hb9⟩; obtain ⟨r2, c2, rfl, _, hP9⟩ := Pn.of_own hv hne7)
        have hPa := HP7.out.later hb9
        have hL9 := hL7.later hb9
        have hb39 := hb3c.trans (hb9.mono hwc)
        have hw9 : B0 ≤ w9.heap.size := Nat.le_trans hwc hb9.size
        have hca := hPa.cap
        have hcb := hP9.cap
        have hba := hPa.big
        have hbb := hP9.big
        clear hv hL7 hpan7 HP7
        have Hc0 := Lib.hid hc0
        clear hc0
        cases had
        · go_wp2_with fail
          go_loopw [22] (fun x w' => ∃ j : Nat, j ≤ l.length ∧ x = .int .i64 (j : Nat) ∧ Below w9.heap.size w9 w') (fun x _ => l.length - (intOf x).toNat)
          case atStart => exact ⟨0, Nat.zero_le _, rfl, Below.refl _ _⟩
          case round =>
            obtain ⟨j, hj, rfl, hbr'⟩ := hrel
            by_cases hlj : j < l.length
            · clear hL9 hO7
              have hx : l[j]? = some l[j] := List.getElem?_eq_getElem hlj
              generalize l[j] = v at hx
              rename World => wj
              have hPa' := hPa.later hbr'
              have hPb' := hP9.later hbr'
              have a0 : wj.drew.cell? ⟨r1, j * 5, none⟩ = some (.int .i64 v.1) := hPa'.at' j v hx 0 _ rfl
              have a1 : wj.drew.cell? ⟨r1, j * 5 + 1, none⟩ = some (.int .i64 v.2.x) := hPa'.at' j v hx 1 _ rfl
              have a2 : wj.drew.cell? ⟨r1, j * 5 + 2, none⟩ = some (.int .i64 v.2.y) := hPa'.at' j v hx 2 _ rfl
              have a3 : wj.drew.cell? ⟨r1, j * 5 + 3, none⟩ = some (.int .i64 v.2.w) := hPa'.at' j v hx 3 _ rfl
              have a4 : wj.drew.cell? ⟨r1, j * 5 + 4, none⟩ = some (.int .i64 v.2.h) := hPa'.at' j v hx 4 _ rfl
              have b0 : wj.drew.cell? ⟨r2, j * 5, none⟩ = some (.int .i64 v.1) := hPb'.at' j v hx 0 _ rfl
              have b1 : wj.drew.cell? ⟨r2, j * 5 + 1, none⟩ = some (.int .i64 v.2.x) := hPb'.at' j v hx 1 _ rfl
              have b2 : wj.drew.cell? ⟨r2, j * 5 + 2, none⟩ = some (.int .i64 v.2.y) := hPb'.at' j v hx 2 _ rfl
              have b3 : wj.drew.cell? ⟨r2, j * 5 + 3, none⟩ = some (.int .i64 v.2.w) := hPb'.at' j v hx 3 _ rfl
              have b4 : wj.drew.cell? ⟨r2, j * 5 + 4, none⟩ = some (.int .i64 v.2.h) := hPb'.at' j v hx 4 _ rfl
              have hdj : decide ((j : Int) < (l.length : Int)) = true := decide_eq_true (by omega)
              have hdj2 : decide (j < l.length) = true := decide_eq_true hlj
              clear hPa hP9 hPa' hPb' hx
              go_upto_region 39 with fail
              go_region
              all_goals
                go_wp2_with fail
                go_round
                case rel => exact ⟨j + 1, by omega, by go_num, hbr'.drew⟩
                case measure => simp [intOf]; omega
            · have hdj : decide ((j : Int) < (l.length : Int)) = false := decide_eq_false (by omega)
              have hdj2 : decide (j < l.length) = false := decide_eq_false hlj
              clear hPa hP9
              go_wp2_with fail
              go_round
              case rel => first
                | exact ⟨k + 1, t', rc', nw', by omega, by omega, by go_num, rfl, hL9.later hbr', hO7, by omega, hb39.trans (hbr'.mono hw9)⟩
                | (repeat apply Exists.intro
                   refine And.intro ?rel2 ?eqs
                   case eqs => (repeat' (first | exact rfl | apply And.intro))
                   case rel2 => exact ⟨k + 1, t', rc', nw', by omega, by omega, by go_num, rfl, hL9.later hbr', hO7, by omega, hb39.trans (hbr'.mono hw9)⟩)
              case measure => simp [intOf]; omega
        · go_wp2_with fail
          go_loopw [22] (fun x w' => ∃ j : Nat, j ≤ l.length ∧ x = .int .i64 (j : Nat) ∧ Below w9.heap.size w9 w') (fun x _ => l.length - (intOf x).toNat)
          case atStart => exact ⟨0, Nat.zero_le _, rfl, Below.refl _ _⟩
          case round =>
            obtain ⟨j, hj, rfl, hbr'⟩ := hrel
            by_cases hlj : j < l.length
            · clear hL9 hO7
              have hx : l[j]? = some l[j] := List.getElem?_eq_getElem hlj
              generalize l[j] = v at hx
              rename World => wj
              have hPa' := hPa.later hbr'
              have hPb' := hP9.later hbr'
              have a0 : wj.drew.cell? ⟨r1, j * 5, none⟩ = some (.int .i64 v.1) := hPa'.at' j v hx 0 _ rfl
              have a1 : wj.drew.cell? ⟨r1, j * 5 + 1, none⟩ = some (.int .i64 v.2.x) := hPa'.at' j v hx 1 _ rfl
              have a2 : wj.drew.cell? ⟨r1, j * 5 + 2, none⟩ = some (.int .i64 v.2.y) := hPa'.at' j v hx 2 _ rfl
              have a3 : wj.drew.cell? ⟨r1, j * 5 + 3, none⟩ = some (.int .i64 v.2.w) := hPa'.at' j v hx 3 _ rfl
              have a4 : wj.drew.cell? ⟨r1, j * 5 + 4, none⟩ = some (.int .i64 v.2.h) := hPa'.at' j v hx 4 _ rfl
              have b0 : wj.drew.cell? ⟨r2, j * 5, none⟩ = some (.int .i64 v.1) := hPb'.at' j v hx 0 _ rfl
              have b1 : wj.drew.cell? ⟨r2, j * 5 + 1, none⟩ = some (.int .i64 v.2.x) := hPb'.at' j v hx 1 _ rfl
              have b2 : wj.drew.cell? ⟨r2, j * 5 + 2, none⟩ = some (.int .i64 v.2.y) := hPb'.at' j v hx 2 _ rfl
              have b3 : wj.drew.cell? ⟨r2, j * 5 + 3, none⟩ = some (.int .i64 v.2.w) := hPb'.at' j v hx 3 _ rfl
              have b4 : wj.drew.cell? ⟨r2, j * 5 + 4, none⟩ = some (.int .i64 v.2.h) := hPb'.at' j v hx 4 _ rfl
              have hdj : decide ((j : Int) < (l.length : Int)) = true := decide_eq_true (by omega)
              have hdj2 : decide (j < l.length) = true := decide_eq_true hlj
              clear hPa hP9 hPa' hPb' hx
              go_upto_region 39 with fail
              go_region
              all_goals
                go_wp2_with fail
                go_round
                case rel => exact ⟨j + 1, by omega, by go_num, hbr'.drew⟩
                case measure => simp [intOf]; omega
            · have hdj : decide ((j : Int) < (l.length : Int)) = false := decide_eq_false (by omega)
              have hdj2 : decide (j < l.length) = false := decide_eq_false hlj
              clear hPa hP9
              go_wp2_with fail
              go_round
              case rel => first
                | exact ⟨k + 1, t', rc', nw', by omega, by omega, by go_num, rfl, hL9.later hbr', hO7, by omega, hb39.trans (hbr'.mono hw9)⟩
                | (repeat apply Exists.intro
                   refine And.intro ?rel2 ?eqs
                   case eqs => (repeat' (first | exact rfl | apply And.intro))
                   case rel2 => exact ⟨k + 1, t', rc', nw', by omega, by omega, by go_num, rfl, hL9.later hbr', hO7, by omega, hb39.trans (hbr'.mono hw9)⟩)
              case measure => simp [intOf]; omega
    · have hwr : w.heap.size ≤ wr.heap.size := Nat.le_trans hwB0 (Nat.le_trans hws hbr.size)
      by_cases hkn' : k < n
      · have hd1 : decide ((k : Int) < (n : Int)) = true := decide_eq_true (by omega)
        have hd2 : decide ((k : Int) < 40) = false := decide_eq_false (by omega)
        have hd3 : decide (k < n) = true := decide_eq_true hkn'
        have hd4 : decide (k < 40) = false := decide_eq_false (by omega)
        clear hA hA3
        go_wp2_with fail
        go_ret
        exact ⟨rfl, hb03.trans (hbr.mono hwB0)⟩
      · have hd1 : decide ((k : Int) < (n : Int)) = false := decide_eq_false (by omega)
        have hd3 : decide (k < n) = false := decide_eq_false hkn'
        clear hA hA3
        go_wp2_with fail
        go_ret
        exact ⟨rfl, hb03.trans (hbr.mono hwB0)⟩
end Go.Proofs.YtmdgjmmkegkonaaDoor
