/- The document's Diff: walked (for DiffTells). -/
import Derived.Test.YtpjafocgabhieaaCntR
import Derived.Test.YtpjafocgabhieaaDRnW
import Derived.Test.YtpjafocgabhieaaDifG
namespace Go.Proofs.Ytpjafocgabhieaa
open Go.RowKit Go.Sort Nums
theorem sub_eq {lb : List Cl} {wn y x m : Nat} (h : x + m ≤ wn) : (lb.drop (y * wn + x)).take m = subP lb wn (y, x, m) := by
  unfold subP rowAt
  simp only
  rw [List.drop_take, List.take_take, List.drop_drop, Nat.min_eq_left (by omega)]
/-- What the region reads. -/
abbrev HeldB (b wn n cb : Nat) (ab : Addr) (w0 w : World) : Prop :=
  w.cell? ⟨b, 0, none⟩ = some (.int .i64 (wn : Int)) ∧ w.cell? ⟨b, 2, none⟩ = some (.slice (some ab) n cb) ∧ Below w0.heap.size w0 w ∧ w0.heap.size ≤ w.heap.size
theorem HeldB.keep {b wn n cb : Nat} {ab : Addr} {w0 w w' : World} (h : HeldB b wn n cb ab w0 w) (hb : Below w.heap.size w w') : HeldB b wn n cb ab w0 w' := by
  obtain ⟨h0, h1, hB, hS⟩ := h
  exact ⟨keepc hb h0, keepc hb h1, hB.trans (hb.mono hS), Nat.le_trans hS hb.size⟩
/-- What Diff's loops keep. -/
structure DfR (w wr : World) (wn hn n cb g : Nat) (ab : Addr) (l : List Bool) (lb : List Cl) : Prop where
  b : Blk wr (w.heap.size + 1) 32 #[.int .i64 (wn : Int), .int .i64 (hn : Int), .slice (some ab) n cb]
  m : ∀ i b, l[i]? = some b → wr.cell? ⟨g, i, none⟩ = some (.bool b)
  lb : Cels wr ab lb
  below : Below w.heap.size w wr
theorem DfR.later {w wr wr' : World} {wn hn n cb g : Nat} {ab : Addr} {l : List Bool} {lb : List Cl} (h : DfR w wr wn hn n cb g ab l lb) (hb : Below wr.heap.size wr wr') : DfR w wr' wn hn n cb g ab l lb :=
  ⟨h.b.below hb h.b.lt, fun i b hi => keepc hb (h.m i b hi), h.lb.below hb, h.below.trans (hb.mono h.below.size)⟩
theorem place_facts {wn hn n y x : Nat} (hw2 : wn ≤ 200) (hh : hn ≤ 60) (hn' : n = wn * hn) (hy : y < hn) (hx : x ≤ wn) : ∃ yw lo : Nat, yw = y * wn ∧ lo = yw + x ∧ lo ≤ n ∧ (x < wn → lo < n) ∧ wrap64 ((y : Int) * (wn : Int)) = (yw : Int) ∧ wrap64 ((yw : Int) + (x : Int)) = (lo : Int) ∧ IntKind.i64.wrap ((y : Int) * (wn : Int)) = (yw : Int) ∧ IntKind.i64.wrap ((yw : Int) + (x : Int)) = (lo : Int) := by
  have h1 : y * wn + wn ≤ hn * wn := by
    rw [← Nat.succ_mul]
    exact Nat.mul_le_mul_right _ hy
  have h2 : wn * hn ≤ 200 * 60 := Nat.mul_le_mul hw2 hh
  have h3 : (y : Int) * (wn : Int) = ((y * wn : Nat) : Int) := (Int.natCast_mul _ _).symm
  have h4 : hn * wn = wn * hn := Nat.mul_comm _ _
  refine ⟨y * wn, y * wn + x, rfl, rfl, by omega, fun _ => by omega, ?_, ?_, ?_, ?_⟩
  · rw [h3]
    unfold wrap64
    omega
  · unfold wrap64
    omega
  · rw [h3]
    simp only [IntKind.wrap_i64]
    omega
  · simp only [IntKind.wrap_i64]
    omega
set_option maxRecDepth 100000 in
set_option maxHeartbeats 8000000 in
theorem diffR_gen (xa ya xb yb : Int) (A B : Option Addr) (na ca nb cb : Nat) (la lb : List Cl) (w : World) (hA : RowS w A na ca la) (hB : RowS w B nb cb lb) :
    Calls Try.prog 24 #[grv xa ya A na ca, grv xb yb B nb cb] w fun e w' => e = .returned (.string ⟨(diffP xa ya xb yb la lb).toArray⟩) ∧ Below w.heap.size w w' := by
  have hNa := (Blk.new w 32 #[.int .i64 xa, .int .i64 ya, .slice A na ca]).alloc (.cells #[.int .i64 xb, .int .i64 yb, .slice B nb cb] 32)
  have hNb := Blk.new (w.alloc (.cells #[.int .i64 xa, .int .i64 ya, .slice A na ca] 32)) 32 #[.int .i64 xb, .int .i64 yb, .slice B nb cb]
  rw [World.size_alloc] at hNb
  have hb0 := ((Below.refl w.heap.size w).alloc (Nat.le_refl _) (.cells #[.int .i64 xa, .int .i64 ya, .slice A na ca] 32)).alloc (by simp) (.cells #[.int .i64 xb, .int .i64 yb, .slice B nb cb] 32)
  obtain ⟨W0, hW0⟩ : ∃ W0, (w.alloc (.cells #[.int .i64 xa, .int .i64 ya, .slice A na ca] 32)).alloc (.cells #[.int .i64 xb, .int .i64 yb, .slice B nb cb] 32) = W0 := ⟨_, rfl⟩
  rw [hW0] at hNa hNb hb0
  have hnew := newR_gen xa ya xb yb A B na ca nb cb la lb W0 (hA.below hb0) (hB.below hb0)
  have ka0 : W0.cell? ⟨w.heap.size, 0, none⟩ = some (.int .i64 xa) := hNa.cell 0
  have ka1 : W0.cell? ⟨w.heap.size, 1, none⟩ = some (.int .i64 ya) := hNa.cell 1
  have ka2 : W0.cell? ⟨w.heap.size, 2, none⟩ = some (.slice A na ca) := hNa.cell 2
  have kb0 : W0.cell? ⟨w.heap.size + 1, 0, none⟩ = some (.int .i64 xb) := hNb.cell 0
  have kb1 : W0.cell? ⟨w.heap.size + 1, 1, none⟩ = some (.int .i64 yb) := hNb.cell 1
  have kb2 : W0.cell? ⟨w.heap.size + 1, 2, none⟩ = some (.slice B nb cb) := hNb.cell 2
  have HB := Lib.hid hB
  clear hA hB
  cases hq : alikeP xa ya xb yb la lb with
  | false =>
    have HP := Lib.hid (show diffP xa ya xb yb la lb = [] by unfold diffP; rw [hq]; rfl)
    rw [hq] at hnew
    clear hq
    have hqn : ∀ W, (binOp .eql 68 (.slice none 0 0) (.slice none 0 0)).run Try.prog W = .ok (.bool true) W := fun W => Lib.run_eql_slice_nil W _ _ none 0 0 0 0 Try.underlying68
    go_enter Try.func24, Try.ntmps24
    go_wp2_with fail
    refine hnew.mono ?_
    rintro e w1 ⟨v, rfl, hv, _, hb1⟩
    obtain rfl := hv trivial
    have hb2 := hb0.trans (hb1.mono hb0.size)
    clear hW0 hnew
    go_wp2_with fail
    go_ret
    exact ⟨by rw [HP.out]; rfl, hb2⟩
  | true =>
    obtain ⟨hga, hgb, e1, e2⟩ := alike_parts hq
    obtain ⟨wn, hn, h3, h4, hw1, hw2, hh1, hh2, hlb, hrb⟩ := gridP_parts hgb
    subst e1 e2 h3 h4
    have hnbE := HB.out.len
    have hok : ∀ c ∈ lb, c.x < 256 := fun c hc => (HB.out.ok c hc).x
    have HP := Lib.hid (show diffP (wn : Int) (hn : Int) (wn : Int) (hn : Int) la lb = putL [(wn : Int), (hn : Int), ((allD la lb wn hn).length : Int)] ++ outD lb wn (allD la lb wn hn) by unfold diffP; rw [hq]; rfl)
    rw [hq] at hnew
    have HNW := Lib.hid (show nb = wn * hn from hnbE.symm.trans hlb)
    have HLB := Lib.hid hlb
    have HLN := Lib.hid (allD_len (la := la) hlb hw2 hh2)
    have HMM := Lib.hid (allD_mem (la := la) hlb)
    have HROW := Lib.hid (fun y x (hy : y < hn) (hx : x < wn) => newP_row (la := la) hlb hrb hok hy hx)
    have HML := Lib.hid (fun y (hy : y < hn) => rowM_len (la := la) hlb hy)
    have hn1 : 1 ≤ nb := by
      have h4 := Nat.mul_le_mul hw1 hh1
      rw [HNW.out]
      exact h4
    have hn12 : nb ≤ 12000 := by
      have h2 : wn * hn ≤ 200 * 60 := Nat.mul_le_mul hw2 hh2
      rw [HNW.out]
      exact h2
    obtain ⟨ab, rfl⟩ := HB.out.some_ad hn1
    have hCb : Cels w ab lb := by
      obtain ⟨ad', he, hC⟩ := HB.out.row (by rw [hnbE]; omega)
      injection he with he
      subst he
      exact hC
    have HC := Lib.hid HB.out.cap
    have HCM := Lib.hid HB.out.cm
    clear hq hga hgb hlb hrb hok
    have hqn : ∀ (W : World) (g c : Nat), (binOp .eql 68 (.slice (some ⟨g, 0, none⟩) nb c) (.slice none 0 0)).run Try.prog W = .ok (.bool false) W := fun W g c => Lib.run_eql_slice_nil W _ _ (some ⟨g, 0, none⟩) nb c 0 0 Try.underlying68
    go_enter Try.func24, Try.ntmps24
    go_wp2_with fail
    refine hnew.mono ?_
    rintro e w1 ⟨v, rfl, _, hv, hb1⟩
    obtain ⟨g, c, rfl, _, hg, hll, hcl⟩ := own_bools (hv trivial) hn1
    have hb2 := hb0.trans (hb1.mono hb0.size)
    have hD : DfR w w1 wn hn nb cb g ab (newP la lb) lb := ⟨hNb.below hb1 hNb.lt, hcl, hCb.below hb2, hb2⟩
    clear hW0 hnew hv hcl hb1 ka0 ka1 ka2 kb0 kb1 kb2 hNa hNb hb0 hb2 hCb
    go_wp2_with fail
    have hok2 : OkL lb := fun c hc => HB.out.ok c hc
    have HOK := Lib.hid hok2
    have hpn : ∀ (W : World) (a b c : Nat), a ≤ 200 → b ≤ 200 → c ≤ 12000 → Calls Try.prog 21 #[.slice (some ⟨W.heap.size, 0, none⟩) 3 3] ((W.alloc (.cells #[.int .i64 (a : Nat), .int .i64 (b : Nat), .int .i64 (c : Nat)] 3))) fun e w' => e = .returned (.string ⟨(putL [(a : Int), (b : Int), (c : Int)]).toArray⟩) ∧ Below ((W.alloc (.cells #[.int .i64 (a : Nat), .int .i64 (b : Nat), .int .i64 (c : Nat)] 3))).heap.size ((W.alloc (.cells #[.int .i64 (a : Nat), .int .i64 (b : Nat), .int .i64 (c : Nat)] 3))) w' := fun W a b c h1 h2 h3 =>
      refPut_any _ 3 3 [(a : Int), (b : Int), (c : Int)] _ rfl (Ints.new W [(a : Int), (b : Int), (c : Int)] 3) (triple_fit (by omega) (by omega) (by omega)) (by omega)
    have hpd : ∀ (W : World) (a b c : Nat), a ≤ 200 → b ≤ 200 → c ≤ 12000 → Calls Try.prog 21 #[.slice (some ⟨W.heap.size, 0, none⟩) 3 3] ((W.alloc (.cells #[.int .i64 (a : Nat), .int .i64 (b : Nat), .int .i64 (c : Nat)] 3)).drew) fun e w' => e = .returned (.string ⟨(putL [(a : Int), (b : Int), (c : Int)]).toArray⟩) ∧ Below ((W.alloc (.cells #[.int .i64 (a : Nat), .int .i64 (b : Nat), .int .i64 (c : Nat)] 3)).drew).heap.size ((W.alloc (.cells #[.int .i64 (a : Nat), .int .i64 (b : Nat), .int .i64 (c : Nat)] 3)).drew) w' := fun W a b c h1 h2 h3 =>
      refPut_any _ 3 3 [(a : Int), (b : Int), (c : Int)] _ rfl (Elems.drew (Ints.new W [(a : Int), (b : Int), (c : Int)] 3)) (triple_fit (by omega) (by omega) (by omega)) (by omega)
    have HPN := Lib.hid hpn
    have HPD := Lib.hid hpd
    clear hok2 hpn hpd
    have hDl := HLN.out
    go_loopw [6, 7, 8] (fun s6 s7 s8 wr => ∃ (y : Nat) (done : List (Nat × Nat × Nat)), y ≤ hn ∧ s6 = .string ⟨(outD lb wn done).toArray⟩ ∧ s7 = .int .i64 (done.length : Nat) ∧ s8 = .int .i64 (y : Nat) ∧ RowKit.Hid (done ++ restD la lb wn hn y = allD la lb wn hn) ∧ DfR w wr wn hn nb cb g ab (newP la lb) lb) (fun _ _ s8 _ => hn - (intOf s8).toNat)
    case atStart => exact ⟨0, [], by omega, rfl, rfl, rfl, Lib.hid rfl, hD⟩
    case round =>
      clear hD
      obtain ⟨y, done, hy, rfl, rfl, rfl, HJ, hDr⟩ := hrel
      have b0 : wr.cell? ⟨w.heap.size + 1, 0, none⟩ = some (.int .i64 (wn : Int)) := hDr.b.cell 0
      have b1 : wr.cell? ⟨w.heap.size + 1, 1, none⟩ = some (.int .i64 (hn : Int)) := hDr.b.cell 1
      by_cases hlt : y < hn
      · have d1 : decide ((y : Int) < (hn : Int)) = true := decide_eq_true (by omega)
        have d2 : decide (y < hn) = true := decide_eq_true hlt
        have HJ2 := Lib.hid (show done ++ (pcs la lb wn y 0 ++ restD la lb wn hn (y + 1)) = allD la lb wn hn by rw [← HJ.out, restD_go hlt])
        have HMy := Lib.hid (HML.out y hlt)
        go_wp2_with fail
        go_loopw [6, 7, 9] (fun s6 s7 s9 wr => ∃ (x : Nat) (done : List (Nat × Nat × Nat)), x ≤ wn + 1 ∧ s6 = .string ⟨(outD lb wn done).toArray⟩ ∧ s7 = .int .i64 (done.length : Nat) ∧ s9 = .int .i64 (x : Nat) ∧ RowKit.Hid (done ++ (pcs la lb wn y x ++ restD la lb wn hn (y + 1)) = allD la lb wn hn) ∧ DfR w wr wn hn nb cb g ab (newP la lb) lb) (fun _ _ s9 _ => wn + 1 - (intOf s9).toNat)
        case atStart => exact ⟨0, done, by omega, rfl, rfl, rfl, HJ2, hDr⟩
        case round =>
          clear hDr HJ HJ2 b0 b1 d1 d2
          obtain ⟨x, done, hx, rfl, rfl, rfl, HJ, hDr⟩ := hrel
          have b0 : wr.cell? ⟨w.heap.size + 1, 0, none⟩ = some (.int .i64 (wn : Int)) := hDr.b.cell 0
          have b2 : wr.cell? ⟨w.heap.size + 1, 2, none⟩ = some (.slice (some ab) nb cb) := hDr.b.cell 2
          by_cases hxl : x < wn
          · have d3 : decide ((x : Int) < (wn : Int)) = true := decide_eq_true (by omega)
            have d4 : decide (x < wn) = true := decide_eq_true hxl
            obtain ⟨yw, lo, hyw, hlo, hlo1, hlo2, p1, p2, p3, p4⟩ := place_facts hw2 hh2 HNW.out hlt (Nat.le_of_lt hxl)
            have hlo3 := hlo2 hxl
            have d5 : (lo : Int) < (nb : Int) := by clear p1 p2 p3 p4; omega
            have d6 : decide ((lo : Int) < (nb : Int)) = true := decide_eq_true d5
            have d7 : decide (lo < nb) = true := decide_eq_true hlo3
            have HRX := Lib.hid (show (newP la lb)[lo]? = (rowM la lb wn y)[x]? by rw [hlo, hyw]; exact HROW.out y x hlt hxl)
            obtain ⟨fx, hfx⟩ : ∃ fx, (rowM la lb wn y)[x]? = some fx := ⟨_, List.getElem?_eq_getElem (by rw [HMy.out]; exact hxl)⟩
            have f0 : wr.cell? ⟨g, lo, none⟩ = some (.bool fx) := hDr.m lo fx (by rw [HRX.out, hfx])
            have HLO := Lib.hid hlo
            have HYW := Lib.hid hyw
            clear hlo hyw hlo1 hlo2
            cases fx with
            | false =>
              have HJ2 := Lib.hid (show done ++ (pcs la lb wn y (x + 1) ++ restD la lb wn hn (y + 1)) = allD la lb wn hn by rw [← HJ.out, pcs_false hfx])
              clear hfx
              go_wp2_with fail
              go_roundw
              case rel => exact ⟨x + 1, done, by omega, rfl, rfl, by go_num, HJ2, hDr⟩
              case measure => simp [intOf]; omega
            | true =>
              have hmx := Lib.hid hfx
              clear hfx
              go_wp2_with fail
              go_loopw [10] (fun s10 we => ∃ e : Nat, e ≤ wn ∧ x ≤ e ∧ s10 = .int .i64 (e : Nat) ∧ RowKit.Hid (endOf (rowM la lb wn y) x = endOf (rowM la lb wn y) e) ∧ DfR w we wn hn nb cb g ab (newP la lb) lb) (fun s10 _ => wn - (intOf s10).toNat)
              case atStart => exact ⟨x, by omega, Nat.le_refl _, rfl, Lib.hid rfl, hDr⟩
              case round =>
                clear hDr b0 b2 f0 d3 d4 d5 d6 d7 p2 p4
                obtain ⟨e, he, hxe, rfl, HE, hDr⟩ := hrel
                have b0 : wr.cell? ⟨w.heap.size + 1, 0, none⟩ = some (.int .i64 (wn : Int)) := hDr.b.cell 0
                rcases Nat.lt_or_ge e wn with hel | hel
                case' inl =>
                  have d3 : decide ((e : Int) < (wn : Int)) = true := decide_eq_true (by omega)
                  have d4 : decide (e < wn) = true := decide_eq_true hel
                  obtain ⟨yw', le, hyw, hle, -, hle2, -, q2, -, q4⟩ := place_facts hw2 hh2 HNW.out hlt (Nat.le_of_lt hel)
                  obtain rfl : yw = yw' := by rw [HYW.out, hyw]
                  have hle3 := hle2 hel
                  have d5 : (le : Int) < (nb : Int) := by clear p1 p3 q2 q4; omega
                  have d6 : decide ((le : Int) < (nb : Int)) = true := decide_eq_true d5
                  have d7 : decide (le < nb) = true := decide_eq_true hle3
                  have HRE := Lib.hid (show (newP la lb)[le]? = (rowM la lb wn y)[e]? by rw [hle, hyw]; exact HROW.out y e hlt hel)
                  obtain ⟨fe, hfe⟩ : ∃ fe, (rowM la lb wn y)[e]? = some fe := ⟨_, List.getElem?_eq_getElem (by rw [HMy.out]; exact hel)⟩
                  have f0 : wr.cell? ⟨g, le, none⟩ = some (.bool fe) := hDr.m le fe (by rw [HRE.out, hfe])
                  clear hle hyw hle2
                  cases fe
                  case' true =>
                    have HE2 := Lib.hid (HE.out.trans (endOf_go hfe))
                    clear hfe
                    go_wp2_with fail
                    go_roundw
                    case rel => exact ⟨e + 1, hel, by omega, by go_num, HE2, hDr⟩
                    case measure => simp [intOf]; omega
                  case' false =>
                    have hstop := Lib.hid (show ¬ (rowM la lb wn y)[e]? = some true by rw [hfe]; simp)
                    clear hfe hel
                    go_upto_region 16 with fail
                    clear f0 d3 d4 d5 d6 d7 q2 q4 HRE b0
                case' inr =>
                  have d3 : decide ((e : Int) < (wn : Int)) = false := decide_eq_false (by omega)
                  have d4 : decide (e < wn) = false := decide_eq_false (by omega)
                  have hstop := Lib.hid (show ¬ (rowM la lb wn y)[e]? = some true by rw [List.getElem?_eq_none (by rw [HMy.out]; omega)]; simp)
                  clear hel
                  go_upto_region 16 with fail
                  clear d3 d4 b0
                all_goals
                  have HE2 := Lib.hid (show endOf (rowM la lb wn y) x = e by rw [HE.out, endOf_stop hstop.out])
                  have hex : x < e := by
                    have a1 := HE2.out
                    have a2 := (endOf_gt hmx.out).1
                    omega
                  obtain ⟨m, hm⟩ : ∃ m, m = e - x := ⟨_, rfl⟩
                  have HJ2 := Lib.hid (show (done ++ [(y, x, m)]) ++ (pcs la lb wn y (e + 1) ++ restD la lb wn hn (y + 1)) = allD la lb wn hn by
                    rw [← HJ.out, pcs_true hmx.out, HE2.out, ← hm]
                    simp)
                  clear p1 p3
                  obtain ⟨yw', lo', hyw, hlo', -, hlo2, p1, p2, p3, p4⟩ := place_facts hw2 hh2 HNW.out hlt (Nat.le_of_lt hxl)
                  obtain rfl : yw = yw' := by rw [HYW.out, hyw]
                  obtain rfl : lo = lo' := by rw [HLO.out, hlo']
                  obtain ⟨yw', hi, hyw2, hhi, hhi1, -, -, q2, -, q4⟩ := place_facts hw2 hh2 HNW.out hlt he
                  obtain rfl : yw = yw' := by rw [hyw, hyw2]
                  have P1 := Lib.hid p1
                  have P2 := Lib.hid p2
                  have P3 := Lib.hid p3
                  have P4 := Lib.hid p4
                  have Q2 := Lib.hid q2
                  have Q4 := Lib.hid q4
                  clear p1 p2 p3 p4 q2 q4 hyw hyw2
                  have hhl : hi = lo + m := by omega
                  have hcb := HC.out
                  have s0 : lo ≤ hi := by omega
                  have s7 : ¬ cb = lo := by omega
                  have s6 : hi ≤ cb := by omega
                  have s1 : (lo : Int) ≤ (hi : Int) := by omega
                  have s2 : (hi : Int) ≤ (cb : Int) := by omega
                  have s3 : decide ((lo : Int) ≤ (hi : Int)) = true := decide_eq_true s1
                  have s4 : decide ((hi : Int) ≤ (cb : Int)) = true := decide_eq_true s2
                  have hdl : done.length ≤ 12000 := by
                    have h1 := congrArg List.length HJ2.out
                    simp only [List.length_append, List.length_cons, List.length_nil] at h1
                    omega
                  have hmm : m ≤ 200 := by omega
                  have hdm : ∀ p ∈ done, p.1 < hn ∧ 1 ≤ p.2.2 ∧ p.2.1 + p.2.2 ≤ wn := fun p hp => HMM.out p (by rw [← HJ2.out]; simp [hp])
                  have hLl : (outD lb wn done).length ≤ 600030 * 12000 := by
                    have h1 := outD_len HOK.out HLB.out hw2 hh2 done hdm
                    omega
                  have hOKs : OkL (subP lb wn (y, x, m)) := fun c hc => HOK.out c (rowAt_sub (List.mem_of_mem_drop (List.mem_of_mem_take hc)))
                  have hsl : (subP lb wn (y, x, m)).length = hi - lo := by
                    rw [subP_len HLB.out hlt (show x + m ≤ wn by omega)]
                    show m = hi - lo
                    omega
                  have hBl := bytesP_len hOKs (by rw [hsl]; omega)
                  have hPl := putL_len _ (triple_fit (a := y) (b := x) (c := m) (by omega) (by omega) (by omega))
                  simp only [List.length_cons, List.length_nil] at hPl
                  have HE3 := Lib.hid (show outD lb wn done ++ putL [(y : Int), (x : Int), (m : Int)] ++ bytesP (subP lb wn (y, x, m)) = outD lb wn (done ++ [(y, x, m)]) by
                    rw [outD_append, outD_one, List.append_assoc]
                    rfl)
                  have hD7 := Lib.hid hDr
                  have hbyt : ∀ W : World, Below wr.heap.size wr W → Calls Try.prog 22 #[.slice (some (ab.add (lo * 4))) (hi - lo) (cb - lo)] W fun e w' => e = .returned (.string ⟨(bytesP (subP lb wn (y, x, m))).toArray⟩) ∧ Below W.heap.size W w' := fun W hb =>
                    bytesR_gen _ (hi - lo) (cb - lo) (subP lb wn (y, x, m)) W (by omega) ⟨hsl, by omega, by have := HCM.out; omega, fun _ => ⟨_, rfl, by
                      have h1 := (hD7.out.lb.below hb).sub lo m
                      rw [HLO.out, HYW.out, sub_eq (show x + m ≤ wn by omega)] at h1
                      rw [HLO.out, HYW.out]
                      exact h1⟩, fun h => by cases h⟩
                  have hput := fun W => HPN.out W y x m (by omega) (by omega) (by omega)
                  have hputd := fun W => HPD.out W y x m (by omega) (by omega) (by omega)
                  generalize putL [(y : Int), (x : Int), (m : Int)] = pl at HE3 hput hputd hPl
                  generalize bytesP (subP lb wn (y, x, m)) = bl at HE3 hbyt hBl
                  generalize outD lb wn done = L at HE3 hLl ⊢
                  have z1 : ¬ 9223372036854775807 < L.length + pl.length := by omega
                  have z2 : ¬ 9223372036854775807 < L.length + pl.length + bl.length := by omega
                  have z3 : ¬ 9223372036854775807 < (L ++ pl).length + bl.length := by
                    rw [List.length_append]
                    omega
                  have i1 : wrap64 ((e : Int) - (x : Int)) = (m : Int) := by
                    unfold wrap64
                    omega
                  have i2 : IntKind.i64.wrap ((e : Int) - (x : Int)) = (m : Int) := by
                    simp only [IntKind.wrap_i64]
                    omega
                  have hS : HeldB (w.heap.size + 1) wn nb cb ab wr wr.drew := ⟨hDr.b.cell 0, hDr.b.cell 2, (Below.refl _ _).drew, Nat.le_refl _⟩
                  clear hLl hBl hPl hDr hsl hOKs hdm hhi hhi1 hhl hlo' hlo2 hm
                  have p1 := P1.out
                  have p2 := P2.out
                  have p3 := P3.out
                  have p4 := P4.out
                  have q2 := Q2.out
                  have q4 := Q4.out
                  have hSa : HeldB (w.heap.size + 1) wn nb cb ab wr ((wr.alloc (.cells #[.int .i64 (y : Nat), .int .i64 (x : Nat), .int .i64 (m : Nat)] 3)).drew) := HeldB.keep (⟨hS.1, hS.2.1, Below.refl _ _, Nat.le_refl _⟩ : HeldB (w.heap.size + 1) wn nb cb ab wr wr) ((Below.refl _ _).alloc (Nat.le_refl _) _).drew
                  go_region_held3 (fun w' => w'.cell? ⟨w.heap.size + 1, 0, none⟩ = some (.int .i64 (wn : Int)) ∧ w'.cell? ⟨w.heap.size + 1, 2, none⟩ = some (.slice (some ab) nb cb) ∧ Below wr.heap.size wr w' ∧ wr.heap.size ≤ w'.heap.size) (first | exact hS | exact hSa | exact hq) (first
                    | (go_at_call 21; refine (hputd _).mono ?_; rintro e w4 ⟨rfl, hb4⟩; have hq := HeldB.keep hSa hb4)
                    | (go_at_call 22; refine (hbyt _ hq.2.2.1).mono ?_; rintro e w5 ⟨rfl, hb5⟩; have hq := HeldB.keep hq hb5))
                  have hw5 : Below wr.heap.size wr w5 := hq.2.2.1
                  have hD5 := hD7.out.later hw5
                  have hle : done.length + 1 = (done ++ [(y, x, m)]).length := by simp
                  clear p1 p2 p3 p4 q2 q4 hputd hput hbyt
                  go_wp2_with fail
                  go_roundw
                  case rel => exact ⟨e + 1, done ++ [(y, x, m)], by omega, by rw [← HE3.out]; simp only [ba_append], by rw [← hle]; go_num, by go_num, HJ2, hD5⟩
                  case measure => simp [intOf]; omega
          · have d3 : decide ((x : Int) < (wn : Int)) = false := decide_eq_false (by omega)
            have d4 : decide (x < wn) = false := decide_eq_false hxl
            have HJ2 := Lib.hid (show done ++ restD la lb wn hn (y + 1) = allD la lb wn hn by rw [← HJ.out, pcs_stop (by rw [HMy.out]; omega), List.nil_append])
            go_wp2_with fail
            go_roundw
            case rel => exact ⟨y + 1, done, hlt, rfl, rfl, by go_num, HJ2, hDr⟩
            case measure => simp [intOf]; omega
      · have d1 : decide ((y : Int) < (hn : Int)) = false := decide_eq_false (by omega)
        have d2 : decide (y < hn) = false := decide_eq_false hlt
        have HE := Lib.hid (show done = allD la lb wn hn by
          have h1 := HJ.out
          rw [restD_stop (show hn ≤ y by omega), List.append_nil] at h1
          exact h1)
        have hput := fun W => HPN.out W wn hn (allD la lb wn hn).length hw2 (by omega) hDl
        have hputd := fun W => HPD.out W wn hn (allD la lb wn hn).length hw2 (by omega) hDl
        have hLl : (outD lb wn (allD la lb wn hn)).length ≤ 600030 * 12000 := by
          have h1 := outD_len HOK.out HLB.out hw2 hh2 _ HMM.out
          omega
        have hPl := putL_len _ (triple_fit (a := wn) (b := hn) (c := (allD la lb wn hn).length) (by omega) (by omega) (by omega))
        simp only [List.length_cons, List.length_nil] at hPl
        obtain rfl := HE.out
        clear HJ HE
        generalize putL [(wn : Int), (hn : Int), ((allD la lb wn hn).length : Int)] = pl at HP hput hputd hPl
        generalize outD lb wn (allD la lb wn hn) = L at HP hLl ⊢
        have z1 : ¬ 9223372036854775807 < pl.length + L.length := by omega
        have hbw := hDr.below
        go_wp2_with fail
        refine (hput _).mono ?_
        rintro e w4 ⟨rfl, hb4⟩
        have hA4 := (Below.refl wr.heap.size wr).alloc (Nat.le_refl _) (.cells #[.int .i64 (wn : Nat), .int .i64 (hn : Nat), .int .i64 ((allD la lb wn hn).length : Nat)] 3)
        have hb5 := hbw.trans ((hA4.trans (hb4.mono hA4.size)).mono hbw.size)
        clear hput hputd hb4 hA4
        go_wp2_with fail
        go_ret
        exact ⟨ret_string (by rw [HP.out]), hb5⟩
end Go.Proofs.Ytpjafocgabhieaa
