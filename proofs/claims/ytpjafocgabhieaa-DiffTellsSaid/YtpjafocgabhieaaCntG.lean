/- diff.Count: walked (for DiffTells). -/
import Derived.Test.YtpjafocgabhieaaDRnW
import Derived.Test.YtpjafocgabhieaaDifE
import Derived.Test.YtpjafocgabhieaaHelR
namespace Go.Proofs.Ytpjafocgabhieaa
open Go.RowKit Go.Shelf Nums
attribute [local go_sem] Oper.semAt_some
theorem KpX.set {X : Nat → Prop} {base : Nat} {t : TypeId} {g i : Nat} (hX : X g) (W : World) (v : Value) : KpX X base t W (W.setCell ⟨g, i, none⟩ v) := ⟨by simp [World.setCell], fun k _ ho hn _ _ => (Below.heap_setCell W ⟨g, i, none⟩ v k (fun e => hn (by rw [e]; exact hX))).trans ho⟩
theorem sum_le : ∀ (l : List (Nat × Nat × Nat)), (∀ p ∈ l, p.2.2 ≤ 200) → (l.map (·.2.2)).sum ≤ 200 * l.length
  | [], _ => by simp
  | p :: l, h => by
    have h1 := sum_le l (fun q hq => h q (by simp [hq]))
    have h2 := h p (by simp)
    rw [List.map_cons, List.sum_cons, List.length_cons]
    omega
set_option maxRecDepth 100000 in
set_option maxHeartbeats 4000000 in
theorem countG_gen (xa ya xb yb : Int) (A B : Option Addr) (na ca nb cb : Nat) (la lb : List Cl) (w : World) (hA : RowS w A na ca la) (hB : RowS w B nb cb lb) :
    Calls Try.prog 25 #[grv xa ya A na ca, grv xb yb B nb cb] w fun e w' => e = .returned (.int .i64 (countP xa ya xb yb la lb : Nat)) ∧ Below w.heap.size w w' := by
  have HA := Lib.hid hA
  have HB := Lib.hid hB
  have hNa := ((Blk.new w 32 #[.int .i64 xa, .int .i64 ya, .slice A na ca]).alloc (.cells #[.int .i64 xb, .int .i64 yb, .slice B nb cb] 32)).alloc (.cells #[.int .i64 0] 3)
  have hNb := (Blk.new (w.alloc (.cells #[.int .i64 xa, .int .i64 ya, .slice A na ca] 32)) 32 #[.int .i64 xb, .int .i64 yb, .slice B nb cb]).alloc (.cells #[.int .i64 0] 3)
  have hNn := Blk.new ((w.alloc (.cells #[.int .i64 xa, .int .i64 ya, .slice A na ca] 32)).alloc (.cells #[.int .i64 xb, .int .i64 yb, .slice B nb cb] 32)) 3 #[.int .i64 0]
  simp only [World.size_alloc] at hNb hNn
  have hb0 := (((Below.refl w.heap.size w).alloc (Nat.le_refl _) (.cells #[.int .i64 xa, .int .i64 ya, .slice A na ca] 32)).alloc (by simp) (.cells #[.int .i64 xb, .int .i64 yb, .slice B nb cb] 32)).alloc (by simp; omega) (.cells #[.int .i64 0] 3)
  obtain ⟨V0, hV0⟩ : ∃ V0, (w.alloc (.cells #[.int .i64 xa, .int .i64 ya, .slice A na ca] 32)).alloc (.cells #[.int .i64 xb, .int .i64 yb, .slice B nb cb] 32) = V0 := ⟨_, rfl⟩
  have hsV : V0.heap.size = w.heap.size + 2 := by rw [← hV0]; simp
  rw [hV0] at hNa hNb hNn hb0
  have hs0 : (V0.alloc (.cells #[.int .i64 0] 3)).heap.size = w.heap.size + 3 := by simp [hsV]
  have hal := alike_gen xa ya xb yb A B na ca nb cb la lb (V0.alloc (.cells #[.int .i64 0] 3)) (HA.out.below hb0) (HB.out.below hb0)
  have ka0 : (V0.alloc (.cells #[.int .i64 0] 3)).cell? ⟨w.heap.size, 0, none⟩ = some (.int .i64 xa) := hNa.cell 0
  have ka1 : (V0.alloc (.cells #[.int .i64 0] 3)).cell? ⟨w.heap.size, 1, none⟩ = some (.int .i64 ya) := hNa.cell 1
  have ka2 : (V0.alloc (.cells #[.int .i64 0] 3)).cell? ⟨w.heap.size, 2, none⟩ = some (.slice A na ca) := hNa.cell 2
  have kb0 : (V0.alloc (.cells #[.int .i64 0] 3)).cell? ⟨w.heap.size + 1, 0, none⟩ = some (.int .i64 xb) := hNb.cell 0
  have kb1 : (V0.alloc (.cells #[.int .i64 0] 3)).cell? ⟨w.heap.size + 1, 1, none⟩ = some (.int .i64 yb) := hNb.cell 1
  have kb2 : (V0.alloc (.cells #[.int .i64 0] 3)).cell? ⟨w.heap.size + 1, 2, none⟩ = some (.slice B nb cb) := hNb.cell 2
  clear hA hB
  refine (callsIn_wide (n := 4)).1 ?_
  cases hq : alikeP xa ya xb yb la lb with
  | false =>
    have HP := Lib.hid (show countP xa ya xb yb la lb = 0 by unfold countP; rw [hq]; rfl)
    rw [hq] at hal
    clear hq
    refine callsIn_of_wp_marks Try.func25 rfl trivial ?_ rfl
    simp only [Try.ntmps25, List.size_toArray, List.length_cons, List.length_nil, Nat.reduceAdd, Nat.reduceSub, Array.replicate_succ, Array.replicate_zero, List.push_toArray, List.append_toArray, List.nil_append, List.cons_append]
    gi_wp2
    refine ⟨trivial, (callsIn_wide.2 hal).mono ?_⟩
    rintro e w1 ⟨rfl, hb1⟩
    have hNn1 := hNn.below hb1 hNn.lt
    have hb2 := hb0.trans (hb1.mono hb0.size)
    have n0 : w1.cell? ⟨w.heap.size + 2, 0, none⟩ = some (.int .i64 0) := hNn1.cell 0
    clear hV0
    gi_wp2
    exact ⟨_, results_tmp rfl _ _ _, by rw [HP.out]; rfl, hb2⟩
  | true =>
    obtain ⟨hga, hgb, rfl, rfl⟩ := alike_parts hq
    obtain ⟨wn, hn, rfl, rfl, hw1, hw2, hh1, hh2, hlb, hrb⟩ := gridP_parts hgb
    obtain ⟨wn', hn', e1, e2, _, _, _, _, hla, _⟩ := gridP_parts hga
    obtain rfl : wn = wn' := by omega
    obtain rfl : hn = hn' := by omega
    have HP := Lib.hid (show countP (wn : Int) (hn : Int) (wn : Int) (hn : Int) la lb = ((allD la lb wn hn).map (·.2.2)).sum by unfold countP; rw [hq]; rfl)
    rw [hq] at hal
    have hnaE := HA.out.len
    have hnbE := HB.out.len
    obtain rfl : na = nb := by rw [← hnaE, ← hnbE, hla, hlb]
    have HNW := Lib.hid (show na = wn * hn from hnaE.symm.trans hla)
    have hn1 : 1 ≤ na := by
      have h4 := Nat.mul_le_mul hw1 hh1
      rw [HNW.out]
      exact h4
    obtain ⟨aa, rfl⟩ := HA.out.some_ad hn1
    obtain ⟨ab, rfl⟩ := HB.out.some_ad hn1
    have hCa : Cels w aa la := by
      obtain ⟨ad', he, hC⟩ := HA.out.row (by rw [hnaE]; omega)
      injection he with he
      subst he
      exact hC
    have hCb : Cels w ab lb := by
      obtain ⟨ad', he, hC⟩ := HB.out.row (by rw [hnbE]; omega)
      injection he with he
      subst he
      exact hC
    have hlta : aa.block < w.heap.size := by
      obtain ⟨c, hc⟩ : ∃ c, la[0]? = some c := ⟨_, List.getElem?_eq_getElem (by omega)⟩
      have := World.block_lt_of_cell? w _ (hCa 0 c hc).1.c0
      rw [block_add] at this
      exact this
    have hltb : ab.block < w.heap.size := by
      obtain ⟨c, hc⟩ : ∃ c, lb[0]? = some c := ⟨_, List.getElem?_eq_getElem (by omega)⟩
      have := World.block_lt_of_cell? w _ (hCb 0 c hc).1.c0
      rw [block_add] at this
      exact this
    have HLN := Lib.hid (allD_len (la := la) hlb hw2 hh2)
    have HMM := Lib.hid (allD_mem (la := la) hlb)
    clear hq hga hgb e1 e2 hla hlb
    refine callsIn_of_wp_marks Try.func25 rfl trivial ?_ rfl
    simp only [Try.ntmps25, List.size_toArray, List.length_cons, List.length_nil, Nat.reduceAdd, Nat.reduceSub, Array.replicate_succ, Array.replicate_zero, List.push_toArray, List.append_toArray, List.nil_append, List.cons_append]
    gi_wp2
    refine ⟨trivial, (callsIn_wide.2 hal).mono ?_⟩
    rintro e w1 ⟨rfl, hb1⟩
    have hNa1 := hNa.below hb1 hNa.lt
    have hNb1 := hNb.below hb1 hNb.lt
    have hNn1 := hNn.below hb1 hNn.lt
    have hb2 := hb0.trans (hb1.mono hb0.size)
    have hs1 : w.heap.size + 3 ≤ w1.heap.size := by rw [← hs0]; exact hb1.size
    have ja0 : w1.cell? ⟨w.heap.size, 0, none⟩ = some (.int .i64 (wn : Int)) := hNa1.cell 0
    have ja1 : w1.cell? ⟨w.heap.size, 1, none⟩ = some (.int .i64 (hn : Int)) := hNa1.cell 1
    have ja2 : w1.cell? ⟨w.heap.size, 2, none⟩ = some (.slice (some aa) na ca) := hNa1.cell 2
    have jb0 : w1.cell? ⟨w.heap.size + 1, 0, none⟩ = some (.int .i64 (wn : Int)) := hNb1.cell 0
    have jb1 : w1.cell? ⟨w.heap.size + 1, 1, none⟩ = some (.int .i64 (hn : Int)) := hNb1.cell 1
    have jb2 : w1.cell? ⟨w.heap.size + 1, 2, none⟩ = some (.slice (some ab) na cb) := hNb1.cell 2
    clear hV0 hsV hal ka0 ka1 ka2 kb0 kb1 kb2 hNa hNb hNn hb0 hs0 hb1
    gi_wp2
    refine ⟨trivial, (callsIn_wide.2 (druns_any wn hn wn hn (some aa) (some ab) na ca na cb w1)).mono ?_⟩
    rintro e w2 ⟨rfl, hw2e⟩
    have hbA := (Below.refl w1.heap.size w1).alloc (Nat.le_refl _) (.cells #[.int .i64 (wn : Int), .int .i64 (hn : Int), .slice (some aa) na ca] 32)
    have hbB := hbA.alloc (by simp) (.cells #[.int .i64 (wn : Int), .int .i64 (hn : Int), .slice (some ab) na cb] 32)
    rw [← hw2e] at hbB
    have hD : DR w2 w1.heap.size (w1.heap.size + 1) wn hn na ca cb aa ab la lb := by
      refine ⟨?_, ?_, hCa.below (hb2.trans (hbB.mono hb2.size)), hCb.below (hb2.trans (hbB.mono hb2.size))⟩
      · rw [hw2e]
        exact (Blk.new w1 32 _).alloc _
      · rw [hw2e]
        have h := Blk.new (w1.alloc (.cells #[.int .i64 (wn : Int), .int .i64 (hn : Int), .slice (some aa) na ca] 32)) 32 #[.int .i64 (wn : Int), .int .i64 (hn : Int), .slice (some ab) na cb]
        simpa using h
    have hs2 : w2.heap.size = w1.heap.size + 2 := by
      rw [hw2e]
      simp
    have hNn2 := hNn1.below hbB hNn1.lt
    have hb3 := hb2.trans (hbB.mono hb2.size)
    clear hw2e hbA hbB hNa1 hNb1 hNn1 hb2 ja0 ja1 ja2 jb0 jb1 jb2
    gi_wp2
    refine wpIn_rangeFunc_ownH (F := Fence.wide) rfl (by omega) (gf := 55) (lb := #[.pointer (some ⟨w1.heap.size + 1, 0, none⟩), .pointer (some ⟨w1.heap.size, 0, none⟩)]) rfl trivial (enters_of Try.func55 (by kernel_rfl) rfl)
      (druns_stops 3 (by omega) (fun k => k = w.heap.size + 2) w.heap.size w1.heap.size (w1.heap.size + 1) wn hn na ca cb aa ab la lb w2 hw1 hw2 hh2 HNW.out hnaE hnbE HA.out.cap HB.out.cap HA.out.cm HB.out.cm hrb (by omega) (by omega) (by omega) (by omega) hlta hltb (by omega) hD) KpX.trans (KpX.putObj) (Below.refl _ _) (fun _ => rfl)
      (fun (pre : List (Sub (allD la lb wn hn))) W => Blk W (w.heap.size + 2) 3 #[.int .i64 (((vals pre).map (·.2.2)).sum : Nat)] ∧ Below w.heap.size w W ∧ w2.heap.size ≤ W.heap.size)
      (fun _ _ _ => False)
      (OwnFrom.and (blk_own _ _ _ (fun (pre : List (Sub (allD la lb wn hn))) => #[.int .i64 (((vals pre).map (·.2.2)).sum : Nat)])) (OwnFrom.and (ownFrom_below (Nat.le_refl _) (by omega)) (size_own _ _)))
      (fun _ => ownFrom_pure _ (fun _ => False))
      ⟨hNn2, hb3, Nat.le_refl _⟩
      (fun x a' W => ∃ Bx, w2.heap.size ≤ Bx ∧ Blk W Bx 67 #[.int .i64 (x.1.1 : Nat), .int .i64 (x.1.2.1 : Nat), .int .i64 (x.1.2.2 : Nat)] ∧ a' = { tmps := #[grv wn hn (some aa) na ca, grv wn hn (some ab) na cb, .pointer (some ⟨w.heap.size, 0, none⟩), .pointer (some ⟨w.heap.size + 1, 0, none⟩), .int .i64 0, .pointer (some ⟨w.heap.size + 2, 0, none⟩), .pointer (some ⟨Bx, 0, none⟩), .agg #[.int .i64 (wn : Int), .int .i64 (hn : Int), .slice (some aa) na ca], .agg #[.int .i64 (wn : Int), .int .i64 (hn : Int), .slice (some ab) na cb], .bool true, .agg #[.int .i64 (wn : Int), .int .i64 (hn : Int), .slice (some aa) na ca], .agg #[.int .i64 (wn : Int), .int .i64 (hn : Int), .slice (some ab) na cb], .func (.func 55) #[] #[.pointer (some ⟨w1.heap.size + 1, 0, none⟩), .pointer (some ⟨w1.heap.size, 0, none⟩)], .agg #[.int .i64 (x.1.1 : Nat), .int .i64 (x.1.2.1 : Nat), .int .i64 (x.1.2.2 : Nat)], undef, undef, undef, undef, undef], defers := [] })
      (fun x a' _ X Y row hs hg hr => by
        obtain ⟨Bx, h1, h2, h3⟩ := hs
        exact ⟨Bx, h1, blk_own (β := Unit) _ _ _ (fun _ => _) () X Y row h2 hg hr, h3⟩)
      ?assign ?body ?done ?stop
    case assign =>
      rintro l1 pre x W K ⟨hI1, hI2, hI3⟩ hK
      gi_wp2
      have hgr := (Below.refl W.heap.size W).alloc (Nat.le_refl _) (.cells #[.int .i64 (x.1.1 : Nat), .int .i64 (x.1.2.1 : Nat), .int .i64 (x.1.2.2 : Nat)] 67)
      exact hK _ _ ((KeepsOthers.alloc _ _).from _) (KpX.of_below hgr) ⟨hI1.below hgr hI1.lt, hI2.alloc hI2.size _, Nat.le_trans hI3 hgr.size⟩ ⟨W.heap.size, hI3, Blk.new W _ _, rfl⟩
    case body =>
      rintro l1 pre x a' W hl ⟨r, hr⟩ ⟨hI1, hI2, hI3⟩ ⟨Bx, hBx, hbx, rfl⟩ hlt
      obtain ⟨⟨py, px, pn⟩, hmem⟩ := x
      have hm := HMM.out _ hmem
      have hpl := HLN.out
      have hsum : ((vals pre).map (·.2.2)).sum ≤ 200 * pre.length := by
        have h1 := sum_le (vals pre) (fun p hp => by
          simp only [vals, List.mem_map] at hp
          obtain ⟨⟨z, hz⟩, _, rfl⟩ := hp
          have := HMM.out z hz
          simp only
          omega)
        simpa [vals] using h1
      have HE := Lib.hid (show ((vals pre).map (·.2.2)).sum + pn = ((vals (pre ++ [⟨(py, px, pn), hmem⟩])).map (·.2.2)).sum by simp [vals])
      simp only at hm hbx
      generalize ((vals pre).map (·.2.2)).sum = T at hI1 hsum HE
      have n0 : W.cell? ⟨w.heap.size + 2, 0, none⟩ = some (.int .i64 (T : Int)) := hI1.cell 0
      have f0 : W.frozen? ⟨w.heap.size + 2, 0, none⟩ = false := hI1.free 0
      have x2 : W.cell? ⟨Bx, 2, none⟩ = some (.int .i64 (pn : Int)) := hbx.cell 2
      obtain ⟨TP, hTP⟩ : ∃ TP, TP = T + pn := ⟨_, rfl⟩
      have i1 : wrap64 ((T : Int) + (pn : Int)) = (TP : Int) := by
        rw [hTP]
        unfold wrap64
        omega
      rw [← hTP] at HE
      clear hTP hm hsum hpl
      gi_wp2
      refine ⟨(KeepsOthers.setCell _ _ _).from _, KpX.set (X := fun k => k = w.heap.size + 2) rfl _ _, ?_, hI2.setCell (p := ⟨w.heap.size + 2, 0, none⟩) (Nat.le_add_right _ 2) _, by simpa [World.setCell] using hI3⟩
      rw [← HE.out]
      exact hI1.set 0 (.int .i64 (TP : Int))
    case done =>
      rintro D ys W hD rfl ⟨hI1, hI2, hI3⟩ hK
      rw [vals_all, ← HP.out] at hI1
      have n0 : W.cell? ⟨w.heap.size + 2, 0, none⟩ = some (.int .i64 ((countP (wn : Int) (hn : Int) (wn : Int) (hn : Int) la lb : Nat) : Int)) := hI1.cell 0
      gi_wp2
      refine ⟨by simp, .inl ⟨_, _, rfl, run_takeDeferred hK, ?_⟩⟩
      exact ⟨_, results_tmp rfl _ _ _, rfl, hI2.trans (belowK_b (w := w) (Nat.le_refl _) W D _ _ (by omega) hK rfl rfl)⟩
    case stop =>
      rintro D c pre W _ _ h _
      exact h.elim
end Go.Proofs.Ytpjafocgabhieaa
