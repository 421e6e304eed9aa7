/- diff.Diff: walked (for DiffTells). -/
import Derived.Test.YtpjafocgabhieaaCntG
namespace Go.Proofs.Ytpjafocgabhieaa
open Go.RowKit Go.Shelf Nums
attribute [local go_sem] Oper.semAt_some
theorem KpX.of_own {X : Nat → Prop} {base : Nat} {t : TypeId} {n : Nat} {v : Value} {xs : List Value} {W W' : World} (h : W.ownsRow base t 1 v n xs) (hg : W.grownBy W' v.ownBlock) : KpX X base t W W' := ⟨hg.size, fun k o ho _ _ ht => by
  refine (hg.block k (Array.getElem?_eq_some_iff.1 ho).1 (fun e => ?_)).trans ho
  rcases h.2 with ⟨rfl, _⟩ | ⟨g, cap, cur, rfl, hbg, hgg, _⟩
  · simp [Value.ownBlock] at e
  · obtain rfl : k = g := by simpa [Value.ownBlock] using e
    rw [hgg] at ho
    cases ho
    rcases ht with ht | ht
    · omega
    · exact ht _ _ rfl⟩
theorem KeepsOthers.of_own {t : TypeId} {base n : Nat} {v : Value} {xs : List Value} {W W' : World} (h : W.ownsRow base t 1 v n xs) (hg : W.grownBy W' v.ownBlock) : KeepsOthers W W' := KeepsOthers.of_grownBy hg (fun j o e ho => by
  rcases h.2 with ⟨rfl, _⟩ | ⟨g, cap, cur, rfl, hbg, hgg, _⟩
  · simp [Value.ownBlock] at e
  · obtain rfl : g = j := by simpa [Value.ownBlock] using e
    rw [hgg] at ho
    cases ho
    rfl)
/-- A box with a row of bytes of the call's own. -/
def TxtAt (W : World) (Bt base : Nat) (L : List UInt8) : Prop := ∃ v, Blk W Bt 45 #[v] ∧ W.ownsRow base 5 1 v L.length (L.map bv)
theorem txt_own {β : Type} (B Bt base : Nat) (f : β → List UInt8) : OwnFrom B (fun (s : β) W => TxtAt W Bt base (f s)) := fun s X Y row hs hg hr => by
  obtain ⟨v, h1, h2⟩ := hs
  refine ⟨v, blk_own (β := Unit) B Bt _ (fun _ => #[v]) () X Y row h1 hg hr, h2.kept hg ?_⟩
  cases hv : v.ownBlock with
  | none => exact .inl rfl
  | some g =>
    refine .inr (fun e => ?_)
    obtain ⟨_, o, ho, hc⟩ := hr g e.symm
    rcases h2.2 with ⟨rfl, _⟩ | ⟨g', cap, cur, rfl, _, hgg, _⟩
    · simp [Value.ownBlock] at hv
    · obtain rfl : g' = g := by simpa [Value.ownBlock] using hv
      rw [hgg] at ho
      cases ho
      cases hc
theorem own_ne_blk {w : World} {base n g : Nat} {e t : TypeId} {v : Value} {xs : List Value} {cs : Array Value} (h : w.ownsRow base e 1 v n xs) (hb : Blk w g t cs) (ht : t ≠ e) : some g ≠ v.ownBlock := fun he => by
  rcases h.2 with ⟨rfl, _⟩ | ⟨g', cap, cur, rfl, _, hgg, _⟩
  · simp [Value.ownBlock] at he
  · obtain rfl : g = g' := by simpa [Value.ownBlock] using he
    unfold Blk at hb
    rw [hgg] at hb
    cases hb
    exact ht rfl
theorem own_later {w w' : World} {base n : Nat} {e : TypeId} {v : Value} {xs : List Value} (h : w.ownsRow base e 1 v n xs) (hb : Below w.heap.size w w') : w'.ownsRow base e 1 v n xs := h.kept (grown_none' hb) (by
  cases hv : v.ownBlock with
  | none => exact .inl rfl
  | some g => exact .inr (by simp))
theorem own_set {w : World} {base n b : Nat} {e : TypeId} {v : Value} {xs : List Value} (h : w.ownsRow base e 1 v n xs) (hb : b < base) (u : Value) : (w.setCell ⟨b, 0, none⟩ u).ownsRow base e 1 v n xs := h.kept (row := some b) (only_set (only_refl b w) 0 u) (by
  cases hv : v.ownBlock with
  | none => exact .inl rfl
  | some g => exact .inr (fun e => by injection e with e; have := (h.lt g hv).1; omega))
abbrev HeldF (b N : Nat) (At : Option Addr) (nt ct : Nat) (L : List UInt8) (wn hn Y : Nat) (w0 w : World) : Prop :=
  w.cell? ⟨b, 0, none⟩ = some (.int .i64 (wn : Int)) ∧ w.cell? ⟨b, 1, none⟩ = some (.int .i64 (hn : Int)) ∧ w.cell? ⟨N, 0, none⟩ = some (.int .i64 (Y : Int)) ∧ w.cell? ⟨N + 1, 0, none⟩ = some (.slice At nt ct) ∧ w.ownsRow (N + 4) 5 1 (.slice At nt ct) nt (L.map bv) ∧
  (convert 45 9 (.slice At nt ct)).run Try.prog w = .ok (.string ⟨L.toArray⟩) w ∧ Below w0.heap.size w0 w ∧ w0.heap.size ≤ w.heap.size
theorem HeldF.keep {b N : Nat} {At : Option Addr} {nt ct : Nat} {L : List UInt8} {wn hn Y : Nat} {w0 w w' : World} (h : HeldF b N At nt ct L wn hn Y w0 w) (hb : Below w.heap.size w w') : HeldF b N At nt ct L wn hn Y w0 w' := by
  obtain ⟨h0, h1, h2, h3, h4, _, hB, hS⟩ := h
  have h5 := own_later h4 hb
  have hn : nt = L.length := by
    have := h4.1
    rw [List.length_map] at this
    omega
  subst hn
  exact ⟨keepc hb h0, keepc hb h1, keepc hb h2, keepc hb h3, h5, conv_own (P := Try.prog) (src := 45) (dst := 9) Try.underlying45 Try.underlying5 Try.underlying9 h5, hB.trans (hb.mono hS), Nat.le_trans hS hb.size⟩
set_option maxRecDepth 100000 in
set_option maxHeartbeats 4000000 in
theorem diffG_gen (xa ya xb yb : Int) (A B : Option Addr) (na ca nb cb : Nat) (la lb : List Cl) (w : World) (hA : RowS w A na ca la) (hB : RowS w B nb cb lb) :
    Calls Try.prog 13 #[grv xa ya A na ca, grv xb yb B nb cb] w fun e w' => e = .returned (.string ⟨(diffP xa ya xb yb la lb).toArray⟩) ∧ Below w.heap.size w w' := by
  have HA := Lib.hid hA
  have HB := Lib.hid hB
  have hNa := (Blk.new w 32 #[.int .i64 xa, .int .i64 ya, .slice A na ca]).alloc (.cells #[.int .i64 xb, .int .i64 yb, .slice B nb cb] 32)
  have hNb := Blk.new (w.alloc (.cells #[.int .i64 xa, .int .i64 ya, .slice A na ca] 32)) 32 #[.int .i64 xb, .int .i64 yb, .slice B nb cb]
  simp only [World.size_alloc] at hNb
  have hb0 := ((Below.refl w.heap.size w).alloc (Nat.le_refl _) (.cells #[.int .i64 xa, .int .i64 ya, .slice A na ca] 32)).alloc (by simp) (.cells #[.int .i64 xb, .int .i64 yb, .slice B nb cb] 32)
  obtain ⟨V0, hV0⟩ : ∃ V0, (w.alloc (.cells #[.int .i64 xa, .int .i64 ya, .slice A na ca] 32)).alloc (.cells #[.int .i64 xb, .int .i64 yb, .slice B nb cb] 32) = V0 := ⟨_, rfl⟩
  have hsV : V0.heap.size = w.heap.size + 2 := by rw [← hV0]; simp
  rw [hV0] at hNa hNb hb0
  have hal := alike_gen xa ya xb yb A B na ca nb cb la lb V0 (HA.out.below hb0) (HB.out.below hb0)
  have ka0 : V0.cell? ⟨w.heap.size, 0, none⟩ = some (.int .i64 xa) := hNa.cell 0
  have ka1 : V0.cell? ⟨w.heap.size, 1, none⟩ = some (.int .i64 ya) := hNa.cell 1
  have ka2 : V0.cell? ⟨w.heap.size, 2, none⟩ = some (.slice A na ca) := hNa.cell 2
  have kb0 : V0.cell? ⟨w.heap.size + 1, 0, none⟩ = some (.int .i64 xb) := hNb.cell 0
  have kb1 : V0.cell? ⟨w.heap.size + 1, 1, none⟩ = some (.int .i64 yb) := hNb.cell 1
  have kb2 : V0.cell? ⟨w.heap.size + 1, 2, none⟩ = some (.slice B nb cb) := hNb.cell 2
  clear hA hB
  refine (callsIn_wide (n := 4)).1 ?_
  cases hq : alikeP xa ya xb yb la lb with
  | false =>
    have HP := Lib.hid (show diffP xa ya xb yb la lb = [] by unfold diffP; rw [hq]; rfl)
    rw [hq] at hal
    clear hq
    refine callsIn_of_wp_marks Try.func13 rfl trivial ?_ rfl
    simp only [Try.ntmps13, List.size_toArray, List.length_cons, List.length_nil, Nat.reduceAdd, Nat.reduceSub, Array.replicate_succ, Array.replicate_zero, List.push_toArray, List.append_toArray, List.nil_append, List.cons_append]
    gi_wp2
    refine ⟨trivial, (callsIn_wide.2 hal).mono ?_⟩
    rintro e w1 ⟨rfl, hb1⟩
    have hb2 := hb0.trans (hb1.mono hb0.size)
    clear hV0
    gi_wp2
    exact ⟨_, results_tmp rfl _ _ _, by rw [HP.out]; rfl, hb2⟩
  | true =>
    obtain ⟨hga, hgb, rfl, rfl⟩ := alike_parts hq
    obtain ⟨wn, hn, rfl, rfl, hw1, hw2, hh1, hh2, hlb, hrb⟩ := gridP_parts hgb
    obtain ⟨wn', hn', e1, e2, _, _, _, _, hla, _⟩ := gridP_parts hga
    obtain rfl : wn = wn' := by omega
    obtain rfl : hn = hn' := by omega
    have HP := Lib.hid (show diffP (wn : Int) (hn : Int) (wn : Int) (hn : Int) la lb = putL [(wn : Int), (hn : Int), ((allD la lb wn hn).length : Int)] ++ outD lb wn (allD la lb wn hn) by unfold diffP; rw [hq]; rfl)
    rw [hq] at hal
    have hnaE := HA.out.len
    have hnbE := HB.out.len
    obtain rfl : na = nb := by rw [← hnaE, ← hnbE, hla, hlb]
    have HNW := Lib.hid (show na = wn * hn from hnaE.symm.trans hla)
    have hn1 : 1 ≤ na := by
      have h4 := Nat.mul_le_mul hw1 hh1
      rw [HNW.out]
      exact h4
    obtain ⟨aa, rfl⟩ := HA.out.some_ad hn1
    obtain ⟨ab, rfl⟩ := HB.out.some_ad hn1
    have hCa : Cels w aa la := by
      obtain ⟨ad', he, hC⟩ := HA.out.row (by rw [hnaE]; omega)
      injection he with he
      subst he
      exact hC
    have hCb : Cels w ab lb := by
      obtain ⟨ad', he, hC⟩ := HB.out.row (by rw [hnbE]; omega)
      injection he with he
      subst he
      exact hC
    have hlta : aa.block < w.heap.size := by
      obtain ⟨c, hc⟩ : ∃ c, la[0]? = some c := ⟨_, List.getElem?_eq_getElem (by omega)⟩
      have := World.block_lt_of_cell? w _ (hCa 0 c hc).1.c0
      rw [block_add] at this
      exact this
    have hltb : ab.block < w.heap.size := by
      obtain ⟨c, hc⟩ : ∃ c, lb[0]? = some c := ⟨_, List.getElem?_eq_getElem (by omega)⟩
      have := World.block_lt_of_cell? w _ (hCb 0 c hc).1.c0
      rw [block_add] at this
      exact this
    have HLB := Lib.hid hlb
    have HLN := Lib.hid (allD_len (la := la) hlb hw2 hh2)
    have HMM := Lib.hid (allD_mem (la := la) hlb)
    clear hq hga hgb e1 e2 hla hlb
    refine callsIn_of_wp_marks Try.func13 rfl trivial ?_ rfl
    simp only [Try.ntmps13, List.size_toArray, List.length_cons, List.length_nil, Nat.reduceAdd, Nat.reduceSub, Array.replicate_succ, Array.replicate_zero, List.push_toArray, List.append_toArray, List.nil_append, List.cons_append]
    gi_wp2
    refine ⟨trivial, (callsIn_wide.2 hal).mono ?_⟩
    rintro e w1 ⟨rfl, hb1⟩
    have hNa1 := hNa.below hb1 hNa.lt
    have hNb1 := hNb.below hb1 hNb.lt
    have hb2 := hb0.trans (hb1.mono hb0.size)
    have hs1 : w.heap.size + 2 ≤ w1.heap.size := by rw [← hsV]; exact hb1.size
    have hbn := (Below.refl w1.heap.size w1).alloc (Nat.le_refl _) (.cells #[.int .i64 0] 3)
    have hbt := hbn.alloc (by simp) (.cells #[.slice none 0 0] 45)
    have hNn := (Blk.new w1 3 #[.int .i64 0]).alloc (.cells #[.slice none 0 0] 45)
    have hNt := Blk.new (w1.alloc (.cells #[.int .i64 0] 3)) 45 #[.slice none 0 0]
    have hs2 : ((w1.alloc (.cells #[.int .i64 0] 3)).alloc (.cells #[.slice none 0 0] 45)).heap.size = w1.heap.size + 2 := by simp
    rw [World.size_alloc] at hNt
    have hNa2 := hNa1.below hbt hNa1.lt
    have hNb2 := hNb1.below hbt hNb1.lt
    have hb3 := hb2.trans (hbt.mono hb2.size)
    have ja0 : ((w1.alloc (.cells #[.int .i64 0] 3)).alloc (.cells #[.slice none 0 0] 45)).cell? ⟨w.heap.size, 0, none⟩ = some (.int .i64 (wn : Int)) := hNa2.cell 0
    have ja1 : ((w1.alloc (.cells #[.int .i64 0] 3)).alloc (.cells #[.slice none 0 0] 45)).cell? ⟨w.heap.size, 1, none⟩ = some (.int .i64 (hn : Int)) := hNa2.cell 1
    have ja2 : ((w1.alloc (.cells #[.int .i64 0] 3)).alloc (.cells #[.slice none 0 0] 45)).cell? ⟨w.heap.size, 2, none⟩ = some (.slice (some aa) na ca) := hNa2.cell 2
    have jb0 : ((w1.alloc (.cells #[.int .i64 0] 3)).alloc (.cells #[.slice none 0 0] 45)).cell? ⟨w.heap.size + 1, 0, none⟩ = some (.int .i64 (wn : Int)) := hNb2.cell 0
    have jb1 : ((w1.alloc (.cells #[.int .i64 0] 3)).alloc (.cells #[.slice none 0 0] 45)).cell? ⟨w.heap.size + 1, 1, none⟩ = some (.int .i64 (hn : Int)) := hNb2.cell 1
    have jb2 : ((w1.alloc (.cells #[.int .i64 0] 3)).alloc (.cells #[.slice none 0 0] 45)).cell? ⟨w.heap.size + 1, 2, none⟩ = some (.slice (some ab) na cb) := hNb2.cell 2
    clear hV0 hal ka0 ka1 ka2 kb0 kb1 kb2 hNa hNb hb0 hsV hb1 hNa1 hNb1 hb2 hbn hbt
    gi_wp2
    refine ⟨trivial, (callsIn_wide.2 (druns_any wn hn wn hn (some aa) (some ab) na ca na cb _)).mono ?_⟩
    rintro e w3 ⟨rfl, hw3e⟩
    rw [hs2]
    generalize (w1.alloc (.cells #[.int .i64 0] 3)).alloc (.cells #[.slice none 0 0] 45) = w2 at hNn hNt hs2 hNa2 hNb2 hb3 ja0 ja1 ja2 jb0 jb1 jb2 hw3e
    have hbA := (Below.refl w2.heap.size w2).alloc (Nat.le_refl _) (.cells #[.int .i64 (wn : Int), .int .i64 (hn : Int), .slice (some aa) na ca] 32)
    have hbB := hbA.alloc (by simp) (.cells #[.int .i64 (wn : Int), .int .i64 (hn : Int), .slice (some ab) na cb] 32)
    rw [← hw3e] at hbB
    have hD : DR w3 (w1.heap.size + 2) (w1.heap.size + 2 + 1) wn hn na ca cb aa ab la lb := by
      refine ⟨?_, ?_, hCa.below (hb3.trans (hbB.mono hb3.size)), hCb.below (hb3.trans (hbB.mono hb3.size))⟩
      · rw [hw3e, ← hs2]
        exact (Blk.new w2 32 _).alloc _
      · rw [hw3e, ← hs2]
        have h := Blk.new (w2.alloc (.cells #[.int .i64 (wn : Int), .int .i64 (hn : Int), .slice (some aa) na ca] 32)) 32 #[.int .i64 (wn : Int), .int .i64 (hn : Int), .slice (some ab) na cb]
        simpa using h
    have hs3 : w3.heap.size = w1.heap.size + 4 := by
      rw [hw3e]
      simp [hs2]
    have hNn3 := hNn.below hbB hNn.lt
    have hNt3 := hNt.below hbB hNt.lt
    have hNb3 := hNb2.below hbB hNb2.lt
    have hb4 := hb3.trans (hbB.mono hb3.size)
    clear hw3e hbA hbB hNa2 hNb2 hb3 ja0 ja1 ja2 jb0 jb1 jb2 hNn hNt hs2
    obtain ⟨N, hN⟩ : ∃ N, N = w1.heap.size := ⟨_, rfl⟩
    rw [← hN] at hD hs3 hNn3 hNt3 hs1 ⊢
    clear hN
    gi_wp2
    have hI0 : TxtAt w3 (N + 1) (N + 4) (outD lb wn (vals ([] : List (Sub (allD la lb wn hn))))) := ⟨_, hNt3, World.ownsRow_nil _ _ _ _⟩
    refine wpIn_rangeFunc_ownH (F := Fence.wide) rfl (by omega) (gf := 55) (lb := #[.pointer (some ⟨N + 2 + 1, 0, none⟩), .pointer (some ⟨N + 2, 0, none⟩)]) rfl trivial (enters_of Try.func55 (by kernel_rfl) rfl)
      (druns_stops 3 (by omega) (fun k => k = N ∨ k = N + 1) (N + 4) (N + 2) (N + 2 + 1) wn hn na ca cb aa ab la lb w3 hw1 hw2 hh2 HNW.out hnaE hnbE HA.out.cap HB.out.cap HA.out.cm HB.out.cm hrb (by omega) (by omega) (by omega) (by omega) (by omega) (by omega) (by omega) hD) KpX.trans (KpX.putObj) (Below.refl _ _) (fun _ => rfl)
      (fun (pre : List (Sub (allD la lb wn hn))) W => Blk W N 3 #[.int .i64 (pre.length : Nat)] ∧ TxtAt W (N + 1) (N + 4) (outD lb wn (vals pre)) ∧ Blk W (w.heap.size + 1) 32 #[.int .i64 (wn : Int), .int .i64 (hn : Int), .slice (some ab) na cb] ∧ Below w.heap.size w W ∧ N + 4 ≤ W.heap.size)
      (fun _ _ _ => False)
      (OwnFrom.and (blk_own _ _ _ (fun (pre : List (Sub (allD la lb wn hn))) => #[.int .i64 (pre.length : Nat)])) (OwnFrom.and (txt_own _ _ _ _) (OwnFrom.and (blk_own _ _ _ (fun _ => #[.int .i64 (wn : Int), .int .i64 (hn : Int), .slice (some ab) na cb])) (OwnFrom.and (ownFrom_below (Nat.le_refl _) (by omega)) (size_own _ _)))))
      (fun _ => ownFrom_pure _ (fun _ => False))
      ⟨hNn3, hI0, hNb3, hb4, by omega⟩
      (fun x a' W => ∃ Bx, N + 4 ≤ Bx ∧ Blk W Bx 67 #[.int .i64 (x.1.1 : Nat), .int .i64 (x.1.2.1 : Nat), .int .i64 (x.1.2.2 : Nat)] ∧ a' = { tmps := #[grv wn hn (some aa) na ca, grv wn hn (some ab) na cb, .pointer (some ⟨w.heap.size, 0, none⟩), .pointer (some ⟨w.heap.size + 1, 0, none⟩), .string ⟨#[]⟩, .pointer (some ⟨N, 0, none⟩), .pointer (some ⟨N + 1, 0, none⟩), .pointer (some ⟨Bx, 0, none⟩), .agg #[.int .i64 (wn : Int), .int .i64 (hn : Int), .slice (some aa) na ca], .agg #[.int .i64 (wn : Int), .int .i64 (hn : Int), .slice (some ab) na cb], .bool true, .bool false, .agg #[.int .i64 (wn : Int), .int .i64 (hn : Int), .slice (some aa) na ca], .agg #[.int .i64 (wn : Int), .int .i64 (hn : Int), .slice (some ab) na cb], .func (.func 55) #[] #[.pointer (some ⟨N + 2 + 1, 0, none⟩), .pointer (some ⟨N + 2, 0, none⟩)], .agg #[.int .i64 (x.1.1 : Nat), .int .i64 (x.1.2.1 : Nat), .int .i64 (x.1.2.2 : Nat)], undef, undef, undef, undef, undef, undef, undef, undef, undef, undef, undef, undef, undef, undef, undef, undef, undef, undef, undef, undef, undef, undef, undef, undef, undef, undef, undef, undef, undef, undef, undef, undef, undef, undef, undef, undef, undef], defers := [] })
      (fun x a' _ X Y row hs hg hr => by
        obtain ⟨Bx, h1, h2, h3⟩ := hs
        exact ⟨Bx, h1, blk_own (β := Unit) _ _ _ (fun _ => _) () X Y row h2 hg hr, h3⟩)
      ?assign ?body ?done ?stop
    case assign =>
      rintro l1 pre x W K ⟨hI1, hI2, hI3, hI4, hI5⟩ hK
      gi_wp2
      have hgr := (Below.refl W.heap.size W).alloc (Nat.le_refl _) (.cells #[.int .i64 (x.1.1 : Nat), .int .i64 (x.1.2.1 : Nat), .int .i64 (x.1.2.2 : Nat)] 67)
      exact hK _ _ ((KeepsOthers.alloc _ _).from _) (KpX.of_below hgr) ⟨hI1.below hgr hI1.lt, txt_own (β := Unit) 0 _ _ (fun _ => _) () W _ none hI2 (grown_none' hgr) (fun r e => by cases e), hI3.below hgr hI3.lt, hI4.alloc hI4.size _, Nat.le_trans hI5 hgr.size⟩ ⟨W.heap.size, hI5, Blk.new W _ _, rfl⟩
    case body =>
      rintro l1 pre x a' W hl ⟨r, hr⟩ ⟨hI1, hI2, hI3, hI4, hI5⟩ ⟨Bx, hBx, hbx, rfl⟩ hlt
      obtain ⟨⟨py, px, pn⟩, hmem⟩ := x
      have hm := HMM.out _ hmem
      have hpl := HLN.out
      simp only at hm hbx
      have n0 : W.cell? ⟨N, 0, none⟩ = some (.int .i64 (pre.length : Nat)) := hI1.cell 0
      have f0 : W.frozen? ⟨N, 0, none⟩ = false := hI1.free 0
      have hN8 := hI1.set 0 (.int .i64 ((pre.length : Int) + 1))
      have hB8 := hI3.far (p := ⟨N, 0, none⟩) (by simp only; omega) (.int .i64 ((pre.length : Int) + 1))
      have hX8 := hbx.far (p := ⟨N, 0, none⟩) (by simp only; omega) (.int .i64 ((pre.length : Int) + 1))
      have hb8 := hI4.setCell (p := ⟨N, 0, none⟩) (show w.heap.size ≤ N by omega) (.int .i64 ((pre.length : Int) + 1))
      have hs8 : N + 4 ≤ (W.setCell ⟨N, 0, none⟩ (.int .i64 ((pre.length : Int) + 1))).heap.size := by simpa [World.setCell] using hI5
      have hKO8 : KeepsOthers W (W.setCell ⟨N, 0, none⟩ (.int .i64 ((pre.length : Int) + 1))) := KeepsOthers.setCell _ _ _
      have hKX8 : KpX (fun k => k = N ∨ k = N + 1) (N + 4) 5 W (W.setCell ⟨N, 0, none⟩ (.int .i64 ((pre.length : Int) + 1))) := KpX.set (X := fun k => k = N ∨ k = N + 1) (.inl rfl) _ _
      have hT8 : TxtAt (W.setCell ⟨N, 0, none⟩ (.int .i64 ((pre.length : Int) + 1))) (N + 1) (N + 4) (outD lb wn (vals pre)) := by
        obtain ⟨v, h1, h2⟩ := hI2
        refine ⟨v, h1.far (by simp only; omega) _, h2.kept (row := some N) (only_set (only_refl N W) 0 _) ?_⟩
        cases hv : v.ownBlock with
        | none => exact .inl rfl
        | some g => exact .inr (fun e => by injection e with e; have := (h2.lt g hv).1; omega)
      gi_wp2
      generalize W.setCell ⟨N, 0, none⟩ (.int .i64 ((pre.length : Int) + 1)) = W8 at hN8 hB8 hX8 hb8 hs8 hKO8 hKX8 hT8 ⊢
      clear hI1 hI2 hI3 hI4 hbx n0 f0
      have hLl : (outD lb wn (vals pre)).length ≤ 600030 * 12000 := by
        have h1 := outD_len HB.out.ok HLB.out hw2 hh2 (vals pre) (fun p hp => by
          simp only [vals, List.mem_map] at hp
          obtain ⟨⟨z, hz⟩, _, rfl⟩ := hp
          exact HMM.out z hz)
        have h2 : (vals pre).length = pre.length := by simp [vals]
        rw [h2] at h1
        omega
      have HE := Lib.hid (show outD lb wn (vals pre) ++ putL [(py : Int), (px : Int), (pn : Int)] ++ bytesP (subP lb wn (py, px, pn)) = outD lb wn (vals (pre ++ [⟨(py, px, pn), hmem⟩])) by
        simp only [vals, List.map_append, List.map_cons, List.map_nil]
        rw [outD_append, outD_one, List.append_assoc]
        rfl)
      have hput : Calls Try.prog 17 #[.slice (some ⟨W8.heap.size, 0, none⟩) 3 3] ((W8.alloc (.cells #[.int .i64 (py : Nat), .int .i64 (px : Nat), .int .i64 (pn : Nat)] 3)).drew) fun e w' => e = .returned (.string ⟨(putL [(py : Int), (px : Int), (pn : Int)]).toArray⟩) ∧ Below ((W8.alloc (.cells #[.int .i64 (py : Nat), .int .i64 (px : Nat), .int .i64 (pn : Nat)] 3)).drew).heap.size ((W8.alloc (.cells #[.int .i64 (py : Nat), .int .i64 (px : Nat), .int .i64 (pn : Nat)] 3)).drew) w' :=
        put_any _ 3 3 [(py : Int), (px : Int), (pn : Int)] _ rfl (Elems.drew (Ints.new W8 [(py : Int), (px : Int), (pn : Int)] 3)) (triple_fit (by omega) (by omega) (by omega)) (by omega)
      have hpll : (putL [(py : Int), (px : Int), (pn : Int)]).length ≤ 30 := putL_len _ (triple_fit (by omega) (by omega) (by omega))
      generalize putL [(py : Int), (px : Int), (pn : Int)] = pl at HE hput hpll
      generalize outD lb wn (vals pre) = L at hT8 hLl HE
      obtain ⟨v, hTb, hTo⟩ := hT8
      obtain ⟨At, ct, hv⟩ := own_form hTo
      obtain ⟨nt, hnt⟩ : ∃ nt, nt = L.length := ⟨_, rfl⟩
      rw [← hnt] at hTo hv hLl
      subst hv
      have HNT := Lib.hid hnt
      clear hnt
      have hps : (⟨pl.toArray⟩ : ByteArray).size = pl.length := by simp [ByteArray.size]
      obtain ⟨i0, hi, hz0, hz1, hz2⟩ := info_parts Try.info5
      obtain ⟨n1, hn1'⟩ : ∃ n1, n1 = (L ++ pl).length := ⟨_, rfl⟩
      have HLn := Lib.hid hn1'
      have HL1 := Lib.hid (show n1 = nt + (⟨pl.toArray⟩ : ByteArray).size by rw [hn1', List.length_append, hps, HNT.out])
      clear hn1'
      have HL2 := Lib.hid (show (L ++ pl).map bv = L.map bv ++ Lib.strCells ⟨pl.toArray⟩ by rw [strCells_of, List.map_append]; rfl)
      have hS : W8.drew.cell? ⟨Bx, 0, none⟩ = some (.int .i64 (py : Nat)) ∧ W8.drew.cell? ⟨Bx, 1, none⟩ = some (.int .i64 (px : Nat)) ∧ W8.drew.cell? ⟨Bx, 2, none⟩ = some (.int .i64 (pn : Nat)) := ⟨hX8.cell 0, hX8.cell 1, hX8.cell 2⟩
      have hbm := ((Below.refl W8.heap.size W8).alloc (Nat.le_refl _) (.cells #[.int .i64 (py : Nat), .int .i64 (px : Nat), .int .i64 (pn : Nat)] 3)).drew
      have hX8a := hX8.below hbm hX8.lt
      have hTba := hTb.below hbm hTb.lt
      have hS1 : ((W8.alloc (.cells #[.int .i64 (py : Nat), .int .i64 (px : Nat), .int .i64 (pn : Nat)] 3)).drew).cell? ⟨Bx, 0, none⟩ = some (.int .i64 (py : Nat)) ∧ ((W8.alloc (.cells #[.int .i64 (py : Nat), .int .i64 (px : Nat), .int .i64 (pn : Nat)] 3)).drew).cell? ⟨Bx, 1, none⟩ = some (.int .i64 (px : Nat)) ∧ ((W8.alloc (.cells #[.int .i64 (py : Nat), .int .i64 (px : Nat), .int .i64 (pn : Nat)] 3)).drew).cell? ⟨Bx, 2, none⟩ = some (.int .i64 (pn : Nat)) := ⟨hX8a.cell 0, hX8a.cell 1, hX8a.cell 2⟩
      have t0 : W8.drew.cell? ⟨N + 1, 0, none⟩ = some (.slice At nt ct) := hTb.drew.cell 0
      have t1 : ((W8.alloc (.cells #[.int .i64 (py : Nat), .int .i64 (px : Nat), .int .i64 (pn : Nat)] 3)).drew).cell? ⟨N + 1, 0, none⟩ = some (.slice At nt ct) := hTba.cell 0
      refine held_round (S := fun w' => w'.cell? ⟨Bx, 0, none⟩ = some (.int .i64 (py : Nat)) ∧ w'.cell? ⟨Bx, 1, none⟩ = some (.int .i64 (px : Nat)) ∧ w'.cell? ⟨Bx, 2, none⟩ = some (.int .i64 (pn : Nat)))
        (K := fun a' w' => ∃ v', a' = { tmps := #[grv wn hn (some aa) na ca, grv wn hn (some ab) na cb, .pointer (some ⟨w.heap.size, 0, none⟩), .pointer (some ⟨w.heap.size + 1, 0, none⟩), .string ⟨#[]⟩, .pointer (some ⟨N, 0, none⟩), .pointer (some ⟨N + 1, 0, none⟩), .pointer (some ⟨Bx, 0, none⟩), .agg #[.int .i64 (wn : Int), .int .i64 (hn : Int), .slice (some aa) na ca], .agg #[.int .i64 (wn : Int), .int .i64 (hn : Int), .slice (some ab) na cb], .bool true, .bool false, .agg #[.int .i64 (wn : Int), .int .i64 (hn : Int), .slice (some aa) na ca], .agg #[.int .i64 (wn : Int), .int .i64 (hn : Int), .slice (some ab) na cb], .func (.func 55) #[] #[.pointer (some ⟨N + 2 + 1, 0, none⟩), .pointer (some ⟨N + 2, 0, none⟩)], .agg #[.int .i64 (py : Nat), .int .i64 (px : Nat), .int .i64 (pn : Nat)], .int .i64 (pre.length : Nat), .int .i64 ((pre.length : Int) + 1), .slice At nt ct, .pointer (some ⟨Bx, 0, none⟩), .int .i64 (py : Nat), .pointer (some ⟨Bx, 1, none⟩), .int .i64 (px : Nat), .pointer (some ⟨Bx, 2, none⟩), .int .i64 (pn : Nat), .slice (some ⟨W8.heap.size, 0, none⟩) 3 3, .string ⟨pl.toArray⟩, v', undef, undef, undef, undef, undef, undef, undef, undef, undef, undef, undef, undef, undef, undef, undef, undef, undef, undef, undef, undef, undef, undef, undef, undef, undef], defers := [] } ∧ Blk w' (N + 1) 45 #[v'] ∧ w'.ownsRow (N + 4) 5 1 v' n1 ((L ++ pl).map bv) ∧
          Blk w' N 3 #[.int .i64 ((pre.length : Int) + 1)] ∧ Blk w' (w.heap.size + 1) 32 #[.int .i64 (wn : Int), .int .i64 (hn : Int), .slice (some ab) na cb] ∧ Blk w' Bx 67 #[.int .i64 (py : Nat), .int .i64 (px : Nat), .int .i64 (pn : Nat)] ∧ Below w.heap.size w w' ∧ N + 4 ≤ w'.heap.size ∧ KeepsOthers W8 w' ∧ KpX (fun k => k = N ∨ k = N + 1) (N + 4) 5 W8 w')
        (by kernel_rfl) (by kernel_rfl) ?_ ?_
      ·
        refine wpAnyH_take (i := 1) (v := ?v1) rfl (by kernel_rfl) (by kernel_rfl) (by kernel_rfl) (fun _ _ _ h => h) (Or.inl ⟨by rfl, ?hy1⟩) (by assumption) ?rest1
        case hy1 => (intro w hSw; (try dsimp only at hSw); go_simp; try with_reducible rfl)
        skip
        refine wpAnyH_take (i := 2) (v := ?v2) rfl (by kernel_rfl) (by kernel_rfl) (by kernel_rfl) (fun _ _ _ h => h) (Or.inl ⟨by rfl, ?hy2⟩) (by assumption) ?rest2
        case hy2 => (intro w hSw; (try dsimp only at hSw); go_simp; try with_reducible rfl)
        skip
        refine wpAnyH_take (i := 3) (v := ?v3) rfl (by kernel_rfl) (by kernel_rfl) (by kernel_rfl) (fun _ _ _ h => h) (Or.inl ⟨by rfl, ?hy3⟩) (by assumption) ?rest3
        case hy3 => (intro w hSw; (try dsimp only at hSw); go_simp; try with_reducible rfl)
        skip
        refine wpAnyH_take (i := 4) (v := ?v4) rfl (by kernel_rfl) (by kernel_rfl) (by kernel_rfl) (fun _ _ _ h => h) (Or.inl ⟨by rfl, ?hy4⟩) (by assumption) ?rest4
        case hy4 => (intro w hSw; (try dsimp only at hSw); go_simp; try with_reducible rfl)
        skip
        refine wpAnyH_take (i := 5) (v := ?v5) rfl (by kernel_rfl) (by kernel_rfl) (by kernel_rfl) (fun _ _ _ h => h) (Or.inl ⟨by rfl, ?hy5⟩) (by assumption) ?rest5
        case hy5 => (intro w hSw; (try dsimp only at hSw); go_simp; try with_reducible rfl)
        skip
        refine wpAnyH_take (i := 6) (v := ?v6) rfl (by kernel_rfl) (by kernel_rfl) (by kernel_rfl) (fun _ _ _ h => h) (Or.inl ⟨by rfl, ?hy6⟩) (by assumption) ?rest6
        case hy6 => (intro w hSw; (try dsimp only at hSw); go_simp; try with_reducible rfl)
        skip
        refine wpAnyH_ready (rs := [0, 7]) (by kernel_rfl) (by simp) ?_
        refine AllReadyH.cons rfl (fun K hK => ?_) (AllReadyH.cons rfl (fun K hK => ?_) AllReadyH.nil)
        · go_simp
          refine hK.out _ _ ?_ (fun hHeld => ?_)
          · first | exact hS | exact hS1 | exact hS2 | exact hS3 | exact hS4
          clear hK K
          skip
          refine wpAnyH_ready (rs := [7]) (by kernel_rfl) (by simp) ?_
          refine AllReadyH.cons rfl (fun K hK => ?_) AllReadyH.nil
          · go_simp
            refine hK.out _ _ ?_ (fun hHeld => ?_)
            · first | exact hS | exact hS1 | exact hS2 | exact hS3 | exact hS4
            clear hK K
            skip
            refine wpAnyH_ready (rs := [8]) (by kernel_rfl) (by simp) ?_
            refine AllReadyH.cons rfl (fun K hK => ?_) AllReadyH.nil
            · go_simp
              refine hput.mono ?_
              rintro e W1 ⟨rfl, hb1⟩
              have hS2 : W1.cell? ⟨Bx, 0, none⟩ = some (.int .i64 (py : Nat)) ∧ W1.cell? ⟨Bx, 1, none⟩ = some (.int .i64 (px : Nat)) ∧ W1.cell? ⟨Bx, 2, none⟩ = some (.int .i64 (pn : Nat)) := ⟨(hX8a.below hb1 hX8a.lt).cell 0, (hX8a.below hb1 hX8a.lt).cell 1, (hX8a.below hb1 hX8a.lt).cell 2⟩
              have t2 : W1.cell? ⟨N + 1, 0, none⟩ = some (.slice At nt ct) := (hTba.below hb1 hTba.lt).cell 0
              dsimp only
              refine hK.out _ _ ?_ (fun hHeld => ?_)
              · first | exact hS | exact hS1 | exact hS2 | exact hS3 | exact hS4
              clear hK K
              skip
              refine wpAnyH_ready (rs := [9]) (by kernel_rfl) (by simp) ?_
              refine AllReadyH.cons rfl (fun K hK => ?_) AllReadyH.nil
              · have hb81 := hbm.trans (hb1.mono hbm.size)
                have hs81 := hb81.size
                have hTo1 := own_later hTo hb81
                have hTb1 := hTb.below hb81 hTb.lt
                have hX1 := hX8.below hb81 hX8.lt
                have hN1 := hN8.below hb81 hN8.lt
                have hB1 := hB8.below hb81 hB8.lt
                refine step_append_str rfl (.tmp 18) (.tmp 26) 45 9 rfl (N + 4) 5 i0 Try.underlying45 Try.underlying9 hi hz0 hz1 hz2 (.slice At nt ct) nt (L.map bv) rfl hTo1 ⟨pl.toArray⟩ rfl (by rw [hps]; unfold maxLen; omega) (by rw [hps]; omega) (by omega) ?_
                intro v2 W2 ho2 hg2
                have hTb2 := hTb1.grown hg2 (own_ne_blk hTo1 hTb1 (by decide))
                have hX2 := hX1.grown hg2 (own_ne_blk hTo1 hX1 (by decide))
                have hN2 := hN1.grown hg2 (own_ne_blk hTo1 hN1 (by decide))
                have hB2 := hB1.grown hg2 (own_ne_blk hTo1 hB1 (by decide))
                have hb2 : Below w.heap.size w W2 := (hb8.trans (hb81.mono hb8.size)).grown hg2 (by omega) (fun q hq => by have := (hTo1.lt q hq).1; omega)
                have hKO2 := (KeepsOthers.of_grownBy (grown_none' hb81) (fun j o e _ => by cases e)).trans (KeepsOthers.of_own hTo1 hg2)
                have hKX2 := (KpX.of_below (X := fun k => k = N ∨ k = N + 1) (base := N + 4) (t := 5) hb81).trans (KpX.of_own hTo1 hg2)
                have hs2 := hg2.size
                rw [← HL1.out, ← HL2.out] at ho2
                obtain ⟨A2, c2, rfl⟩ := own_form ho2
                have t3 : W2.cell? ⟨N + 1, 0, none⟩ = some (.slice At nt ct) := hTb2.cell 0
                have f3 : W2.frozen? ⟨N + 1, 0, none⟩ = false := hTb2.free 0
                have hS3 : W2.cell? ⟨Bx, 0, none⟩ = some (.int .i64 (py : Nat)) ∧ W2.cell? ⟨Bx, 1, none⟩ = some (.int .i64 (px : Nat)) ∧ W2.cell? ⟨Bx, 2, none⟩ = some (.int .i64 (pn : Nat)) := ⟨hX2.cell 0, hX2.cell 1, hX2.cell 2⟩
                have hX3 := hX2.far (p := ⟨N + 1, 0, none⟩) (show Bx ≠ N + 1 by omega) (.slice A2 n1 c2)
                have hS4 : (W2.setCell ⟨N + 1, 0, none⟩ (.slice A2 n1 c2)).cell? ⟨Bx, 0, none⟩ = some (.int .i64 (py : Nat)) ∧ (W2.setCell ⟨N + 1, 0, none⟩ (.slice A2 n1 c2)).cell? ⟨Bx, 1, none⟩ = some (.int .i64 (px : Nat)) ∧ (W2.setCell ⟨N + 1, 0, none⟩ (.slice A2 n1 c2)).cell? ⟨Bx, 2, none⟩ = some (.int .i64 (pn : Nat)) := ⟨hX3.cell 0, hX3.cell 1, hX3.cell 2⟩
                refine hK.out _ _ ?_ (fun hHeld => ?_)
                · first | exact hS | exact hS1 | exact hS2 | exact hS3 | exact hS4
                clear hK K
                skip
                refine wpAnyH_ready (rs := [10]) (by kernel_rfl) (by simp) ?_
                refine AllReadyH.cons rfl (fun K hK => ?_) AllReadyH.nil
                · go_simp
                  refine hK.out _ _ ?_ (fun hHeld => ?_)
                  · first | exact hS | exact hS1 | exact hS2 | exact hS3 | exact hS4
                  clear hK K
                  skip
                  refine wpAnyH_done (by kernel_rfl) ?_ _
                  exact ⟨_, rfl, hTb2.set 0 _, own_set ho2 (show N + 1 < N + 4 by omega) _, hN2.far (p := ⟨N + 1, 0, none⟩) (show N ≠ N + 1 by omega) _, hB2.far (p := ⟨N + 1, 0, none⟩) (show w.heap.size + 1 ≠ N + 1 by omega) _, hX3, hb2.setCell (p := ⟨N + 1, 0, none⟩) (show w.heap.size ≤ N + 1 by omega) _, (show N + 4 ≤ (W2.setCell ⟨N + 1, 0, none⟩ (.slice A2 n1 c2)).heap.size by simp [World.setCell]; omega), hKO2.trans (KeepsOthers.setCell _ _ _), hKX2.trans (KpX.set (X := fun k => k = N ∨ k = N + 1) (.inr rfl) _ _)⟩
        · go_simp
          refine hK.out _ _ ?_ (fun hHeld => ?_)
          · first | exact hS | exact hS1 | exact hS2 | exact hS3 | exact hS4
          clear hK K
          skip
          refine wpAnyH_ready (rs := [0, 8]) (by kernel_rfl) (by simp) ?_
          refine AllReadyH.cons rfl (fun K hK => ?_) (AllReadyH.cons rfl (fun K hK => ?_) AllReadyH.nil)
          · go_simp
            refine hK.out _ _ ?_ (fun hHeld => ?_)
            · first | exact hS | exact hS1 | exact hS2 | exact hS3 | exact hS4
            clear hK K
            skip
            refine wpAnyH_ready (rs := [8]) (by kernel_rfl) (by simp) ?_
            refine AllReadyH.cons rfl (fun K hK => ?_) AllReadyH.nil
            · go_simp
              refine hput.mono ?_
              rintro e W1 ⟨rfl, hb1⟩
              have hS2 : W1.cell? ⟨Bx, 0, none⟩ = some (.int .i64 (py : Nat)) ∧ W1.cell? ⟨Bx, 1, none⟩ = some (.int .i64 (px : Nat)) ∧ W1.cell? ⟨Bx, 2, none⟩ = some (.int .i64 (pn : Nat)) := ⟨(hX8a.below hb1 hX8a.lt).cell 0, (hX8a.below hb1 hX8a.lt).cell 1, (hX8a.below hb1 hX8a.lt).cell 2⟩
              have t2 : W1.cell? ⟨N + 1, 0, none⟩ = some (.slice At nt ct) := (hTba.below hb1 hTba.lt).cell 0
              dsimp only
              refine hK.out _ _ ?_ (fun hHeld => ?_)
              · first | exact hS | exact hS1 | exact hS2 | exact hS3 | exact hS4
              clear hK K
              skip
              refine wpAnyH_ready (rs := [9]) (by kernel_rfl) (by simp) ?_
              refine AllReadyH.cons rfl (fun K hK => ?_) AllReadyH.nil
              · have hb81 := hbm.trans (hb1.mono hbm.size)
                have hs81 := hb81.size
                have hTo1 := own_later hTo hb81
                have hTb1 := hTb.below hb81 hTb.lt
                have hX1 := hX8.below hb81 hX8.lt
                have hN1 := hN8.below hb81 hN8.lt
                have hB1 := hB8.below hb81 hB8.lt
                refine step_append_str rfl (.tmp 18) (.tmp 26) 45 9 rfl (N + 4) 5 i0 Try.underlying45 Try.underlying9 hi hz0 hz1 hz2 (.slice At nt ct) nt (L.map bv) rfl hTo1 ⟨pl.toArray⟩ rfl (by rw [hps]; unfold maxLen; omega) (by rw [hps]; omega) (by omega) ?_
                intro v2 W2 ho2 hg2
                have hTb2 := hTb1.grown hg2 (own_ne_blk hTo1 hTb1 (by decide))
                have hX2 := hX1.grown hg2 (own_ne_blk hTo1 hX1 (by decide))
                have hN2 := hN1.grown hg2 (own_ne_blk hTo1 hN1 (by decide))
                have hB2 := hB1.grown hg2 (own_ne_blk hTo1 hB1 (by decide))
                have hb2 : Below w.heap.size w W2 := (hb8.trans (hb81.mono hb8.size)).grown hg2 (by omega) (fun q hq => by have := (hTo1.lt q hq).1; omega)
                have hKO2 := (KeepsOthers.of_grownBy (grown_none' hb81) (fun j o e _ => by cases e)).trans (KeepsOthers.of_own hTo1 hg2)
                have hKX2 := (KpX.of_below (X := fun k => k = N ∨ k = N + 1) (base := N + 4) (t := 5) hb81).trans (KpX.of_own hTo1 hg2)
                have hs2 := hg2.size
                rw [← HL1.out, ← HL2.out] at ho2
                obtain ⟨A2, c2, rfl⟩ := own_form ho2
                have t3 : W2.cell? ⟨N + 1, 0, none⟩ = some (.slice At nt ct) := hTb2.cell 0
                have f3 : W2.frozen? ⟨N + 1, 0, none⟩ = false := hTb2.free 0
                have hS3 : W2.cell? ⟨Bx, 0, none⟩ = some (.int .i64 (py : Nat)) ∧ W2.cell? ⟨Bx, 1, none⟩ = some (.int .i64 (px : Nat)) ∧ W2.cell? ⟨Bx, 2, none⟩ = some (.int .i64 (pn : Nat)) := ⟨hX2.cell 0, hX2.cell 1, hX2.cell 2⟩
                have hX3 := hX2.far (p := ⟨N + 1, 0, none⟩) (show Bx ≠ N + 1 by omega) (.slice A2 n1 c2)
                have hS4 : (W2.setCell ⟨N + 1, 0, none⟩ (.slice A2 n1 c2)).cell? ⟨Bx, 0, none⟩ = some (.int .i64 (py : Nat)) ∧ (W2.setCell ⟨N + 1, 0, none⟩ (.slice A2 n1 c2)).cell? ⟨Bx, 1, none⟩ = some (.int .i64 (px : Nat)) ∧ (W2.setCell ⟨N + 1, 0, none⟩ (.slice A2 n1 c2)).cell? ⟨Bx, 2, none⟩ = some (.int .i64 (pn : Nat)) := ⟨hX3.cell 0, hX3.cell 1, hX3.cell 2⟩
                refine hK.out _ _ ?_ (fun hHeld => ?_)
                · first | exact hS | exact hS1 | exact hS2 | exact hS3 | exact hS4
                clear hK K
                skip
                refine wpAnyH_ready (rs := [10]) (by kernel_rfl) (by simp) ?_
                refine AllReadyH.cons rfl (fun K hK => ?_) AllReadyH.nil
                · go_simp
                  refine hK.out _ _ ?_ (fun hHeld => ?_)
                  · first | exact hS | exact hS1 | exact hS2 | exact hS3 | exact hS4
                  clear hK K
                  skip
                  refine wpAnyH_done (by kernel_rfl) ?_ _
                  exact ⟨_, rfl, hTb2.set 0 _, own_set ho2 (show N + 1 < N + 4 by omega) _, hN2.far (p := ⟨N + 1, 0, none⟩) (show N ≠ N + 1 by omega) _, hB2.far (p := ⟨N + 1, 0, none⟩) (show w.heap.size + 1 ≠ N + 1 by omega) _, hX3, hb2.setCell (p := ⟨N + 1, 0, none⟩) (show w.heap.size ≤ N + 1 by omega) _, (show N + 4 ≤ (W2.setCell ⟨N + 1, 0, none⟩ (.slice A2 n1 c2)).heap.size by simp [World.setCell]; omega), hKO2.trans (KeepsOthers.setCell _ _ _), hKX2.trans (KpX.set (X := fun k => k = N ∨ k = N + 1) (.inr rfl) _ _)⟩
          · go_simp
            refine hput.mono ?_
            rintro e W1 ⟨rfl, hb1⟩
            have hS2 : W1.cell? ⟨Bx, 0, none⟩ = some (.int .i64 (py : Nat)) ∧ W1.cell? ⟨Bx, 1, none⟩ = some (.int .i64 (px : Nat)) ∧ W1.cell? ⟨Bx, 2, none⟩ = some (.int .i64 (pn : Nat)) := ⟨(hX8a.below hb1 hX8a.lt).cell 0, (hX8a.below hb1 hX8a.lt).cell 1, (hX8a.below hb1 hX8a.lt).cell 2⟩
            have t2 : W1.cell? ⟨N + 1, 0, none⟩ = some (.slice At nt ct) := (hTba.below hb1 hTba.lt).cell 0
            dsimp only
            refine hK.out _ _ ?_ (fun hHeld => ?_)
            · first | exact hS | exact hS1 | exact hS2 | exact hS3 | exact hS4
            clear hK K
            skip
            refine wpAnyH_ready (rs := [0]) (by kernel_rfl) (by simp) ?_
            refine AllReadyH.cons rfl (fun K hK => ?_) AllReadyH.nil
            · go_simp
              refine hK.out _ _ ?_ (fun hHeld => ?_)
              · first | exact hS | exact hS1 | exact hS2 | exact hS3 | exact hS4
              clear hK K
              skip
              refine wpAnyH_ready (rs := [9]) (by kernel_rfl) (by simp) ?_
              refine AllReadyH.cons rfl (fun K hK => ?_) AllReadyH.nil
              · have hb81 := hbm.trans (hb1.mono hbm.size)
                have hs81 := hb81.size
                have hTo1 := own_later hTo hb81
                have hTb1 := hTb.below hb81 hTb.lt
                have hX1 := hX8.below hb81 hX8.lt
                have hN1 := hN8.below hb81 hN8.lt
                have hB1 := hB8.below hb81 hB8.lt
                refine step_append_str rfl (.tmp 18) (.tmp 26) 45 9 rfl (N + 4) 5 i0 Try.underlying45 Try.underlying9 hi hz0 hz1 hz2 (.slice At nt ct) nt (L.map bv) rfl hTo1 ⟨pl.toArray⟩ rfl (by rw [hps]; unfold maxLen; omega) (by rw [hps]; omega) (by omega) ?_
                intro v2 W2 ho2 hg2
                have hTb2 := hTb1.grown hg2 (own_ne_blk hTo1 hTb1 (by decide))
                have hX2 := hX1.grown hg2 (own_ne_blk hTo1 hX1 (by decide))
                have hN2 := hN1.grown hg2 (own_ne_blk hTo1 hN1 (by decide))
                have hB2 := hB1.grown hg2 (own_ne_blk hTo1 hB1 (by decide))
                have hb2 : Below w.heap.size w W2 := (hb8.trans (hb81.mono hb8.size)).grown hg2 (by omega) (fun q hq => by have := (hTo1.lt q hq).1; omega)
                have hKO2 := (KeepsOthers.of_grownBy (grown_none' hb81) (fun j o e _ => by cases e)).trans (KeepsOthers.of_own hTo1 hg2)
                have hKX2 := (KpX.of_below (X := fun k => k = N ∨ k = N + 1) (base := N + 4) (t := 5) hb81).trans (KpX.of_own hTo1 hg2)
                have hs2 := hg2.size
                rw [← HL1.out, ← HL2.out] at ho2
                obtain ⟨A2, c2, rfl⟩ := own_form ho2
                have t3 : W2.cell? ⟨N + 1, 0, none⟩ = some (.slice At nt ct) := hTb2.cell 0
                have f3 : W2.frozen? ⟨N + 1, 0, none⟩ = false := hTb2.free 0
                have hS3 : W2.cell? ⟨Bx, 0, none⟩ = some (.int .i64 (py : Nat)) ∧ W2.cell? ⟨Bx, 1, none⟩ = some (.int .i64 (px : Nat)) ∧ W2.cell? ⟨Bx, 2, none⟩ = some (.int .i64 (pn : Nat)) := ⟨hX2.cell 0, hX2.cell 1, hX2.cell 2⟩
                have hX3 := hX2.far (p := ⟨N + 1, 0, none⟩) (show Bx ≠ N + 1 by omega) (.slice A2 n1 c2)
                have hS4 : (W2.setCell ⟨N + 1, 0, none⟩ (.slice A2 n1 c2)).cell? ⟨Bx, 0, none⟩ = some (.int .i64 (py : Nat)) ∧ (W2.setCell ⟨N + 1, 0, none⟩ (.slice A2 n1 c2)).cell? ⟨Bx, 1, none⟩ = some (.int .i64 (px : Nat)) ∧ (W2.setCell ⟨N + 1, 0, none⟩ (.slice A2 n1 c2)).cell? ⟨Bx, 2, none⟩ = some (.int .i64 (pn : Nat)) := ⟨hX3.cell 0, hX3.cell 1, hX3.cell 2⟩
                refine hK.out _ _ ?_ (fun hHeld => ?_)
                · first | exact hS | exact hS1 | exact hS2 | exact hS3 | exact hS4
                clear hK K
                skip
                refine wpAnyH_ready (rs := [10]) (by kernel_rfl) (by simp) ?_
                refine AllReadyH.cons rfl (fun K hK => ?_) AllReadyH.nil
                · go_simp
                  refine hK.out _ _ ?_ (fun hHeld => ?_)
                  · first | exact hS | exact hS1 | exact hS2 | exact hS3 | exact hS4
                  clear hK K
                  skip
                  refine wpAnyH_done (by kernel_rfl) ?_ _
                  exact ⟨_, rfl, hTb2.set 0 _, own_set ho2 (show N + 1 < N + 4 by omega) _, hN2.far (p := ⟨N + 1, 0, none⟩) (show N ≠ N + 1 by omega) _, hB2.far (p := ⟨N + 1, 0, none⟩) (show w.heap.size + 1 ≠ N + 1 by omega) _, hX3, hb2.setCell (p := ⟨N + 1, 0, none⟩) (show w.heap.size ≤ N + 1 by omega) _, (show N + 4 ≤ (W2.setCell ⟨N + 1, 0, none⟩ (.slice A2 n1 c2)).heap.size by simp [World.setCell]; omega), hKO2.trans (KeepsOthers.setCell _ _ _), hKX2.trans (KpX.set (X := fun k => k = N ∨ k = N + 1) (.inr rfl) _ _)⟩
      · intro a' W9 hK8
        obtain ⟨v9, rfl, hTb9, hTo9, hN9, hB9, hX9, hb9, hs9, hKO9, hKX9⟩ := hK8
        obtain ⟨A9, c9, rfl⟩ := own_form hTo9
        clear hput hS hS1 t0 t1 hbm hX8a hTba hTo hTb hX8 hN8 hB8 hb8 hs8
        have hKO := hKO8.trans hKO9
        have hKX := hKX8.trans hKX9
        clear hKO8 hKO9 hKX8 hKX9
        obtain ⟨PE, hPE⟩ : ∃ PE, PE = px + pn := ⟨_, rfl⟩
        have HPE := Lib.hid hPE
        have e2 : PE - px = pn := by omega
        have HE2 := Lib.hid e2
        have s0 : px ≤ PE := by omega
        have s2 : (px : Int) ≤ (PE : Int) := by omega
        have s4 : decide ((px : Int) ≤ (PE : Int)) = true := decide_eq_true s2
        have hPW : PE ≤ wn := by omega
        have hpn : 1 ≤ PE - px := by omega
        have hpx : px < PE := by omega
        have hrow : ∀ W' : World, Below W9.heap.size W9 W' → Calls Try.prog 19 #[grv wn hn (some ab) na cb, .int .i64 (py : Nat)] W' fun e w' => ∃ ad' c', e = .returned (.slice (some ad') wn c') ∧ RowS w' (some ad') wn c' (rowAt lb wn py) ∧ Below W'.heap.size W' w' := fun W' hb =>
          (rowG_gen ab na cb wn hn py lb W' hw1 hw2 hh2 HNW.out hm.1 (HB.out.below (hb9.trans (hb.mono hb9.size)))).mono (fun e w' h => by
            obtain ⟨A', c', rfl, hR, hb⟩ := h
            obtain ⟨ad', rfl⟩ := hR.some_ad hw1
            exact ⟨ad', c', rfl, hR, hb⟩)
        have hsubL : (subP lb wn (py, px, pn)).length = PE - px := by rw [subP_len HLB.out hm.1 hm.2.2, e2]
        have hsub : ∀ (W' : World) (ad' : Addr) (c' : Nat), RowS W' (some ad') wn c' (rowAt lb wn py) → RowS W' (some (ad'.add (px * 4))) (PE - px) (c' - px) (subP lb wn (py, px, pn)) := fun W' ad' c' h => by
          have h1 := h.cap
          have h2 := h.cm
          refine ⟨hsubL, by omega, by omega, fun _ => ⟨_, rfl, ?_⟩, fun h => by cases h⟩
          obtain ⟨ad2, he, hC⟩ := h.row (by rw [h.len]; omega)
          injection he with he
          subst he
          exact hC.sub px pn
        have hbyt : ∀ (W' : World) (ad' : Addr) (c' : Nat), RowS W' (some (ad'.add (px * 4))) (PE - px) (c' - px) (subP lb wn (py, px, pn)) → Calls Try.prog 18 #[.slice (some (ad'.add (px * 4))) (PE - px) (c' - px)] W' fun e w' => e = .returned (.string ⟨(bytesP (subP lb wn (py, px, pn))).toArray⟩) ∧ Below W'.heap.size W' w' := fun W' ad' c' h => bytesG_gen _ _ _ _ W' hpn (by omega) h
        have hBl : (bytesP (subP lb wn (py, px, pn))).length ≤ 600000 := bytesP_len (fun c hc => HB.out.ok c (rowAt_sub (List.mem_of_mem_drop (List.mem_of_mem_take hc)))) (by rw [hsubL]; omega)
        generalize bytesP (subP lb wn (py, px, pn)) = bs at HE hbyt hBl
        have hqs : (⟨bs.toArray⟩ : ByteArray).size = bs.length := by simp [ByteArray.size]
        have hn1l : n1 ≤ 7200360030 := by
          have a1 := HL1.out
          rw [hps] at a1
          omega
        obtain ⟨n2, hn2⟩ : ∃ n2, n2 = (L ++ pl ++ bs).length := ⟨_, rfl⟩
        have HM1 := Lib.hid (show n2 = n1 + (⟨bs.toArray⟩ : ByteArray).size by rw [hn2, List.length_append, hqs, HLn.out])
        have HM2 := Lib.hid (show (L ++ pl ++ bs).map bv = (L ++ pl).map bv ++ Lib.strCells ⟨bs.toArray⟩ by rw [strCells_of, List.map_append]; rfl)
        have HM3 := Lib.hid hn2
        have HQ1 := Lib.hid (show n1 + (⟨bs.toArray⟩ : ByteArray).size ≤ maxLen by rw [hqs]; unfold maxLen; omega)
        have HQ2 := Lib.hid (show n1 + (⟨bs.toArray⟩ : ByteArray).size ≤ 140737488355328 by rw [hqs]; omega)
        have HwN := Lib.hid (show w.heap.size ≤ N + 4 by omega)
        have HBxN := Lib.hid (show Bx ≠ N + 1 by omega)
        have HwN1 := Lib.hid (show w.heap.size + 1 ≠ N + 1 by omega)
        have HwN2 := Lib.hid (show w.heap.size ≤ N + 1 by omega)
        have HNN := Lib.hid (show N ≠ N + 1 by omega)
        clear hsubL hn2 HL1 HL2 HNT hLl hpll e2
        have e1 : wrap64 ((px : Int) + (pn : Int)) = (PE : Int) := by
          rw [hPE]
          unfold wrap64
          omega
        have HE1 := Lib.hid e1
        have HE3 := Lib.hid (show IntKind.i64.wrap ((px : Int) + (pn : Int)) = (PE : Int) by
          clear e1
          rw [hPE]
          simp only [IntKind.wrap_i64]
          omega)
        clear hPE hm e1
        have hS : W9.drew.cell? ⟨w.heap.size + 1, 0, none⟩ = some (.int .i64 (wn : Int)) ∧ W9.drew.cell? ⟨w.heap.size + 1, 1, none⟩ = some (.int .i64 (hn : Int)) ∧ W9.drew.cell? ⟨w.heap.size + 1, 2, none⟩ = some (.slice (some ab) na cb) ∧ W9.drew.cell? ⟨Bx, 0, none⟩ = some (.int .i64 (py : Nat)) ∧ W9.drew.cell? ⟨Bx, 1, none⟩ = some (.int .i64 (px : Nat)) ∧ W9.drew.cell? ⟨Bx, 2, none⟩ = some (.int .i64 (pn : Nat)) := ⟨hB9.cell 0, hB9.cell 1, hB9.cell 2, hX9.cell 0, hX9.cell 1, hX9.cell 2⟩
        have t0 : W9.drew.cell? ⟨N + 1, 0, none⟩ = some (.slice A9 n1 c9) := hTb9.drew.cell 0
        have e1 := HE1.out
        have e1' := HE3.out
        gi_wp2
        refine held_round (S := fun w' => w'.cell? ⟨w.heap.size + 1, 0, none⟩ = some (.int .i64 (wn : Int)) ∧ w'.cell? ⟨w.heap.size + 1, 1, none⟩ = some (.int .i64 (hn : Int)) ∧ w'.cell? ⟨w.heap.size + 1, 2, none⟩ = some (.slice (some ab) na cb) ∧ w'.cell? ⟨Bx, 0, none⟩ = some (.int .i64 (py : Nat)) ∧ w'.cell? ⟨Bx, 1, none⟩ = some (.int .i64 (px : Nat)) ∧ w'.cell? ⟨Bx, 2, none⟩ = some (.int .i64 (pn : Nat)))
          (K := fun _ w' => KeepsOthers W w' ∧ KpX (fun k => k = N ∨ k = N + 1) (N + 4) 5 W w' ∧ Blk w' N 3 #[.int .i64 ((pre.length : Int) + 1)] ∧ TxtAt w' (N + 1) (N + 4) (L ++ pl ++ bs) ∧ Blk w' (w.heap.size + 1) 32 #[.int .i64 (wn : Int), .int .i64 (hn : Int), .slice (some ab) na cb] ∧ Below w.heap.size w w' ∧ N + 4 ≤ w'.heap.size)
          (by kernel_rfl) (by kernel_rfl) ?_ ?_
        ·
          refine wpAnyH_take (i := 1) (v := ?nv1) rfl (by kernel_rfl) (by kernel_rfl) (by kernel_rfl) (fun _ _ _ h => h) (Or.inl ⟨by rfl, ?nhy1⟩) (by assumption) ?nrest1
          case nhy1 => (intro w hSw; (try dsimp only at hSw); go_simp; try with_reducible rfl)
          skip
          refine wpAnyH_take (i := 2) (v := ?nv2) rfl (by kernel_rfl) (by kernel_rfl) (by kernel_rfl) (fun _ _ _ h => h) (Or.inl ⟨by rfl, ?nhy2⟩) (by assumption) ?nrest2
          case nhy2 => (intro w hSw; (try dsimp only at hSw); go_simp; try with_reducible rfl)
          skip
          refine wpAnyH_take (i := 3) (v := ?nv3) rfl (by kernel_rfl) (by kernel_rfl) (by kernel_rfl) (fun _ _ _ h => h) (Or.inl ⟨by rfl, ?nhy3⟩) (by assumption) ?nrest3
          case nhy3 => (intro w hSw; (try dsimp only at hSw); go_simp; try with_reducible rfl)
          skip
          refine wpAnyH_take (i := 5) (v := ?nv4) rfl (by kernel_rfl) (by kernel_rfl) (by kernel_rfl) (fun _ _ _ h => h) (Or.inl ⟨by rfl, ?nhy4⟩) (by assumption) ?nrest4
          case nhy4 => (intro w hSw; (try dsimp only at hSw); go_simp; try with_reducible rfl)
          skip
          refine wpAnyH_take (i := 6) (v := ?nv5) rfl (by kernel_rfl) (by kernel_rfl) (by kernel_rfl) (fun _ _ _ h => h) (Or.inl ⟨by rfl, ?nhy5⟩) (by assumption) ?nrest5
          case nhy5 => (intro w hSw; (try dsimp only at hSw); go_simp; try with_reducible rfl)
          skip
          refine wpAnyH_take (i := 7) (v := ?nv6) rfl (by kernel_rfl) (by kernel_rfl) (by kernel_rfl) (fun _ _ _ h => h) (Or.inl ⟨by rfl, ?nhy6⟩) (by assumption) ?nrest6
          case nhy6 => (intro w hSw; (try dsimp only at hSw); go_simp; try with_reducible rfl)
          skip
          refine wpAnyH_take (i := 8) (v := ?nv7) rfl (by kernel_rfl) (by kernel_rfl) (by kernel_rfl) (fun _ _ _ h => h) (Or.inl ⟨by rfl, ?nhy7⟩) (by assumption) ?nrest7
          case nhy7 => (intro w hSw; (try dsimp only at hSw); go_simp; try with_reducible rfl)
          skip
          refine wpAnyH_take (i := 9) (v := ?nv8) rfl (by kernel_rfl) (by kernel_rfl) (by kernel_rfl) (fun _ _ _ h => h) (Or.inl ⟨by rfl, ?nhy8⟩) (by assumption) ?nrest8
          case nhy8 => (intro w hSw; (try dsimp only at hSw); go_simp; try with_reducible rfl)
          skip
          refine wpAnyH_take (i := 10) (v := ?nv9) rfl (by kernel_rfl) (by kernel_rfl) (by kernel_rfl) (fun _ _ _ h => h) (Or.inl ⟨by rfl, ?nhy9⟩) (by assumption) ?nrest9
          case nhy9 => (intro w hSw; (try dsimp only at hSw); go_simp; try with_reducible rfl)
          skip
          refine wpAnyH_take (i := 11) (v := .int .i64 (PE : Int)) rfl (by kernel_rfl) (by kernel_rfl) (by kernel_rfl) (fun _ _ _ h => h) (Or.inl ⟨by rfl, ?nhy10⟩) (by assumption) ?nrest10
          case nhy10 => (intro w hSw; (try dsimp only at hSw); go_simp; try with_reducible rfl)
          skip
          refine wpAnyH_ready (rs := [0, 4]) (by kernel_rfl) (by simp) ?_
          refine AllReadyH.cons rfl (fun K hK => ?_) (AllReadyH.cons rfl (fun K hK => ?_) AllReadyH.nil)
          · go_simp
            refine hK.out _ _ ?_ (fun hHeld => ?_)
            · first | exact hS | exact hS1 | exact hS3 | exact hS4 | exact hS5
            clear hK K
            skip
            refine wpAnyH_ready (rs := [4]) (by kernel_rfl) (by simp) ?_
            refine AllReadyH.cons rfl (fun K hK => ?_) AllReadyH.nil
            · go_simp
              refine (hrow _ (Below.refl W9.heap.size W9).drew).mono ?_
              rintro e W1 ⟨ad1, c1, rfl, hR1, hb1⟩
              have hS1 : W1.cell? ⟨w.heap.size + 1, 0, none⟩ = some (.int .i64 (wn : Int)) ∧ W1.cell? ⟨w.heap.size + 1, 1, none⟩ = some (.int .i64 (hn : Int)) ∧ W1.cell? ⟨w.heap.size + 1, 2, none⟩ = some (.slice (some ab) na cb) ∧ W1.cell? ⟨Bx, 0, none⟩ = some (.int .i64 (py : Nat)) ∧ W1.cell? ⟨Bx, 1, none⟩ = some (.int .i64 (px : Nat)) ∧ W1.cell? ⟨Bx, 2, none⟩ = some (.int .i64 (pn : Nat)) := ⟨(hB9.drew.below hb1 hB9.lt).cell 0, (hB9.drew.below hb1 hB9.lt).cell 1, (hB9.drew.below hb1 hB9.lt).cell 2, (hX9.drew.below hb1 hX9.lt).cell 0, (hX9.drew.below hb1 hX9.lt).cell 1, (hX9.drew.below hb1 hX9.lt).cell 2⟩
              have t1 : W1.cell? ⟨N + 1, 0, none⟩ = some (.slice A9 n1 c9) := (hTb9.drew.below hb1 hTb9.lt).cell 0
              have q0 := hR1.cap
              have q1 : PE ≤ c1 := Nat.le_trans hPW q0
              have q2 : (PE : Int) ≤ (c1 : Int) := Int.ofNat_le.2 q1
              have q3 : decide ((PE : Int) ≤ (c1 : Int)) = true := decide_eq_true q2
              have q4 : ¬ c1 = px := Nat.ne_of_gt (Nat.lt_of_lt_of_le hpx q1)
              have hsR := hsub W1 ad1 c1 hR1
              have hb91 : Below W9.heap.size W9 W1 := (Below.refl W9.heap.size W9).drew.trans hb1
              dsimp only
              refine hK.out _ _ ?_ (fun hHeld => ?_)
              · first | exact hS | exact hS1 | exact hS3 | exact hS4 | exact hS5
              clear hK K
              skip
              refine wpAnyH_take (i := 12) (v := ?nv11) rfl (by kernel_rfl) (by kernel_rfl) (by kernel_rfl) (fun _ _ _ h => h) (Or.inl ⟨by rfl, ?nhy11⟩) (by assumption) ?nrest11
              case nhy11 => (intro w hSw; (try dsimp only at hSw); go_simp; try with_reducible rfl)
              skip
              refine wpAnyH_ready (rs := [13]) (by kernel_rfl) (by simp) ?_
              refine AllReadyH.cons rfl (fun K hK => ?_) AllReadyH.nil
              · go_simp
                refine (hbyt W1 ad1 c1 hsR).mono ?_
                rintro e W3 ⟨rfl, hb3⟩
                have hb93 := hb91.trans (hb3.mono hb91.size)
                have hB3 := hB9.below hb93 hB9.lt
                have hX3 := hX9.below hb93 hX9.lt
                have hTb3 := hTb9.below hb93 hTb9.lt
                have hN3 := hN9.below hb93 hN9.lt
                have hTo3 := own_later hTo9 hb93
                have hs93 := hb93.size
                have hS3 : W3.cell? ⟨w.heap.size + 1, 0, none⟩ = some (.int .i64 (wn : Int)) ∧ W3.cell? ⟨w.heap.size + 1, 1, none⟩ = some (.int .i64 (hn : Int)) ∧ W3.cell? ⟨w.heap.size + 1, 2, none⟩ = some (.slice (some ab) na cb) ∧ W3.cell? ⟨Bx, 0, none⟩ = some (.int .i64 (py : Nat)) ∧ W3.cell? ⟨Bx, 1, none⟩ = some (.int .i64 (px : Nat)) ∧ W3.cell? ⟨Bx, 2, none⟩ = some (.int .i64 (pn : Nat)) := ⟨hB3.cell 0, hB3.cell 1, hB3.cell 2, hX3.cell 0, hX3.cell 1, hX3.cell 2⟩
                have t3 : W3.cell? ⟨N + 1, 0, none⟩ = some (.slice A9 n1 c9) := hTb3.cell 0
                dsimp only
                refine hK.out _ _ ?_ (fun hHeld => ?_)
                · first | exact hS | exact hS1 | exact hS3 | exact hS4 | exact hS5
                clear hK K
                skip
                refine wpAnyH_ready (rs := [14]) (by kernel_rfl) (by simp) ?_
                refine AllReadyH.cons rfl (fun K hK => ?_) AllReadyH.nil
                · refine step_append_str rfl (.tmp 28) (.tmp 41) 45 9 rfl (N + 4) 5 i0 Try.underlying45 Try.underlying9 hi hz0 hz1 hz2 (.slice A9 n1 c9) n1 ((L ++ pl).map bv) rfl hTo3 ⟨bs.toArray⟩ rfl HQ1.out HQ2.out (Nat.le_trans hs9 hs93) ?_
                  intro v4 W4 ho4 hg4
                  have hTb4 := hTb3.grown hg4 (own_ne_blk hTo3 hTb3 (by decide))
                  have hX4 := hX3.grown hg4 (own_ne_blk hTo3 hX3 (by decide))
                  have hN4 := hN3.grown hg4 (own_ne_blk hTo3 hN3 (by decide))
                  have hB4 := hB3.grown hg4 (own_ne_blk hTo3 hB3 (by decide))
                  have hb4' : Below w.heap.size w W4 := (hb9.trans (hb93.mono hb9.size)).grown hg4 (Nat.le_trans hb9.size hs93) (fun q hq => Nat.le_trans HwN.out (hTo3.lt q hq).1)
                  have hKO4 := (KeepsOthers.of_grownBy (grown_none' hb93) (fun j o e _ => by cases e)).trans (KeepsOthers.of_own hTo3 hg4)
                  have hKX4 := (KpX.of_below (X := fun k => k = N ∨ k = N + 1) (base := N + 4) (t := 5) hb93).trans (KpX.of_own hTo3 hg4)
                  have hs4 := Nat.le_trans hs9 (Nat.le_trans hs93 hg4.size)
                  rw [← HM1.out, ← HM2.out] at ho4
                  obtain ⟨A4, c4, rfl⟩ := own_form ho4
                  have t4 : W4.cell? ⟨N + 1, 0, none⟩ = some (.slice A9 n1 c9) := hTb4.cell 0
                  have f4 : W4.frozen? ⟨N + 1, 0, none⟩ = false := hTb4.free 0
                  have hS4 : W4.cell? ⟨w.heap.size + 1, 0, none⟩ = some (.int .i64 (wn : Int)) ∧ W4.cell? ⟨w.heap.size + 1, 1, none⟩ = some (.int .i64 (hn : Int)) ∧ W4.cell? ⟨w.heap.size + 1, 2, none⟩ = some (.slice (some ab) na cb) ∧ W4.cell? ⟨Bx, 0, none⟩ = some (.int .i64 (py : Nat)) ∧ W4.cell? ⟨Bx, 1, none⟩ = some (.int .i64 (px : Nat)) ∧ W4.cell? ⟨Bx, 2, none⟩ = some (.int .i64 (pn : Nat)) := ⟨hB4.cell 0, hB4.cell 1, hB4.cell 2, hX4.cell 0, hX4.cell 1, hX4.cell 2⟩
                  have hX5 := hX4.far (p := ⟨N + 1, 0, none⟩) HBxN.out (.slice A4 n2 c4)
                  have hB5 := hB4.far (p := ⟨N + 1, 0, none⟩) HwN1.out (.slice A4 n2 c4)
                  have hS5 : (W4.setCell ⟨N + 1, 0, none⟩ (.slice A4 n2 c4)).cell? ⟨w.heap.size + 1, 0, none⟩ = some (.int .i64 (wn : Int)) ∧ (W4.setCell ⟨N + 1, 0, none⟩ (.slice A4 n2 c4)).cell? ⟨w.heap.size + 1, 1, none⟩ = some (.int .i64 (hn : Int)) ∧ (W4.setCell ⟨N + 1, 0, none⟩ (.slice A4 n2 c4)).cell? ⟨w.heap.size + 1, 2, none⟩ = some (.slice (some ab) na cb) ∧ (W4.setCell ⟨N + 1, 0, none⟩ (.slice A4 n2 c4)).cell? ⟨Bx, 0, none⟩ = some (.int .i64 (py : Nat)) ∧ (W4.setCell ⟨N + 1, 0, none⟩ (.slice A4 n2 c4)).cell? ⟨Bx, 1, none⟩ = some (.int .i64 (px : Nat)) ∧ (W4.setCell ⟨N + 1, 0, none⟩ (.slice A4 n2 c4)).cell? ⟨Bx, 2, none⟩ = some (.int .i64 (pn : Nat)) := ⟨hB5.cell 0, hB5.cell 1, hB5.cell 2, hX5.cell 0, hX5.cell 1, hX5.cell 2⟩
                  refine hK.out _ _ ?_ (fun hHeld => ?_)
                  · first | exact hS | exact hS1 | exact hS3 | exact hS4 | exact hS5
                  clear hK K
                  skip
                  refine wpAnyH_ready (rs := [15]) (by kernel_rfl) (by simp) ?_
                  refine AllReadyH.cons rfl (fun K hK => ?_) AllReadyH.nil
                  · go_simp
                    refine hK.out _ _ ?_ (fun hHeld => ?_)
                    · first | exact hS | exact hS1 | exact hS3 | exact hS4 | exact hS5
                    clear hK K
                    skip
                    refine wpAnyH_done (by kernel_rfl) ?_ _
                    exact ⟨hKO.trans (hKO4.trans (KeepsOthers.setCell _ _ _)), hKX.trans (hKX4.trans (KpX.set (X := fun k => k = N ∨ k = N + 1) (.inr rfl) _ _)), hN4.far (p := ⟨N + 1, 0, none⟩) HNN.out _, ⟨_, hTb4.set 0 _, by rw [← HM3.out]; exact own_set ho4 (show N + 1 < N + 4 from Nat.add_lt_add_left (by decide) N) _⟩, hB5, hb4'.setCell (p := ⟨N + 1, 0, none⟩) HwN2.out _, (show N + 4 ≤ (W4.setCell ⟨N + 1, 0, none⟩ (.slice A4 n2 c4)).heap.size from Nat.le_trans hs4 (Nat.le_of_eq (by simp [World.setCell])))⟩
          · go_simp
            refine (hrow _ (Below.refl W9.heap.size W9).drew).mono ?_
            rintro e W1 ⟨ad1, c1, rfl, hR1, hb1⟩
            have hS1 : W1.cell? ⟨w.heap.size + 1, 0, none⟩ = some (.int .i64 (wn : Int)) ∧ W1.cell? ⟨w.heap.size + 1, 1, none⟩ = some (.int .i64 (hn : Int)) ∧ W1.cell? ⟨w.heap.size + 1, 2, none⟩ = some (.slice (some ab) na cb) ∧ W1.cell? ⟨Bx, 0, none⟩ = some (.int .i64 (py : Nat)) ∧ W1.cell? ⟨Bx, 1, none⟩ = some (.int .i64 (px : Nat)) ∧ W1.cell? ⟨Bx, 2, none⟩ = some (.int .i64 (pn : Nat)) := ⟨(hB9.drew.below hb1 hB9.lt).cell 0, (hB9.drew.below hb1 hB9.lt).cell 1, (hB9.drew.below hb1 hB9.lt).cell 2, (hX9.drew.below hb1 hX9.lt).cell 0, (hX9.drew.below hb1 hX9.lt).cell 1, (hX9.drew.below hb1 hX9.lt).cell 2⟩
            have t1 : W1.cell? ⟨N + 1, 0, none⟩ = some (.slice A9 n1 c9) := (hTb9.drew.below hb1 hTb9.lt).cell 0
            have q0 := hR1.cap
            have q1 : PE ≤ c1 := Nat.le_trans hPW q0
            have q2 : (PE : Int) ≤ (c1 : Int) := Int.ofNat_le.2 q1
            have q3 : decide ((PE : Int) ≤ (c1 : Int)) = true := decide_eq_true q2
            have q4 : ¬ c1 = px := Nat.ne_of_gt (Nat.lt_of_lt_of_le hpx q1)
            have hsR := hsub W1 ad1 c1 hR1
            have hb91 : Below W9.heap.size W9 W1 := (Below.refl W9.heap.size W9).drew.trans hb1
            dsimp only
            refine hK.out _ _ ?_ (fun hHeld => ?_)
            · first | exact hS | exact hS1 | exact hS3 | exact hS4 | exact hS5
            clear hK K
            skip
            refine wpAnyH_take (i := 12) (v := ?nv12) rfl (by kernel_rfl) (by kernel_rfl) (by kernel_rfl) (fun _ _ _ h => h) (Or.inl ⟨by rfl, ?nhy12⟩) (by assumption) ?nrest12
            case nhy12 => (intro w hSw; (try dsimp only at hSw); go_simp; try with_reducible rfl)
            skip
            refine wpAnyH_ready (rs := [0, 13]) (by kernel_rfl) (by simp) ?_
            refine AllReadyH.cons rfl (fun K hK => ?_) (AllReadyH.cons rfl (fun K hK => ?_) AllReadyH.nil)
            · go_simp
              refine hK.out _ _ ?_ (fun hHeld => ?_)
              · first | exact hS | exact hS1 | exact hS3 | exact hS4 | exact hS5
              clear hK K
              skip
              refine wpAnyH_ready (rs := [13]) (by kernel_rfl) (by simp) ?_
              refine AllReadyH.cons rfl (fun K hK => ?_) AllReadyH.nil
              · go_simp
                refine (hbyt W1 ad1 c1 hsR).mono ?_
                rintro e W3 ⟨rfl, hb3⟩
                have hb93 := hb91.trans (hb3.mono hb91.size)
                have hB3 := hB9.below hb93 hB9.lt
                have hX3 := hX9.below hb93 hX9.lt
                have hTb3 := hTb9.below hb93 hTb9.lt
                have hN3 := hN9.below hb93 hN9.lt
                have hTo3 := own_later hTo9 hb93
                have hs93 := hb93.size
                have hS3 : W3.cell? ⟨w.heap.size + 1, 0, none⟩ = some (.int .i64 (wn : Int)) ∧ W3.cell? ⟨w.heap.size + 1, 1, none⟩ = some (.int .i64 (hn : Int)) ∧ W3.cell? ⟨w.heap.size + 1, 2, none⟩ = some (.slice (some ab) na cb) ∧ W3.cell? ⟨Bx, 0, none⟩ = some (.int .i64 (py : Nat)) ∧ W3.cell? ⟨Bx, 1, none⟩ = some (.int .i64 (px : Nat)) ∧ W3.cell? ⟨Bx, 2, none⟩ = some (.int .i64 (pn : Nat)) := ⟨hB3.cell 0, hB3.cell 1, hB3.cell 2, hX3.cell 0, hX3.cell 1, hX3.cell 2⟩
                have t3 : W3.cell? ⟨N + 1, 0, none⟩ = some (.slice A9 n1 c9) := hTb3.cell 0
                dsimp only
                refine hK.out _ _ ?_ (fun hHeld => ?_)
                · first | exact hS | exact hS1 | exact hS3 | exact hS4 | exact hS5
                clear hK K
                skip
                refine wpAnyH_ready (rs := [14]) (by kernel_rfl) (by simp) ?_
                refine AllReadyH.cons rfl (fun K hK => ?_) AllReadyH.nil
                · refine step_append_str rfl (.tmp 28) (.tmp 41) 45 9 rfl (N + 4) 5 i0 Try.underlying45 Try.underlying9 hi hz0 hz1 hz2 (.slice A9 n1 c9) n1 ((L ++ pl).map bv) rfl hTo3 ⟨bs.toArray⟩ rfl HQ1.out HQ2.out (Nat.le_trans hs9 hs93) ?_
                  intro v4 W4 ho4 hg4
                  have hTb4 := hTb3.grown hg4 (own_ne_blk hTo3 hTb3 (by decide))
                  have hX4 := hX3.grown hg4 (own_ne_blk hTo3 hX3 (by decide))
                  have hN4 := hN3.grown hg4 (own_ne_blk hTo3 hN3 (by decide))
                  have hB4 := hB3.grown hg4 (own_ne_blk hTo3 hB3 (by decide))
                  have hb4' : Below w.heap.size w W4 := (hb9.trans (hb93.mono hb9.size)).grown hg4 (Nat.le_trans hb9.size hs93) (fun q hq => Nat.le_trans HwN.out (hTo3.lt q hq).1)
                  have hKO4 := (KeepsOthers.of_grownBy (grown_none' hb93) (fun j o e _ => by cases e)).trans (KeepsOthers.of_own hTo3 hg4)
                  have hKX4 := (KpX.of_below (X := fun k => k = N ∨ k = N + 1) (base := N + 4) (t := 5) hb93).trans (KpX.of_own hTo3 hg4)
                  have hs4 := Nat.le_trans hs9 (Nat.le_trans hs93 hg4.size)
                  rw [← HM1.out, ← HM2.out] at ho4
                  obtain ⟨A4, c4, rfl⟩ := own_form ho4
                  have t4 : W4.cell? ⟨N + 1, 0, none⟩ = some (.slice A9 n1 c9) := hTb4.cell 0
                  have f4 : W4.frozen? ⟨N + 1, 0, none⟩ = false := hTb4.free 0
                  have hS4 : W4.cell? ⟨w.heap.size + 1, 0, none⟩ = some (.int .i64 (wn : Int)) ∧ W4.cell? ⟨w.heap.size + 1, 1, none⟩ = some (.int .i64 (hn : Int)) ∧ W4.cell? ⟨w.heap.size + 1, 2, none⟩ = some (.slice (some ab) na cb) ∧ W4.cell? ⟨Bx, 0, none⟩ = some (.int .i64 (py : Nat)) ∧ W4.cell? ⟨Bx, 1, none⟩ = some (.int .i64 (px : Nat)) ∧ W4.cell? ⟨Bx, 2, none⟩ = some (.int .i64 (pn : Nat)) := ⟨hB4.cell 0, hB4.cell 1, hB4.cell 2, hX4.cell 0, hX4.cell 1, hX4.cell 2⟩
                  have hX5 := hX4.far (p := ⟨N + 1, 0, none⟩) HBxN.out (.slice A4 n2 c4)
                  have hB5 := hB4.far (p := ⟨N + 1, 0, none⟩) HwN1.out (.slice A4 n2 c4)
                  have hS5 : (W4.setCell ⟨N + 1, 0, none⟩ (.slice A4 n2 c4)).cell? ⟨w.heap.size + 1, 0, none⟩ = some (.int .i64 (wn : Int)) ∧ (W4.setCell ⟨N + 1, 0, none⟩ (.slice A4 n2 c4)).cell? ⟨w.heap.size + 1, 1, none⟩ = some (.int .i64 (hn : Int)) ∧ (W4.setCell ⟨N + 1, 0, none⟩ (.slice A4 n2 c4)).cell? ⟨w.heap.size + 1, 2, none⟩ = some (.slice (some ab) na cb) ∧ (W4.setCell ⟨N + 1, 0, none⟩ (.slice A4 n2 c4)).cell? ⟨Bx, 0, none⟩ = some (.int .i64 (py : Nat)) ∧ (W4.setCell ⟨N + 1, 0, none⟩ (.slice A4 n2 c4)).cell? ⟨Bx, 1, none⟩ = some (.int .i64 (px : Nat)) ∧ (W4.setCell ⟨N + 1, 0, none⟩ (.slice A4 n2 c4)).cell? ⟨Bx, 2, none⟩ = some (.int .i64 (pn : Nat)) := ⟨hB5.cell 0, hB5.cell 1, hB5.cell 2, hX5.cell 0, hX5.cell 1, hX5.cell 2⟩
                  refine hK.out _ _ ?_ (fun hHeld => ?_)
                  · first | exact hS | exact hS1 | exact hS3 | exact hS4 | exact hS5
                  clear hK K
                  skip
                  refine wpAnyH_ready (rs := [15]) (by kernel_rfl) (by simp) ?_
                  refine AllReadyH.cons rfl (fun K hK => ?_) AllReadyH.nil
                  · go_simp
                    refine hK.out _ _ ?_ (fun hHeld => ?_)
                    · first | exact hS | exact hS1 | exact hS3 | exact hS4 | exact hS5
                    clear hK K
                    skip
                    refine wpAnyH_done (by kernel_rfl) ?_ _
                    exact ⟨hKO.trans (hKO4.trans (KeepsOthers.setCell _ _ _)), hKX.trans (hKX4.trans (KpX.set (X := fun k => k = N ∨ k = N + 1) (.inr rfl) _ _)), hN4.far (p := ⟨N + 1, 0, none⟩) HNN.out _, ⟨_, hTb4.set 0 _, by rw [← HM3.out]; exact own_set ho4 (show N + 1 < N + 4 from Nat.add_lt_add_left (by decide) N) _⟩, hB5, hb4'.setCell (p := ⟨N + 1, 0, none⟩) HwN2.out _, (show N + 4 ≤ (W4.setCell ⟨N + 1, 0, none⟩ (.slice A4 n2 c4)).heap.size from Nat.le_trans hs4 (Nat.le_of_eq (by simp [World.setCell])))⟩
            · go_simp
              refine (hbyt W1 ad1 c1 hsR).mono ?_
              rintro e W3 ⟨rfl, hb3⟩
              have hb93 := hb91.trans (hb3.mono hb91.size)
              have hB3 := hB9.below hb93 hB9.lt
              have hX3 := hX9.below hb93 hX9.lt
              have hTb3 := hTb9.below hb93 hTb9.lt
              have hN3 := hN9.below hb93 hN9.lt
              have hTo3 := own_later hTo9 hb93
              have hs93 := hb93.size
              have hS3 : W3.cell? ⟨w.heap.size + 1, 0, none⟩ = some (.int .i64 (wn : Int)) ∧ W3.cell? ⟨w.heap.size + 1, 1, none⟩ = some (.int .i64 (hn : Int)) ∧ W3.cell? ⟨w.heap.size + 1, 2, none⟩ = some (.slice (some ab) na cb) ∧ W3.cell? ⟨Bx, 0, none⟩ = some (.int .i64 (py : Nat)) ∧ W3.cell? ⟨Bx, 1, none⟩ = some (.int .i64 (px : Nat)) ∧ W3.cell? ⟨Bx, 2, none⟩ = some (.int .i64 (pn : Nat)) := ⟨hB3.cell 0, hB3.cell 1, hB3.cell 2, hX3.cell 0, hX3.cell 1, hX3.cell 2⟩
              have t3 : W3.cell? ⟨N + 1, 0, none⟩ = some (.slice A9 n1 c9) := hTb3.cell 0
              dsimp only
              refine hK.out _ _ ?_ (fun hHeld => ?_)
              · first | exact hS | exact hS1 | exact hS3 | exact hS4 | exact hS5
              clear hK K
              skip
              refine wpAnyH_ready (rs := [0]) (by kernel_rfl) (by simp) ?_
              refine AllReadyH.cons rfl (fun K hK => ?_) AllReadyH.nil
              · go_simp
                refine hK.out _ _ ?_ (fun hHeld => ?_)
                · first | exact hS | exact hS1 | exact hS3 | exact hS4 | exact hS5
                clear hK K
                skip
                refine wpAnyH_ready (rs := [14]) (by kernel_rfl) (by simp) ?_
                refine AllReadyH.cons rfl (fun K hK => ?_) AllReadyH.nil
                · refine step_append_str rfl (.tmp 28) (.tmp 41) 45 9 rfl (N + 4) 5 i0 Try.underlying45 Try.underlying9 hi hz0 hz1 hz2 (.slice A9 n1 c9) n1 ((L ++ pl).map bv) rfl hTo3 ⟨bs.toArray⟩ rfl HQ1.out HQ2.out (Nat.le_trans hs9 hs93) ?_
                  intro v4 W4 ho4 hg4
                  have hTb4 := hTb3.grown hg4 (own_ne_blk hTo3 hTb3 (by decide))
                  have hX4 := hX3.grown hg4 (own_ne_blk hTo3 hX3 (by decide))
                  have hN4 := hN3.grown hg4 (own_ne_blk hTo3 hN3 (by decide))
                  have hB4 := hB3.grown hg4 (own_ne_blk hTo3 hB3 (by decide))
                  have hb4' : Below w.heap.size w W4 := (hb9.trans (hb93.mono hb9.size)).grown hg4 (Nat.le_trans hb9.size hs93) (fun q hq => Nat.le_trans HwN.out (hTo3.lt q hq).1)
                  have hKO4 := (KeepsOthers.of_grownBy (grown_none' hb93) (fun j o e _ => by cases e)).trans (KeepsOthers.of_own hTo3 hg4)
                  have hKX4 := (KpX.of_below (X := fun k => k = N ∨ k = N + 1) (base := N + 4) (t := 5) hb93).trans (KpX.of_own hTo3 hg4)
                  have hs4 := Nat.le_trans hs9 (Nat.le_trans hs93 hg4.size)
                  rw [← HM1.out, ← HM2.out] at ho4
                  obtain ⟨A4, c4, rfl⟩ := own_form ho4
                  have t4 : W4.cell? ⟨N + 1, 0, none⟩ = some (.slice A9 n1 c9) := hTb4.cell 0
                  have f4 : W4.frozen? ⟨N + 1, 0, none⟩ = false := hTb4.free 0
                  have hS4 : W4.cell? ⟨w.heap.size + 1, 0, none⟩ = some (.int .i64 (wn : Int)) ∧ W4.cell? ⟨w.heap.size + 1, 1, none⟩ = some (.int .i64 (hn : Int)) ∧ W4.cell? ⟨w.heap.size + 1, 2, none⟩ = some (.slice (some ab) na cb) ∧ W4.cell? ⟨Bx, 0, none⟩ = some (.int .i64 (py : Nat)) ∧ W4.cell? ⟨Bx, 1, none⟩ = some (.int .i64 (px : Nat)) ∧ W4.cell? ⟨Bx, 2, none⟩ = some (.int .i64 (pn : Nat)) := ⟨hB4.cell 0, hB4.cell 1, hB4.cell 2, hX4.cell 0, hX4.cell 1, hX4.cell 2⟩
                  have hX5 := hX4.far (p := ⟨N + 1, 0, none⟩) HBxN.out (.slice A4 n2 c4)
                  have hB5 := hB4.far (p := ⟨N + 1, 0, none⟩) HwN1.out (.slice A4 n2 c4)
                  have hS5 : (W4.setCell ⟨N + 1, 0, none⟩ (.slice A4 n2 c4)).cell? ⟨w.heap.size + 1, 0, none⟩ = some (.int .i64 (wn : Int)) ∧ (W4.setCell ⟨N + 1, 0, none⟩ (.slice A4 n2 c4)).cell? ⟨w.heap.size + 1, 1, none⟩ = some (.int .i64 (hn : Int)) ∧ (W4.setCell ⟨N + 1, 0, none⟩ (.slice A4 n2 c4)).cell? ⟨w.heap.size + 1, 2, none⟩ = some (.slice (some ab) na cb) ∧ (W4.setCell ⟨N + 1, 0, none⟩ (.slice A4 n2 c4)).cell? ⟨Bx, 0, none⟩ = some (.int .i64 (py : Nat)) ∧ (W4.setCell ⟨N + 1, 0, none⟩ (.slice A4 n2 c4)).cell? ⟨Bx, 1, none⟩ = some (.int .i64 (px : Nat)) ∧ (W4.setCell ⟨N + 1, 0, none⟩ (.slice A4 n2 c4)).cell? ⟨Bx, 2, none⟩ = some (.int .i64 (pn : Nat)) := ⟨hB5.cell 0, hB5.cell 1, hB5.cell 2, hX5.cell 0, hX5.cell 1, hX5.cell 2⟩
                  refine hK.out _ _ ?_ (fun hHeld => ?_)
                  · first | exact hS | exact hS1 | exact hS3 | exact hS4 | exact hS5
                  clear hK K
                  skip
                  refine wpAnyH_ready (rs := [15]) (by kernel_rfl) (by simp) ?_
                  refine AllReadyH.cons rfl (fun K hK => ?_) AllReadyH.nil
                  · go_simp
                    refine hK.out _ _ ?_ (fun hHeld => ?_)
                    · first | exact hS | exact hS1 | exact hS3 | exact hS4 | exact hS5
                    clear hK K
                    skip
                    refine wpAnyH_done (by kernel_rfl) ?_ _
                    exact ⟨hKO.trans (hKO4.trans (KeepsOthers.setCell _ _ _)), hKX.trans (hKX4.trans (KpX.set (X := fun k => k = N ∨ k = N + 1) (.inr rfl) _ _)), hN4.far (p := ⟨N + 1, 0, none⟩) HNN.out _, ⟨_, hTb4.set 0 _, by rw [← HM3.out]; exact own_set ho4 (show N + 1 < N + 4 from Nat.add_lt_add_left (by decide) N) _⟩, hB5, hb4'.setCell (p := ⟨N + 1, 0, none⟩) HwN2.out _, (show N + 4 ≤ (W4.setCell ⟨N + 1, 0, none⟩ (.slice A4 n2 c4)).heap.size from Nat.le_trans hs4 (Nat.le_of_eq (by simp [World.setCell])))⟩
        · intro a' w' ⟨k1, k2, k3, k4, k5, k6, k7⟩
          rw [HE.out] at k4
          have k3' : Blk w' N 3 #[.int .i64 (((pre ++ [(⟨(py, px, pn), hmem⟩ : Sub (allD la lb wn hn))]).length : Nat) : Int)] := by
            rw [List.length_append]
            exact k3
          exact ⟨k1.from _, k2, k3', k4, k5, k6, k7⟩
    case done =>
      rintro D ys W hD rfl ⟨hI1, hI2, hI3, hI4, hI5⟩ hK
      rw [vals_all] at hI2
      have hYL : (allS (allD la lb wn hn)).length = (allD la lb wn hn).length := all_len _
      rw [hYL] at hI1
      clear hYL
      have hput : ∀ W : World, Calls Try.prog 17 #[.slice (some ⟨W.heap.size, 0, none⟩) 3 3] (W.alloc (.cells #[.int .i64 (wn : Int), .int .i64 (hn : Int), .int .i64 ((allD la lb wn hn).length : Nat)] 3)).drew fun e w' => e = .returned (.string ⟨(putL [(wn : Int), (hn : Int), ((allD la lb wn hn).length : Int)]).toArray⟩) ∧ Below (W.alloc (.cells #[.int .i64 (wn : Int), .int .i64 (hn : Int), .int .i64 ((allD la lb wn hn).length : Nat)] 3)).drew.heap.size (W.alloc (.cells #[.int .i64 (wn : Int), .int .i64 (hn : Int), .int .i64 ((allD la lb wn hn).length : Nat)] 3)).drew w' := fun W =>
        put_any _ 3 3 [(wn : Int), (hn : Int), ((allD la lb wn hn).length : Int)] _ rfl (Elems.drew (Ints.new W [(wn : Int), (hn : Int), ((allD la lb wn hn).length : Int)] 3)) (triple_fit (by omega) (by omega) (by have := HLN.out; omega)) (by omega)
      have hpll : (putL [(wn : Int), (hn : Int), ((allD la lb wn hn).length : Int)]).length ≤ 30 := putL_len _ (triple_fit (by omega) (by omega) (by have := HLN.out; omega))
      have hLl : (outD lb wn (allD la lb wn hn)).length ≤ 7200360000 := by
        have h1 := outD_len HB.out.ok HLB.out hw2 hh2 (allD la lb wn hn) HMM.out
        have h2 := HLN.out
        omega
      generalize putL [(wn : Int), (hn : Int), ((allD la lb wn hn).length : Int)] = pl at hput HP hpll
      generalize outD lb wn (allD la lb wn hn) = L at hI2 HP hLl
      generalize (allD la lb wn hn).length = Y at hput hI1
      obtain ⟨v, hTb, hTo⟩ := hI2
      have hconv := conv_own (P := Try.prog) (src := 45) (dst := 9) Try.underlying45 Try.underlying5 Try.underlying9 (show W.drew.ownsRow (N + 4) 5 1 v L.length (L.map bv) from hTo)
      obtain ⟨At, ct, hv⟩ := own_form hTo
      obtain ⟨nt, hnt⟩ : ∃ nt, nt = L.length := ⟨_, rfl⟩
      rw [← hnt] at hTo hv
      subst hv
      clear hnt
      have hsz : ¬ 9223372036854775807 < pl.length + L.length := by omega
      clear hpll hLl
      have hS : HeldF (w.heap.size + 1) N At nt ct L wn hn Y W W.drew := ⟨hI3.cell 0, hI3.cell 1, hI1.cell 0, hTb.cell 0, hTo, hconv, (Below.refl _ _).drew, Nat.le_refl _⟩
      gi_wp2
      refine wpIn_wide.2 ?_
      go_region_held3 (fun w' => w'.cell? ⟨w.heap.size + 1, 0, none⟩ = some (.int .i64 (wn : Int)) ∧ w'.cell? ⟨w.heap.size + 1, 1, none⟩ = some (.int .i64 (hn : Int)) ∧ w'.cell? ⟨N, 0, none⟩ = some (.int .i64 (Y : Int)) ∧ w'.cell? ⟨N + 1, 0, none⟩ = some (.slice At nt ct) ∧ w'.ownsRow (N + 4) 5 1 (.slice At nt ct) nt (L.map bv) ∧ (convert 45 9 (.slice At nt ct)).run Try.prog w' = .ok (.string ⟨L.toArray⟩) w' ∧ Below W.heap.size W w' ∧ W.heap.size ≤ w'.heap.size) (first | exact hS | exact hq | exact HeldF.keep (by assumption) ((Below.refl _ _).alloc (Nat.le_refl _) _)) (first
        | (go_at_call 17; refine (hput _).mono ?_; rintro e w4 ⟨rfl, hb4⟩; have hq := HeldF.keep (by assumption) hb4))
      obtain ⟨_, _, _, _, _, _, hBW, _⟩ := hq
      have hKD := (hBW.block D (Array.getElem?_eq_some_iff.1 hK).1).trans hK
      have hb9 := hI4.trans (hBW.mono hI4.size)
      gi_wp2
      refine ⟨by simp, .inl ⟨_, _, rfl, run_takeDeferred hKD, ?_⟩⟩
      exact ⟨_, results_tmp rfl _ _ _, by rw [HP.out, ← ba_append]; rfl, hb9.trans (belowK_b (w := w) (Nat.le_refl _) _ D _ _ (by omega) hKD rfl rfl)⟩
    case stop =>
      rintro D c pre W _ _ h _
      exact h.elim
end Go.Proofs.Ytpjafocgabhieaa
