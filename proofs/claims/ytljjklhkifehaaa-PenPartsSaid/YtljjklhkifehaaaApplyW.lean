/- pen.chosen and pen.Apply, walked: an act of m lets its numbers be obeyed one behind the other; any other act changes no pen. -/
import Derived.Test.YtljjklhkifehaaaTakeW
import Derived.Test.YtljjklhkifehaaaObeyW
import Derived.Deep.LoopGhost
namespace Go.Proofs.Ytljjklhkifehaaa
open Go.RowKit
set_option maxRecDepth 100000 in
set_option maxHeartbeats 1000000 in
theorem chosen_none (L : Nat) (w : World) (h : LeftAt w L []) :
    Calls Try.prog 18 #[.func (Fn.func 17) #[] #[.pointer (some ⟨L, 0, none⟩)]] w fun e w' => e = .returned (.tuple #[.int .u8 0, .bool false]) ∧ LeftAt w' L [] ∧ Only L w w' := by
  go_enter Try.func18, Try.ntmps18
  go_wp2_with fail
  refine (take_left L 1 [] _ h (by omega)).mono ?_
  rintro e w1 ⟨A1, rfl, hx1, h1, hO1⟩
  simp only [List.length_nil, Nat.min_zero, List.drop_nil] at h1 ⊢
  go_wp2_with fail
  refine (take_left L 8 [] _ h1 (by omega)).mono ?_
  rintro e w2 ⟨A2, rfl, hx2, h2, hO2⟩
  go_wp2_with fail
  go_ret2
  exact ⟨rfl, h2, only_trans hO1 hO2⟩
set_option maxRecDepth 100000 in
set_option maxHeartbeats 1000000 in
theorem chosen_five (L : Nat) (x : Int) (r : List Int) (w : World) (h : LeftAt w L (5 :: x :: r)) (hx0 : 0 ≤ x) (hx255 : x ≤ 255) :
    Calls Try.prog 18 #[.func (Fn.func 17) #[] #[.pointer (some ⟨L, 0, none⟩)]] w fun e w' => e = .returned (.tuple #[.int .u8 (max x 1), .bool true]) ∧ LeftAt w' L r ∧ Only L w w' := by
  go_enter Try.func18, Try.ntmps18
  go_wp2_with fail
  refine (take_left L 1 _ _ h (by omega)).mono ?_
  rintro e w1 ⟨A1, rfl, hx1, h1, hO1⟩
  obtain ⟨ad, rfl, hc1⟩ := Elems.at_ (k := 0) hx1 (by simp)
  have hc1' : w1.cell? ad = some (.int .i64 5) := by simpa [Addr.add] using hc1
  clear hc1
  rw [show min 1 (5 :: x :: r).length = 1 from by simp] 
  go_wp2_with fail
  refine (take_left L 1 (x :: r) _ h1 (by omega)).mono ?_
  rintro e w2 ⟨A2, rfl, hx2, h2, hO2⟩
  obtain ⟨ad2, rfl, hc2⟩ := Elems.at_ (k := 0) hx2 (by simp)
  have hc2' : w2.cell? ad2 = some (.int .i64 x) := by simpa [Addr.add] using hc2
  clear hc2
  rw [show min 1 (x :: r).length = 1 from by simp] 
  go_wp2_with (go_at_call 32; refine (colour_any _ _ (by omega) (by omega)).mono ?_; rintro e w3 ⟨rfl, rfl⟩)
  go_ret2
  exact ⟨rfl, h2, only_trans hO1 hO2⟩
theorem arr_slice (a : Addr) (n : Nat) (hn : n ≤ 8) (W : World) : (Instr.sliceAt 24 (.pointer (some a)) none (some (.int .i64 (n : Int))) none).run Try.prog W = .ok (.slice (some a) n 8) W := by
  have hl : Try.prog.arrayLen 24 = 8 := by kernel_rfl
  have hz : (sizeOf (Try.prog.elem 24)).run Try.prog W = .ok 1 W := by kernel_rfl
  rw [run_sliceAt_array_h W 24 a (by kernel_rfl) .i64 (n : Int) (by omega) (by rw [hl]; omega), hz, hl]
  show Result.ok (slicedAt a 0 n 8 1) W = _
  simp [slicedAt, Addr.add]
theorem Elems.below_of {w w' : World} {A : Option Addr} {n : Nat} {f : Nat → Value} (h : Elems w A n f) (hb : Below w.heap.size w w') : Elems w' A n f := h.below hb
theorem LeftAt.below {w w' : World} {L : Nat} {xs : List Int} (h : LeftAt w L xs) (hb : Below w.heap.size w w') : LeftAt w' L xs := by
  obtain ⟨A, c, h1, h2, h3, h4, h5, h6⟩ := h
  have hl := World.block_lt_of_cell? w _ h1
  exact ⟨A, c, (hb.cell hl).trans h1, (hb.frozen (p := ⟨L, 0, none⟩) hl).trans h2, h3, h4, Elems.below h5 hb, h6⟩
/-- What a row of numbers makes of a pen (38 and 48 alone, or with 5 and a number of a colour). -/
def Runs : Nat → List Int → Int × Int × Int → Int × Int × Int → Prop
  | 0, xs, s, t => xs = [] ∧ s = t
  | k + 1, xs, s, t => (xs = [] ∧ s = t) ∨ (∃ n r, xs = n :: r ∧ n ≠ 38 ∧ n ≠ 48 ∧ Runs k r (obeyP s n) t) ∨ (∃ n, xs = [n] ∧ (n = 38 ∨ n = 48) ∧ s = t) ∨
      (∃ x r, xs = 38 :: 5 :: x :: r ∧ 0 ≤ x ∧ x ≤ 255 ∧ Runs k r (max x 1, s.2.1, s.2.2) t) ∨ (∃ x r, xs = 48 :: 5 :: x :: r ∧ 0 ≤ x ∧ x ≤ 255 ∧ Runs k r (s.1, max x 1, s.2.2) t)
theorem Runs.nil {k : Nat} {s t : Int × Int × Int} (h : Runs k [] s t) : s = t := by
  cases k with
  | zero => exact h.2
  | succ k =>
    rcases h with h | ⟨n, r, h, _⟩ | ⟨n, h, _⟩ | ⟨x, r, h, _⟩ | ⟨x, r, h, _⟩
    · exact h.2
    all_goals cases h

theorem blk4 {w : World} {g t : Nat} {x0 x1 x2 x3 : Value} (h : Blk w g t #[x0, x1, x2, x3]) :
    w.cell? ⟨g, 0, none⟩ = some x0 ∧ w.cell? ⟨g, 1, none⟩ = some x1 ∧ w.cell? ⟨g, 2, none⟩ = some x2 ∧ w.cell? ⟨g, 3, none⟩ = some x3 ∧
      w.frozen? ⟨g, 0, none⟩ = false ∧ w.frozen? ⟨g, 1, none⟩ = false ∧ w.frozen? ⟨g, 2, none⟩ = false ∧ w.frozen? ⟨g, 3, none⟩ = false :=
  ⟨h.cell 0, h.cell 1, h.cell 2, h.cell 3, h.free 0, h.free 1, h.free 2, h.free 3⟩
theorem LeftAt.only {w w' : World} {B L t : Nat} {r s0 s1 s2 : Int} {xs : List Int} {cs : Array Value} (h : LeftAt w L xs) (hO : Only B w w') (hB : Blk w B t cs) (hne : B ≠ L) (hcs : cs = #[.int .i32 r, .int .u8 s0, .int .u8 s1, .int .u8 s2]) : LeftAt w' L xs := by
  subst hcs
  obtain ⟨A, c, h1, h2, h3, h4, h5, h6⟩ := h
  have hl := World.block_lt_of_cell? w _ h1
  refine ⟨A, c, (hO.cell' (p := ⟨L, 0, none⟩) hl (fun e => hne e.symm)).trans h1, (hO.frozen (p := ⟨L, 0, none⟩) hl (fun e => hne e.symm)).trans h2, h3, h4, fun h0 => ?_, h6⟩
  obtain ⟨ad, hA, hc⟩ := h5 h0
  refine ⟨ad, hA, fun k hk => (hO.cell' (World.block_lt_of_cell? w _ (hc k hk)) (fun e => ?_)).trans (hc k hk)⟩
  have hk2 := hc k hk
  generalize ad.add k = p at e hk2
  obtain ⟨pb, po, ps⟩ := p
  have hsp : ps = none := World.cell?_spot hk2
  subst hsp
  have e' : pb = B := e
  subst e'
  rw [hB.cell po] at hk2
  match po, hk2 with
  | 0, hk2 => simp at hk2
  | 1, hk2 => simp at hk2
  | 2, hk2 => simp at hk2
  | 3, hk2 => simp at hk2
  | n + 4, hk2 => simp at hk2
def cellA (r : Int) (s : Int × Int × Int) : Array Value := #[.int .i32 r, .int .u8 s.1, .int .u8 s.2.1, .int .u8 s.2.2]

set_option maxRecDepth 100000 in
set_option maxHeartbeats 2000000 in
theorem apply_m (r : Int) (s t : Int × Int × Int) (fuel : Nat) (n0 n1 n2 n3 n4 n5 n6 n7 : Int) (n : Nat) (w : World) (hn : 0 < n) (hn8 : n ≤ 8) (hr : Runs fuel ([n0, n1, n2, n3, n4, n5, n6, n7].take n) s t) :
    Calls Try.prog 8 #[.agg (cellA r s), .agg #[.int .i64 4, .int .i32 109, .int .u8 0, .int .u8 0, .int .i64 n, .int .i64 n0, .int .i64 n1, .int .i64 n2, .int .i64 n3, .int .i64 n4, .int .i64 n5, .int .i64 n6, .int .i64 n7]] w fun e w' => e = .returned (.agg (cellA r t)) ∧ Below w.heap.size w w' := by
  unfold cellA
  have hsl := arr_slice ⟨w.heap.size + 1, 5, none⟩ n hn8
  have hne0 : ((n : Int) == 0) = false := by simp; omega
  have HR := Lib.hid hr
  clear hr
  go_enter Try.func8, Try.ntmps8
  go_wp2_with fail
  obtain ⟨W, hW⟩ : ∃ W, W = (((w.alloc (.cells #[.int .i32 r, .int .u8 s.1, .int .u8 s.2.1, .int .u8 s.2.2] 23)).alloc (.cells #[.int .i64 4, .int .i32 109, .int .u8 0, .int .u8 0, .int .i64 n, .int .i64 n0, .int .i64 n1, .int .i64 n2, .int .i64 n3, .int .i64 n4, .int .i64 n5, .int .i64 n6, .int .i64 n7] 26)).alloc (.cells #[.int .i32 0, .int .u8 0, .int .u8 0, .int .u8 0] 23)).alloc (.cells #[.slice (some ⟨w.heap.size + 1, 5, none⟩) n 8] 30) := ⟨_, rfl⟩
  rw [← hW]
  have hB0 : Blk W w.heap.size 23 #[.int .i32 r, .int .u8 s.1, .int .u8 s.2.1, .int .u8 s.2.2] := by rw [hW]; exact (((Blk.new _ _ _).alloc _).alloc _).alloc _
  have hC0 : Blk W (w.heap.size + 1 + 1) 23 #[.int .i32 0, .int .u8 0, .int .u8 0, .int .u8 0] := by
    rw [hW]
    have h := Blk.new ((w.alloc (.cells #[.int .i32 r, .int .u8 s.1, .int .u8 s.2.1, .int .u8 s.2.2] 23)).alloc (.cells #[.int .i64 4, .int .i32 109, .int .u8 0, .int .u8 0, .int .i64 n, .int .i64 n0, .int .i64 n1, .int .i64 n2, .int .i64 n3, .int .i64 n4, .int .i64 n5, .int .i64 n6, .int .i64 n7] 26)) 23 #[.int .i32 0, .int .u8 0, .int .u8 0, .int .u8 0]
    rw [World.size_alloc, World.size_alloc] at h
    exact h.alloc _
  have hL0 : LeftAt W (w.heap.size + 1 + 1 + 1) ([n0, n1, n2, n3, n4, n5, n6, n7].take n) := by
    rw [hW]
    have hlen : ([n0, n1, n2, n3, n4, n5, n6, n7].take n).length = n := by simp; omega
    refine ⟨some ⟨w.heap.size + 1, 5, none⟩, 8, ?_, ?_, by omega, by decide, ?_, fun ad hA => by injection hA with hA; subst hA; simp⟩
    · rw [hlen]
      have h := (Blk.new (((w.alloc (.cells #[.int .i32 r, .int .u8 s.1, .int .u8 s.2.1, .int .u8 s.2.2] 23)).alloc (.cells #[.int .i64 4, .int .i32 109, .int .u8 0, .int .u8 0, .int .i64 n, .int .i64 n0, .int .i64 n1, .int .i64 n2, .int .i64 n3, .int .i64 n4, .int .i64 n5, .int .i64 n6, .int .i64 n7] 26)).alloc (.cells #[.int .i32 0, .int .u8 0, .int .u8 0, .int .u8 0] 23)) 30 #[.slice (some ⟨w.heap.size + 1, 5, none⟩) n 8]).cell 0
      rw [World.size_alloc, World.size_alloc, World.size_alloc] at h
      exact h
    · have h := (Blk.new (((w.alloc (.cells #[.int .i32 r, .int .u8 s.1, .int .u8 s.2.1, .int .u8 s.2.2] 23)).alloc (.cells #[.int .i64 4, .int .i32 109, .int .u8 0, .int .u8 0, .int .i64 n, .int .i64 n0, .int .i64 n1, .int .i64 n2, .int .i64 n3, .int .i64 n4, .int .i64 n5, .int .i64 n6, .int .i64 n7] 26)).alloc (.cells #[.int .i32 0, .int .u8 0, .int .u8 0, .int .u8 0] 23)) 30 #[.slice (some ⟨w.heap.size + 1, 5, none⟩) n 8]).free 0
      rw [World.size_alloc, World.size_alloc, World.size_alloc] at h
      exact h
    · refine Ints.take (fun _ => ⟨_, rfl, fun k hk => ?_⟩) n
      have hk8 : k < 8 := hk
      have h := ((Blk.new (w.alloc (.cells #[.int .i32 r, .int .u8 s.1, .int .u8 s.2.1, .int .u8 s.2.2] 23)) 26 #[.int .i64 4, .int .i32 109, .int .u8 0, .int .u8 0, .int .i64 n, .int .i64 n0, .int .i64 n1, .int .i64 n2, .int .i64 n3, .int .i64 n4, .int .i64 n5, .int .i64 n6, .int .i64 n7]).alloc (.cells #[.int .i32 0, .int .u8 0, .int .u8 0, .int .u8 0] 23)).alloc (.cells #[.slice (some ⟨w.heap.size + 1, 5, none⟩) n 8] 30)
      rw [World.size_alloc] at h
      have h2 := h.cell (5 + k)
      rw [show (⟨w.heap.size + 1, 5, none⟩ : Addr).add k = ⟨w.heap.size + 1, 5 + k, none⟩ from by unfold Addr.add; split <;> simp_all, h2]
      rcases (show k = 0 ∨ k = 1 ∨ k = 2 ∨ k = 3 ∨ k = 4 ∨ k = 5 ∨ k = 6 ∨ k = 7 by omega) with rfl | rfl | rfl | rfl | rfl | rfl | rfl | rfl <;> rfl
  have hb0 : Below w.heap.size w W := by rw [hW]; repeat (first | with_reducible exact Below.refl _ _ | refine Below.alloc ?_ (by simp; try omega) _)
  clear hW
  go_loopg [7] fuel (fun k _v wr => ∃ (xs : List Int) (s' : Int × Int × Int), Runs k xs s' t ∧ Blk wr w.heap.size 23 #[.int .i32 r, .int .u8 s'.1, .int .u8 s'.2.1, .int .u8 s'.2.2] ∧ Blk wr (w.heap.size + 1 + 1) 23 #[.int .i32 0, .int .u8 0, .int .u8 0, .int .u8 0] ∧ LeftAt wr (w.heap.size + 1 + 1 + 1) xs ∧ Below w.heap.size w wr)
  case atStart => exact ⟨_, s, HR.out, hB0, hC0, hL0, hb0⟩
  case round =>
    obtain ⟨xs, s', hrun, hB, hC, hL, hb⟩ := hrel
    obtain ⟨A, c, hl0, hl1, hl2, hl3, hl4, hl5⟩ := id hL
    obtain ⟨b0, b1, b2, b3, g0, g1, g2, g3⟩ := blk4 hB
    obtain ⟨c0, c1, c2, c3, f0, f1, f2, f3⟩ := blk4 hC
    obtain ⟨s0, s1, s2⟩ := s'
    have hlt := hB.lt
    have hlL : w.heap.size + 1 + 1 + 1 < wr.heap.size := World.block_lt_of_cell? wr _ hl0
    clear hB0 hC0 hL0 hb0
    cases xs with
    | nil =>
      have hst := hrun.nil
      subst hst
      clear hrun hB hL hC hl5 hl4
      go_wp2
      refine bodyPost_ret (v := .agg #[.int .i32 r, .int .u8 s0, .int .u8 s1, .int .u8 s2]) ?_ rfl ⟨rfl, ?_⟩
      · simp [results, Try.results8, go_sem, *]
      · repeat (first | with_reducible exact hb | refine Below.setCell ?_ (by simp; try omega) _)
    | cons x q =>
      cases gk with
      | zero => cases hrun.1
      | succ k =>
        rcases hrun with ⟨h, _⟩ | ⟨x', q', he, h38, h48, hrun⟩ | ⟨x', he, h38, rfl⟩ | ⟨y, q', he, hy0, hy1, hrun⟩ | ⟨y, q', he, hy0, hy1, hrun⟩
        · cases h
        · injection he with h1 h2
          subst h1 h2
          have hx38 : (x == 38) = false := by simp [h38]
          have hx48 : (x == 48) = false := by simp [h48]
          have HR2 := Lib.hid hrun
          clear hrun h38 h48 hl4 hl5
          go_wp2_with fail
          refine (take_left _ 1 _ _ hL (by omega)).mono ?_
          rintro e w1 ⟨A1, rfl, hx1, h1, hO1⟩
          obtain ⟨ad, rfl, hc1⟩ := Elems.at_ (k := 0) hx1 (by simp)
          have hc1' : w1.cell? ad = some (.int .i64 x) := by simpa [Addr.add] using hc1
          have hB1 := hB.grown hO1 (by simp; omega)
          have hC1 := hC.grown hO1 (by simp)
          rw [show min 1 (x :: q).length = 1 from by simp]
          simp only [List.drop_succ_cons, List.drop_zero] at h1
          obtain ⟨b0', b1', b2', b3', g0', g1', g2', g3'⟩ := blk4 hB1
          clear hc1 hx1 hl0 hl1 b0 b1 b2 b3 g0 g1 g2 g3 c0 c1 c2 c3 f0 f1 f2 f3 hL hB hC
          go_wp2_with fail
          refine (obey_any x r (s0, s1, s2) _).mono ?_
          rintro e w2 ⟨rfl, hb2⟩
          obtain ⟨⟨o0, o1, o2⟩, ho⟩ : ∃ o, o = obeyP (s0, s1, s2) x := ⟨_, rfl⟩
          rw [← ho] at HR2 ⊢
          have hB2 := hB1.below hb2 hB1.lt
          have hC2 := hC1.below hb2 hC1.lt
          have hL2 := h1.below hb2
          obtain ⟨e0, e1, e2, e3, j0, j1, j2, j3⟩ := blk4 hB2
          unfold cellV
          have hB1lt := hB1.lt
          clear ho b0' b1' b2' b3' g0' g1' g2' g3' hB1 hC1 h1
          go_wp2
          go_roundg k
          case measure => omega
          case rel =>
            have hO := only_set (only_set (only_set (only_set (only_refl w.heap.size w2) 0 (.int .i32 r)) 1 (.int .u8 o0)) 2 (.int .u8 o1)) 3 (.int .u8 o2)
            refine ⟨q, (o0, o1, o2), HR2.out, (((hB2.set 0 (.int .i32 r)).set 1 (.int .u8 o0)).set 2 (.int .u8 o1)).set 3 (.int .u8 o2), hC2.grown hO (by simp; omega), hL2.only hO hB2 (by omega) rfl, ?_⟩
            exact ((hb.trans (only_below hO1 (by omega) hb.size)).trans (hb2.mono (Nat.le_of_lt hB1lt))).trans (only_below hO (Nat.le_refl _) (Nat.le_of_lt hB2.lt))
        · injection he with h1 h2
          subst h1 h2
          clear hl4 hl5
          rcases h38 with rfl | rfl
          · go_wp2_with fail
            refine (take_left _ 1 _ _ hL (by omega)).mono ?_
            rintro e w1 ⟨A1, rfl, hx1, h1, hO1⟩
            obtain ⟨ad, rfl, hc1⟩ := Elems.at_ (k := 0) hx1 (by simp)
            have hc1' : w1.cell? ad = some (.int .i64 38) := by simpa [Addr.add] using hc1
            have hB1 := hB.grown hO1 (by simp; omega)
            have hC1 := hC.grown hO1 (by simp)
            rw [show min 1 ([(38 : Int)]).length = 1 from by simp]
            simp only [List.drop_succ_cons, List.drop_nil] at h1
            clear hc1 hx1 hl0 hl1 b0 b1 b2 b3 g0 g1 g2 g3 c0 c1 c2 c3 f0 f1 f2 f3 hL hB hC
            go_wp2_with fail
            refine (chosen_none _ _ h1).mono ?_
            rintro e w2 ⟨rfl, h2, hO2⟩
            have hB2 := hB1.grown hO2 (by simp; omega)
            have hC2 := hC1.grown hO2 (by simp)
            clear hB1 hC1 h1
            go_wp2
            go_roundg k
            case measure => omega
            case rel => exact ⟨[], (s0, s1, s2), by cases k with | zero => exact ⟨rfl, rfl⟩ | succ k => exact .inl ⟨rfl, rfl⟩, hB2, hC2, h2, hb.trans (only_below (only_trans hO1 hO2) (by omega) hb.size)⟩
          · go_wp2_with fail
            refine (take_left _ 1 _ _ hL (by omega)).mono ?_
            rintro e w1 ⟨A1, rfl, hx1, h1, hO1⟩
            obtain ⟨ad, rfl, hc1⟩ := Elems.at_ (k := 0) hx1 (by simp)
            have hc1' : w1.cell? ad = some (.int .i64 48) := by simpa [Addr.add] using hc1
            have hB1 := hB.grown hO1 (by simp; omega)
            have hC1 := hC.grown hO1 (by simp)
            rw [show min 1 ([(48 : Int)]).length = 1 from by simp]
            simp only [List.drop_succ_cons, List.drop_nil] at h1
            clear hc1 hx1 hl0 hl1 b0 b1 b2 b3 g0 g1 g2 g3 c0 c1 c2 c3 f0 f1 f2 f3 hL hB hC
            go_wp2_with fail
            refine (chosen_none _ _ h1).mono ?_
            rintro e w2 ⟨rfl, h2, hO2⟩
            have hB2 := hB1.grown hO2 (by simp; omega)
            have hC2 := hC1.grown hO2 (by simp)
            clear hB1 hC1 h1
            go_wp2
            go_roundg k
            case measure => omega
            case rel => exact ⟨[], (s0, s1, s2), by cases k with | zero => exact ⟨rfl, rfl⟩ | succ k => exact .inl ⟨rfl, rfl⟩, hB2, hC2, h2, hb.trans (only_below (only_trans hO1 hO2) (by omega) hb.size)⟩
        · injection he with h1 h2
          subst h1 h2
          have HR2 := Lib.hid hrun
          clear hrun hl4 hl5
          go_wp2_with fail
          refine (take_left _ 1 _ _ hL (by omega)).mono ?_
          rintro e w1 ⟨A1, rfl, hx1, h1, hO1⟩
          obtain ⟨ad, rfl, hc1⟩ := Elems.at_ (k := 0) hx1 (by simp)
          have hc1' : w1.cell? ad = some (.int .i64 38) := by simpa [Addr.add] using hc1
          have hB1 := hB.grown hO1 (by simp; omega)
          have hC1 := hC.grown hO1 (by simp)
          rw [show min 1 ((38 : Int) :: 5 :: y :: q').length = 1 from by simp]
          simp only [List.drop_succ_cons, List.drop_zero] at h1
          clear hc1 hx1 hl0 hl1 b0 b1 b2 b3 g0 g1 g2 g3 c0 c1 c2 c3 f0 f1 f2 f3 hL hB hC
          go_wp2_with fail
          refine (chosen_five _ y q' _ h1 hy0 hy1).mono ?_
          rintro e w2 ⟨rfl, h2, hO2⟩
          have hB2 := hB1.grown hO2 (by simp; omega)
          have hC2 := hC1.grown hO2 (by simp)
          obtain ⟨m, hm⟩ : ∃ m, m = max y 1 := ⟨_, rfl⟩
          rw [← hm] at HR2 ⊢
          obtain ⟨e0, e1, e2, e3, j0, j1, j2, j3⟩ := blk4 hB2
          clear hB1 hC1 h1 hm
          go_wp2
          go_roundg k
          case measure => omega
          case rel =>
            have hO := only_set (only_refl w.heap.size w2) 1 (.int .u8 m)
            exact ⟨q', (m, s1, s2), HR2.out, hB2.set 1 (.int .u8 m), hC2.grown hO (by simp; omega), h2.only hO hB2 (by omega) rfl, (hb.trans (only_below (only_trans hO1 hO2) (by omega) hb.size)).trans (only_below hO (Nat.le_refl _) (Nat.le_of_lt hB2.lt))⟩
        · injection he with h1 h2
          subst h1 h2
          have HR2 := Lib.hid hrun
          clear hrun hl4 hl5
          go_wp2_with fail
          refine (take_left _ 1 _ _ hL (by omega)).mono ?_
          rintro e w1 ⟨A1, rfl, hx1, h1, hO1⟩
          obtain ⟨ad, rfl, hc1⟩ := Elems.at_ (k := 0) hx1 (by simp)
          have hc1' : w1.cell? ad = some (.int .i64 48) := by simpa [Addr.add] using hc1
          have hB1 := hB.grown hO1 (by simp; omega)
          have hC1 := hC.grown hO1 (by simp)
          rw [show min 1 ((48 : Int) :: 5 :: y :: q').length = 1 from by simp]
          simp only [List.drop_succ_cons, List.drop_zero] at h1
          clear hc1 hx1 hl0 hl1 b0 b1 b2 b3 g0 g1 g2 g3 c0 c1 c2 c3 f0 f1 f2 f3 hL hB hC
          go_wp2_with fail
          refine (chosen_five _ y q' _ h1 hy0 hy1).mono ?_
          rintro e w2 ⟨rfl, h2, hO2⟩
          have hB2 := hB1.grown hO2 (by simp; omega)
          have hC2 := hC1.grown hO2 (by simp)
          obtain ⟨m, hm⟩ : ∃ m, m = max y 1 := ⟨_, rfl⟩
          rw [← hm] at HR2 ⊢
          obtain ⟨e0, e1, e2, e3, j0, j1, j2, j3⟩ := blk4 hB2
          clear hB1 hC1 h1 hm
          go_wp2
          go_roundg k
          case measure => omega
          case rel =>
            have hO := only_set (only_refl w.heap.size w2) 2 (.int .u8 m)
            exact ⟨q', (s0, m, s2), HR2.out, hB2.set 2 (.int .u8 m), hC2.grown hO (by simp; omega), h2.only hO hB2 (by omega) rfl, (hb.trans (only_below (only_trans hO1 hO2) (by omega) hb.size)).trans (only_below hO (Nat.le_refl _) (Nat.le_of_lt hB2.lt))⟩

set_option maxRecDepth 100000 in
set_option maxHeartbeats 1000000 in
/-- What is no act of m changes no pen. -/
theorem apply_no (r s0 s1 s2 k rr p m n n0 n1 n2 n3 n4 n5 n6 n7 : Int) (w : World) (h : ¬ (k = 4 ∧ rr = 109 ∧ p = 0 ∧ m = 0)) :
    Calls Try.prog 8 #[.agg #[.int .i32 r, .int .u8 s0, .int .u8 s1, .int .u8 s2], .agg #[.int .i64 k, .int .i32 rr, .int .u8 p, .int .u8 m, .int .i64 n, .int .i64 n0, .int .i64 n1, .int .i64 n2, .int .i64 n3, .int .i64 n4, .int .i64 n5, .int .i64 n6, .int .i64 n7]] w fun e w' => e = .returned (.agg #[.int .i32 r, .int .u8 s0, .int .u8 s1, .int .u8 s2]) ∧ Below w.heap.size w w' := by
  have c1 : (k != 4) = true ∨ ((k != 4) = false ∧ (rr != 109) = true) ∨ ((k != 4) = false ∧ (rr != 109) = false ∧ (p != 0) = true) ∨ ((k != 4) = false ∧ (rr != 109) = false ∧ (p != 0) = false ∧ (m != 0) = true) := by
    simp only [bne_iff_ne, bne_eq_false_iff_eq, ne_eq]
    omega
  clear h
  rcases c1 with c1 | ⟨c1, c2⟩ | ⟨c1, c2, c3⟩ | ⟨c1, c2, c3, c4⟩
  all_goals
    go_enter Try.func8, Try.ntmps8
    go_wp2
    refine bodyPost_ret (v := .agg #[.int .i32 r, .int .u8 s0, .int .u8 s1, .int .u8 s2]) ?_ rfl ⟨rfl, ?_⟩
    · simp [results, Try.results8, go_sem]
    · repeat (first | with_reducible exact Below.refl _ _ | refine Below.alloc ?_ (by simp; try omega) _)
end Go.Proofs.Ytljjklhkifehaaa
