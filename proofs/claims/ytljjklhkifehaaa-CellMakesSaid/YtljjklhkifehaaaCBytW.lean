/- Three blanks as bytes: the chapter's example (a range over a function: inside a fence). -/
import Derived.RangeFuncNested
import Derived.RangeFuncBound
import Derived.RangeFuncCalls
import Derived.RangeFuncLeaves
import Derived.Shelf.Abstract
import Derived.Shelf.RegionOpen
import Derived.WalkKit
import Derived.OwnWalkIn
import Derived.TacticsInMore
import Derived.LoopNIn
import Derived.LoopIn
import Derived.Test.YtljjklhkifehaaaMakeW
import Derived.Test.YtljjklhkifehaaaBldW
import Derived.Test.YtljjklhkifehaaaPutN
import Derived.Test.YtljjklhkifehaaaShelf
namespace Go.Proofs.Ytljjklhkifehaaa
open Go.RowKit Go.Shelf
attribute [local go_sem] Oper.semAt_some
set_option maxRecDepth 100000 in
theorem runs_any (A : Option Addr) (n c : Nat) (w : World) : Calls Try.prog 34 #[.slice A n c] w fun e w' => e = .returned (.func (.func 40) #[] #[.pointer (some ⟨w.heap.size, 0, none⟩)]) ∧ w' = w.alloc (.cells #[.slice A n c] 37) := by
  go_enter Try.func34, Try.ntmps34
  go_wp2_with fail
  go_ret
  exact ⟨rfl, rfl⟩
set_option maxRecDepth 100000 in
set_option maxHeartbeats 2000000 in
theorem size_one (r f b x : Int) (w : World) (h1 : bits .and .u8 x 64 = 0) :
    Calls Try.prog 41 #[cv r f b x] w fun e w' => e = .returned (.int .i64 1) ∧ Below w.heap.size w w' := by
  go_enter Try.func41, Try.ntmps41
  go_wp2_with fail
  go_ret
  exact ⟨rfl, (Below.refl _ _).alloc (Nat.le_refl _) _⟩
abbrev blankL : List Int := [32, 32, 32]
theorem blank_w : wid 32 = 1 := by decide +kernel
theorem blank_rows : rowc 0 0 0 blankL = [.int .i32 32, .int .u8 0, .int .u8 0, .int .u8 0, .int .i32 32, .int .u8 0, .int .u8 0, .int .u8 0, .int .i32 32, .int .u8 0, .int .u8 0, .int .u8 0] := by simp [rowc, mkc_1 0 0 0 blank_w]
theorem way0 : Way 0 := way_of 0 (by omega)
/-- Three blanks at g, the row's own variable at B. -/
structure B3 (w : World) (g B c : Nat) : Prop where
  box : w.cell? ⟨B, 0, none⟩ = some (.slice (some ⟨g, 0, none⟩) 3 c)
  row : RowAt w g 0 0 0 blankL
theorem grown_none' {w w' : World} (hb : Below w.heap.size w w') : w.grownBy w' none := ⟨hb.os, hb.tape, hb.output, hb.size, fun k hk _ => hb.block k hk⟩
theorem B3.below {w w' : World} {g B c n₀ : Nat} (h : B3 w g B c) (hb : Below n₀ w w') (hB : B < n₀) (hg : g < n₀) : B3 w' g B c := ⟨(hb.cell (p := ⟨B, 0, none⟩) hB).trans h.box, fun j v hj => (hb.cell (p := ⟨g, j, none⟩) hg).trans (h.row j v hj)⟩
abbrev enc3 (_ : Unit) : Array Value := #[.int .i64 3, cv 32 0 0 0]
/-- What a round keeps: what lies below n₀, and block B. -/
def KpR (n₀ B : Nat) (W W' : World) : Prop := Below n₀ W W' ∧ ∀ o, W.heap[B]? = some o → W'.heap[B]? = some o
theorem KpR.trans {n₀ B : Nat} {X Y Z : World} (h : KpR n₀ B X Y) (k : KpR n₀ B Y Z) : KpR n₀ B X Z := ⟨h.1.trans k.1, fun o ho => k.2 o (h.2 o ho)⟩
theorem KpR.putObj {n₀ B : Nat} {w : World} (h0 : n₀ ≤ w.heap.size) (h1 : B < w.heap.size) : ∀ (W : World) (l : Nat) (o o' : Obj), w.heap.size ≤ l → W.heap[l]? = some o → o.isCells = false → o.isWalk = false → KpR n₀ B W (W.putObj l o') :=
  fun W l o o' hl ho hc hw => ⟨belowK_b h0 W l o o' hl ho hc hw, fun x hx => (World.putObj_heap_other (fun e => by omega)).trans hx⟩
theorem B3.kp {w w' : World} {g B c n₀ : Nat} (h : B3 w g B c) (hb : KpR n₀ B w w') (hg : g < n₀) : B3 w' g B c := by
  refine ⟨?_, fun j v hj => (hb.1.cell (p := ⟨g, j, none⟩) hg).trans (h.row j v hj)⟩
  have h1 := h.box
  have hlt := World.block_lt_of_cell? w _ h1
  have h2 := hb.2 _ (Array.getElem?_eq_getElem hlt)
  rw [World.cell?_of_block (w := w) (w' := w') (h2.trans (Array.getElem?_eq_getElem hlt).symm)]
  exact h1
set_option maxRecDepth 100000 in
set_option maxHeartbeats 2000000 in
theorem runs_stops (n : Nat) (hn : 1 ≤ n) (g B c n₀ : Nat) (w : World) (hB : B < w.heap.size) (hg : g < n₀) (hn0 : n₀ ≤ w.heap.size) (h : B3 w g B c) :
    SeqStopsK Fence.wide n Try.prog 40 #[.pointer (some ⟨B, 0, none⟩)] enc3 (KpR n₀ B) (fun xs => xs = [()]) (fun pre => pre = [()]) 1 w := fun l J Jx W hW hJ hJx hY h0 => by
  refine callsIn_of_wp Try.func40 rfl trivial ?_ rfl
  simp only [Try.ntmps40, List.size_toArray, List.length_cons, List.length_nil, Nat.reduceAdd, Nat.reduceSub, Array.replicate_succ, Array.replicate_zero, List.push_toArray, List.append_toArray, List.nil_append, List.cons_append]
  gi_wp2
  have hL : Below W.heap.size W W := Below.refl _ _
  have hWB : B3 W g B c := h.below hW (by omega) (by omega)
  have hBW : B < W.heap.size := by have := hW.size; omega
  have hgW : g < W.heap.size := by have := hW.size; omega
  gi_loopw [3] (fun x wr => ∃ ph : Bool, x = .int .i64 (if ph then 3 else 0) ∧ (ph = false → Below W.heap.size W wr) ∧ (ph = true → J [()] wr) ∧ B3 wr g B c) (fun x _ => 3 - (intOf x).toNat)
  case atStart => exact ⟨false, rfl, fun _ => hL, fun h => (by cases h), hWB⟩
  case round =>
    obtain ⟨ph, rfl, hp0, hp1, hB3⟩ := hrel
    have hbox := hB3.box
    cases ph with
    | true =>
      have hJ1 := hp1 rfl
      gi_wp2
      go_end0
      exact ⟨⟨_, rfl⟩, .inl hJ1⟩
    | false =>
      have hb0 := hp0 rfl
      have c0 : wr.cell? ⟨g, 0, none⟩ = some (.int .i32 32) := hB3.row 0 _ (by rw [blank_rows]; rfl)
      have c1 : wr.cell? ⟨g, 1, none⟩ = some (.int .u8 0) := hB3.row 1 _ (by rw [blank_rows]; rfl)
      have c2 : wr.cell? ⟨g, 2, none⟩ = some (.int .u8 0) := hB3.row 2 _ (by rw [blank_rows]; rfl)
      have c3 : wr.cell? ⟨g, 3, none⟩ = some (.int .u8 0) := hB3.row 3 _ (by rw [blank_rows]; rfl)
      have hM := Blk.new wr 23 #[.int .i32 32, .int .u8 0, .int .u8 0, .int .u8 0]
      have hbm := hb0.alloc hb0.size (.cells #[.int .i32 32, .int .u8 0, .int .u8 0, .int .u8 0] 23)
      have hB3m := hB3.below ((Below.refl wr.heap.size wr).alloc (Nat.le_refl _) (.cells #[.int .i32 32, .int .u8 0, .int .u8 0, .int .u8 0] 23)) (Nat.lt_of_lt_of_le hBW hb0.size) (Nat.lt_of_lt_of_le hgW hb0.size)
      have hmW := hb0.size
      obtain ⟨m, hm⟩ : ∃ m, m = wr.heap.size := ⟨_, rfl⟩
      rw [← hm] at hM hmW
      gi_wp2
      rw [← hm]
      clear hm
      gi_loopw [3, 5] (fun x nn wi => ∃ k : Nat, k ≤ 3 ∧ x = .int .i64 (k : Nat) ∧ nn = .int .i64 (k : Nat) ∧ Blk wi m 23 #[.int .i32 32, .int .u8 0, .int .u8 0, .int .u8 0] ∧ B3 wi g B c ∧ Below W.heap.size W wi) (fun x _ _ => 3 - (intOf x).toNat)
      case atStart => exact ⟨0, by omega, rfl, rfl, hM, hB3m, hbm⟩
      case round =>
        clear hM hB3m hbm c0 c1 c2 c3 hB3 hbox hb0 hp0 hp1
        obtain ⟨k, hk, rfl, rfl, hMi, hBi, hbi⟩ := hrel
        have hbox := hBi.box
        have m0 : wr.cell? ⟨m, 0, none⟩ = some (.int .i32 32) := hMi.cell 0
        have m1 : wr.cell? ⟨m, 1, none⟩ = some (.int .u8 0) := hMi.cell 1
        have m2 : wr.cell? ⟨m, 2, none⟩ = some (.int .u8 0) := hMi.cell 2
        have m3 : wr.cell? ⟨m, 3, none⟩ = some (.int .u8 0) := hMi.cell 3
        by_cases hlt : k < 3
        · have c0 : wr.cell? ⟨g, k * 4, none⟩ = some (.int .i32 32) := hBi.row _ _ (by rw [blank_rows]; rcases (show k = 0 ∨ k = 1 ∨ k = 2 by omega) with rfl | rfl | rfl <;> rfl)
          have c1 : wr.cell? ⟨g, k * 4 + 1, none⟩ = some (.int .u8 0) := hBi.row _ _ (by rw [blank_rows]; rcases (show k = 0 ∨ k = 1 ∨ k = 2 by omega) with rfl | rfl | rfl <;> rfl)
          have c2 : wr.cell? ⟨g, k * 4 + 2, none⟩ = some (.int .u8 0) := hBi.row _ _ (by rw [blank_rows]; rcases (show k = 0 ∨ k = 1 ∨ k = 2 by omega) with rfl | rfl | rfl <;> rfl)
          have c3 : wr.cell? ⟨g, k * 4 + 3, none⟩ = some (.int .u8 0) := hBi.row _ _ (by rw [blank_rows]; rcases (show k = 0 ∨ k = 1 ∨ k = 2 by omega) with rfl | rfl | rfl <;> rfl)
          have hd1 : decide ((k : Int) < 3) = true := decide_eq_true (by omega)
          have hd2 : decide (k < 3) = true := decide_eq_true hlt
          gi_wp2
          gi_region
          gi_wp2
          refine ⟨trivial, (callsIn_wide.2 (size_one 32 0 0 0 _ way0.a64)).mono ?_⟩
          rintro e w5 ⟨rfl, hb5⟩
          have hb5' := hbi.drew.trans (hb5.mono hbi.size)
          have hM5 := hMi.drew.below hb5 hMi.lt
          have hB5 := hBi.below ((Below.refl wr.heap.size wr).drew.trans hb5) (Nat.lt_of_lt_of_le hBW hbi.size) (Nat.lt_of_lt_of_le hgW hbi.size)
          gi_wp2
          go_roundw
          case rel => exact ⟨k + 1, by omega, by go_num, by go_num, hM5, hB5, hb5'⟩
          case measure => simp [intOf]; omega
        · have hd1 : decide ((k : Int) < 3) = false := decide_eq_false (by omega)
          have hd2 : decide (k < 3) = false := decide_eq_false hlt
          gi_wp2
          gi_big_quiet_th (fail)
          obtain rfl : k = 3 := by omega
          rw [show ((3 : Nat) : Int) = 3 from rfl]
          clear hd1 hd2 hk hlt
          have hJ' : J [] (wr.drewN nq) := hJ [] W _ none h0 (grown_none' (below_drewN hbi _)) (fun r e => by cases e)
          have hB4 := hBi.below (below_drewN (Below.refl wr.heap.size wr) nq) (Nat.lt_of_lt_of_le hBW hbi.size) (Nat.lt_of_lt_of_le hgW hbi.size)
          obtain ⟨fn, tmps, assign, body, hy, hR⟩ := hY [] () _ hJ' (by decide)
          dsimp only [enc3] at hy
          gi_wp2
          refine hR.mono ?_
          rintro e W' (⟨rfl, hJ1, hk1⟩ | ⟨rfl, hJx1⟩)
          · have hB6 := hB4.kp hk1 hg
            gi_wp2
            go_roundw
            case rel => exact ⟨true, rfl, fun h => (by cases h), fun _ => hJ1, hB6⟩
            case measure => simp [intOf]
          · gi_wp2
            refine bodyPost_ret (results_none rfl _ _ _) rfl ?_
            exact ⟨⟨_, rfl⟩, .inr ⟨[()], rfl, hJx1⟩⟩
theorem only_of_none {b : Nat} {w w' : World} {v : Value} (h : w.grownBy w' v.ownBlock) (hv : v.ownBlock = none) : Only b w w' := ⟨h.os, h.tape, h.output, h.size, fun k hk _ => h.block k hk (by rw [hv]; simp)⟩
theorem own_base' {w : World} {B H : Nat} {e : TypeId} {size n : Nat} {v : Value} {xs : List Value} (h : w.ownsRow H e size v n xs) (hB : B ≤ H) : w.ownsRow B e size v n xs := by
  refine ⟨h.1, ?_⟩
  rcases h.2 with h1 | ⟨g, cap, cur, h1, h2, h3⟩
  · exact .inl h1
  · exact .inr ⟨g, cap, cur, h1, by omega, h3⟩
set_option maxRecDepth 100000 in
set_option maxHeartbeats 1000000 in
theorem writeString_fresh (b : Nat) (s : ByteArray) (w : World) (h : Blk w b 63 #[.pointer none, .slice none 0 0]) (hn : s.size ≤ 1000000000000) :
    Calls Try.prog 35 #[.pointer (some ⟨b, 0, none⟩), .string s] w fun e w' => e = .returned (.tuple #[.int .i64 s.size, .nilIface]) ∧ Lib.BuilderAt 63 5 b b (.pointer (some ⟨b, 0, none⟩)) (Lib.strCells s) w' ∧ Only b w w' := by
  obtain ⟨i0, hi, hz0, hz1, hz2⟩ := info_parts (show (Try.prog.info? 5).map (fun i => (i.zero, i.size, i.bytes)) = some (some (.int .u8 0), 1, 1) from by kernel_rfl)
  go_enter Try.func35, Try.ntmps35
  go_wp2_with fail
  refine (copyCheck_fresh b w (h.cell 0) (by unfold Blk at h; simp [World.shape?, h]) (h.free 0)).mono ?_
  rintro e w1 ⟨rfl, rfl⟩
  have hB1 := h.set 0 (.pointer (some ⟨b, 0, none⟩))
  have ho1 := only_set (only_refl b w) 0 (.pointer (some ⟨b, 0, none⟩))
  generalize w.setCell ⟨b, 0, none⟩ (.pointer (some ⟨b, 0, none⟩)) = w1 at hB1 ho1 ⊢
  have c0 : w1.cell? ⟨b, 0, none⟩ = some (.pointer (some ⟨b, 0, none⟩)) := hB1.cell 0
  have c1 : w1.cell? ⟨b, 1, none⟩ = some (.slice none 0 0) := hB1.cell 1
  have hlt := hB1.lt
  go_wp2_with (at_builtin; refine Lib.wpList_append_own_string _ rfl _ _ 61 9 rfl w1.heap.size 5 i0 Try.underlying61 Try.underlying9 hi hz0 hz1 hz2 _ _ _ rfl (World.ownsRow_nil _ _ _ _) s rfl ?c3 ?c4 ?c5 ?_)
  case c3 => unfold maxLen; omega
  case c4 => omega
  case c5 => exact Nat.le_refl _
  intro v' w2 hown' hgrow _
  have hb2 := Blk.grown hB1 hgrow (by simp [Value.ownBlock])
  have ho2 : Only b w w2 := only_trans ho1 (only_of_none hgrow rfl)
  have d0 : w2.cell? ⟨b, 0, none⟩ = some (.pointer (some ⟨b, 0, none⟩)) := hb2.cell 0
  have d1 : w2.cell? ⟨b, 1, none⟩ = some (.slice none 0 0) := hb2.cell 1
  have f1 : w2.frozen? ⟨b, 1, none⟩ = false := hb2.free 1
  obtain ⟨ao, n', cap, rfl⟩ : ∃ ao n' cap, v' = .slice ao n' cap := by
    rcases hown'.2 with ⟨hv, _⟩ | ⟨g, cap, cur, hv, _⟩
    · exact ⟨_, _, _, hv⟩
    · exact ⟨_, _, _, hv⟩
  have hown2 := own_base' hown' (Nat.le_of_lt hlt)
  go_wp2
  go_ret2
  refine ⟨rfl, ?_, only_set ho2 _ _⟩
  exact Lib.BuilderAt.put (T := 63) (e := 5) (Nat.le_refl b) hb2 (bs' := Lib.strCells s) (by simpa [Lib.strCells_length] using hown2) (by decide)
/-- The builder ahead of the one round, and behind it. -/
def BldI (b : Nat) : List Unit → World → Prop
  | [], W => Blk W b 63 #[.pointer none, .slice none 0 0]
  | _, W => Lib.BuilderAt 63 5 b b (.pointer (some ⟨b, 0, none⟩)) (Lib.byteCells [4, 64, 0, 0, 0]) W
theorem builder_kept' {T e : TypeId} {B b : Nat} {p : Value} {bs : List Value} {w w' : World} {row : Option Nat} (h : Lib.BuilderAt T e B b p bs w) (hg : w.grownBy w' row) (hr : ∀ r, row = some r → ∃ o : Obj, w.heap[r]? = some o ∧ o.isCells = false) : Lib.BuilderAt T e B b p bs w' := by
  have hk : ∀ p, Lib.BuilderAt T e B b p bs w → Lib.BuilderAt T e B b p bs w' := fun p ⟨h1, v, h2, h3, h4⟩ => by
    have hlt : b < w.heap.size := (Array.getElem?_eq_some_iff.1 h2).1
    refine ⟨h1, v, (hg.block b hlt (fun e => ?_)).trans h2, h3.kept hg ?_, h4⟩
    · obtain ⟨o, ho, hc⟩ := hr b e.symm
      rw [h2] at ho
      cases ho
      cases hc
    · cases row with
      | none =>
        cases v.ownBlock with
        | none => exact .inl rfl
        | some g => exact .inr (by simp)
      | some r =>
        refine .inr (fun e => ?_)
        obtain ⟨o, ho, hc⟩ := hr r rfl
        rcases h3.2 with ⟨h5, _⟩ | ⟨g, cap, cur, h5, _, h6, _⟩
        · rw [h5] at e
          cases e
        · rw [h5] at e
          injection e with e
          have e' : g = r := e
          subst e'
          rw [h6] at ho
          cases ho
          cases hc
  exact hk _ h
theorem bldI_kept {b : Nat} {pre : List Unit} {w w' : World} {row : Option Nat} (h : BldI b pre w) (hg : w.grownBy w' row) (hr : ∀ r, row = some r → ∃ o : Obj, w.heap[r]? = some o ∧ o.isCells = false) : BldI b pre w' := by
  cases pre with
  | nil =>
    refine Blk.grown h hg (fun e => ?_)
    obtain ⟨o, ho, hc⟩ := hr b e.symm
    have h' : w.heap[b]? = some (.cells #[.pointer none, .slice none 0 0] 63 (0, 0)) := h
    rw [h'] at ho
    cases ho
    cases hc
  | cons x xs => exact builder_kept' h hg hr
theorem keeps_freeze (w : World) (p : Addr) (n : Nat) : KeepsOthers w (w.freeze p n) := by
  unfold World.freeze
  split
  · exact KeepsOthers.refl w
  · refine ⟨by simp, fun k o hk ho => ?_⟩
    simp only [Array.getElem?_modify]
    split
    · rename_i e
      subst e
      rw [hk]
      cases o <;> first | rfl | (cases ho)
    · exact hk
set_option maxRecDepth 100000 in
set_option maxHeartbeats 2000000 in
theorem string_keeps (B b : Nat) (p : Value) (l : List UInt8) (w : World) (h : Lib.BuilderAt 63 5 B b p (Lib.byteCells l) w) (h0 : l ≠ []) :
    Calls Try.prog 37 #[.pointer (some ⟨b, 0, none⟩)] w fun e w' => e = .returned (.string ⟨l.toArray⟩) ∧ KeepsOthers w w' ∧ Below B w w' := by
  obtain ⟨hB, v, hbk, hown, hne⟩ := h
  have hl0 : l.length ≠ 0 := by simpa using h0
  rw [Lib.byteCells_length] at hown
  obtain ⟨g, cap, cur, rfl, hbg, hg, hnc, hcm, hcs, htake⟩ : ∃ g cap cur, v = .slice (some ⟨g, 0, none⟩) l.length cap ∧ B ≤ g ∧ w.heap[g]? = some (.cells cur 5 (0, 0)) ∧ l.length ≤ cap ∧ cap ≤ maxLen ∧ cur.size = cap * 1 ∧ cur.toList.take (l.length * 1) = Lib.byteCells l := by
    rcases hown.2 with ⟨_, hz⟩ | ⟨g, cap, cur, hv, r⟩
    · exact absurd hz hl0
    · exact ⟨g, cap, cur, hv, r⟩
  have c1 : w.drew.cell? ⟨b, 1, none⟩ = some (.slice (some ⟨g, 0, none⟩) l.length cap) := by
    have : w.drew.heap[b]? = some (.cells #[p, .slice (some ⟨g, 0, none⟩) l.length cap] 63 (0, 0)) := hbk
    rw [Lib.cell_of_heap this]; rfl
  have hSD : (Builtin.unsafeSliceData_ #[61] 81 #[.slice (some ⟨g, 0, none⟩) l.length cap]).run Try.prog w.drew = .ok (.pointer (some ⟨g, 0, none⟩)) w.drew :=
    Lib.run_unsafeSliceData_row _ _ _ _ _ _ (by omega)
  have hUS : (Builtin.unsafeString_ #[81, 3] 9 #[.pointer (some ⟨g, 0, none⟩), .int .i64 l.length]).run Try.prog w.drew = .ok (.string ⟨l.toArray⟩) (w.drew.freeze ⟨g, 0, none⟩ l.length) := by
    refine Lib.run_unsafeString_row w.drew 81 3 9 5 Try.underlying81 (by kernel_rfl) g cur.size (by have hg' : w.drew.heap[g]? = some (.cells cur 5 (0, 0)) := hg; simp [World.shape?, hg']) l h0 (by omega) (by unfold maxLen at hcm; omega) ?_
    intro j x hx
    have := hown.cells (g := g) rfl j (.int .u8 x.toNat) (by simp [Lib.byteCells, hx])
    exact this
  have mixed : Try.prog.follows .mixedOrders = true := by kernel_rfl
  go_enter Try.func37, Try.ntmps37
  go_wp2
  go_region_o
  all_goals (go_wp2; go_ret; exact ⟨rfl, (KeepsOthers.drew w).trans (keeps_freeze _ _ _), Lib.below_freeze (Below.drew (Below.refl B w)) (p := ⟨g, 0, none⟩) hbg _⟩)
set_option maxRecDepth 100000 in
set_option maxHeartbeats 4000000 in
theorem bytes_blank (g c : Nat) (w : World) (hg : g < w.heap.size) (hR : RowAt w g 0 0 0 blankL) :
    Calls Try.prog 22 #[.slice (some ⟨g, 0, none⟩) 3 c] w fun e w' => e = .returned (.string ⟨#[4, 64, 0, 0, 0]⟩) ∧ Below w.heap.size w w' := by
  refine (callsIn_wide (n := 4)).1 ?_
  refine callsIn_of_wp_marks Try.func22 rfl trivial ?_ rfl
  simp only [Try.ntmps22, List.size_toArray, List.length_cons, List.length_nil, Nat.reduceAdd, Nat.reduceSub, Array.replicate_succ, Array.replicate_zero, List.push_toArray, List.append_toArray, List.nil_append, List.cons_append]
  gi_wp2
  refine ⟨trivial, (callsIn_wide.2 (right_row g 3 c 0 0 0 blankL w way0 (fun r hr => by simp at hr; subst hr; exact ⟨by rw [blank_w]; decide, by decide, by decide⟩) (by simp [blank_w]) (by omega) hR)).mono ?_⟩
  rintro e w1 ⟨rfl, hb1⟩
  have hR1 := hR.below hb1
  have hg1 : g < w1.heap.size := Nat.lt_of_lt_of_le hg hb1.size
  gi_wp2
  refine ⟨trivial, (callsIn_wide.2 (runs_any _ _ _ _)).mono ?_⟩
  rintro e w2 ⟨rfl, rfl⟩
  have hI := Blk.new w1 63 #[.pointer none, .slice none 0 0]
  have hb2 := (hb1.alloc hb1.size (.cells #[.pointer none, .slice none 0 0] 63)).alloc (Nat.le_trans hb1.size (by simp)) (.cells #[.slice (some ⟨g, 0, none⟩) 3 c] 37)
  have hI2 := hI.alloc (.cells #[.slice (some ⟨g, 0, none⟩) 3 c] 37)
  have hB3 : B3 ((w1.alloc (.cells #[.pointer none, .slice none 0 0] 63)).alloc (.cells #[.slice (some ⟨g, 0, none⟩) 3 c] 37)) g (w1.heap.size + 1) c := by
    refine ⟨?_, fun j v hj => ?_⟩
    · have h := (Blk.new (w1.alloc (.cells #[.pointer none, .slice none 0 0] 63)) 37 #[.slice (some ⟨g, 0, none⟩) 3 c]).cell 0
      rw [World.size_alloc] at h
      exact h
    · exact keepc ((Below.refl _ _).alloc (Nat.le_refl _) _) (keepc ((Below.refl _ _).alloc (Nat.le_refl _) _) (hR1 j v hj))
  have hsz : ((w1.alloc (.cells #[.pointer none, .slice none 0 0] 63)).alloc (.cells #[.slice (some ⟨g, 0, none⟩) 3 c] 37)).heap.size = w1.heap.size + 2 := by simp
  gi_wp2
  generalize (w1.alloc (.cells #[.pointer none, .slice none 0 0] 63)).alloc (.cells #[.slice (some ⟨g, 0, none⟩) 3 c] 37) = W0 at hI2 hb2 hB3 hsz ⊢
  clear hI hR1
  have hww := hb1.size
  obtain ⟨b, hbe⟩ : ∃ b, b = w1.heap.size := ⟨_, rfl⟩
  rw [← hbe] at hI2 hB3 hsz hww hg1 ⊢
  clear hbe
  refine wpIn_rangeFunc_ownH (F := Fence.wide) rfl (by omega) (gf := 40) (lb := #[.pointer (some ⟨b + 1, 0, none⟩)]) rfl trivial (enters_of Try.func40 (by kernel_rfl) rfl)
    (runs_stops 3 (by omega) g (b + 1) c b W0 (by omega) hg1 (by omega) hB3) KpR.trans (KpR.putObj (by omega) (by omega)) (Below.refl _ _) (fun _ => rfl)
    (fun pre W => BldI b pre W ∧ Below w.heap.size w W ∧ W0.heap.size ≤ W.heap.size)
    (fun _ _ _ => False)
    (OwnFrom.and (fun s X Y row hs hg hr => bldI_kept hs hg (fun r e => (hr r e).2)) (OwnFrom.and (ownFrom_below (Nat.le_refl _) (by omega)) (fun s X Y row hs hg _ => Nat.le_trans hs hg.size)))
    (fun _ _ _ _ _ hs _ _ => hs)
    ⟨hI2, hb2, Nat.le_refl _⟩
    (fun x a' W => ∃ Bx, b + 1 < Bx ∧ Blk W Bx 23 #[.int .i32 32, .int .u8 0, .int .u8 0, .int .u8 0] ∧ a' = { tmps := #[.slice (some ⟨g, 0, none⟩) 3 c, undef, .string ⟨#[]⟩, .pointer (some ⟨b, 0, none⟩), .int .i64 3, .pointer (some ⟨Bx, 0, none⟩), .slice (some ⟨g, 0, none⟩) 3 c, .bool true, .bool false, .slice (some ⟨g, 0, none⟩) 3 c, .func (.func 40) #[] #[.pointer (some ⟨b + 1, 0, none⟩)], .int .i64 3, cv 32 0 0 0, undef, undef, undef, undef, undef, undef, undef, undef, undef, undef, undef, undef, undef, undef, undef, undef, undef, undef], defers := [] })
    (fun x a' _ X Y row hs hg hr => by
      obtain ⟨Bx, h1, h2, h3⟩ := hs
      refine ⟨Bx, h1, h2.grown hg (fun e => ?_), h3⟩
      obtain ⟨o, ho, hc⟩ := (hr Bx e.symm).2
      unfold Blk at h2
      rw [h2] at ho
      cases ho
      cases hc)
    ?assign ?body ?done ?stop
  case assign =>
    rintro l pre x W K ⟨hI1, hB1, hW1⟩ hK
    gi_wp2
    have hgr := grown_none' ((Below.refl W.heap.size W).alloc (Nat.le_refl _) (.cells #[.int .i32 32, .int .u8 0, .int .u8 0, .int .u8 0] 23))
    exact hK _ _ ((KeepsOthers.alloc _ _).from _) ⟨(Below.refl _ W).alloc (by omega) _, fun o ho => (Below.heap_alloc W _ _ (Array.getElem?_eq_some_iff.1 ho).1).trans ho⟩
      ⟨bldI_kept hI1 hgr (fun r e => by cases e), hB1.alloc hB1.size _, Nat.le_trans hW1 hgr.size⟩ ⟨W.heap.size, by omega, Blk.new W _ _, rfl⟩
  case body =>
    rintro l pre x a' W hl ⟨r, hr⟩ ⟨hI1, hB1, hW1⟩ ⟨Bx, hBx, hbx, rfl⟩ hlt
    obtain rfl : pre = [] := List.eq_nil_of_length_eq_zero (by omega)
    have c0 : W.cell? ⟨Bx, 0, none⟩ = some (.int .i32 32) := hbx.cell 0
    have c1 : W.cell? ⟨Bx, 1, none⟩ = some (.int .u8 0) := hbx.cell 1
    have c2 : W.cell? ⟨Bx, 2, none⟩ = some (.int .u8 0) := hbx.cell 2
    have c3 : W.cell? ⟨Bx, 3, none⟩ = some (.int .u8 0) := hbx.cell 3
    have hbI : Blk W b 63 #[.pointer none, .slice none 0 0] := hI1
    gi_wp2
    have hzp : Nums.putL [2, 32, 0, 0, 0] = [4, 64, 0, 0, 0] := by decide +kernel
    have hput := put_any _ 5 5 [2, 32, 0, 0, 0] _ rfl (Ints.new W [2, 32, 0, 0, 0] 3) (fun n hn => by simp at hn; omega) (by omega)
    rw [hzp] at hput
    clear hzp
    refine ⟨trivial, (CallsIn.inRound l (callsIn_wide.2 hput)).mono ?_⟩
    clear hput
    rintro e W1 ⟨rfl, hb1⟩
    have hA1 := (Below.refl W.heap.size W).alloc (Nat.le_refl _) (.cells #[.int .i64 2, .int .i64 32, .int .i64 0, .int .i64 0, .int .i64 0] 3)
    have hA2 := hA1.trans (hb1.mono hA1.size)
    have hbI2 := hbI.below hA2 hbI.lt
    have hcell : W1.heap[b]? = W.heap[b]? := hA2.block b hbI.lt
    clear hb1 hA1 c0 c1 c2 c3
    gi_wp2
    refine ⟨trivial, (CallsIn.inRound l (callsIn_wide.2 (writeString_fresh b ⟨#[4, 64, 0, 0, 0]⟩ W1 hbI2 (by decide)))).mono ?_⟩
    rintro e W2 ⟨rfl, hI2, ho2⟩
    gi_wp2
    have hK1 : KeepsOthers W W1 := KeepsOthers.of_grownBy (grown_none' hA2) (fun j o e _ => by cases e)
    have hK2 : KeepsOthers W1 W2 := KeepsOthers.of_grownBy ho2 (fun j o e ho => by
      cases e
      unfold Blk at hbI2
      rw [hbI2] at ho
      cases ho
      rfl)
    have hB2 : Below w.heap.size w W2 := (hB1.trans (hA2.mono hB1.size)).trans (only_below ho2 (by omega) (by have := hA2.size; have := hB1.size; omega))
    refine ⟨(hK1.trans hK2).from _, ⟨(hA2.mono (by omega)).trans (only_below ho2 (Nat.le_refl _) (Nat.le_of_lt hbI2.lt)), fun o ho => ?_⟩, hI2, hB2, by have := hA2.size; have := ho2.size; omega⟩
    have hl1 := (Array.getElem?_eq_some_iff.1 ho).1
    exact (ho2.block _ (Nat.lt_of_lt_of_le hl1 hA2.size) (fun e => by injection e; omega)).trans ((hA2.block _ hl1).trans ho)
  case done =>
    rintro D ys W hD rfl ⟨hI1, hB1, hW1⟩ hK
    gi_wp2
    refine ⟨trivial, (callsIn_wide.2 (string_keeps b b _ [4, 64, 0, 0, 0] _ hI1 (by decide))).mono ?_⟩
    rintro e W1 ⟨rfl, hk1, hb1⟩
    have hK1 := hk1.same D _ hK rfl
    gi_wp2
    refine ⟨by simp, .inl ⟨_, _, rfl, run_takeDeferred hK1, ?_⟩⟩
    exact ⟨_, results_tmp rfl _ _ _, rfl, (hB1.trans (hb1.mono hww)).trans (belowK_b (w := w) (Nat.le_refl _) W1 D _ _ (by omega) hK1 rfl rfl)⟩
  case stop =>
    rintro D c pre W _ _ h _
    exact h.elim
end Go.Proofs.Ytljjklhkifehaaa
