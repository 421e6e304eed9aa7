/- Resize: walked. -/
import Derived.Test.YtmdgjmmkegkonaaDoorOpW
namespace Go.Proofs.YtmdgjmmkegkonaaDoor
open Go.RowKit
/-- What Resize says and does. -/
def ResizeOk (w w' : World) (b : Nat) (t : Tr) (nw x y : Int) (e : Ending) : Prop :=
  (∃ c : Int, c ≠ 0 ∧ c ≠ 12 ∧ e = .returned (.iface 37 (.int .i64 c)) ∧ Below w.heap.size w w') ∨
  (1 ≤ x ∧ x ≤ 200 ∧ 1 ≤ y ∧ y ≤ 60 ∧ e = .returned .nilIface ∧ Lay w' b t ⟨0, 0, x, y⟩ nw ∧ But [b] w w')
set_option maxRecDepth 100000 in
set_option maxHeartbeats 2000000 in
theorem resize_any (b : Nat) (t : Tr) (r : Rc) (nw x y : Int) (w : World) (h : Lay w b t r nw) :
    Calls Tryd.prog 17 #[.pointer (some ⟨b, 0, none⟩), .int .i64 x, .int .i64 y] w fun e w' => ResizeOk w w' b t nw x y e := by
  have hnone := none_any b t r nw w h.mem
  have hmay := mayBe_any x y w
  go_enter Tryd.func17, Tryd.ntmps17
  go_upto_region 3 with (go_at_call 21; refine hnone.mono ?_; rintro e w2 ⟨rfl, rfl⟩)
  by_cases hok : 1 ≤ x ∧ x ≤ 200 ∧ 1 ≤ y ∧ y ≤ 60
  · rw [decide_eq_true hok] at hmay
    have hrc : RcOk ⟨0, 0, x, y⟩ := ⟨by simp, by simp; omega, by simp, by simp; omega, by simp; omega, by simp; omega⟩
    go_upto_region 6 with (go_at_call 20; refine hmay.mono ?_; rintro e w2 ⟨rfl, rfl⟩)
    have hbx := (Below.refl w.heap.size w).alloc (Nat.le_refl _) (.cells #[.int .i64 0, .int .i64 0, .int .i64 x, .int .i64 y] 41)
    have hR := Blk.new w 41 #[.int .i64 0, .int .i64 0, .int .i64 x, .int .i64 y]
    have hLx := h.later hbx
    generalize w.alloc (.cells #[.int .i64 0, .int .i64 0, .int .i64 x, .int .i64 y] 41) = w1 at hbx hR hLx ⊢
    have c0 : w1.drew.cell? ⟨b, 0, none⟩ = some (.pointer (some ⟨t.g, 0, none⟩)) := hLx.mem.blk.cell 0
    have r0 : w1.drew.cell? ⟨w.heap.size, 0, none⟩ = some (.int .i64 0) := hR.cell 0
    have r1 : w1.drew.cell? ⟨w.heap.size, 1, none⟩ = some (.int .i64 0) := hR.cell 1
    have r2 : w1.drew.cell? ⟨w.heap.size, 2, none⟩ = some (.int .i64 x) := hR.cell 2
    have r3 : w1.drew.cell? ⟨w.heap.size, 3, none⟩ = some (.int .i64 y) := hR.cell 3
    have hfit := fits_any t ⟨0, 0, x, y⟩ w1.drew (TrAt.keep t hLx.mem.tree (fun _ _ => rfl)) hrc h.nums
    generalize hv : fitsP t ⟨0, 0, x, y⟩ = v at hfit
    have Hv := Lib.hid hv
    clear hv
    have hws := hbx.size
    go_region_with (first | (go_simp; go_at_call 31; refine hfit.mono ?_; rintro e w4 ⟨rfl, hb4⟩))
    all_goals
      have hb1 := (Below.refl w1.heap.size w1).drew.trans hb4
      have hb2 := hbx.trans (hb1.mono hws)
      have hL4 := hLx.later hb1
      have hR4 := hR.below hb1 hR.lt
      cases v
      · go_wp2_with (go_at_call 22; refine (faultNew_any 19 _ (by decide)).mono ?_; rintro e w5 ⟨rfl, rfl⟩)
        go_ret
        exact .inl ⟨19, by decide, by decide, rfl, hb2⟩
      · have s0 := hR4.cell 0
        have s1 := hR4.cell 1
        have s2 := hR4.cell 2
        have s3 := hR4.cell 3
        have d1 := hL4.mem.blk.cell 1
        have d2 := hL4.mem.blk.cell 2
        have d3 := hL4.mem.blk.cell 3
        have d4 := hL4.mem.blk.cell 4
        have f1 := hL4.mem.blk.free 1
        have f2 := hL4.mem.blk.free 2
        have f3 := hL4.mem.blk.free 3
        have f4 := hL4.mem.blk.free 4
        go_wp2_with fail
        go_ret
        have hset : ∀ k, k ≠ b → ((((w4.setCell ⟨b, 1, none⟩ (.int .i64 0)).setCell ⟨b, 2, none⟩ (.int .i64 0)).setCell ⟨b, 3, none⟩ (.int .i64 x)).setCell ⟨b, 4, none⟩ (.int .i64 y)).heap[k]? = w4.heap[k]? := fun k hk => by
          iterate 4 refine (Below.heap_setCell _ ⟨b, _, none⟩ _ k hk).trans ?_
          rfl
        refine .inr ⟨hok.1, hok.2.1, hok.2.2.1, hok.2.2.2, rfl, ⟨⟨?_, TrAt.keep t hL4.mem.tree (fun k hk => hset k ?_)⟩, h.nd, h.idnd, h.idle, hrc, h.nums, Hv.out, h.few, h.pos⟩, ?_⟩
        · exact (((hL4.mem.blk.set 1 (.int .i64 0)).set 2 (.int .i64 0)).set 3 (.int .i64 x)).set 4 (.int .i64 y)
        · obtain ⟨cs, hcs⟩ := TrAt.blk t hL4.mem.tree k hk
          exact (Blk.type hL4.mem.blk hcs (by decide)).symm
        · exact ((((But.of_below hb2).set (p := ⟨b, 1, none⟩) (.inl (by simp)) _).set (p := ⟨b, 2, none⟩) (.inl (by simp)) _).set (p := ⟨b, 3, none⟩) (.inl (by simp)) _).set (p := ⟨b, 4, none⟩) (.inl (by simp)) _
  · rw [decide_eq_false hok] at hmay
    go_wp2_with (first
      | (go_at_call 20; refine hmay.mono ?_; rintro e w2 ⟨rfl, rfl⟩)
      | (go_at_call 22; refine (faultNew_any 1 _ (by decide)).mono ?_; rintro e w5 ⟨rfl, rfl⟩))
    go_ret
    exact .inl ⟨1, by decide, by decide, rfl, Below.refl _ _⟩
end Go.Proofs.YtmdgjmmkegkonaaDoor
