/- A character's cells are made. -/
import Derived.Test.YtljjklhkifehaaaRightW
import Derived.Test.YtljjklhkifehaaaSrcL
namespace Go.Proofs.Ytljjklhkifehaaa
open Go.RowKit
set_option maxRecDepth 100000 in
theorem right_nil (w : World) : Calls Try.prog 14 #[.slice none 0 0] w fun e w' => e = .returned (.bool true) ∧ w = w' := by
  go_enter Try.func14, Try.ntmps14
  go_wp2_with fail
  go_loopw [3] (fun s3 wr => s3 = .int .i64 0 ∧ w = wr) (fun _ _ => 0)
  case atStart => exact ⟨rfl, rfl⟩
  case round =>
    obtain ⟨rfl, rfl⟩ := hrel
    go_wp2_with fail
    go_ret
    exact ⟨rfl, rfl⟩
theorem news_all (w : World) (cs : Array Value) (t : TypeId) : ∀ j u, cs.toList[j]? = some u → (w.alloc (.cells cs t)).cell? ((⟨w.heap.size, 0, none⟩ : Addr).add j) = some u := fun j u hj => by
  have h := World.cell?_alloc_mark w cs t (0, 0) j
  rw [show ((⟨w.heap.size, 0, none⟩ : Addr).add j) = ⟨w.heap.size, j, none⟩ from by unfold Addr.add; split <;> simp_all]
  rw [h]
  simpa using hj
/-- A character's cells, as Make tells them. -/
def MadeAt (w0 w : World) (f b u r : Int) (v : Value) : Prop := ∃ A c, v = .slice A (wid r) c ∧ Src w A (mkc f b u r) ∧ (A = none ∧ wid r = 0 ∧ c = 0 ∨ ∃ g, A = some ⟨g, 0, none⟩ ∧ w0.heap.size ≤ g ∧ g < w.heap.size ∧ wid r ≠ 0)
abbrev HeldM (m : Nat) (r f b x : Int) (w0 w : World) : Prop :=
  w.cell? ⟨m, 0, none⟩ = some (.int .i32 r) ∧ w.cell? ⟨m, 1, none⟩ = some (.int .u8 f) ∧ w.cell? ⟨m, 2, none⟩ = some (.int .u8 b) ∧ w.cell? ⟨m, 3, none⟩ = some (.int .u8 x) ∧ Below w0.heap.size w0 w ∧ w0.heap.size ≤ w.heap.size
theorem HeldM.keep {m : Nat} {r f b x : Int} {w0 w w' : World} (h : HeldM m r f b x w0 w) (hb : Below w.heap.size w w') : HeldM m r f b x w0 w' := by
  obtain ⟨h0, h1, h2, h3, hB, hS⟩ := h
  exact ⟨keepc hb h0, keepc hb h1, keepc hb h2, keepc hb h3, hB.trans (hb.mono hS), Nat.le_trans hS hb.size⟩
set_option maxRecDepth 100000 in
set_option maxHeartbeats 4000000 in
theorem make_any (r r0 f b a u : Int) (w : World) (hu : Way u) (ha : bits .andNot .u8 a 192 = u) (hr0 : -2147483648 ≤ r) (hr1 : r ≤ 2147483647) :
    Calls Try.prog 12 #[.int .i32 r, cv r0 f b a] w fun e w' => (∃ v, e = .returned v ∧ MadeAt w w' f b u r v) ∧ Below w.heap.size w w' := by
  have hb0 := ((Below.refl w.heap.size w).alloc (Nat.le_refl _) (.cells #[.int .i32 r0, .int .u8 f, .int .u8 b, .int .u8 a] 23)).alloc (by simp) (.cells #[.int .i32 r, .int .u8 f, .int .u8 b, .int .u8 u] 23)
  have hB := Blk.new (w.alloc (.cells #[.int .i32 r0, .int .u8 f, .int .u8 b, .int .u8 a] 23)) 23 #[.int .i32 r, .int .u8 f, .int .u8 b, .int .u8 u]
  go_enter Try.func12, Try.ntmps12
  go_upto_region 2 with fail
  have hz : w.heap.size + 1 < ((w.alloc (.cells #[.int .i32 r0, .int .u8 f, .int .u8 b, .int .u8 a] 23)).alloc (.cells #[.int .i32 r, .int .u8 f, .int .u8 b, .int .u8 u] 23)).heap.size := by simp
  rw [World.size_alloc] at hB
  generalize (w.alloc (.cells #[.int .i32 r0, .int .u8 f, .int .u8 b, .int .u8 a] 23)).alloc (.cells #[.int .i32 r, .int .u8 f, .int .u8 b, .int .u8 u] 23) = w2 at hb0 hB hz ⊢
  go_wp2_with fail
  refine (width_any _ _ hr0 hr1).mono ?_
  rintro e w3 ⟨rfl, hb3⟩
  have hb3' := hb0.trans (hb3.mono hb0.size)
  have hB3 := hB.below hb3 hz
  have hz3 : w.heap.size + 1 < w3.heap.size := Nat.lt_of_lt_of_le hz hb3.size
  clear hB hb0 hz hb3
  rcases wid_cases r with hw | hw | hw
  · have HW := Lib.hid hw
    rw [hw]
    clear hw
    go_wp2_with fail
    go_ret
    exact ⟨⟨_, rfl, none, 0, by rw [HW.out]; rfl, fun h0 => by rw [mkc_0 f b u HW.out] at h0; simp at h0, .inl ⟨rfl, HW.out, rfl⟩⟩, hb3'⟩
  · have HW := Lib.hid hw
    rw [hw]
    clear hw
    have c0 : w3.cell? ⟨w.heap.size + 1, 0, none⟩ = some (.int .i32 r) := hB3.cell 0
    have c1 : w3.cell? ⟨w.heap.size + 1, 1, none⟩ = some (.int .u8 f) := hB3.cell 1
    have c2 : w3.cell? ⟨w.heap.size + 1, 2, none⟩ = some (.int .u8 b) := hB3.cell 2
    have c3 : w3.cell? ⟨w.heap.size + 1, 3, none⟩ = some (.int .u8 u) := hB3.cell 3
    go_wp2_with fail
    go_ret
    refine ⟨⟨_, rfl, some ⟨w3.heap.size, 0, none⟩, 1, by rw [HW.out]; rfl, fun h0 => ⟨_, rfl, ?_⟩, .inr ⟨_, rfl, hb3'.size, by simp, by rw [HW.out]; decide⟩⟩, hb3'.alloc hb3'.size _⟩
    rw [mkc_1 f b u HW.out]
    exact news_all w3 #[.int .i32 r, .int .u8 f, .int .u8 b, .int .u8 u] 23
  · have HW := Lib.hid hw
    rw [hw]
    clear hw
    have c3 : w3.cell? ⟨w.heap.size + 1, 3, none⟩ = some (.int .u8 u) := hB3.cell 3
    have f3 : w3.frozen? ⟨w.heap.size + 1, 3, none⟩ = false := hB3.free 3
    have hu9 := hu.wide
    have hB4 := hB3.set 3 (.int .u8 (u + 64))
    have hb4' := hb3'.setCell (p := ⟨w.heap.size + 1, 3, none⟩) (by simp) (.int .u8 (u + 64))
    clear hB3
    go_upto_region 7 with fail
    generalize w3.setCell ⟨w.heap.size + 1, 3, none⟩ (.int .u8 (u + 64)) = w4 at hB4 hb4' ⊢
    have hS : HeldM (w.heap.size + 1) r f b (u + 64) w w4.drew := ⟨hB4.cell 0, hB4.cell 1, hB4.cell 2, hB4.cell 3, hb4'.drew, hb4'.size⟩
    clear hB4 hb4' hb3' hz3 c3 f3 hu9
    have H3 := Lib.hid hu.tail
    go_region_held3 (fun w' => w'.cell? ⟨w.heap.size + 1, 0, none⟩ = some (.int .i32 r) ∧ w'.cell? ⟨w.heap.size + 1, 1, none⟩ = some (.int .u8 f) ∧ w'.cell? ⟨w.heap.size + 1, 2, none⟩ = some (.int .u8 b) ∧ w'.cell? ⟨w.heap.size + 1, 3, none⟩ = some (.int .u8 (u + 64)) ∧ Below w.heap.size w w' ∧ w.heap.size ≤ w'.heap.size) (first | exact hS | exact hq | exact hq2) (first
      | (go_at_call 24; refine (tailOf_any r f b (u + 64) (u + 128) _ H3.out).mono ?_; rintro e w5 ⟨rfl, hb5⟩; have hq := HeldM.keep (by assumption) hb5; have hq2 := HeldM.keep hq ((Below.refl _ _).alloc (Nat.le_refl _) (.cells #[.int .i32 r, .int .u8 f, .int .u8 b, .int .u8 (u + 64), .int .i32 0, .int .u8 f, .int .u8 b, .int .u8 (u + 128)] 23))))
    go_wp2_with fail
    go_ret
    refine ⟨⟨_, rfl, some ⟨w5.heap.size, 0, none⟩, 2, by rw [HW.out]; rfl, fun h0 => ⟨_, rfl, ?_⟩, .inr ⟨_, rfl, hq.2.2.2.2.2, by simp, by rw [HW.out]; decide⟩⟩, hq2.2.2.2.2.1⟩
    rw [mkc_2 f b u HW.out]
    exact news_all w5 #[.int .i32 r, .int .u8 f, .int .u8 b, .int .u8 (u + 64), .int .i32 0, .int .u8 f, .int .u8 b, .int .u8 (u + 128)] 23
end Go.Proofs.Ytljjklhkifehaaa
