/- The chapter's example; a size out of two numbers; steps as they came in: walked. -/
import Derived.Test.YtmdgjmmkegkonaaDoorNextW
namespace Go.Proofs.YtmdgjmmkegkonaaDoor
open Go.RowKit
theorem and_low (x M : Int) (m : Nat) (hM : M = (m : Nat)) (hm : m < 9223372036854775808) : ∃ k : Nat, k ≤ m ∧ bits .and .i64 x M = (k : Nat) := by
  subst hM
  have hle : (BitVec.ofInt 64 x &&& BitVec.ofInt 64 (m : Nat)).toNat ≤ m := by
    rw [BitVec.toNat_and]
    have h : (BitVec.ofInt 64 (m : Nat)).toNat = m := by
      rw [BitVec.toNat_ofInt]
      omega
    rw [h]
    exact Nat.and_le_right
  refine ⟨(BitVec.ofInt 64 x &&& BitVec.ofInt 64 (m : Nat)).toNat, hle, ?_⟩
  show IntKind.i64.wrap ((BitVec.ofInt 64 x &&& BitVec.ofInt 64 (m : Nat)).toNat : Int) = _
  rw [IntKind.wrap_i64]
  omega
set_option maxRecDepth 100000 in
set_option maxHeartbeats 1000000 in
theorem size_any (x y : Int) (w : World) : Calls Tryd.prog 8 #[.agg #[.int .i64 x, .int .i64 y]] w fun e w' => (∃ p q : Nat, e = .returned (.tuple #[.int .i64 p, .int .i64 q]) ∧ 1 ≤ p ∧ p ≤ 64 ∧ 1 ≤ q ∧ q ≤ 32) ∧ Below w.heap.size w w' := by
  obtain ⟨p, hp, hpe⟩ := and_low x 63 63 rfl (by omega)
  obtain ⟨q, hq, hqe⟩ := and_low y 31 31 rfl (by omega)
  have hB := (Blk.new w 22 #[.int .i64 x, .int .i64 y]).drew
  have c0 := hB.cell 0
  have c1 := hB.cell 1
  have hb := ((Below.refl w.heap.size w).alloc (Nat.le_refl _) (.cells #[.int .i64 x, .int .i64 y] 22)).drew
  go_enter Tryd.func8, Tryd.ntmps8
  go_upto_region 1 with fail
  go_region
  all_goals
    go_wp2_with fail
    refine bodyPost_ret (v := .tuple #[.int .i64 (1 + (p : Int)), .int .i64 (1 + (q : Int))]) (by simp [results, Tryd.results8, go_sem]) rfl ?_
    exact ⟨⟨1 + p, 1 + q, by simp, by omega, by omega, by omega, by omega⟩, hb⟩
/-- The layout's blocks lie at or beyond B₀. -/
structure Lo (B0 b : Nat) (t : Tr) : Prop where
  top : B0 ≤ b
  bl : ∀ k ∈ t.bl, B0 ≤ k
theorem Lo.split {B0 b g g1 g2 : Nat} {cx : Cx} {id made n : Int} {a : Bool} (h : Lo B0 b (cx.plug (.pane g id))) (h1 : B0 ≤ g1) (h2 : g1 < g2) : Lo B0 b (splitT cx g a n g1 g2 id made) := by
  refine ⟨h.top, fun k hk => ?_⟩
  rcases plug_mem.1 hk with hk | hk
  · exact h.bl k (plug_mem.2 (.inl hk))
  · simp [Tr.bl] at hk
    rcases hk with rfl | rfl | rfl
    · exact h.bl _ (plug_mem.2 (.inr (by simp [Tr.bl])))
    · exact h1
    · omega
theorem Lo.close {B0 b gu gp : Nat} {cx : Cx} {left : Bool} {a : Bool} {p q id : Int} {o : Tr} (h : Lo B0 b (cx.plug (sib left gu a p q gp id o))) : Lo B0 b (cx.plug (o.to gu)) := by
  refine ⟨h.top, fun k hk => ?_⟩
  have hs : ∀ j, j = gu ∨ j ∈ o.bl → B0 ≤ j := fun j hj => h.bl j (plug_mem.2 (.inr ((sib_bl left gu a p q gp id o).mem_iff.2 (by rcases hj with hj | hj <;> simp [hj]))))
  rcases plug_mem.1 hk with hk | hk
  · exact h.bl k (plug_mem.2 (.inl hk))
  · obtain ⟨l, h1, h2⟩ := to_bl (g := gu) o
    rw [h2] at hk
    rcases List.mem_cons.1 hk with hk | hk
    · exact hs k (.inl hk)
    · exact hs k (.inr (by rw [h1]; simp [hk]))
theorem Lo.g_split {B0 b g : Nat} {cx : Cx} {id : Int} (h : Lo B0 b (cx.plug (.pane g id))) : B0 ≤ g := h.bl g (plug_mem.2 (.inr (by simp [Tr.bl])))
theorem Lo.g_close {B0 b gu gp : Nat} {cx : Cx} {left : Bool} {a : Bool} {p q id : Int} {o : Tr} (h : Lo B0 b (cx.plug (sib left gu a p q gp id o))) : B0 ≤ gu := h.bl gu (plug_mem.2 (.inr ((sib_bl left gu a p q gp id o).mem_iff.2 (by simp))))
theorem here_of {cx : Cx} {g g' : Nat} {i j : Int} (h : Tr.pane g i = cx.plug (.pane g' j)) : cx = .here ∧ g = g' ∧ i = j := by
  cases cx <;> simp [Cx.plug] at h
  exact ⟨rfl, h⟩
set_option maxRecDepth 100000 in
set_option maxHeartbeats 2000000 in
theorem awake_any (w : World) : Calls Tryd.prog 7 #[] w fun e w' => e = .returned (.bool true) ∧ Below w.heap.size w w' := by
  have hrc : RcOk ⟨0, 0, 9, 3⟩ := ⟨by decide, by decide, by decide, by decide, by decide, by decide⟩
  have hnew := new_any 9 3 w ⟨by decide, by decide, by decide, by decide⟩
  go_enter Tryd.func7, Tryd.ntmps7
  go_upto_region 2 with (go_at_call 9; refine hnew.mono ?_; rintro e w1 ⟨rfl, hL1, hb1⟩)
  have hLay : Lay w1 (w.heap.size + 1) (.pane w.heap.size 1) ⟨0, 0, 9, 3⟩ 1 := ⟨hL1, by simp [Tr.bl], by simp [Tr.ids], by simp [Tr.ids], hrc, by simp [Nums], rfl, by simp [Tr.ids], by omega⟩
  have hsp := split_any (w.heap.size + 1) (.pane w.heap.size 1) ⟨0, 0, 9, 3⟩ 1 1 true w1 hLay (by omega)
  have hsp2 : Calls Tryd.prog 10 #[.pointer (some ⟨w.heap.size + 1, 0, none⟩), .int .i64 1, .bool true] w1 fun e w2 => e = .returned (.tuple #[.int .i64 2, .nilIface]) ∧ Below w.heap.size w w2 ∧ ∃ t, Lay w2 (w.heap.size + 1) t ⟨0, 0, 9, 3⟩ 2 ∧ panesP t ⟨0, 0, 9, 3⟩ = [(1, ⟨0, 0, 4, 3⟩), (2, ⟨5, 0, 4, 3⟩)] := by
    refine hsp.mono ?_
    rintro e w2 (⟨c, _, _, h3, _, _⟩ | ⟨cx, g, g1, g2, h1, _, h3, h4, h5, h6, h7⟩)
    · obtain ⟨cx, g, h4, h5⟩ := h3 (by simp [Tr.ids])
      obtain ⟨rfl, _, _⟩ := here_of h4
      rcases h5 with h5 | h5
      · simp [Tr.ids] at h5
      · simp [Cx.rect, lenR] at h5
    · obtain ⟨rfl, rfl, _⟩ := here_of h1
      refine ⟨h3, hb1.trans (h5.below hb1.size (fun k hk => by simp at hk; omega)), _, h4, ?_⟩
      rfl
  have Hsp := Lib.hid hsp2
  clear hsp hsp2 hLay hL1 hb1
  go_upto_region 3 with (go_at_call 10; refine Hsp.out.mono ?_; rintro e w2 ⟨rfl, hb2, t, hL2, hp⟩)
  have hpan := panes_any (w.heap.size + 1) t ⟨0, 0, 9, 3⟩ 2 w2 hL2.mem hL2.rc hL2.nums hL2.fits hL2.nl
  rw [hp] at hpan
  clear hp hL2
  go_upto_region 4 with (go_at_call 11; refine hpan.mono ?_; rintro e w3 ⟨⟨v, rfl, hO⟩, hb3⟩; obtain ⟨g, c, rfl, _, hP⟩ := Pn.of_own hO (by simp))
  have hb13 := hb2.trans (hb3.mono hb2.size)
  obtain ⟨_, hcap, hbig, _, hat⟩ := hP
  simp only [List.length_cons, List.length_nil, Nat.reduceAdd] at hcap ⊢
  have hcode := code_nil w3
  have r0 : w3.cell? ⟨g, 3, none⟩ = some (.int .i64 4) := hat 0 _ rfl 3 _ rfl
  have r1 : w3.cell? ⟨g, 4, none⟩ = some (.int .i64 3) := hat 0 _ rfl 4 _ rfl
  have r2 : w3.cell? ⟨g, 6, none⟩ = some (.int .i64 5) := hat 1 _ rfl 1 _ rfl
  have r3 : w3.cell? ⟨g, 8, none⟩ = some (.int .i64 4) := hat 1 _ rfl 3 _ rfl
  clear hat hO
  go_wp2_with (go_at_call 12; refine hcode.mono ?_; rintro e w4 ⟨rfl, hb4⟩; have s0 := keepc hb4 r0; have s1 := keepc hb4 r1; have s2 := keepc hb4 r2; have s3 := keepc hb4 r3)
  go_ret
  exact ⟨rfl, hb13.trans (hb4.mono hb13.size)⟩
end Go.Proofs.YtmdgjmmkegkonaaDoor
