/- New; what Split does to a pane's tree: walked. -/
import Derived.Test.YtmdgjmmkegkonaaDoorLayQ
namespace Go.Proofs.YtmdgjmmkegkonaaDoor
open Go.RowKit
/-- But for the blocks S all lies as it lay. -/
structure But (S : List Nat) (w w' : World) : Prop where
  os : w'.os = w.os
  tape : w'.tape = w.tape
  output : w'.output = w.output
  size : w.heap.size ≤ w'.heap.size
  block : ∀ k, k < w.heap.size → k ∉ S → w'.heap[k]? = w.heap[k]?
theorem But.of_below {S : List Nat} {w w' : World} (h : Below w.heap.size w w') : But S w w' := ⟨h.os, h.tape, h.output, h.size, fun k hk _ => h.block k hk⟩
theorem But.trans {S : List Nat} {x y z : World} (h : But S x y) (k : But S y z) : But S x z :=
  ⟨k.os.trans h.os, k.tape.trans h.tape, k.output.trans h.output, Nat.le_trans h.size k.size, fun i hi hn => (k.block i (Nat.lt_of_lt_of_le hi h.size) hn).trans (h.block i hi hn)⟩
theorem But.mono {S S' : List Nat} {w w' : World} (h : But S w w') (hs : ∀ k ∈ S, k < w.heap.size → k ∈ S') : But S' w w' := ⟨h.os, h.tape, h.output, h.size, fun k hk hn => h.block k hk (fun hm => hn (hs k hm hk))⟩
theorem But.below {S : List Nat} {w w' : World} {B : Nat} (h : But S w w') (hB : B ≤ w.heap.size) (hs : ∀ k ∈ S, B ≤ k) : Below B w w' := ⟨h.os, h.tape, h.output, h.size, fun k hk => h.block k (by omega) (fun hm => by have := hs k hm; omega)⟩
theorem But.nil {w w' : World} (h : But [] w w') : Below w.heap.size w w' := ⟨h.os, h.tape, h.output, h.size, fun k hk => h.block k hk (by simp)⟩
theorem But.trans_below {S : List Nat} {x y z : World} (h : But S x y) (k : Below y.heap.size y z) : But S x z := h.trans (But.of_below k)
theorem But.set {S : List Nat} {w w' : World} (h : But S w w') {p : Addr} (hp : p.block ∈ S ∨ w.heap.size ≤ p.block) (v : Value) : But S w (w'.setCell p v) :=
  ⟨h.os, h.tape, h.output, by simpa [World.setCell] using h.size, fun k hk hn => (Below.heap_setCell w' p v k (fun e => by rcases hp with hp | hp; exact hn (e ▸ hp); omega)).trans (h.block k hk hn)⟩
theorem Blk.but {w w' : World} {S : List Nat} {g : Nat} {t : TypeId} {cs : Array Value} (h : Blk w g t cs) (hb : But S w w') (hg : g ∉ S) : Blk w' g t cs := (hb.block g h.lt hg).trans h
theorem Blk.type {w : World} {g g' : Nat} {t t' : TypeId} {cs cs' : Array Value} (h : Blk w g t cs) (h' : Blk w g' t' cs') (hne : t ≠ t') : g ≠ g' := fun e => by
  subst e
  unfold Blk at h h'
  rw [h] at h'
  injection h' with h'
  injection h' with _ h'
  exact hne h'
theorem TrAt.blk {w : World} : ∀ (t : Tr), TrAt w t → ∀ k ∈ t.bl, ∃ cs, Blk w k 59 cs
  | .pane g i, h, k, hk => by
    obtain rfl : k = g := by simpa [Tr.bl] using hk
    exact ⟨_, h⟩
  | .split g a p q l r, h, k, hk => by
    simp only [Tr.bl, List.mem_cons, List.mem_append] at hk
    rcases hk with rfl | hk | hk
    · exact ⟨_, h.1⟩
    · exact TrAt.blk l h.2.1 k hk
    · exact TrAt.blk r h.2.2 k hk
set_option maxRecDepth 100000 in
theorem new_any (x y : Int) (w : World) (h : 1 ≤ x ∧ x ≤ 200 ∧ 1 ≤ y ∧ y ≤ 60) : Calls Tryd.prog 9 #[.int .i64 x, .int .i64 y] w fun e w' => e = .returned (.pointer (some ⟨w.heap.size + 1, 0, none⟩)) ∧ LAt w' (w.heap.size + 1) (.pane w.heap.size 1) ⟨0, 0, x, y⟩ 1 ∧ Below w.heap.size w w' := by
  have hm := mayBe_any x y w
  rw [decide_eq_true h] at hm
  go_enter Tryd.func9, Tryd.ntmps9
  go_wp2_with (go_at_call 20; refine hm.mono ?_; rintro e w1 ⟨rfl, rfl⟩)
  go_ret
  have h1 := Blk.new (w.alloc (.cells (paneC 1) 59)) 61 (layC w.heap.size ⟨0, 0, x, y⟩ 1)
  rw [World.size_alloc] at h1
  exact ⟨rfl, ⟨h1, (Blk.new w 59 (paneC 1)).alloc _⟩, ((Below.refl _ _).alloc (Nat.le_refl _) _).alloc (by simp) _⟩
theorem set6 {w : World} {b : Nat} {t : TypeId} {c0 c1 c2 c3 c4 c5 v0 v1 v2 v3 v4 v5 : Value} (h : Blk w b t #[c0, c1, c2, c3, c4, c5]) :
    Blk ((((((w.setCell ⟨b, 0, none⟩ v0).setCell ⟨b, 1, none⟩ v1).setCell ⟨b, 2, none⟩ v2).setCell ⟨b, 3, none⟩ v3).setCell ⟨b, 4, none⟩ v4).setCell ⟨b, 5, none⟩ v5) b t #[v0, v1, v2, v3, v4, v5] := (((((h.set 0 v0).set 1 v1).set 2 v2).set 3 v3).set 4 v4).set 5 v5
set_option maxRecDepth 100000 in
set_option maxHeartbeats 2000000 in
theorem split1_any (bA bP bL bM bI b g : Nat) (rc : Rc) (a : Bool) (A : Option Addr) (n c : Nat) (nw id i0 : Int) (w : World)
    (hA : w.cell? ⟨bA, 0, none⟩ = some (.bool a)) (hP : w.cell? ⟨bP, 0, none⟩ = some (.slice A n c)) (hL : w.cell? ⟨bL, 0, none⟩ = some (.pointer (some ⟨b, 0, none⟩))) (hM : Blk w bM 3 #[.int .i64 0]) (hI : w.cell? ⟨bI, 0, none⟩ = some (.int .i64 id))
    (hb : w.cell? ⟨b, 5, none⟩ = some (.int .i64 nw)) (hg : Blk w g 59 (paneC i0)) (hr : RcOk rc) (hnw : 0 ≤ nw ∧ nw ≤ 1000) (hA' : bA ≠ bM) (hI' : bI ≠ bM) (hbg : b ≠ g) (hAg : bA ≠ g) (hIg : bI ≠ g) (hng : n ≤ 1000) :
    Calls Tryd.prog 24 #[ptr g, rc.a, .pointer (some ⟨bA, 0, none⟩), .pointer (some ⟨bP, 0, none⟩), .pointer (some ⟨bL, 0, none⟩), .pointer (some ⟨bM, 0, none⟩), .pointer (some ⟨bI, 0, none⟩)] w fun e w' => (∃ v, e = .returned v) ∧
      (((lenR rc a < 3 ∨ 16 ≤ n) ∧ Below w.heap.size w w') ∨
       (3 ≤ lenR rc a ∧ n < 16 ∧ But [g, bM] w w' ∧ Blk w' bM 3 #[.int .i64 (nw + 1)] ∧ ∃ g1 g2, w.heap.size ≤ g1 ∧ g1 < g2 ∧ TrAt w' (.split g a (lenR rc a / 2) (lenR rc a - 1) (.pane g1 id) (.pane g2 (nw + 1))))) := by
  have hlb := lenR_bd hr a
  have hmg : bM ≠ g := fun e => by
    subst e
    exact (Blk.type hM hg (by decide)) rfl
  have hb1 := (Below.refl w.heap.size w).alloc (Nat.le_refl _) (.cells rc.v 41)
  have hR := Blk.new w 41 rc.v
  have k0 := hR.cell 0
  have k1 := hR.cell 1
  have k2 := hR.cell 2
  have k3 := hR.cell 3
  have hA1 := keepc hb1 hA
  have hlen := length_any rc a (w.alloc (.cells rc.v 41))
  show Calls Tryd.prog 24 #[.pointer (some ⟨g, 0, none⟩), rc.a, .pointer (some ⟨bA, 0, none⟩), .pointer (some ⟨bP, 0, none⟩), .pointer (some ⟨bL, 0, none⟩), .pointer (some ⟨bM, 0, none⟩), .pointer (some ⟨bI, 0, none⟩)] w _
  go_enter Tryd.func24, Tryd.ntmps24
  go_wp2_with fail
  refine hlen.mono ?_
  rintro e w2 ⟨rfl, hb2⟩
  have hb2' := hb1.trans (hb2.mono hb1.size)
  clear hlen k0 k1 k2 k3 hR hA1 hb1 hb2
  have hP2 := keepc hb2' hP
  have hA2 := keepc hb2' hA
  have hL2 := keepc hb2' hL
  have hI2 := keepc hb2' hI
  have hbb2 := keepc hb2' hb
  have hM2 := hM.below hb2' hM.lt
  have hg2 := hg.below hb2' hg.lt
  clear hA hP hL hI hb
  by_cases hn : lenR rc a < 3
  · have hd : decide (lenR rc a < 3) = true := decide_eq_true hn
    go_wp2_with fail
    refine bodyPost_ret (results_none rfl _ _ _) rfl ?_
    exact ⟨⟨_, rfl⟩, .inl ⟨.inl hn, hb2'⟩⟩
  · have hd : decide (lenR rc a < 3) = false := decide_eq_false hn
    by_cases hn16 : 16 ≤ n
    · have hd2 : decide ((16 : Int) ≤ (n : Int)) = true := decide_eq_true (by omega)
      go_wp2_with fail
      refine bodyPost_ret (results_none rfl _ _ _) rfl ?_
      exact ⟨⟨_, rfl⟩, .inl ⟨.inr hn16, hb2'⟩⟩
    · have hd2 : decide ((16 : Int) ≤ (n : Int)) = false := decide_eq_false (by omega)
      have hfM : w2.frozen? ⟨bM, 0, none⟩ = false := hM2.free 0
      have hcM : w2.cell? ⟨bM, 0, none⟩ = some (.int .i64 0) := hM2.cell 0
      have hM3 := hM2.set 0 (.int .i64 (nw + 1))
      have hq : (lenR rc a).tdiv 2 = lenR rc a / 2 := Int.tdiv_eq_ediv_of_nonneg (by omega)
      have hq0 : ¬ lenR rc a / 2 < 0 := by omega
      go_upto_region 4 with fail
      have hA3 : (w2.setCell ⟨bM, 0, none⟩ (.int .i64 (nw + 1))).cell? ⟨bA, 0, none⟩ = some (.bool a) := (World.cell?_of_block (Below.heap_setCell w2 ⟨bM, 0, none⟩ _ bA hA')).trans hA2
      have hI3 : (w2.setCell ⟨bM, 0, none⟩ (.int .i64 (nw + 1))).cell? ⟨bI, 0, none⟩ = some (.int .i64 id) := (World.cell?_of_block (Below.heap_setCell w2 ⟨bM, 0, none⟩ _ bI hI')).trans hI2
      have hM3 : Blk (w2.setCell ⟨bM, 0, none⟩ (.int .i64 (nw + 1))) bM 3 #[.int .i64 (nw + 1)] := hM2.set 0 (.int .i64 (nw + 1))
      have hg3 := hg2.far (p := ⟨bM, 0, none⟩) (Ne.symm hmg) (.int .i64 (nw + 1))
      have hbt : But [g, bM] w (w2.setCell ⟨bM, 0, none⟩ (.int .i64 (nw + 1))) := (But.of_below hb2').set (.inl (by simp)) _
      generalize w2.setCell ⟨bM, 0, none⟩ (.int .i64 (nw + 1)) = w3 at hA3 hI3 hM3 hg3 hbt ⊢
      clear hA2 hI2 hP2 hL2 hbb2 hM2 hg2 hfM hcM hb2'
      have hM3' := keepc (((Below.refl w3.heap.size w3)).alloc (Nat.le_refl _) (.cells (paneC id) 59)) (hM3.cell 0)
      have hg5 := (hg3.alloc (.cells (paneC id) 59)).alloc (.cells (paneC (nw + 1)) 59)
      have e0 := hg5.cell 0
      have e1 := hg5.cell 1
      have e2 := hg5.cell 2
      have e3 := hg5.cell 3
      have e4 := hg5.cell 4
      have e5 := hg5.cell 5
      have f0 := hg5.free 0
      have f1 := hg5.free 1
      have f2 := hg5.free 2
      have f3 := hg5.free 3
      have f4 := hg5.free 4
      have f5 := hg5.free 5
      go_wp2_with fail
      go_end0
      have hbt5 := (hbt.trans_below ((Below.refl w3.heap.size w3).alloc (Nat.le_refl _) (.cells (paneC id) 59))).trans_below ((Below.refl (w3.alloc (.cells (paneC id) 59)).heap.size (w3.alloc (.cells (paneC id) 59))).alloc (Nat.le_refl _) (.cells (paneC (nw + 1)) 59))
      have hM5 := (hM3.alloc (.cells (paneC id) 59)).alloc (.cells (paneC (nw + 1)) 59)
      have hn1 := (Blk.new w3 59 (paneC id)).alloc (.cells (paneC (nw + 1)) 59)
      have hn2 := Blk.new (w3.alloc (.cells (paneC id) 59)) 59 (paneC (nw + 1))
      rw [World.size_alloc] at hn2
      have hwg : g < w3.heap.size := hg3.lt
      have hws := hbt.size
      have hin : g ∈ [g, bM] := by simp
      refine ⟨⟨_, rfl⟩, .inr ⟨by omega, by omega, ?_, ?_, w3.heap.size, w3.heap.size + 1, hws, by omega, ?_⟩⟩
      · exact (((((hbt5.set (p := ⟨g, 0, none⟩) (.inl hin) _).set (p := ⟨g, 1, none⟩) (.inl hin) _).set (p := ⟨g, 2, none⟩) (.inl hin) _).set (p := ⟨g, 3, none⟩) (.inl hin) _).set (p := ⟨g, 4, none⟩) (.inl hin) _).set (p := ⟨g, 5, none⟩) (.inl hin) _
      · exact (((((hM5.far (p := ⟨g, 0, none⟩) hmg _).far (p := ⟨g, 1, none⟩) hmg _).far (p := ⟨g, 2, none⟩) hmg _).far (p := ⟨g, 3, none⟩) hmg _).far (p := ⟨g, 4, none⟩) hmg _).far (p := ⟨g, 5, none⟩) hmg _
      · refine ⟨set6 hg5, ?_, ?_⟩
        · have h1 : w3.heap.size ≠ g := by omega
          exact (((((hn1.far (p := ⟨g, 0, none⟩) h1 _).far (p := ⟨g, 1, none⟩) h1 _).far (p := ⟨g, 2, none⟩) h1 _).far (p := ⟨g, 3, none⟩) h1 _).far (p := ⟨g, 4, none⟩) h1 _).far (p := ⟨g, 5, none⟩) h1 _
        · have h1 : w3.heap.size + 1 ≠ g := by omega
          exact (((((hn2.far (p := ⟨g, 0, none⟩) h1 _).far (p := ⟨g, 1, none⟩) h1 _).far (p := ⟨g, 2, none⟩) h1 _).far (p := ⟨g, 3, none⟩) h1 _).far (p := ⟨g, 4, none⟩) h1 _).far (p := ⟨g, 5, none⟩) h1 _
end Go.Proofs.YtmdgjmmkegkonaaDoor
