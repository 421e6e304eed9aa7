/- each, all: the walk over a tree's nodes (an iterator), by induction. -/
import Derived.RangeFuncNested
import Derived.RangeFuncBound
import Derived.RangeFuncCalls
import Derived.RangeFuncLeaves
import Derived.Shelf.Abstract
import Derived.Shelf.RegionOpen
import Derived.WalkKit
import Derived.OwnWalkIn
import Derived.TacticsInMore
import Derived.LoopNIn
import Derived.LoopIn
import Derived.Sort.CutIn
import Derived.Test.YtmdgjmmkegkonaaDoorFitsW
namespace Go.Proofs.YtmdgjmmkegkonaaDoor
open Go.RowKit Go.Shelf
attribute [local go_sem] Oper.semAt_some
abbrev Nd := Tr × Rc
/-- The nodes, in order. -/
def nds : Tr → Rc → List Nd
  | .pane g i, r => [(.pane g i, r)]
  | .split g a p q l r, rc => nds l (cut1 a (shr (lenR rc a) p q) rc) ++ (.split g a p q l r, rc) :: nds r (cut2 a (shr (lenR rc a) p q) rc)
/-- B's slice lies in block g. -/
def Pts (W : World) (B g : Nat) : Prop := ∃ n c, W.cell? ⟨B, 0, none⟩ = some (.slice (some ⟨g, 0, none⟩) n c)
def POk (W : World) (B : Nat) : Prop := ∀ g, Pts W B g → g < W.heap.size
/-- What a round keeps: what lies below n₀, and every block of cells but B and the one that B's slice lies in. -/
structure KpB (n₀ B : Nat) (W W' : World) : Prop where
  below : Below n₀ W W'
  same : POk W B → ∀ k cs t f, W.heap[k]? = some (.cells cs t f) → k ≠ B → ¬ Pts W B k → W'.heap[k]? = some (.cells cs t f)
  pts : POk W B → ∀ g, Pts W' B g → Pts W B g ∨ W.heap.size ≤ g
  ok : POk W B → POk W' B
theorem KpB.trans {n₀ B : Nat} {X Y Z : World} (h : KpB n₀ B X Y) (k : KpB n₀ B Y Z) : KpB n₀ B X Z :=
  ⟨h.below.trans k.below, fun hX b cs t f hb hB hp => k.same (h.ok hX) b cs t f (h.same hX b cs t f hb hB hp) hB (fun hy => by
    rcases h.pts hX b hy with h1 | h1
    · exact hp h1
    · have := (Array.getElem?_eq_some_iff.1 hb).1; omega),
  fun hX g hg => by
    rcases k.pts (h.ok hX) g hg with h1 | h1
    · exact h.pts hX g h1
    · exact .inr (Nat.le_trans h.below.size h1),
  fun hX => k.ok (h.ok hX)⟩
theorem pts_same {B g : Nat} {X Y : World} (h : Y.cell? ⟨B, 0, none⟩ = X.cell? ⟨B, 0, none⟩) (hg : Pts Y B g) : Pts X B g := by
  obtain ⟨n, c, hc⟩ := hg
  exact ⟨n, c, by rw [← h]; exact hc⟩
theorem KpB.of_below {n₀ B : Nat} {X Y : World} (hb : Below X.heap.size X Y) (hn : n₀ ≤ X.heap.size) (hB : B < X.heap.size) : KpB n₀ B X Y := by
  have hs := hb.cell (p := ⟨B, 0, none⟩) hB
  exact ⟨hb.mono hn, fun _ k cs t f hk _ _ => (hb.block k (Array.getElem?_eq_some_iff.1 hk).1).trans hk, fun _ g hg => .inl (pts_same hs hg), fun hX g hg => Nat.lt_of_lt_of_le (hX g (pts_same hs hg)) hb.size⟩
theorem KpB.putObj {n₀ B : Nat} {w : World} (h0 : n₀ ≤ w.heap.size) (h1 : B < w.heap.size) : ∀ (W : World) (l : Nat) (o o' : Obj), w.heap.size ≤ l → W.heap[l]? = some o → o.isCells = false → o.isWalk = false → KpB n₀ B W (W.putObj l o') :=
  fun W l o o' hl ho hc hw => by
  have hb := belowK_b h0 W l o o' hl ho hc hw
  have hs : (W.putObj l o').cell? ⟨B, 0, none⟩ = W.cell? ⟨B, 0, none⟩ := World.cell?_of_block (a := ⟨B, 0, none⟩) (World.putObj_heap_other (show B ≠ l by omega))
  exact ⟨hb, fun _ k cs t f hk _ _ => (World.putObj_heap_other (fun e => by subst e; rw [ho] at hk; cases hk; cases hc)).trans hk, fun _ g hg => .inl (pts_same hs hg), fun hX g hg => Nat.lt_of_lt_of_le (hX g (pts_same hs hg)) hb.size⟩
theorem Blk.kpB {n₀ B : Nat} {W W' : World} {g : Nat} {t : TypeId} {cs : Array Value} (h : Blk W g t cs) (hk : KpB n₀ B W W') (hX : POk W B) (hB : g ≠ B) (hp : ¬ Pts W B g) : Blk W' g t cs := hk.same hX g cs t (0, 0) h hB hp
theorem YieldAt.deep {m : Nat} (m' : Nat) {P : Program} {l : Nat} {args : Array Value} {W : World} {R : Ending → World → Prop} (h : YieldAt Fence.wide m P l args W R) : YieldAt Fence.wide m' P l args W R := by
  obtain ⟨fn, tmps, assign, body, hy, hR⟩ := h
  exact ⟨fn, tmps, assign, body, hy, hR.1, fun c cs _ => hR.2 c cs (room_wide _)⟩
/-- The nodes, each with the word that it is one of all. -/
abbrev Sub (L0 : List Nd) := { x : Nd // x ∈ L0 }
abbrev encN {L0 : List Nd} (x : Sub L0) : Array Value := #[ptr x.1.1.g, x.1.2.a]
set_option maxRecDepth 100000 in
set_option maxHeartbeats 40000000 in
theorem each_in (L0 : List Nd) (l n₀ B N : Nat) (J Jx : List (Sub L0) → World → Prop)
    (hJ : ∀ pre W W', J pre W → Below W.heap.size W W' → J pre W')
    (hY : ∀ m pre (x : Sub L0) W, J pre W → pre.length < N → YieldAt Fence.wide m Tryd.prog l (encN x) W fun e W' =>
      (e = .returned (.bool true) ∧ J (pre ++ [x]) W' ∧ KpB n₀ B W W') ∨ (e = .returned (.bool false) ∧ Jx (pre ++ [x]) W')) (t : Tr) :
    ∀ (n : Nat) (r : Rc) (hsub : ∀ x ∈ nds t r, x ∈ L0) (pre : List (Sub L0)) (W : World), TrAt W t → (∀ b ∈ t.bl, b < n₀) → n₀ ≤ W.heap.size → RcOk r → Nums t → fitsP t r = true → B < W.heap.size → POk W B → J pre W → pre.length + (nds t r).length ≤ N →
      CallsIn Fence.wide n Tryd.prog 34 #[ptr t.g, r.a, .func (.yield l) #[] #[]] W fun e W' =>
        (e = .returned (.bool true) ∧ J (pre ++ (nds t r).attachWith (· ∈ L0) hsub) W' ∧ KpB n₀ B W W') ∨ (e = .returned (.bool false) ∧ ∃ q, q <+: (nds t r).attachWith (· ∈ L0) hsub ∧ Jx (pre ++ q) W') := by
  induction t with
  | pane g i =>
    intro n r hsub pre W ht hbl hn0 hr hN hf hB hP hJ0 hlen
    show CallsIn Fence.wide n Tryd.prog 34 #[.pointer (some ⟨g, 0, none⟩), r.a, .func (.yield l) #[] #[]] W _
    have hb1 := (Below.refl W.heap.size W).alloc (Nat.le_refl _) (.cells r.v 41)
    have hR := Blk.new W 41 r.v
    have hT := ht.later hb1
    have hJ1 := hJ _ _ _ hJ0 hb1
    have hk1 := KpB.of_below hb1 hn0 hB
    have c0 := hR.cell 0
    have c1 := hR.cell 1
    have c2 := hR.cell 2
    have c3 := hR.cell 3
    refine callsIn_of_wp Tryd.func34 rfl trivial ?_ rfl
    simp only [Tryd.ntmps34, List.size_toArray, List.length_cons, List.length_nil, Nat.reduceAdd, Nat.reduceSub, Array.replicate_succ, Array.replicate_zero, List.push_toArray, List.append_toArray, List.nil_append, List.cons_append]
    gi_upto_region 1 with fail
    generalize W.alloc (.cells r.v 41) = W1 at *
    obtain ⟨fn, tmps, assign, body, hy, hRd⟩ := hY (n - 1) pre ⟨(.pane g i, r), hsub _ (by simp [nds])⟩ W1 hJ1 (by simp [nds] at hlen; omega)
    dsimp only [encN, Tr.g] at hy
    gi_wp2
    refine ⟨trivial, fun h => (by cases h), (callsIn_wide.2 (pane_any (.pane g i) W1 hT)).mono ?_⟩
    rintro e w2 ⟨rfl, rfl⟩
    gi_wp2
    refine ⟨fun h => (by cases h), ?_⟩
    refine hRd.mono ?_
    rintro e W' (⟨rfl, hJ', hk'⟩ | ⟨rfl, hJx'⟩)
    · gi_wp2
      go_ret
      exact .inl ⟨rfl, hJ', hk1.trans hk'⟩
    · gi_wp2
      go_ret
      exact .inr ⟨rfl, _, List.prefix_refl _, hJx'⟩
  | split g a p q tl tr ihl ihr =>
    intro n r hsub pre W ht hbl hn0 hr hN hf hB hP hJ0 hlen
    obtain ⟨hp, hpq, hq, hNl, hNr⟩ := hN
    have hn : ¬ lenR r a < 3 := fun hn => by
      unfold fitsP at hf
      rw [if_pos hn] at hf
      cases hf
    unfold fitsP at hf
    rw [if_neg hn, Bool.and_eq_true] at hf
    obtain ⟨hfl, hfr⟩ := hf
    have hsb := shr_bd (n := lenR r a) (p := p) (q := q) (by omega)
    have hr1 := cut1_ok hr a hsb.1 hsb.2
    have hr2 := cut2_ok hr a hsb.1 hsb.2
    have hnds : nds (.split g a p q tl tr) r = nds tl (cut1 a (shr (lenR r a) p q) r) ++ (.split g a p q tl tr, r) :: nds tr (cut2 a (shr (lenR r a) p q) r) := rfl
    show CallsIn Fence.wide n Tryd.prog 34 #[.pointer (some ⟨g, 0, none⟩), r.a, .func (.yield l) #[] #[]] W _
    have hb1 := (Below.refl W.heap.size W).alloc (Nat.le_refl _) (.cells r.v 41)
    have hR := Blk.new W 41 r.v
    refine callsIn_of_wp Tryd.func34 rfl trivial ?_ rfl
    simp only [Tryd.ntmps34, List.size_toArray, List.length_cons, List.length_nil, Nat.reduceAdd, Nat.reduceSub, Array.replicate_succ, Array.replicate_zero, List.push_toArray, List.append_toArray, List.nil_append, List.cons_append]
    gi_upto_region 1 with fail
    generalize W.alloc (.cells r.v 41) = W1 at hb1 hR ⊢
    have hT := ht.later hb1
    gi_wp2
    refine ⟨trivial, fun h => (by cases h), (callsIn_wide.2 (pane_any (.split g a p q tl tr) W1 hT)).mono ?_⟩
    rintro e w2 ⟨rfl, rfl⟩
    have hcut := cut_any g a p q r W1 hT.1.lt (hT.1.cell 1) (hT.1.cell 2) (hT.1.cell 3) hr (by omega) hp hpq hq
    generalize cut1 a (shr (lenR r a) p q) r = r1 at *
    generalize cut2 a (shr (lenR r a) p q) r = r2 at *
    generalize cutM a (shr (lenR r a) p q) r = rm at *
    have c0 : W1.cell? ⟨W.heap.size, 0, none⟩ = some (.int .i64 r.x) := hR.cell 0
    have c1 : W1.cell? ⟨W.heap.size, 1, none⟩ = some (.int .i64 r.y) := hR.cell 1
    have c2 : W1.cell? ⟨W.heap.size, 2, none⟩ = some (.int .i64 r.w) := hR.cell 2
    have c3 : W1.cell? ⟨W.heap.size, 3, none⟩ = some (.int .i64 r.h) := hR.cell 3
    gi_wp2
    refine ⟨trivial, fun h => (by cases h), (callsIn_wide.2 hcut).mono ?_⟩
    clear hcut c0 c1 c2 c3 hsb
    rintro e w2 ⟨rfl, hb2⟩
    have hb2' := hb1.trans (hb2.mono hb1.size)
    have hT2 := hT.later hb2
    have hR2 := hR.below hb2 hR.lt
    clear hb1 hT hR hb2
    gi_upto_region 4 with fail
    have hb3 := (((Below.refl w2.heap.size w2).alloc (Nat.le_refl _) (.cells r1.v 41)).alloc (by simp) (.cells rm.v 41)).alloc (by simp; omega) (.cells r2.v 41)
    have hC1 := ((Blk.new w2 41 r1.v).alloc (.cells rm.v 41)).alloc (.cells r2.v 41)
    have hC2 := Blk.new ((w2.alloc (.cells r1.v 41)).alloc (.cells rm.v 41)) 41 r2.v
    simp only [World.size_alloc] at hC2
    generalize ((w2.alloc (.cells r1.v 41)).alloc (.cells rm.v 41)).alloc (.cells r2.v 41) = w3 at hb3 hC1 hC2 ⊢
    have hT3 := hT2.later hb3
    have hR3 := hR2.below hb3 hR2.lt
    have hb3' := hb2'.trans (hb3.mono hb2'.size)
    have hWw2 : W.heap.size ≤ w2.heap.size := hb2'.size
    clear hb2' hT2 hR2 hb3
    have hbd : Below W.heap.size W w3.drew := hb3'.drew
    have hkd := KpB.of_below (n₀ := n₀) (B := B) hbd hn0 hB
    have hPd := hkd.ok hP
    have hNP : ∀ k, W.heap.size ≤ k → k < w3.heap.size → ∀ w4, KpB n₀ B w3.drew w4 → ¬ Pts w4 B k := fun k h1 h2 w4 hk hp => by
      rcases hk.pts hPd k hp with h3 | h3
      · rcases hkd.pts hP k h3 with h4 | h4
        · have := hP k h4; omega
        · have h5 : Pts W B k := pts_same (hbd.cell (p := ⟨B, 0, none⟩) hB) h3
          have := hP k h5
          omega
      · have : w3.heap.size ≤ k := h3
        omega
    have hNd : ∀ k, W.heap.size ≤ k → ¬ Pts w3.drew B k := fun k h1 h3 => by
      have := hP k (pts_same (hbd.cell (p := ⟨B, 0, none⟩) hB) h3)
      omega
    have hRlt := hR3.lt
    have hC2lt := hC2.lt
    have hT4 : ∀ w4, KpB n₀ B w3.drew w4 → TrAt w4 (.split g a p q tl tr) := fun w4 hk => (show TrAt w3.drew (.split g a p q tl tr) from TrAt.keep _ hT3 (fun _ _ => rfl)).below hk.below hbl
    have hRb : ∀ w4, KpB n₀ B w3.drew w4 → Blk w4 W.heap.size 41 r.v := fun w4 hk => (show Blk w3.drew _ _ _ from hR3).kpB hk hPd (by omega) (hNd _ (Nat.le_refl _))
    have hC24 : ∀ w4, KpB n₀ B w3.drew w4 → Blk w4 (w2.heap.size + 1 + 1) 41 r2.v := fun w4 hk => (show Blk w3.drew _ _ _ from hC2).kpB hk hPd (by omega) (hNd _ (by omega))
    have hsl : ∀ x ∈ nds tl r1, x ∈ L0 := fun x hx => hsub x (by rw [hnds]; simp [hx])
    have hsr : ∀ x ∈ nds tr r2, x ∈ L0 := fun x hx => hsub x (by rw [hnds]; simp [hx])
    have hsm : ((Tr.split g a p q tl tr, r) : Nd) ∈ L0 := hsub _ (by rw [hnds]; simp)
    have hat : (nds (.split g a p q tl tr) r).attachWith (· ∈ L0) hsub = (nds tl r1).attachWith (· ∈ L0) hsl ++ ⟨(.split g a p q tl tr, r), hsm⟩ :: (nds tr r2).attachWith (· ∈ L0) hsr := by
      simp only [hnds, List.attachWith_append, List.attachWith_cons]
    rw [hnds] at hlen
    simp only [List.length_append, List.length_cons] at hlen
    have hbll : ∀ b ∈ tl.bl, b < n₀ := fun b hb => hbl b (by simp [Tr.bl, hb])
    have hblr : ∀ b ∈ tr.bl, b < n₀ := fun b hb => hbl b (by simp [Tr.bl, hb])
    have hJd := hJ _ _ _ hJ0 hbd
    have ih1 := ihl (n - 1) r1 hsl pre w3.drew (TrAt.keep _ hT3.2.1 (fun _ _ => rfl)) hbll (Nat.le_trans hn0 hbd.size) hr1 hNl hfl (Nat.lt_of_lt_of_le hB hbd.size) hPd hJd (by omega)
    have yl := fun w4 (hJ1 : J (pre ++ (nds tl r1).attachWith (· ∈ L0) hsl) w4) (hk1 : KpB n₀ B w3.drew w4) => hY (n - 1) _ ⟨(.split g a p q tl tr, r), hsm⟩ w4 hJ1 (by simp; omega)
    have ih2 := fun w5 (hJ2 : J (pre ++ (nds tl r1).attachWith (· ∈ L0) hsl ++ [⟨(.split g a p q tl tr, r), hsm⟩]) w5) (hk2 : KpB n₀ B w3.drew w5) => ihr (n - 1) r2 hsr _ w5 ((show TrAt w3.drew tr from TrAt.keep _ hT3.2.2 (fun _ _ => rfl)).below hk2.below hblr) hblr (Nat.le_trans hn0 (Nat.le_trans hbd.size hk2.below.size)) hr2 hNr hfr (Nat.lt_of_lt_of_le hB (Nat.le_trans hbd.size hk2.below.size)) (hk2.ok hPd) hJ2 (by simp; omega)
    clear ihl ihr
    have fin1 : ∀ (w6 : World), J (pre ++ (nds tl r1).attachWith (· ∈ L0) hsl ++ [⟨(.split g a p q tl tr, r), hsm⟩] ++ (nds tr r2).attachWith (· ∈ L0) hsr) w6 → KpB n₀ B w3.drew w6 → (J (pre ++ (nds (.split g a p q tl tr) r).attachWith (· ∈ L0) hsub) w6 ∧ KpB n₀ B W w6) := fun w6 h1 h2 => ⟨by rw [hat]; simpa using h1, hkd.trans h2⟩
    have fin4 : ∀ (w6 : World) (qs : List (Sub L0)), qs <+: (nds tl r1).attachWith (· ∈ L0) hsl → Jx (pre ++ qs) w6 → (∃ qs, qs <+: (nds (.split g a p q tl tr) r).attachWith (· ∈ L0) hsub ∧ Jx (pre ++ qs) w6) := fun w6 qs h1 h2 => ⟨qs, by rw [hat]; exact h1.trans (List.prefix_append _ _), h2⟩
    have fin3 : ∀ (w6 : World), Jx (pre ++ (nds tl r1).attachWith (· ∈ L0) hsl ++ [⟨(.split g a p q tl tr, r), hsm⟩]) w6 → (∃ qs, qs <+: (nds (.split g a p q tl tr) r).attachWith (· ∈ L0) hsub ∧ Jx (pre ++ qs) w6) := fun w6 h1 => ⟨(nds tl r1).attachWith (· ∈ L0) hsl ++ [⟨(.split g a p q tl tr, r), hsm⟩], by rw [hat]; exact (List.prefix_append_right_inj _).2 (by simp), by simpa using h1⟩
    have fin2 : ∀ (w6 : World) (qs : List (Sub L0)), qs <+: (nds tr r2).attachWith (· ∈ L0) hsr → Jx (pre ++ (nds tl r1).attachWith (· ∈ L0) hsl ++ [⟨(.split g a p q tl tr, r), hsm⟩] ++ qs) w6 → (∃ qs, qs <+: (nds (.split g a p q tl tr) r).attachWith (· ∈ L0) hsub ∧ Jx (pre ++ qs) w6) := fun w6 qs h1 h2 => ⟨(nds tl r1).attachWith (· ∈ L0) hsl ++ ⟨(.split g a p q tl tr, r), hsm⟩ :: qs, by rw [hat]; exact (List.prefix_append_right_inj _).2 (by simpa using h1), by simpa using h2⟩
    have k4 : w3.drew.cell? ⟨g, 4, none⟩ = some (ptr tl.g) := hT3.1.cell 4
    have d0 : w3.drew.cell? ⟨w2.heap.size, 0, none⟩ = some (.int .i64 r1.x) := hC1.cell 0
    have d1 : w3.drew.cell? ⟨w2.heap.size, 1, none⟩ = some (.int .i64 r1.y) := hC1.cell 1
    have d2 : w3.drew.cell? ⟨w2.heap.size, 2, none⟩ = some (.int .i64 r1.w) := hC1.cell 2
    have d3 : w3.drew.cell? ⟨w2.heap.size, 3, none⟩ = some (.int .i64 r1.h) := hC1.cell 3
    have Hfin1 := Lib.hid fin1
    have Hfin2 := Lib.hid fin2
    have Hfin3 := Lib.hid fin3
    have Hfin4 := Lib.hid fin4
    have Hih1 := Lib.hid ih1
    have Hih2 := Lib.hid ih2
    have Hyl := Lib.hid yl
    have HhT4 := Lib.hid hT4
    have HhRb := Lib.hid hRb
    have HhC24 := Lib.hid hC24
    clear fin1 fin2 fin3 fin4 ih1 ih2 yl hT4 hRb hC24
    try clear hNP
    try clear hNd
    try clear hJd
    try clear hJ
    try clear hY
    try clear hPd
    try clear hkd
    try clear hbd
    try clear hbll
    try clear hblr
    try clear hT3
    try clear hR3
    try clear hC1
    try clear hC2
    try clear hP
    try clear hbl
    try clear hn0
    try clear hB
    try clear hlen
    try clear hnds
    try clear hat
    refine wpIn_region_any (by kernel_rfl) ?_
    change wpAnyIn _ _ _ _ _ _ _ _ _ (World.drew _)
    refine wpAnyIn_take (i := 0) (v := ?v1) rfl rfl (by kernel_rfl) (by kernel_rfl) (by kernel_rfl) (fun _ _ _ h => h) ⟨Or.inl ⟨by rfl, ?hy1⟩, fun _ => rfl⟩ ?rest1
    case hy1 => (intro w; go_simp; try with_reducible rfl)
    refine wpAnyIn_take (i := 1) (v := ?v2) rfl rfl (by kernel_rfl) (by kernel_rfl) (by kernel_rfl) (fun _ _ _ h => h) ⟨Or.inl ⟨by rfl, ?hy2⟩, fun _ => rfl⟩ ?rest2
    case hy2 => (intro w; go_simp; try with_reducible rfl)
    refine wpAnyIn_take (i := 2) (v := ?v3) rfl rfl (by kernel_rfl) (by kernel_rfl) (by kernel_rfl) (fun _ _ _ h => h) ⟨Or.inl ⟨by rfl, ?hy3⟩, fun _ => rfl⟩ ?rest3
    case hy3 => (intro w; go_simp; try with_reducible rfl)
    refine wpAnyIn_take (i := 5) (v := ?v4) rfl rfl (by kernel_rfl) (by kernel_rfl) (by kernel_rfl) (fun _ _ _ h => h) ⟨Or.inl ⟨by rfl, ?hy4⟩, fun _ => rfl⟩ ?rest4
    case hy4 => (intro w; go_simp; try with_reducible rfl)
    refine wpAnyIn_ready (rs := [3, 4]) (by kernel_rfl) (by simp) ?_
    refine AllReadyIn.cons rfl (fun K hK => ?_) (AllReadyIn.cons rfl (fun K hK => ?_) AllReadyIn.nil)
    · go_simp
      refine hK _ _ ?_
      clear hK K
      refine wpAnyIn_ready (rs := [4]) (by kernel_rfl) (by simp) ?_
      refine AllReadyIn.cons rfl (fun K hK => ?_) AllReadyIn.nil
      go_simp
      refine hK _ _ ?_
      clear hK K
      refine wpAnyIn_ready (rs := [6]) (by kernel_rfl) (by simp) ?_
      refine AllReadyIn.cons rfl (fun K hK => ?_) AllReadyIn.nil
      go_simp
      refine ⟨trivial, fun h => (by cases h), Hih1.out.mono ?_⟩
      rintro e w4 (⟨rfl, hJ1, hk1⟩ | ⟨rfl, q', hq', hJx1⟩)
      · refine hK _ _ ?_
        clear hK K
        refine wpAnyIn_take (i := 7) (v := ?v5) rfl rfl (by kernel_rfl) (by kernel_rfl) (by kernel_rfl) (fun _ _ _ h => h) ⟨Or.inl ⟨by rfl, ?hy5⟩, fun _ => rfl⟩ ?rest5
        case hy5 => (intro w; go_simp; try with_reducible rfl)
        refine wpAnyIn_take (i := 8) (v := ?v6) rfl rfl (by kernel_rfl) (by kernel_rfl) (by kernel_rfl) (fun _ _ _ h => h) ⟨Or.inl ⟨by rfl, ?hy6⟩, fun _ => rfl⟩ ?rest6
        case hy6 => (intro w; go_simp; try with_reducible rfl)
        refine wpAnyIn_take (i := 9) (v := ?v7) rfl rfl (by kernel_rfl) (by kernel_rfl) (by kernel_rfl) (fun _ _ _ h => h) ⟨Or.inl ⟨by rfl, ?hy7⟩, fun _ => rfl⟩ ?rest7
        case hy7 => (intro w; go_simp; try with_reducible rfl)
        have b0 : w4.cell? ⟨W.heap.size, 0, none⟩ = some (.int .i64 r.x) := (HhRb.out _ hk1).cell 0
        have b1 : w4.cell? ⟨W.heap.size, 1, none⟩ = some (.int .i64 r.y) := (HhRb.out _ hk1).cell 1
        have b2 : w4.cell? ⟨W.heap.size, 2, none⟩ = some (.int .i64 r.w) := (HhRb.out _ hk1).cell 2
        have b3 : w4.cell? ⟨W.heap.size, 3, none⟩ = some (.int .i64 r.h) := (HhRb.out _ hk1).cell 3
        refine wpAnyIn_ready (rs := [10]) (by kernel_rfl) (by simp) ?_
        refine AllReadyIn.cons rfl (fun K hK => ?_) AllReadyIn.nil
        go_simp
        refine hK _ _ ?_
        clear hK K
        obtain ⟨fn, tmps, assign, body, hy, hRd⟩ := Hyl.out _ hJ1 hk1
        dsimp only [encN, Tr.g] at hy
        refine wpAnyIn_ready (rs := [11]) (by kernel_rfl) (by simp) ?_
        refine AllReadyIn.cons rfl (fun K hK => ?_) AllReadyIn.nil
        go_simp
        refine ⟨fun h => (by cases h), ?_⟩
        refine hRd.mono ?_
        rintro e w5 (⟨rfl, hJ2, hk2'⟩ | ⟨rfl, hJx2⟩)
        · have hk2 := hk1.trans hk2'
          refine hK _ _ ?_
          clear hK K
          refine wpAnyIn_take (i := 12) (v := ?v8) rfl rfl (by kernel_rfl) (by kernel_rfl) (by kernel_rfl) (fun _ _ _ h => h) ⟨Or.inl ⟨by rfl, ?hy8⟩, fun _ => rfl⟩ ?rest8
          case hy8 => (intro w; go_simp; try with_reducible rfl)
          refine wpAnyIn_take (i := 13) (v := ?v9) rfl rfl (by kernel_rfl) (by kernel_rfl) (by kernel_rfl) (fun _ _ _ h => h) ⟨Or.inl ⟨by rfl, ?hy9⟩, fun _ => rfl⟩ ?rest9
          case hy9 => (intro w; go_simp; try with_reducible rfl)
          refine wpAnyIn_take (i := 14) (v := ?v10) rfl rfl (by kernel_rfl) (by kernel_rfl) (by kernel_rfl) (fun _ _ _ h => h) ⟨Or.inl ⟨by rfl, ?hy10⟩, fun _ => rfl⟩ ?rest10
          case hy10 => (intro w; go_simp; try with_reducible rfl)
          refine wpAnyIn_take (i := 15) (v := ?v11) rfl rfl (by kernel_rfl) (by kernel_rfl) (by kernel_rfl) (fun _ _ _ h => h) ⟨Or.inl ⟨by rfl, ?hy11⟩, fun _ => rfl⟩ ?rest11
          case hy11 => (intro w; go_simp; try with_reducible rfl)
          refine wpAnyIn_take (i := 16) (v := ?v12) rfl rfl (by kernel_rfl) (by kernel_rfl) (by kernel_rfl) (fun _ _ _ h => h) ⟨Or.inl ⟨by rfl, ?hy12⟩, fun _ => rfl⟩ ?rest12
          case hy12 => (intro w; go_simp; try with_reducible rfl)
          refine wpAnyIn_take (i := 19) (v := ?v13) rfl rfl (by kernel_rfl) (by kernel_rfl) (by kernel_rfl) (fun _ _ _ h => h) ⟨Or.inl ⟨by rfl, ?hy13⟩, fun _ => rfl⟩ ?rest13
          case hy13 => (intro w; go_simp; try with_reducible rfl)
          have k5 : w5.cell? ⟨g, 5, none⟩ = some (ptr tr.g) := (HhT4.out _ hk2).1.cell 5
          have e0 : w5.cell? ⟨w2.heap.size + 1 + 1, 0, none⟩ = some (.int .i64 r2.x) := (HhC24.out _ hk2).cell 0
          have e1 : w5.cell? ⟨w2.heap.size + 1 + 1, 1, none⟩ = some (.int .i64 r2.y) := (HhC24.out _ hk2).cell 1
          have e2 : w5.cell? ⟨w2.heap.size + 1 + 1, 2, none⟩ = some (.int .i64 r2.w) := (HhC24.out _ hk2).cell 2
          have e3 : w5.cell? ⟨w2.heap.size + 1 + 1, 3, none⟩ = some (.int .i64 r2.h) := (HhC24.out _ hk2).cell 3
          refine wpAnyIn_ready (rs := [17, 18]) (by kernel_rfl) (by simp) ?_
          refine AllReadyIn.cons rfl (fun K hK => ?_) (AllReadyIn.cons rfl (fun K hK => ?_) AllReadyIn.nil)
          · go_simp
            refine hK _ _ ?_
            clear hK K
            refine wpAnyIn_ready (rs := [18]) (by kernel_rfl) (by simp) ?_
            refine AllReadyIn.cons rfl (fun K hK => ?_) AllReadyIn.nil
            go_simp
            refine hK _ _ ?_
            clear hK K
            refine wpAnyIn_ready (rs := [20]) (by kernel_rfl) (by simp) ?_
            refine AllReadyIn.cons rfl (fun K hK => ?_) AllReadyIn.nil
            go_simp
            refine ⟨trivial, fun h => (by cases h), (Hih2.out _ hJ2 hk2).mono ?_⟩
            rintro e w6 (⟨rfl, hJ3, hk3⟩ | ⟨rfl, q', hq', hJx3⟩)
            · refine hK _ _ ?_
              clear hK K
              refine wpAnyIn_take (i := 21) (v := ?v14) rfl rfl (by kernel_rfl) (by kernel_rfl) (by kernel_rfl) (fun _ _ _ h => h) ⟨Or.inl ⟨by rfl, ?hy14⟩, fun _ => rfl⟩ ?rest14
              case hy14 => (intro w; go_simp; try with_reducible rfl)
              refine wpAnyIn_take (i := 22) (v := ?v15) rfl rfl (by kernel_rfl) (by kernel_rfl) (by kernel_rfl) (fun _ _ _ h => h) ⟨Or.inl ⟨by rfl, ?hy15⟩, fun _ => rfl⟩ ?rest15
              case hy15 => (intro w; go_simp; try with_reducible rfl)
              refine wpAnyIn_done (by kernel_rfl) ?_ _
              gi_wp2
              go_ret
              refine .inl ⟨rfl, ?_⟩
              exact Hfin1.out _ hJ3 (hk2.trans hk3)
            · refine hK _ _ ?_
              clear hK K
              refine wpAnyIn_take (i := 21) (v := ?v16) rfl rfl (by kernel_rfl) (by kernel_rfl) (by kernel_rfl) (fun _ _ _ h => h) ⟨Or.inl ⟨by rfl, ?hy16⟩, fun _ => rfl⟩ ?rest16
              case hy16 => (intro w; go_simp; try with_reducible rfl)
              refine wpAnyIn_take (i := 22) (v := ?v17) rfl rfl (by kernel_rfl) (by kernel_rfl) (by kernel_rfl) (fun _ _ _ h => h) ⟨Or.inl ⟨by rfl, ?hy17⟩, fun _ => rfl⟩ ?rest17
              case hy17 => (intro w; go_simp; try with_reducible rfl)
              refine wpAnyIn_done (by kernel_rfl) ?_ _
              gi_wp2
              go_ret
              refine .inr ⟨rfl, ?_⟩
              exact Hfin2.out _ _ hq' hJx3
          · go_simp
            refine hK _ _ ?_
            clear hK K
            refine wpAnyIn_ready (rs := [17]) (by kernel_rfl) (by simp) ?_
            refine AllReadyIn.cons rfl (fun K hK => ?_) AllReadyIn.nil
            go_simp
            refine hK _ _ ?_
            clear hK K
            refine wpAnyIn_ready (rs := [20]) (by kernel_rfl) (by simp) ?_
            refine AllReadyIn.cons rfl (fun K hK => ?_) AllReadyIn.nil
            go_simp
            refine ⟨trivial, fun h => (by cases h), (Hih2.out _ hJ2 hk2).mono ?_⟩
            rintro e w6 (⟨rfl, hJ3, hk3⟩ | ⟨rfl, q', hq', hJx3⟩)
            · refine hK _ _ ?_
              clear hK K
              refine wpAnyIn_take (i := 21) (v := ?v18) rfl rfl (by kernel_rfl) (by kernel_rfl) (by kernel_rfl) (fun _ _ _ h => h) ⟨Or.inl ⟨by rfl, ?hy18⟩, fun _ => rfl⟩ ?rest18
              case hy18 => (intro w; go_simp; try with_reducible rfl)
              refine wpAnyIn_take (i := 22) (v := ?v19) rfl rfl (by kernel_rfl) (by kernel_rfl) (by kernel_rfl) (fun _ _ _ h => h) ⟨Or.inl ⟨by rfl, ?hy19⟩, fun _ => rfl⟩ ?rest19
              case hy19 => (intro w; go_simp; try with_reducible rfl)
              refine wpAnyIn_done (by kernel_rfl) ?_ _
              gi_wp2
              go_ret
              refine .inl ⟨rfl, ?_⟩
              exact Hfin1.out _ hJ3 (hk2.trans hk3)
            · refine hK _ _ ?_
              clear hK K
              refine wpAnyIn_take (i := 21) (v := ?v20) rfl rfl (by kernel_rfl) (by kernel_rfl) (by kernel_rfl) (fun _ _ _ h => h) ⟨Or.inl ⟨by rfl, ?hy20⟩, fun _ => rfl⟩ ?rest20
              case hy20 => (intro w; go_simp; try with_reducible rfl)
              refine wpAnyIn_take (i := 22) (v := ?v21) rfl rfl (by kernel_rfl) (by kernel_rfl) (by kernel_rfl) (fun _ _ _ h => h) ⟨Or.inl ⟨by rfl, ?hy21⟩, fun _ => rfl⟩ ?rest21
              case hy21 => (intro w; go_simp; try with_reducible rfl)
              refine wpAnyIn_done (by kernel_rfl) ?_ _
              gi_wp2
              go_ret
              refine .inr ⟨rfl, ?_⟩
              exact Hfin2.out _ _ hq' hJx3
        · refine hK _ _ ?_
          clear hK K
          refine wpAnyIn_take (i := 12) (v := ?v22) rfl rfl (by kernel_rfl) (by kernel_rfl) (by kernel_rfl) (fun _ _ _ h => h) ⟨Or.inl ⟨by rfl, ?hy22⟩, fun _ => rfl⟩ ?rest22
          case hy22 => (intro w; go_simp; try with_reducible rfl)
          refine wpAnyIn_take (i := 13) (v := ?v23) rfl rfl (by kernel_rfl) (by kernel_rfl) (by kernel_rfl) (fun _ _ _ h => h) ⟨Or.inl ⟨by rfl, ?hy23⟩, fun _ => rfl⟩ ?rest23
          case hy23 => (intro w; go_simp; try with_reducible rfl)
          refine wpAnyIn_take (i := 14) (v := undef) rfl rfl (by kernel_rfl) (by kernel_rfl) (by kernel_rfl) (fun _ _ _ h => h) ⟨Or.inr ⟨by kernel_rfl, rfl⟩, fun _ => rfl⟩ ?rest24
          refine wpAnyIn_take (i := 15) (v := undef) rfl rfl (by kernel_rfl) (by kernel_rfl) (by kernel_rfl) (fun _ _ _ h => h) ⟨Or.inr ⟨by kernel_rfl, rfl⟩, fun _ => rfl⟩ ?rest25
          refine wpAnyIn_take (i := 16) (v := undef) rfl rfl (by kernel_rfl) (by kernel_rfl) (by kernel_rfl) (fun _ _ _ h => h) ⟨Or.inr ⟨by kernel_rfl, rfl⟩, fun _ => rfl⟩ ?rest26
          refine wpAnyIn_take (i := 17) (v := undef) rfl rfl (by kernel_rfl) (by kernel_rfl) (by kernel_rfl) (fun _ _ _ h => h) ⟨Or.inr ⟨by kernel_rfl, rfl⟩, fun _ => rfl⟩ ?rest27
          refine wpAnyIn_take (i := 18) (v := undef) rfl rfl (by kernel_rfl) (by kernel_rfl) (by kernel_rfl) (fun _ _ _ h => h) ⟨Or.inr ⟨by kernel_rfl, rfl⟩, fun _ => rfl⟩ ?rest28
          refine wpAnyIn_take (i := 19) (v := undef) rfl rfl (by kernel_rfl) (by kernel_rfl) (by kernel_rfl) (fun _ _ _ h => h) ⟨Or.inr ⟨by kernel_rfl, rfl⟩, fun _ => rfl⟩ ?rest29
          refine wpAnyIn_ready (rs := [20]) (by kernel_rfl) (by simp) ?_
          refine AllReadyIn.cons rfl (fun K hK => ?_) AllReadyIn.nil
          go_simp
          first | refine ⟨trivial, ?_⟩ | refine ⟨fun _ _ => trivial, ?_⟩
          refine hK _ _ ?_
          clear hK K
          refine wpAnyIn_take (i := 21) (v := ?v30) rfl rfl (by kernel_rfl) (by kernel_rfl) (by kernel_rfl) (fun _ _ _ h => h) ⟨Or.inl ⟨by rfl, ?hy30⟩, fun _ => rfl⟩ ?rest30
          case hy30 => (intro w; go_simp; try with_reducible rfl)
          refine wpAnyIn_take (i := 22) (v := ?v31) rfl rfl (by kernel_rfl) (by kernel_rfl) (by kernel_rfl) (fun _ _ _ h => h) ⟨Or.inl ⟨by rfl, ?hy31⟩, fun _ => rfl⟩ ?rest31
          case hy31 => (intro w; go_simp; try with_reducible rfl)
          refine wpAnyIn_done (by kernel_rfl) ?_ _
          gi_wp2
          go_ret
          refine .inr ⟨rfl, ?_⟩
          exact Hfin3.out _ hJx2
      · refine hK _ _ ?_
        clear hK K
        refine wpAnyIn_take (i := 7) (v := ?v32) rfl rfl (by kernel_rfl) (by kernel_rfl) (by kernel_rfl) (fun _ _ _ h => h) ⟨Or.inl ⟨by rfl, ?hy32⟩, fun _ => rfl⟩ ?rest32
        case hy32 => (intro w; go_simp; try with_reducible rfl)
        refine wpAnyIn_take (i := 8) (v := undef) rfl rfl (by kernel_rfl) (by kernel_rfl) (by kernel_rfl) (fun _ _ _ h => h) ⟨Or.inr ⟨by kernel_rfl, rfl⟩, fun _ => rfl⟩ ?rest33
        refine wpAnyIn_take (i := 9) (v := undef) rfl rfl (by kernel_rfl) (by kernel_rfl) (by kernel_rfl) (fun _ _ _ h => h) ⟨Or.inr ⟨by kernel_rfl, rfl⟩, fun _ => rfl⟩ ?rest34
        refine wpAnyIn_take (i := 10) (v := undef) rfl rfl (by kernel_rfl) (by kernel_rfl) (by kernel_rfl) (fun _ _ _ h => h) ⟨Or.inr ⟨by kernel_rfl, rfl⟩, fun _ => rfl⟩ ?rest35
        refine wpAnyIn_ready (rs := [11]) (by kernel_rfl) (by simp) ?_
        refine AllReadyIn.cons rfl (fun K hK => ?_) AllReadyIn.nil
        go_simp
        first | refine ⟨trivial, ?_⟩ | refine ⟨fun _ _ => trivial, ?_⟩
        refine hK _ _ ?_
        clear hK K
        refine wpAnyIn_take (i := 12) (v := ?v36) rfl rfl (by kernel_rfl) (by kernel_rfl) (by kernel_rfl) (fun _ _ _ h => h) ⟨Or.inl ⟨by rfl, ?hy36⟩, fun _ => rfl⟩ ?rest36
        case hy36 => (intro w; go_simp; try with_reducible rfl)
        refine wpAnyIn_take (i := 13) (v := ?v37) rfl rfl (by kernel_rfl) (by kernel_rfl) (by kernel_rfl) (fun _ _ _ h => h) ⟨Or.inl ⟨by rfl, ?hy37⟩, fun _ => rfl⟩ ?rest37
        case hy37 => (intro w; go_simp; try with_reducible rfl)
        refine wpAnyIn_take (i := 14) (v := undef) rfl rfl (by kernel_rfl) (by kernel_rfl) (by kernel_rfl) (fun _ _ _ h => h) ⟨Or.inr ⟨by kernel_rfl, rfl⟩, fun _ => rfl⟩ ?rest38
        refine wpAnyIn_take (i := 15) (v := undef) rfl rfl (by kernel_rfl) (by kernel_rfl) (by kernel_rfl) (fun _ _ _ h => h) ⟨Or.inr ⟨by kernel_rfl, rfl⟩, fun _ => rfl⟩ ?rest39
        refine wpAnyIn_take (i := 16) (v := undef) rfl rfl (by kernel_rfl) (by kernel_rfl) (by kernel_rfl) (fun _ _ _ h => h) ⟨Or.inr ⟨by kernel_rfl, rfl⟩, fun _ => rfl⟩ ?rest40
        refine wpAnyIn_take (i := 17) (v := undef) rfl rfl (by kernel_rfl) (by kernel_rfl) (by kernel_rfl) (fun _ _ _ h => h) ⟨Or.inr ⟨by kernel_rfl, rfl⟩, fun _ => rfl⟩ ?rest41
        refine wpAnyIn_take (i := 18) (v := undef) rfl rfl (by kernel_rfl) (by kernel_rfl) (by kernel_rfl) (fun _ _ _ h => h) ⟨Or.inr ⟨by kernel_rfl, rfl⟩, fun _ => rfl⟩ ?rest42
        refine wpAnyIn_take (i := 19) (v := undef) rfl rfl (by kernel_rfl) (by kernel_rfl) (by kernel_rfl) (fun _ _ _ h => h) ⟨Or.inr ⟨by kernel_rfl, rfl⟩, fun _ => rfl⟩ ?rest43
        refine wpAnyIn_ready (rs := [20]) (by kernel_rfl) (by simp) ?_
        refine AllReadyIn.cons rfl (fun K hK => ?_) AllReadyIn.nil
        go_simp
        first | refine ⟨trivial, ?_⟩ | refine ⟨fun _ _ => trivial, ?_⟩
        refine hK _ _ ?_
        clear hK K
        refine wpAnyIn_take (i := 21) (v := ?v44) rfl rfl (by kernel_rfl) (by kernel_rfl) (by kernel_rfl) (fun _ _ _ h => h) ⟨Or.inl ⟨by rfl, ?hy44⟩, fun _ => rfl⟩ ?rest44
        case hy44 => (intro w; go_simp; try with_reducible rfl)
        refine wpAnyIn_take (i := 22) (v := ?v45) rfl rfl (by kernel_rfl) (by kernel_rfl) (by kernel_rfl) (fun _ _ _ h => h) ⟨Or.inl ⟨by rfl, ?hy45⟩, fun _ => rfl⟩ ?rest45
        case hy45 => (intro w; go_simp; try with_reducible rfl)
        refine wpAnyIn_done (by kernel_rfl) ?_ _
        gi_wp2
        go_ret
        refine .inr ⟨rfl, ?_⟩
        exact Hfin4.out _ _ hq' hJx1
    · go_simp
      refine hK _ _ ?_
      clear hK K
      refine wpAnyIn_ready (rs := [3]) (by kernel_rfl) (by simp) ?_
      refine AllReadyIn.cons rfl (fun K hK => ?_) AllReadyIn.nil
      go_simp
      refine hK _ _ ?_
      clear hK K
      refine wpAnyIn_ready (rs := [6]) (by kernel_rfl) (by simp) ?_
      refine AllReadyIn.cons rfl (fun K hK => ?_) AllReadyIn.nil
      go_simp
      refine ⟨trivial, fun h => (by cases h), Hih1.out.mono ?_⟩
      rintro e w4 (⟨rfl, hJ1, hk1⟩ | ⟨rfl, q', hq', hJx1⟩)
      · refine hK _ _ ?_
        clear hK K
        refine wpAnyIn_take (i := 7) (v := ?v46) rfl rfl (by kernel_rfl) (by kernel_rfl) (by kernel_rfl) (fun _ _ _ h => h) ⟨Or.inl ⟨by rfl, ?hy46⟩, fun _ => rfl⟩ ?rest46
        case hy46 => (intro w; go_simp; try with_reducible rfl)
        refine wpAnyIn_take (i := 8) (v := ?v47) rfl rfl (by kernel_rfl) (by kernel_rfl) (by kernel_rfl) (fun _ _ _ h => h) ⟨Or.inl ⟨by rfl, ?hy47⟩, fun _ => rfl⟩ ?rest47
        case hy47 => (intro w; go_simp; try with_reducible rfl)
        refine wpAnyIn_take (i := 9) (v := ?v48) rfl rfl (by kernel_rfl) (by kernel_rfl) (by kernel_rfl) (fun _ _ _ h => h) ⟨Or.inl ⟨by rfl, ?hy48⟩, fun _ => rfl⟩ ?rest48
        case hy48 => (intro w; go_simp; try with_reducible rfl)
        have b0 : w4.cell? ⟨W.heap.size, 0, none⟩ = some (.int .i64 r.x) := (HhRb.out _ hk1).cell 0
        have b1 : w4.cell? ⟨W.heap.size, 1, none⟩ = some (.int .i64 r.y) := (HhRb.out _ hk1).cell 1
        have b2 : w4.cell? ⟨W.heap.size, 2, none⟩ = some (.int .i64 r.w) := (HhRb.out _ hk1).cell 2
        have b3 : w4.cell? ⟨W.heap.size, 3, none⟩ = some (.int .i64 r.h) := (HhRb.out _ hk1).cell 3
        refine wpAnyIn_ready (rs := [10]) (by kernel_rfl) (by simp) ?_
        refine AllReadyIn.cons rfl (fun K hK => ?_) AllReadyIn.nil
        go_simp
        refine hK _ _ ?_
        clear hK K
        obtain ⟨fn, tmps, assign, body, hy, hRd⟩ := Hyl.out _ hJ1 hk1
        dsimp only [encN, Tr.g] at hy
        refine wpAnyIn_ready (rs := [11]) (by kernel_rfl) (by simp) ?_
        refine AllReadyIn.cons rfl (fun K hK => ?_) AllReadyIn.nil
        go_simp
        refine ⟨fun h => (by cases h), ?_⟩
        refine hRd.mono ?_
        rintro e w5 (⟨rfl, hJ2, hk2'⟩ | ⟨rfl, hJx2⟩)
        · have hk2 := hk1.trans hk2'
          refine hK _ _ ?_
          clear hK K
          refine wpAnyIn_take (i := 12) (v := ?v49) rfl rfl (by kernel_rfl) (by kernel_rfl) (by kernel_rfl) (fun _ _ _ h => h) ⟨Or.inl ⟨by rfl, ?hy49⟩, fun _ => rfl⟩ ?rest49
          case hy49 => (intro w; go_simp; try with_reducible rfl)
          refine wpAnyIn_take (i := 13) (v := ?v50) rfl rfl (by kernel_rfl) (by kernel_rfl) (by kernel_rfl) (fun _ _ _ h => h) ⟨Or.inl ⟨by rfl, ?hy50⟩, fun _ => rfl⟩ ?rest50
          case hy50 => (intro w; go_simp; try with_reducible rfl)
          refine wpAnyIn_take (i := 14) (v := ?v51) rfl rfl (by kernel_rfl) (by kernel_rfl) (by kernel_rfl) (fun _ _ _ h => h) ⟨Or.inl ⟨by rfl, ?hy51⟩, fun _ => rfl⟩ ?rest51
          case hy51 => (intro w; go_simp; try with_reducible rfl)
          refine wpAnyIn_take (i := 15) (v := ?v52) rfl rfl (by kernel_rfl) (by kernel_rfl) (by kernel_rfl) (fun _ _ _ h => h) ⟨Or.inl ⟨by rfl, ?hy52⟩, fun _ => rfl⟩ ?rest52
          case hy52 => (intro w; go_simp; try with_reducible rfl)
          refine wpAnyIn_take (i := 16) (v := ?v53) rfl rfl (by kernel_rfl) (by kernel_rfl) (by kernel_rfl) (fun _ _ _ h => h) ⟨Or.inl ⟨by rfl, ?hy53⟩, fun _ => rfl⟩ ?rest53
          case hy53 => (intro w; go_simp; try with_reducible rfl)
          refine wpAnyIn_take (i := 19) (v := ?v54) rfl rfl (by kernel_rfl) (by kernel_rfl) (by kernel_rfl) (fun _ _ _ h => h) ⟨Or.inl ⟨by rfl, ?hy54⟩, fun _ => rfl⟩ ?rest54
          case hy54 => (intro w; go_simp; try with_reducible rfl)
          have k5 : w5.cell? ⟨g, 5, none⟩ = some (ptr tr.g) := (HhT4.out _ hk2).1.cell 5
          have e0 : w5.cell? ⟨w2.heap.size + 1 + 1, 0, none⟩ = some (.int .i64 r2.x) := (HhC24.out _ hk2).cell 0
          have e1 : w5.cell? ⟨w2.heap.size + 1 + 1, 1, none⟩ = some (.int .i64 r2.y) := (HhC24.out _ hk2).cell 1
          have e2 : w5.cell? ⟨w2.heap.size + 1 + 1, 2, none⟩ = some (.int .i64 r2.w) := (HhC24.out _ hk2).cell 2
          have e3 : w5.cell? ⟨w2.heap.size + 1 + 1, 3, none⟩ = some (.int .i64 r2.h) := (HhC24.out _ hk2).cell 3
          refine wpAnyIn_ready (rs := [17, 18]) (by kernel_rfl) (by simp) ?_
          refine AllReadyIn.cons rfl (fun K hK => ?_) (AllReadyIn.cons rfl (fun K hK => ?_) AllReadyIn.nil)
          · go_simp
            refine hK _ _ ?_
            clear hK K
            refine wpAnyIn_ready (rs := [18]) (by kernel_rfl) (by simp) ?_
            refine AllReadyIn.cons rfl (fun K hK => ?_) AllReadyIn.nil
            go_simp
            refine hK _ _ ?_
            clear hK K
            refine wpAnyIn_ready (rs := [20]) (by kernel_rfl) (by simp) ?_
            refine AllReadyIn.cons rfl (fun K hK => ?_) AllReadyIn.nil
            go_simp
            refine ⟨trivial, fun h => (by cases h), (Hih2.out _ hJ2 hk2).mono ?_⟩
            rintro e w6 (⟨rfl, hJ3, hk3⟩ | ⟨rfl, q', hq', hJx3⟩)
            · refine hK _ _ ?_
              clear hK K
              refine wpAnyIn_take (i := 21) (v := ?v55) rfl rfl (by kernel_rfl) (by kernel_rfl) (by kernel_rfl) (fun _ _ _ h => h) ⟨Or.inl ⟨by rfl, ?hy55⟩, fun _ => rfl⟩ ?rest55
              case hy55 => (intro w; go_simp; try with_reducible rfl)
              refine wpAnyIn_take (i := 22) (v := ?v56) rfl rfl (by kernel_rfl) (by kernel_rfl) (by kernel_rfl) (fun _ _ _ h => h) ⟨Or.inl ⟨by rfl, ?hy56⟩, fun _ => rfl⟩ ?rest56
              case hy56 => (intro w; go_simp; try with_reducible rfl)
              refine wpAnyIn_done (by kernel_rfl) ?_ _
              gi_wp2
              go_ret
              refine .inl ⟨rfl, ?_⟩
              exact Hfin1.out _ hJ3 (hk2.trans hk3)
            · refine hK _ _ ?_
              clear hK K
              refine wpAnyIn_take (i := 21) (v := ?v57) rfl rfl (by kernel_rfl) (by kernel_rfl) (by kernel_rfl) (fun _ _ _ h => h) ⟨Or.inl ⟨by rfl, ?hy57⟩, fun _ => rfl⟩ ?rest57
              case hy57 => (intro w; go_simp; try with_reducible rfl)
              refine wpAnyIn_take (i := 22) (v := ?v58) rfl rfl (by kernel_rfl) (by kernel_rfl) (by kernel_rfl) (fun _ _ _ h => h) ⟨Or.inl ⟨by rfl, ?hy58⟩, fun _ => rfl⟩ ?rest58
              case hy58 => (intro w; go_simp; try with_reducible rfl)
              refine wpAnyIn_done (by kernel_rfl) ?_ _
              gi_wp2
              go_ret
              refine .inr ⟨rfl, ?_⟩
              exact Hfin2.out _ _ hq' hJx3
          · go_simp
            refine hK _ _ ?_
            clear hK K
            refine wpAnyIn_ready (rs := [17]) (by kernel_rfl) (by simp) ?_
            refine AllReadyIn.cons rfl (fun K hK => ?_) AllReadyIn.nil
            go_simp
            refine hK _ _ ?_
            clear hK K
            refine wpAnyIn_ready (rs := [20]) (by kernel_rfl) (by simp) ?_
            refine AllReadyIn.cons rfl (fun K hK => ?_) AllReadyIn.nil
            go_simp
            refine ⟨trivial, fun h => (by cases h), (Hih2.out _ hJ2 hk2).mono ?_⟩
            rintro e w6 (⟨rfl, hJ3, hk3⟩ | ⟨rfl, q', hq', hJx3⟩)
            · refine hK _ _ ?_
              clear hK K
              refine wpAnyIn_take (i := 21) (v := ?v59) rfl rfl (by kernel_rfl) (by kernel_rfl) (by kernel_rfl) (fun _ _ _ h => h) ⟨Or.inl ⟨by rfl, ?hy59⟩, fun _ => rfl⟩ ?rest59
              case hy59 => (intro w; go_simp; try with_reducible rfl)
              refine wpAnyIn_take (i := 22) (v := ?v60) rfl rfl (by kernel_rfl) (by kernel_rfl) (by kernel_rfl) (fun _ _ _ h => h) ⟨Or.inl ⟨by rfl, ?hy60⟩, fun _ => rfl⟩ ?rest60
              case hy60 => (intro w; go_simp; try with_reducible rfl)
              refine wpAnyIn_done (by kernel_rfl) ?_ _
              gi_wp2
              go_ret
              refine .inl ⟨rfl, ?_⟩
              exact Hfin1.out _ hJ3 (hk2.trans hk3)
            · refine hK _ _ ?_
              clear hK K
              refine wpAnyIn_take (i := 21) (v := ?v61) rfl rfl (by kernel_rfl) (by kernel_rfl) (by kernel_rfl) (fun _ _ _ h => h) ⟨Or.inl ⟨by rfl, ?hy61⟩, fun _ => rfl⟩ ?rest61
              case hy61 => (intro w; go_simp; try with_reducible rfl)
              refine wpAnyIn_take (i := 22) (v := ?v62) rfl rfl (by kernel_rfl) (by kernel_rfl) (by kernel_rfl) (fun _ _ _ h => h) ⟨Or.inl ⟨by rfl, ?hy62⟩, fun _ => rfl⟩ ?rest62
              case hy62 => (intro w; go_simp; try with_reducible rfl)
              refine wpAnyIn_done (by kernel_rfl) ?_ _
              gi_wp2
              go_ret
              refine .inr ⟨rfl, ?_⟩
              exact Hfin2.out _ _ hq' hJx3
        · refine hK _ _ ?_
          clear hK K
          refine wpAnyIn_take (i := 12) (v := ?v63) rfl rfl (by kernel_rfl) (by kernel_rfl) (by kernel_rfl) (fun _ _ _ h => h) ⟨Or.inl ⟨by rfl, ?hy63⟩, fun _ => rfl⟩ ?rest63
          case hy63 => (intro w; go_simp; try with_reducible rfl)
          refine wpAnyIn_take (i := 13) (v := ?v64) rfl rfl (by kernel_rfl) (by kernel_rfl) (by kernel_rfl) (fun _ _ _ h => h) ⟨Or.inl ⟨by rfl, ?hy64⟩, fun _ => rfl⟩ ?rest64
          case hy64 => (intro w; go_simp; try with_reducible rfl)
          refine wpAnyIn_take (i := 14) (v := undef) rfl rfl (by kernel_rfl) (by kernel_rfl) (by kernel_rfl) (fun _ _ _ h => h) ⟨Or.inr ⟨by kernel_rfl, rfl⟩, fun _ => rfl⟩ ?rest65
          refine wpAnyIn_take (i := 15) (v := undef) rfl rfl (by kernel_rfl) (by kernel_rfl) (by kernel_rfl) (fun _ _ _ h => h) ⟨Or.inr ⟨by kernel_rfl, rfl⟩, fun _ => rfl⟩ ?rest66
          refine wpAnyIn_take (i := 16) (v := undef) rfl rfl (by kernel_rfl) (by kernel_rfl) (by kernel_rfl) (fun _ _ _ h => h) ⟨Or.inr ⟨by kernel_rfl, rfl⟩, fun _ => rfl⟩ ?rest67
          refine wpAnyIn_take (i := 17) (v := undef) rfl rfl (by kernel_rfl) (by kernel_rfl) (by kernel_rfl) (fun _ _ _ h => h) ⟨Or.inr ⟨by kernel_rfl, rfl⟩, fun _ => rfl⟩ ?rest68
          refine wpAnyIn_take (i := 18) (v := undef) rfl rfl (by kernel_rfl) (by kernel_rfl) (by kernel_rfl) (fun _ _ _ h => h) ⟨Or.inr ⟨by kernel_rfl, rfl⟩, fun _ => rfl⟩ ?rest69
          refine wpAnyIn_take (i := 19) (v := undef) rfl rfl (by kernel_rfl) (by kernel_rfl) (by kernel_rfl) (fun _ _ _ h => h) ⟨Or.inr ⟨by kernel_rfl, rfl⟩, fun _ => rfl⟩ ?rest70
          refine wpAnyIn_ready (rs := [20]) (by kernel_rfl) (by simp) ?_
          refine AllReadyIn.cons rfl (fun K hK => ?_) AllReadyIn.nil
          go_simp
          first | refine ⟨trivial, ?_⟩ | refine ⟨fun _ _ => trivial, ?_⟩
          refine hK _ _ ?_
          clear hK K
          refine wpAnyIn_take (i := 21) (v := ?v71) rfl rfl (by kernel_rfl) (by kernel_rfl) (by kernel_rfl) (fun _ _ _ h => h) ⟨Or.inl ⟨by rfl, ?hy71⟩, fun _ => rfl⟩ ?rest71
          case hy71 => (intro w; go_simp; try with_reducible rfl)
          refine wpAnyIn_take (i := 22) (v := ?v72) rfl rfl (by kernel_rfl) (by kernel_rfl) (by kernel_rfl) (fun _ _ _ h => h) ⟨Or.inl ⟨by rfl, ?hy72⟩, fun _ => rfl⟩ ?rest72
          case hy72 => (intro w; go_simp; try with_reducible rfl)
          refine wpAnyIn_done (by kernel_rfl) ?_ _
          gi_wp2
          go_ret
          refine .inr ⟨rfl, ?_⟩
          exact Hfin3.out _ hJx2
      · refine hK _ _ ?_
        clear hK K
        refine wpAnyIn_take (i := 7) (v := ?v73) rfl rfl (by kernel_rfl) (by kernel_rfl) (by kernel_rfl) (fun _ _ _ h => h) ⟨Or.inl ⟨by rfl, ?hy73⟩, fun _ => rfl⟩ ?rest73
        case hy73 => (intro w; go_simp; try with_reducible rfl)
        refine wpAnyIn_take (i := 8) (v := undef) rfl rfl (by kernel_rfl) (by kernel_rfl) (by kernel_rfl) (fun _ _ _ h => h) ⟨Or.inr ⟨by kernel_rfl, rfl⟩, fun _ => rfl⟩ ?rest74
        refine wpAnyIn_take (i := 9) (v := undef) rfl rfl (by kernel_rfl) (by kernel_rfl) (by kernel_rfl) (fun _ _ _ h => h) ⟨Or.inr ⟨by kernel_rfl, rfl⟩, fun _ => rfl⟩ ?rest75
        refine wpAnyIn_take (i := 10) (v := undef) rfl rfl (by kernel_rfl) (by kernel_rfl) (by kernel_rfl) (fun _ _ _ h => h) ⟨Or.inr ⟨by kernel_rfl, rfl⟩, fun _ => rfl⟩ ?rest76
        refine wpAnyIn_ready (rs := [11]) (by kernel_rfl) (by simp) ?_
        refine AllReadyIn.cons rfl (fun K hK => ?_) AllReadyIn.nil
        go_simp
        first | refine ⟨trivial, ?_⟩ | refine ⟨fun _ _ => trivial, ?_⟩
        refine hK _ _ ?_
        clear hK K
        refine wpAnyIn_take (i := 12) (v := ?v77) rfl rfl (by kernel_rfl) (by kernel_rfl) (by kernel_rfl) (fun _ _ _ h => h) ⟨Or.inl ⟨by rfl, ?hy77⟩, fun _ => rfl⟩ ?rest77
        case hy77 => (intro w; go_simp; try with_reducible rfl)
        refine wpAnyIn_take (i := 13) (v := ?v78) rfl rfl (by kernel_rfl) (by kernel_rfl) (by kernel_rfl) (fun _ _ _ h => h) ⟨Or.inl ⟨by rfl, ?hy78⟩, fun _ => rfl⟩ ?rest78
        case hy78 => (intro w; go_simp; try with_reducible rfl)
        refine wpAnyIn_take (i := 14) (v := undef) rfl rfl (by kernel_rfl) (by kernel_rfl) (by kernel_rfl) (fun _ _ _ h => h) ⟨Or.inr ⟨by kernel_rfl, rfl⟩, fun _ => rfl⟩ ?rest79
        refine wpAnyIn_take (i := 15) (v := undef) rfl rfl (by kernel_rfl) (by kernel_rfl) (by kernel_rfl) (fun _ _ _ h => h) ⟨Or.inr ⟨by kernel_rfl, rfl⟩, fun _ => rfl⟩ ?rest80
        refine wpAnyIn_take (i := 16) (v := undef) rfl rfl (by kernel_rfl) (by kernel_rfl) (by kernel_rfl) (fun _ _ _ h => h) ⟨Or.inr ⟨by kernel_rfl, rfl⟩, fun _ => rfl⟩ ?rest81
        refine wpAnyIn_take (i := 17) (v := undef) rfl rfl (by kernel_rfl) (by kernel_rfl) (by kernel_rfl) (fun _ _ _ h => h) ⟨Or.inr ⟨by kernel_rfl, rfl⟩, fun _ => rfl⟩ ?rest82
        refine wpAnyIn_take (i := 18) (v := undef) rfl rfl (by kernel_rfl) (by kernel_rfl) (by kernel_rfl) (fun _ _ _ h => h) ⟨Or.inr ⟨by kernel_rfl, rfl⟩, fun _ => rfl⟩ ?rest83
        refine wpAnyIn_take (i := 19) (v := undef) rfl rfl (by kernel_rfl) (by kernel_rfl) (by kernel_rfl) (fun _ _ _ h => h) ⟨Or.inr ⟨by kernel_rfl, rfl⟩, fun _ => rfl⟩ ?rest84
        refine wpAnyIn_ready (rs := [20]) (by kernel_rfl) (by simp) ?_
        refine AllReadyIn.cons rfl (fun K hK => ?_) AllReadyIn.nil
        go_simp
        first | refine ⟨trivial, ?_⟩ | refine ⟨fun _ _ => trivial, ?_⟩
        refine hK _ _ ?_
        clear hK K
        refine wpAnyIn_take (i := 21) (v := ?v85) rfl rfl (by kernel_rfl) (by kernel_rfl) (by kernel_rfl) (fun _ _ _ h => h) ⟨Or.inl ⟨by rfl, ?hy85⟩, fun _ => rfl⟩ ?rest85
        case hy85 => (intro w; go_simp; try with_reducible rfl)
        refine wpAnyIn_take (i := 22) (v := ?v86) rfl rfl (by kernel_rfl) (by kernel_rfl) (by kernel_rfl) (fun _ _ _ h => h) ⟨Or.inl ⟨by rfl, ?hy86⟩, fun _ => rfl⟩ ?rest86
        case hy86 => (intro w; go_simp; try with_reducible rfl)
        refine wpAnyIn_done (by kernel_rfl) ?_ _
        gi_wp2
        go_ret
        refine .inr ⟨rfl, ?_⟩
        exact Hfin4.out _ _ hq' hJx1
end Go.Proofs.YtmdgjmmkegkonaaDoor
