/- The way down to a pane: walked. -/
import Derived.Test.YtmdgjmmkegkonaaDoorFitsW
import Derived.Test.YtmdgjmmkegkonaaDoorSrcL
import Derived.Lib.SliceRun
namespace Go.Proofs.YtmdgjmmkegkonaaDoor
open Go.RowKit Go.Sort
abbrev spotC (x : Nat × Rc) : List Value := [ptr x.1, .int .i64 x.2.x, .int .i64 x.2.y, .int .i64 x.2.w, .int .i64 x.2.h]
/-- The way down to a pane. -/
def wayP : Tr → Rc → Int → List (Nat × Rc)
  | .pane g i, r, id => if i = id then [(g, r)] else []
  | .split g a p q l r, rc, id =>
    match wayP l (cut1 a (shr (lenR rc a) p q) rc) id with
    | [] => (match wayP r (cut2 a (shr (lenR rc a) p q) rc) id with
      | [] => []
      | x :: xs => (g, rc) :: x :: xs)
    | x :: xs => (g, rc) :: x :: xs
theorem wayP_len : ∀ (t : Tr) (r : Rc) (id : Int), (wayP t r id).length ≤ t.bl.length
  | .pane g i, r, id => by
    unfold wayP
    split <;> simp [Tr.bl]
  | .split g a p q l r, rc, id => by
    have h1 := wayP_len l (cut1 a (shr (lenR rc a) p q) rc) id
    have h2 := wayP_len r (cut2 a (shr (lenR rc a) p q) rc) id
    unfold wayP
    simp only [Tr.bl, List.length_cons, List.length_append]
    split
    · split
      · simp
      · rename_i h _ _ h'
        rw [h'] at h2
        simp at h2 ⊢
        omega
    · rename_i h'
      rw [h'] at h1
      simp at h1 ⊢
      omega
def orL (x y : List (Nat × Rc)) : List (Nat × Rc) := if x = [] then y else x
theorem wayP_split (g : Nat) (a : Bool) (p q : Int) (l r : Tr) (rc : Rc) (id : Int) : wayP (.split g a p q l r) rc id =
    (if orL (wayP l (cut1 a (shr (lenR rc a) p q) rc) id) (wayP r (cut2 a (shr (lenR rc a) p q) rc) id) = [] then [] else (g, rc) :: orL (wayP l (cut1 a (shr (lenR rc a) p q) rc) id) (wayP r (cut2 a (shr (lenR rc a) p q) rc) id)) := by
  rw [wayP]
  unfold orL
  cases wayP l (cut1 a (shr (lenR rc a) p q) rc) id with
  | nil => cases wayP r (cut2 a (shr (lenR rc a) p q) rc) id <;> simp
  | cons x xs => simp
/-- A slice of spots. -/
structure Spots (w : World) (A : Option Addr) (n c : Nat) (l : List (Nat × Rc)) : Prop where
  len : n = l.length
  cap : n ≤ c
  big : c ≤ maxLen
  nl : A = none ↔ l = []
  zero : A = none → n = 0 ∧ c = 0
  src : Src w A (l.flatMap spotC)
theorem Spots.below {w w' : World} {A : Option Addr} {n c : Nat} {l : List (Nat × Rc)} (h : Spots w A n c l) (hb : Below w.heap.size w w') : Spots w' A n c l := ⟨h.len, h.cap, h.big, h.nl, h.zero, h.src.below hb⟩
theorem Spots.nil (w : World) : Spots w none 0 0 [] := ⟨rfl, Nat.le_refl _, Nat.zero_le _, by simp, fun _ => ⟨rfl, rfl⟩, fun h => by simp at h⟩
theorem own_one (w : World) (e : TypeId) (cs : Array Value) (size : Nat) (h : cs.size = size) : (w.alloc (.cells cs e)).ownsRow w.heap.size e size (.slice (some ⟨w.heap.size, 0, none⟩) 1 1) 1 cs.toList :=
  ⟨by simp [h], .inr ⟨w.heap.size, 1, cs, rfl, Nat.le_refl _, heap_alloc_new w _, Nat.le_refl _, by unfold maxLen; omega, by omega, by rw [List.take_of_length_le (by simp [h])]⟩⟩
theorem spots_len (l : List (Nat × Rc)) : (l.flatMap spotC).length = l.length * 5 := by
  induction l with
  | nil => rfl
  | cons x l ih => rw [List.flatMap_cons, List.length_append, ih]; simp; omega
theorem src_new (w : World) (cs : Array Value) (t : TypeId) : Src (w.alloc (.cells cs t)) (some ⟨w.heap.size, 0, none⟩) cs.toList := fun _ => ⟨_, rfl, fun j u hj => by
  have h := World.cell?_alloc_mark w cs t (0, 0) j
  rw [show ((⟨w.heap.size, 0, none⟩ : Addr).add j) = ⟨w.heap.size, j, none⟩ from by unfold Addr.add; split <;> simp_all]
  rw [h]
  simpa using hj⟩
theorem Spots.one (w : World) (x : Nat × Rc) : Spots (w.alloc (.cells (spotC x).toArray 74)) (some ⟨w.heap.size, 0, none⟩) 1 1 [x] :=
  ⟨rfl, Nat.le_refl _, by unfold maxLen; omega, by simp, (fun h => by cases h), src_new w (spotC x).toArray 74⟩
theorem own_slice {w : World} {B : Nat} {e : TypeId} {size n : Nat} {v : Value} {xs : List Value} (h : w.ownsRow B e size v n xs) : ∃ A c, v = .slice A n c := by
  rcases h.2 with ⟨h1, h2⟩ | ⟨g, cap, cur, h1, _⟩
  · exact ⟨none, 0, by rw [h1, h2]⟩
  · exact ⟨_, _, h1⟩
theorem Spots.of_own {w : World} {B : Nat} {e : TypeId} {A : Option Addr} {n c : Nat} {l : List (Nat × Rc)} (h : w.ownsRow B e 5 (.slice A n c) n (l.flatMap spotC)) (hl : l ≠ []) : Spots w A n c l := by
  have hn : n = l.length := by
    have h1 := h.1
    rw [spots_len] at h1
    omega
  have h0 : 0 < l.length := List.length_pos_iff.2 hl
  have hsrc := Src.of_own h
  rcases h.2 with ⟨_, h2⟩ | ⟨g, cap, cur, h1, _, _, h4, h5, _⟩
  · omega
  · injection h1 with h1 h2 h3
    subst h1
    subst h3
    exact ⟨hn, h4, h5, by simp [hl], (fun h => by cases h), hsrc⟩
set_option maxRecDepth 100000 in
set_option maxHeartbeats 4000000 in
theorem way_any (id : Int) : ∀ (t : Tr) (r : Rc) (w : World), TrAt w t → RcOk r → Nums t → fitsP t r = true → t.bl.length ≤ 1000 →
    Calls Tryd.prog 29 #[ptr t.g, r.a, .int .i64 id] w fun e w' => (∃ A n c, e = .returned (.slice A n c) ∧ Spots w' A n c (wayP t r id)) ∧ Below w.heap.size w w' := by
  obtain ⟨i0, hi, hz0, hz1, hz2⟩ := info_parts (show (Tryd.prog.info? 74).map (fun i => (i.zero, i.size, i.bytes)) = some (some (.agg #[.pointer none, .int .i64 0, .int .i64 0, .int .i64 0, .int .i64 0]), 5, 40) from by kernel_rfl)
  intro t
  induction t with
  | pane g i =>
    intro r w h hr hN hf hbl
    show Calls Tryd.prog 29 #[.pointer (some ⟨g, 0, none⟩), r.a, .int .i64 id] w _
    have h' : Blk w g 59 (paneC i) := h
    go_enter Tryd.func29, Tryd.ntmps29
    go_upto_region 2 with fail
    have hb1 := ((Below.refl w.heap.size w).alloc (Nat.le_refl _) (.cells r.v 41)).alloc (by simp) (.cells #[.pointer (some ⟨g, 0, none⟩), .int .i64 r.x, .int .i64 r.y, .int .i64 r.w, .int .i64 r.h] 74)
    have hS := Blk.new (w.alloc (.cells r.v 41)) 74 #[.pointer (some ⟨g, 0, none⟩), .int .i64 r.x, .int .i64 r.y, .int .i64 r.w, .int .i64 r.h]
    simp only [World.size_alloc] at hS
    generalize (w.alloc (.cells r.v 41)).alloc (.cells #[.pointer (some ⟨g, 0, none⟩), .int .i64 r.x, .int .i64 r.y, .int .i64 r.w, .int .i64 r.h] 74) = w1 at hb1 hS ⊢
    have hT := h.later hb1
    have hT' : Blk w1 g 59 (paneC i) := hT
    have k0 : w1.cell? ⟨g, 0, none⟩ = some (.int .i64 i) := hT'.cell 0
    have s0 := hS.cell 0
    have s1 := hS.cell 1
    have s2 := hS.cell 2
    have s3 := hS.cell 3
    have s4 := hS.cell 4
    go_wp2_with fail
    refine (pane_any (.pane g i) _ hT).mono ?_
    rintro e w1' ⟨rfl, rfl⟩
    by_cases hid : i = id
    · subst hid
      have hd2 : (i == i) = true := by simp
      go_wp2_with fail
      go_ret
      refine ⟨⟨_, 1, 1, rfl, ?_⟩, hb1.alloc hb1.size _⟩
      rw [show wayP (.pane g i) r i = [(g, r)] from by unfold wayP; rw [if_pos rfl]]
      exact Spots.one w1 (g, r)
    · have hd : decide (i = id) = false := decide_eq_false hid
      have hd2 : (i == id) = false := by simpa using hid
      go_wp2_with fail
      go_ret
      refine ⟨⟨none, 0, 0, rfl, ?_⟩, hb1⟩
      rw [show wayP (.pane g i) r id = [] from by unfold wayP; rw [if_neg hid]]
      exact Spots.nil _
  | split g a p q l r' ihl ihr =>
    intro r w h hr hN hf hbl
    obtain ⟨hp, hpq, hq, hNl, hNr⟩ := hN
    have hblL : l.bl.length ≤ 1000 := by simp [Tr.bl] at hbl; omega
    have hblR : r'.bl.length ≤ 1000 := by simp [Tr.bl] at hbl; omega
    have hwl := wayP_len (.split g a p q l r') r id
    have hn : ¬ lenR r a < 3 := fun hn => by
      unfold fitsP at hf
      rw [if_pos hn] at hf
      cases hf
    unfold fitsP at hf
    rw [if_neg hn, Bool.and_eq_true] at hf
    obtain ⟨hfl, hfr⟩ := hf
    have hsb := shr_bd (n := lenR r a) (p := p) (q := q) (by omega)
    have hr1 := cut1_ok hr a hsb.1 hsb.2
    have hr2 := cut2_ok hr a hsb.1 hsb.2
    have HW := Lib.hid (wayP_split g a p q l r' r id)
    show Calls Tryd.prog 29 #[.pointer (some ⟨g, 0, none⟩), r.a, .int .i64 id] w _
    have qS : ∀ (w : World) (A : Option Addr) (n c : Nat), (binOp .eql 71 (.slice A n c) (.slice none 0 0)).run Tryd.prog w = .ok (.bool A.isNone) w := fun w A n c => Lib.run_eql_slice_nil w _ _ A n c 0 0 Tryd.underlying71
    go_enter Tryd.func29, Tryd.ntmps29
    go_upto_region 2 with fail
    have hb1 := ((Below.refl w.heap.size w).alloc (Nat.le_refl _) (.cells r.v 41)).alloc (by simp) (.cells #[.pointer (some ⟨g, 0, none⟩), .int .i64 r.x, .int .i64 r.y, .int .i64 r.w, .int .i64 r.h] 74)
    have hS := Blk.new (w.alloc (.cells r.v 41)) 74 #[.pointer (some ⟨g, 0, none⟩), .int .i64 r.x, .int .i64 r.y, .int .i64 r.w, .int .i64 r.h]
    have hR := (Blk.new w 41 r.v).alloc (.cells #[.pointer (some ⟨g, 0, none⟩), .int .i64 r.x, .int .i64 r.y, .int .i64 r.w, .int .i64 r.h] 74)
    simp only [World.size_alloc] at hS
    generalize (w.alloc (.cells r.v 41)).alloc (.cells #[.pointer (some ⟨g, 0, none⟩), .int .i64 r.x, .int .i64 r.y, .int .i64 r.w, .int .i64 r.h] 74) = w1 at hb1 hS hR ⊢
    have hT := h.later hb1
    go_wp2_with fail
    refine (pane_any (.split g a p q l r') _ hT).mono ?_
    rintro e w1' ⟨rfl, rfl⟩
    have hcut := cut_any g a p q r w1 hT.1.lt (hT.1.cell 1) (hT.1.cell 2) (hT.1.cell 3) hr (by omega) hp hpq hq
    generalize cut1 a (shr (lenR r a) p q) r = r1 at *
    generalize cut2 a (shr (lenR r a) p q) r = r2 at *
    generalize cutM a (shr (lenR r a) p q) r = rm at *
    have c0 : w1.cell? ⟨w.heap.size, 0, none⟩ = some (.int .i64 r.x) := hR.cell 0
    have c1 : w1.cell? ⟨w.heap.size, 1, none⟩ = some (.int .i64 r.y) := hR.cell 1
    have c2 : w1.cell? ⟨w.heap.size, 2, none⟩ = some (.int .i64 r.w) := hR.cell 2
    have c3 : w1.cell? ⟨w.heap.size, 3, none⟩ = some (.int .i64 r.h) := hR.cell 3
    go_wp2_with fail
    refine hcut.mono ?_
    clear hcut c0 c1 c2 c3 hsb
    rintro e w2 ⟨rfl, hb2⟩
    have hb2' := hb1.trans (hb2.mono hb1.size)
    have hT2 := hT.later hb2
    have hS2 := hS.below hb2 hS.lt
    clear hb1 hT hS hR hb2
    go_upto_region 7 with fail
    have hb3 := (((Below.refl w2.heap.size w2).alloc (Nat.le_refl _) (.cells r1.v 41)).alloc (by simp) (.cells rm.v 41)).alloc (by simp; omega) (.cells r2.v 41)
    have hC1 := ((Blk.new w2 41 r1.v).alloc (.cells rm.v 41)).alloc (.cells r2.v 41)
    have hC2 := Blk.new ((w2.alloc (.cells r1.v 41)).alloc (.cells rm.v 41)) 41 r2.v
    simp only [World.size_alloc] at hC2
    generalize ((w2.alloc (.cells r1.v 41)).alloc (.cells rm.v 41)).alloc (.cells r2.v 41) = w3 at hb3 hC1 hC2 ⊢
    have hT3 := hT2.later hb3
    have hS3 := hS2.below hb3 hS2.lt
    have hb3' := hb2'.trans (hb3.mono hb2'.size)
    clear hb2' hT2 hb3 hS2
    go_cut [11] from 32 to 53 (fun s11 wx => ∃ A n c, s11 = .slice A n c ∧ Spots wx A n c (wayP l r1 id) ∧ Below w3.heap.size w3 wx)
    case first =>
      have k4 : w3.drew.cell? ⟨g, 4, none⟩ = some (ptr l.g) := hT3.1.cell 4
      have d0 : w3.drew.cell? ⟨w2.heap.size, 0, none⟩ = some (.int .i64 r1.x) := hC1.cell 0
      have d1 : w3.drew.cell? ⟨w2.heap.size, 1, none⟩ = some (.int .i64 r1.y) := hC1.cell 1
      have d2 : w3.drew.cell? ⟨w2.heap.size, 2, none⟩ = some (.int .i64 r1.w) := hC1.cell 2
      have d3 : w3.drew.cell? ⟨w2.heap.size, 3, none⟩ = some (.int .i64 r1.h) := hC1.cell 3
      have hTl : TrAt w3.drew l := TrAt.keep l hT3.2.1 (fun _ _ => rfl)
      have hk := ihl r1 w3.drew hTl hr1 hNl hfl hblL
      go_region_with (first
        | (go_simp; go_at_call 29; refine hk.mono ?_; rintro e w4 ⟨⟨A, n, c, rfl, hSp⟩, hb4⟩))
      all_goals
        go_wp2_with fail
        go_meet
        exact ⟨_, _, _, rfl, hSp, (Below.refl _ _).drew.trans hb4⟩
    case rest =>
    obtain ⟨A, n, c, rfl, hSp, hb4'⟩ := hcut
    generalize hw4 : wc = w4 at hSp hb4' ⊢
    clear hw4
    go_upto_if 40 with fail
    go_cut [11] from 41 to 53 (fun s11 wx => ∃ A n c, s11 = .slice A n c ∧ Spots wx A n c (orL (wayP l r1 id) (wayP r' r2 id)) ∧ Below w3.heap.size w3 wx)
    case first =>
      rcases hl : wayP l r1 id with _ | ⟨x, xs⟩
      · rw [hl] at hSp
        obtain rfl := hSp.nl.2 rfl
        have hT4 := hT3.later hb4'
        have hC4 := hC2.below hb4' hC2.lt
        go_upto_region 9 with fail
        have k5 : w4.drew.cell? ⟨g, 5, none⟩ = some (ptr r'.g) := hT4.1.cell 5
        have d0 : w4.drew.cell? ⟨w2.heap.size + 1 + 1, 0, none⟩ = some (.int .i64 r2.x) := hC4.cell 0
        have d1 : w4.drew.cell? ⟨w2.heap.size + 1 + 1, 1, none⟩ = some (.int .i64 r2.y) := hC4.cell 1
        have d2 : w4.drew.cell? ⟨w2.heap.size + 1 + 1, 2, none⟩ = some (.int .i64 r2.w) := hC4.cell 2
        have d3 : w4.drew.cell? ⟨w2.heap.size + 1 + 1, 3, none⟩ = some (.int .i64 r2.h) := hC4.cell 3
        have hTr : TrAt w4.drew r' := TrAt.keep r' hT4.2.2 (fun _ _ => rfl)
        have hk := ihr r2 w4.drew hTr hr2 hNr hfr hblR
        go_region_with (first
          | (go_simp; go_at_call 29; refine hk.mono ?_; rintro e w5 ⟨⟨A, n5, c5, rfl, hSp5⟩, hb5⟩))
        all_goals
          have hb5' := hb4'.trans (((Below.refl w4.heap.size w4).drew.trans hb5).mono hb4'.size)
          go_wp2_with fail
          go_meet
          refine ⟨_, _, _, rfl, ?_, hb5'⟩
          rw [hl]
          simpa [orL] using hSp5
      · rw [hl] at hSp
        have hA : A ≠ none := fun h => by have := hSp.nl.1 h; cases this
        obtain ⟨ad, rfl⟩ := Option.ne_none_iff_exists'.1 hA
        go_wp2_with fail
        go_meet
        refine ⟨_, _, _, rfl, ?_, hb4'⟩
        rw [hl]
        simpa [orL] using hSp
    case rest =>
    clear hSp hb4'
    obtain ⟨A, n, c, rfl, hSp, hb4⟩ := hcut
    generalize hL : orL (wayP l r1 id) (wayP r' r2 id) = L at hSp HW
    have hS4 := hS3.below hb4 hS3.lt
    have hb4' := hb3'.trans (hb4.mono hb3'.size)
    clear hb3' hb4 hS3 hT3 hC1 hC2 ihl ihr
    rcases L with _ | ⟨x, xs⟩
    · obtain rfl := hSp.nl.2 rfl
      have HW2 := HW.out
      rw [if_pos rfl] at HW2
      have HW3 := Lib.hid HW2
      clear HW HW2
      go_wp2_with fail
      go_ret
      refine ⟨⟨none, 0, 0, rfl, ?_⟩, hb4'⟩
      rw [HW3.out]
      exact Spots.nil _
    · have HW2 := HW.out
      rw [if_neg (by simp)] at HW2
      rw [HW2] at hwl
      have hwl' : xs.length + 2 ≤ 1000 := by simp at hwl; omega
      have HW3 := Lib.hid HW2
      clear HW HW2 hwl
      have hA : A ≠ none := fun h => by have := hSp.nl.1 h; cases this
      obtain ⟨ad, rfl⟩ := Option.ne_none_iff_exists'.1 hA
      obtain ⟨rfl, hcap, hbig, _, _, hsrc⟩ := hSp
      have s0 := hS4.cell 0
      have s1 := hS4.cell 1
      have s2 := hS4.cell 2
      have s3 := hS4.cell 3
      have s4 := hS4.cell 4
      have hO := own_one wc 74 #[.pointer (some ⟨g, 0, none⟩), .int .i64 r.x, .int .i64 r.y, .int .i64 r.w, .int .i64 r.h] 5 rfl
      have hlen : ((x :: xs).flatMap spotC).length = (x :: xs).length * 5 := spots_len _
      have h1 : ∀ u ∈ (x :: xs).flatMap spotC, u.oneCell' = true := fun u hu => by
        obtain ⟨y, _, hy⟩ := List.mem_flatMap.1 hu
        simp at hy
        rcases hy with rfl | rfl | rfl | rfl | rfl <;> rfl
      go_wp2_with (at_builtin; refine wpList_append_src rfl (.tmp 51) (.tmp 52) 71 rfl wc.heap.size 74 i0 (.agg #[.pointer none, .int .i64 0, .int .i64 0, .int .i64 0, .int .i64 0]) 5 40 Tryd.underlying71 hi hz0 hz1 hz2 rfl (by decide) (.slice (some ⟨wc.heap.size, 0, none⟩) 1 1) 1 _ rfl hO (some ad) (x :: xs).length c ((x :: xs).flatMap spotC) rfl hlen (hsrc.alloc _) (fun h => by cases h) h1 ?c1 ?c2 ?c3 ?_)
      case c1 => unfold maxLen; simp; omega
      case c2 => omega
      try case c3 => simp
      intro v' w6 hO6 hg6
      have hb6 := (hb4'.alloc hb4'.size (.cells #[.pointer (some ⟨g, 0, none⟩), .int .i64 r.x, .int .i64 r.y, .int .i64 r.w, .int .i64 r.h] 74)).grown hg6 (by have := hb4'.size; simp; omega) (fun q hq => by obtain rfl := Option.some.inj hq; exact hb4'.size)
      obtain ⟨A', c', rfl⟩ := own_slice hO6
      have hO7 : w6.ownsRow wc.heap.size 74 5 (.slice A' (1 + (xs.length + 1)) c') (1 + (xs.length + 1)) (((g, r) :: x :: xs).flatMap spotC) := hO6
      have hSp := Spots.of_own hO7 (by simp)
      go_wp2_with fail
      go_ret
      refine ⟨⟨_, _, _, rfl, ?_⟩, hb6⟩
      rw [HW3.out]
      exact hSp
end Go.Proofs.YtmdgjmmkegkonaaDoor
