/- slices.Clone as a row of the call's own; grid.change of one row (for DiffTells). -/
import Derived.Test.YtpjafocgabhieaaMgC
import Derived.Test.YtpjafocgabhieaaHelR
namespace Go.Proofs.Ytpjafocgabhieaa
open Go.RowKit Go.Shelf
theorem own_some {w : World} {base n : Nat} {v : Value} {xs : List Value} (h : w.ownsRow base 55 4 v n xs) (h1 : 1 ≤ n) : ∃ g c, v = .slice (some ⟨g, 0, none⟩) n c ∧ base ≤ g := by
  rcases h.2 with ⟨_, h0⟩ | ⟨g, c, cur, e, hg, _⟩
  · omega
  · exact ⟨g, c, e, hg⟩
set_option maxRecDepth 100000 in
set_option maxHeartbeats 4000000 in
theorem cloneW_gen (ad : Addr) (n c : Nat) (l : List Cl) (w : World) (h1 : 1 ≤ n) (hn : n ≤ 1000000) (hS : RowS w (some ad) n c l) :
    Calls Try.prog 45 #[.slice (some ad) n c] w fun e w' => ∃ g c', e = .returned (.slice (some ⟨g, 0, none⟩) n c') ∧ w.heap.size ≤ g ∧ RowW w' g n c' l ∧ Below w.heap.size w w' := by
  obtain ⟨i1, ki, kz0, kz1, kz2⟩ := info_parts Try.info55
  have hb2 := (Below.refl w.heap.size w).alloc (Nat.le_refl _) (.cells #[] 55)
  have hsrc : Src (w.alloc (.cells #[] 55)) (some ad) (rowV l) := (hS.below hb2).src
  have hok := hS.ok
  have Hlen := Lib.hid (show (rowV l).length = n * 4 by rw [rowV_len, hS.len])
  have Hm1 := Lib.hid (show 0 + n ≤ maxLen by unfold maxLen; omega)
  have Hm2 := Lib.hid (show (0 + n) * 8 ≤ 140737488355328 by omega)
  have hq : ∀ W, (binOp .eql 30 (.slice (some ad) n c) (.slice none 0 0)).run Try.prog W = .ok (.bool false) W := fun W => Lib.run_eql_slice_nil W _ _ (some ad) n c 0 0 Try.underlying30
  clear hS hn
  go_enter Try.func45, Try.ntmps45
  go_wp2_with (at_builtin; refine wpList_append_src rfl (.tmp 5) (.tmp 6) 30 rfl w.heap.size 55 i1 _ 4 8 Try.underlying30 ki kz0 kz1 kz2 rfl (by decide) _ 0 [] rfl (own_empty w w.heap.size _ 4 (Nat.le_refl _)) (some ad) n c (rowV l) rfl Hlen.out hsrc (fun h => by cases h) (rowV_one _) Hm1.out Hm2.out hb2.size ?_)
  intro v' w2 hown hg
  have hown' : w2.ownsRow w.heap.size 55 4 v' n (rowV l) := by simpa using hown
  obtain ⟨g, c', rfl, hgb⟩ := own_some hown' h1
  have hb3 : Below w.heap.size w w2 := hb2.grown hg hb2.size (fun q hq => by
    obtain rfl : w.heap.size = q := by simpa [Value.ownBlock] using hq
    exact Nat.le_refl _)
  go_wp2_with fail
  go_ret
  exact ⟨_, _, rfl, hgb, RowW.of_own hok hown', hb3⟩
theorem wpListIn_copy_run {F : Fence} {n : Nat} {P : Program} (w : World) {ops : Array Oper} {rest : List Oper} {o : Oper} {a : Act} {Q : Exit → Act → World → Prop} (hgd : o.guard = none) (d s : Operand) (t t' : TypeId)
    (ho : o.op = .call { callee := .builtin .copy, args := #[d, s], argTypes := #[t, t'] }) (v u : Value) (hd : a.eval d = v) (hs : a.eval s = u) {v' : Value} {w' : World}
    (hr : (Builtin.copy_ #[t, t'] o.type #[v, u]).run P w = .ok v' w') (h : wpListIn F n P ops Q rest (a.put o.dst v') w') : wpListIn F n P ops Q (o :: rest) a w := by
  refine wpListIn_plain hgd fun K hK => ?_
  unfold Oper.wpIn
  refine ⟨?_, ?_⟩
  · simp [Oper.about, ho, resolve, Target.leads, Sem.run_pure]
  · rw [Oper.semAt_plain F _ _ (by rw [ho]; intro c hc'; cases hc')]
    simp [execOp, ho, resolve, invoke, builtin, hd, hs, hr, Result.andThen]
    exact hK _ _ h
/-- A row that may be written abides what is no cells. -/
theorem rowW_own {β : Type} (B g n c : Nat) (f : β → List Cl) : OwnFrom B (fun (s : β) W => RowW W g n c (f s)) := fun s X Y row hs hg hr => by
  obtain ⟨h1, h2, h3, ⟨cs, h4⟩, h5⟩ := hs
  have h6 := blk_own (β := Unit) B g 55 (fun _ => cs) () X Y row h4 hg hr
  refine ⟨h1, h2, h3, ⟨cs, h6⟩, fun k d hd => ?_⟩
  obtain ⟨⟨q0, q1, q2, q3⟩, ok⟩ := h5 k d hd
  rw [at_add] at q0 q1 q2 q3
  have hk : ∀ j, Y.cell? ⟨g, j, none⟩ = X.cell? ⟨g, j, none⟩ := fun j => by rw [h6.cell, h4.cell]
  refine ⟨⟨?_, ?_, ?_, ?_⟩, ok⟩ <;> rw [at_add]
  · exact (hk _).trans q0
  · exact (hk _).trans q1
  · exact (hk _).trans q2
  · exact (hk _).trans q3
end Go.Proofs.Ytpjafocgabhieaa

/- grid.change of one row, as Put does it: walked (for DiffTells). -/
namespace Go.Proofs.Ytpjafocgabhieaa
open Go.RowKit Go.Shelf
attribute [local go_sem] Oper.semAt_some
theorem RowW.fit {w : World} {g n c : Nat} {l : List Cl} (h : RowW w g n c l) {cs : Array Value} (hb : Blk w g 55 cs) : n * 4 ≤ cs.size := by
  rcases Nat.eq_zero_or_pos n with h0 | h0
  · omega
  · have hl := h.len
    obtain ⟨d, hd⟩ : ∃ d, l[n - 1]? = some d := ⟨_, List.getElem?_eq_getElem (by omega)⟩
    obtain ⟨_, _, _, h3, _⟩ := h.cell hd
    rw [hb.cell] at h3
    have := (Array.getElem?_eq_some_iff.1 h3).1
    omega
theorem RowW.same {W W' : World} {g n c : Nat} {l : List Cl} (h : RowW W g n c l) (e : W'.heap[g]? = W.heap[g]?) : RowW W' g n c l := by
  obtain ⟨h1, h2, h3, ⟨cs, h4⟩, h5⟩ := h
  have h6 : Blk W' g 55 cs := e.trans h4
  refine ⟨h1, h2, h3, ⟨cs, h6⟩, fun k d hd => ?_⟩
  obtain ⟨⟨q0, q1, q2, q3⟩, ok⟩ := h5 k d hd
  rw [at_add] at q0 q1 q2 q3
  have hk : ∀ j, W'.cell? ⟨g, j, none⟩ = W.cell? ⟨g, j, none⟩ := fun j => by rw [h6.cell, h4.cell]
  refine ⟨⟨?_, ?_, ?_, ?_⟩, ok⟩ <;> rw [at_add]
  · exact (hk _).trans q0
  · exact (hk _).trans q1
  · exact (hk _).trans q2
  · exact (hk _).trans q3
theorem KpS.of_only {S : Nat → Prop} {g : Nat} {W W' : World} (h : Only g W W') (hS : ¬ S g) : KpS S W W' := ⟨h.size, fun b hb o ho => (h.block b (Array.getElem?_eq_some_iff.1 ho).1 (fun e => hS (by injection e with e; subst e; exact hb))).trans ho⟩
theorem KeepsOthers.of_only {g : Nat} {t : TypeId} {cs : Array Value} {W W' : World} (h : Only g W W') (hb : Blk W g t cs) : KeepsOthers W W' := KeepsOthers.of_grownBy h (fun j o e ho => by
  injection e with e
  subst e
  unfold Blk at hb
  rw [hb] at ho
  injection ho with ho
  subst ho
  rfl)
/-- Put's closure. -/
abbrev cloV (L R C X : Nat) : Value := .func (.func 29) #[] #[.pointer (some ⟨L, 0, none⟩), .pointer (some ⟨R, 0, none⟩), .pointer (some ⟨C, 0, none⟩), .pointer (some ⟨X, 0, none⟩)]
set_option maxRecDepth 100000 in
set_option maxHeartbeats 8000000 in
theorem change_gen (wn : Nat) (ad : Addr) (c : Nat) (l : List Cl) (L R C X px rt m cb : Nat) (adB : Addr) (lb : List Cl) (w : World) (hw1 : 1 ≤ wn) (hw2 : wn ≤ 200) (hS : RowS w (some ad) wn c l) (hB : RowS w (some adB) m cb lb) (hP : PBox w L R C X px rt px (some adB) m cb)
    (hm1 : 1 ≤ m) (hrt : rt = px + m) (hrw : rt ≤ wn) (hone : ∀ c ∈ overP l lb px m, oneC c = true) :
    Calls Try.prog 28 #[grv wn (1 : Nat) (some ad) wn c, .int .i64 0, .int .i64 1, cloV L R C X] w fun e w' => ∃ g c', e = .returned (grv wn (1 : Nat) (some ⟨g, 0, none⟩) wn c') ∧ RowS w' (some ⟨g, 0, none⟩) wn c' (overP l lb px m) ∧ w.heap.size ≤ g ∧ Below w.heap.size w w' := by
  have HS := Lib.hid hS
  have HB := Lib.hid hB
  have HP := Lib.hid hP
  have HONE := Lib.hid hone
  rw [show ((1 : Nat) : Int) = 1 from rfl]
  have hN := ((Blk.new w 32 (grA wn 1 (some ad) wn c)).alloc (.cells #[cloV L R C X] 56)).alloc (.cells (grA 0 0 none 0 0) 32)
  have hF := (Blk.new (w.alloc (.cells (grA wn 1 (some ad) wn c) 32)) 56 #[cloV L R C X]).alloc (.cells (grA 0 0 none 0 0) 32)
  have hR := Blk.new ((w.alloc (.cells (grA wn 1 (some ad) wn c) 32)).alloc (.cells #[cloV L R C X] 56)) 32 (grA 0 0 none 0 0)
  have hb0 := (((Below.refl w.heap.size w).alloc (Nat.le_refl _) (.cells (grA wn 1 (some ad) wn c) 32)).alloc (by simp) (.cells #[cloV L R C X] 56)).alloc (by simp; omega) (.cells (grA 0 0 none 0 0) 32)
  rw [World.size_alloc, World.size_alloc] at hR
  rw [World.size_alloc] at hF
  have hs0 : (((w.alloc (.cells (grA wn 1 (some ad) wn c) 32)).alloc (.cells #[cloV L R C X] 56)).alloc (.cells (grA 0 0 none 0 0) 32)).heap.size = w.heap.size + 3 := by simp
  obtain ⟨W0, hW0⟩ : ∃ W0, ((w.alloc (.cells (grA wn 1 (some ad) wn c) 32)).alloc (.cells #[cloV L R C X] 56)).alloc (.cells (grA 0 0 none 0 0) 32) = W0 := ⟨_, rfl⟩
  rw [hW0] at hN hF hR hb0 hs0
  rw [show w.heap.size + 1 + 1 = w.heap.size + 2 from rfl] at hR
  have k2 : W0.cell? ⟨w.heap.size, 2, none⟩ = some (.slice (some ad) wn c) := hN.cell 2
  have hcl := cloneW_gen ad wn c l W0 hw1 (by omega) (HS.out.below hb0)
  clear hS hB hP hone
  refine (callsIn_wide (n := 4)).1 ?_
  refine callsIn_of_wp_marks Try.func28 rfl trivial ?_ rfl
  simp only [Try.ntmps28, List.size_toArray, List.length_cons, List.length_nil, Nat.reduceAdd, Nat.reduceSub, Array.replicate_succ, Array.replicate_zero, List.push_toArray, List.append_toArray, List.nil_append, List.cons_append]
  gi_wp2
  refine ⟨trivial, (callsIn_wide.2 hcl).mono ?_⟩
  rintro e w1 ⟨g, c', rfl, hgb, hW1, hb1⟩
  have hN1 := hN.below hb1 hN.lt
  have hF1 := hF.below hb1 hF.lt
  have hR1 := hR.below hb1 hR.lt
  have hb01 := hb0.trans (hb1.mono hb0.size)
  have n0 : w1.cell? ⟨w.heap.size, 0, none⟩ = some (.int .i64 (wn : Int)) := hN1.cell 0
  have n1 : w1.cell? ⟨w.heap.size, 1, none⟩ = some (.int .i64 1) := hN1.cell 1
  have n2 : w1.cell? ⟨w.heap.size, 2, none⟩ = some (.slice (some ad) wn c) := hN1.cell 2
  have f2 := hN1.free 2
  have hg3 : w.heap.size + 3 ≤ g := by rw [← hs0]; exact hgb
  have hN2 : Blk (w1.setCell ⟨w.heap.size, 2, none⟩ (.slice (some ⟨g, 0, none⟩) wn c')) w.heap.size 32 (grA wn 1 (some ⟨g, 0, none⟩) wn c') := hN1.set 2 _
  have ho2 := only_set (only_refl w.heap.size w1) 2 (.slice (some ⟨g, 0, none⟩) wn c')
  have hF2 := hF1.grown ho2 (by simp)
  have hR2 := hR1.grown ho2 (by simp)
  have hW2 : RowW (w1.setCell ⟨w.heap.size, 2, none⟩ (.slice (some ⟨g, 0, none⟩) wn c')) g wn c' l := by
    obtain ⟨q1, q2, q3, ⟨cs, q4⟩, q5⟩ := hW1
    exact ⟨q1, q2, q3, ⟨cs, q4.grown ho2 (fun e => by injection e with e; omega)⟩, q5.far _ (by simp only; omega) _⟩
  have hb2 := hb01.setCell (p := ⟨w.heap.size, 2, none⟩) (Nat.le_refl _) (.slice (some ⟨g, 0, none⟩) wn c')
  have hs2 : w.heap.size + 3 ≤ (w1.setCell ⟨w.heap.size, 2, none⟩ (.slice (some ⟨g, 0, none⟩) wn c')).heap.size := by
    have h1 := hb1.size
    rw [hs0] at h1
    simpa [World.setCell] using h1
  have hgl : g < (w1.setCell ⟨w.heap.size, 2, none⟩ (.slice (some ⟨g, 0, none⟩) wn c')).heap.size := hW2.lt
  clear hN hF hR hb0 hs0 hW0 k2 hcl hgb hW1 hb1 hF1 hR1 hb01 hN1 ho2
  gi_wp2
  refine ⟨trivial, (callsIn_wide.2 (rows_any wn 1 (some ⟨g, 0, none⟩) wn c' _ 0 1)).mono ?_⟩
  rintro e w2 ⟨rfl, hw2e⟩
  clear n0 n1 n2 f2
  generalize w1.setCell ⟨w.heap.size, 2, none⟩ (.slice (some ⟨g, 0, none⟩) wn c') = ws at *
  have hbA := (Below.refl ws.heap.size ws).alloc (Nat.le_refl _) (.cells (grA wn 1 (some ⟨g, 0, none⟩) wn c') 32)
  have hbB := hbA.alloc (by simp) (.cells #[.int .i64 0] 3)
  have hbC := hbB.alloc (by simp; omega) (.cells #[.int .i64 1] 3)
  rw [← hw2e] at hbC
  have hG : GBox w2 ws.heap.size wn 1 ⟨g, 0, none⟩ wn c' := by
    rw [hw2e]
    refine ⟨((Blk.new ws 32 _).alloc _).alloc _, ?_, ?_⟩
    · have h := (Blk.new (ws.alloc (.cells (grA wn 1 (some ⟨g, 0, none⟩) wn c') 32)) 3 #[.int .i64 0]).alloc (.cells #[.int .i64 1] 3)
      simpa using h
    · have h := Blk.new ((ws.alloc (.cells (grA wn 1 (some ⟨g, 0, none⟩) wn c') 32)).alloc (.cells #[.int .i64 0] 3)) 3 #[.int .i64 1]
      simpa using h
  have hs3 : w2.heap.size = ws.heap.size + 3 := by
    rw [hw2e]
    simp
  have hN3 := hN2.below hbC hN2.lt
  have hF3 := hF2.below hbC hF2.lt
  have hR3 := hR2.below hbC hR2.lt
  have hW3 := hW2.below hbC
  have hb3 := hb2.trans (hbC.mono hb2.size)
  clear hw2e hbA hbB hbC hN2 hF2 hR2 hW2 hb2
  generalize ws.heap.size = K at *
  gi_wp2
  refine wpIn_rangeFunc_ownH (F := Fence.wide) rfl (by omega) (gf := 58) (lb := #[.pointer (some ⟨K + 1, 0, none⟩), .pointer (some ⟨K + 2, 0, none⟩), .pointer (some ⟨K, 0, none⟩)]) rfl trivial (enters_of Try.func58 (by kernel_rfl) rfl)
    (rows_stops 3 (by omega) (fun b => K ≤ b ∧ b < K + 3) K wn 1 ⟨g, 0, none⟩ wn c' w2 hw1 hw2 (by omega) (by omega) (hW3.cap) ⟨by omega, by omega⟩ ⟨by omega, by omega⟩ ⟨by omega, by omega⟩ hG) KpS.trans (KpS.putObj (by omega)) (Below.refl _ _) (fun _ => rfl)
    (fun (pre : List (Sub (List.range 1))) W => RowW W g wn c' (if pre.length = 0 then l else overP l lb px m) ∧ Blk W w.heap.size 32 (grA wn 1 (some ⟨g, 0, none⟩) wn c') ∧ Blk W (w.heap.size + 1) 56 #[cloV L R C X] ∧ Blk W (w.heap.size + 2) 32 (grA 0 0 none 0 0) ∧ Below w.heap.size w W ∧ K + 3 ≤ W.heap.size)
    (fun _ _ _ => False)
    (OwnFrom.and (rowW_own _ _ _ _ (fun (pre : List (Sub (List.range 1))) => if pre.length = 0 then l else overP l lb px m)) (OwnFrom.and (blk_own _ _ _ (fun _ => grA wn 1 (some ⟨g, 0, none⟩) wn c')) (OwnFrom.and (blk_own _ _ _ (fun _ => #[cloV L R C X])) (OwnFrom.and (blk_own _ _ _ (fun _ => grA 0 0 none 0 0)) (OwnFrom.and (ownFrom_below (Nat.le_refl _) (by omega)) (size_own _ _))))))
    (fun _ => ownFrom_pure _ (fun _ => False))
    ⟨hW3, hN3, hF3, hR3, hb3, by omega⟩
    (fun x a' _ => a' = { tmps := #[grv (wn : Int) 1 (some ad) wn c, .int .i64 0, .int .i64 1, cloV L R C X, .pointer (some ⟨w.heap.size, 0, none⟩), undef, undef, .pointer (some ⟨w.heap.size + 1, 0, none⟩), .pointer (some ⟨w.heap.size + 1 + 1, 0, none⟩), .int .i64 (x.1 : Nat), .slice (some ⟨g, x.1 * wn * 4, none⟩) wn wn, .pointer (some ⟨w.heap.size, 2, none⟩), .slice (some ad) wn c, .slice (some ⟨g, 0, none⟩) wn c', .pointer (some ⟨w.heap.size, 2, none⟩), .agg #[.int .i64 (wn : Int), .int .i64 1, .slice (some ⟨g, 0, none⟩) wn c'], .int .i64 0, .int .i64 1, .func (.func 58) #[] #[.pointer (some ⟨K + 1, 0, none⟩), .pointer (some ⟨K + 2, 0, none⟩), .pointer (some ⟨K, 0, none⟩)], .int .i64 (x.1 : Nat), .slice (some ⟨g, x.1 * wn * 4, none⟩) wn wn, undef, undef, undef, undef, undef, undef, undef, undef, undef], defers := [] })
    (fun x a' => ownFrom_pure _ (fun _ => a' = _))
    ?assign ?body ?done ?stop
  case assign =>
    intro l1 pre x W K' hI hK
    gi_wp2
    exact hK _ _ (KeepsFrom.refl _ _) (KpS.refl _ _) hI rfl
  case body =>
    rintro l1 pre x a' W hl ⟨r, hr⟩ ⟨hI1, hI2, hI3, hI4, hI5, hI6⟩ rfl hlt
    obtain ⟨y, hy⟩ := x
    have hy0 : y = 0 := by
      have := List.mem_range.1 hy
      omega
    subst hy0
    have hp0 : pre = [] := List.eq_nil_of_length_eq_zero (by omega)
    subst hp0
    rw [if_pos (show ([] : List (Sub (List.range 1))).length = 0 from rfl)] at hI1
    simp only [Nat.zero_mul]
    have f0 : W.cell? ⟨w.heap.size + 1, 0, none⟩ = some (cloV L R C X) := hI3.cell 0
    have hPW : PBox W L R C X px rt px (some adB) m cb := ⟨HP.out.l.below hI5 HP.out.l.lt, HP.out.r.below hI5 HP.out.r.lt, HP.out.c.below hI5 HP.out.c.lt, HP.out.x.below hI5 HP.out.x.lt⟩
    have hgB : adB.block ≠ g := by
      have := (HB.out.off (G := g) (by omega)) hm1 adB rfl
      exact this
    have hr1 := HP.out.r.lt
    have hc1 := HP.out.c.lt
    have hx1 := HP.out.x.lt
    have hdo := putDo_gen 0 g wn wn l L R C X px rt m cb adB lb W ⟨hI1.len, Nat.le_refl _, by unfold maxLen; omega, hI1.blk, hI1.row⟩ (HB.out.below hI5) hPW hrt hrw (by omega) (by omega) (by omega) (by omega) hgB
    gi_wp2
    refine ⟨trivial, (CallsIn.inRound l1 (callsIn_wide.2 hdo)).mono ?_⟩
    rintro e W1 ⟨rfl, hW1, ho1⟩
    have hmd := mendG_one ⟨g, 0, none⟩ wn wn (overP l lb px m) W1 hw1 (by omega) hW1.s HONE.out
    gi_wp2
    refine ⟨trivial, (CallsIn.inRound l1 (callsIn_wide.2 hmd)).mono ?_⟩
    rintro e W2 ⟨g2, rfl, hg2, hWm, hb2⟩
    have hW2 := hW1.below hb2
    obtain ⟨cs, hcs⟩ := hW2.blk
    have hfit := hW2.fit hcs
    have hcp := run_copy4 (dT := 30) (sT := 30) (ty := 3) W2 g wn wn ⟨g2, 0, none⟩ wn cs (overP l lb px m) Try.underlying30 hcs hW2.len hWm.row hfit
    have hW3 := RowW.laid hcs hW2.len hI1.cap hI1.cm hW2.s.ok (cs.toList.drop (wn * 4))
    have ho3 := only_setRow W2 g (rowV (overP l lb px m) ++ cs.toList.drop (wn * 4)).toArray
    gi_wp2_with (refine wpListIn_copy_run _ rfl (.tmp 25) (.tmp 27) 30 30 rfl _ _ rfl rfl hcp ?_)
    obtain ⟨cs0, hcs0⟩ := hI1.blk
    have hgw : w.heap.size ≤ g := by omega
    have hb1 : Below w.heap.size w W1 := hI5.trans (only_below ho1 hgw hI5.size)
    have hb12 := hb1.trans (hb2.mono hb1.size)
    have hb3' := hb12.trans (only_below ho3 hgw hb12.size)
    have hsz3 : K + 3 ≤ (W2.setRow g (rowV (overP l lb px m) ++ cs.toList.drop (wn * 4)).toArray).heap.size := Nat.le_trans hI6 (Nat.le_trans ho1.size (Nat.le_trans hb2.size ho3.size))
    have hn0 : ∀ i : Nat, i < 3 → some (w.heap.size + i) ≠ some g := fun i hi e => by injection e with e; omega
    refine ⟨((KeepsOthers.of_only ho1 hcs0).trans ((KeepsOthers.of_grownBy (grown_none' hb2) (fun j o e _ => by cases e)).trans (KeepsOthers.of_only ho3 hcs))).from _, (KpS.of_only ho1 (fun h => by omega)).trans ((KpS.of_below hb2 (fun b hb => by have := ho1.size; omega)).trans (KpS.of_only ho3 (fun h => by omega))), ?_, ((hI2.grown ho1 (hn0 0 (by omega))).below hb2 (Nat.lt_of_lt_of_le hI2.lt ho1.size)).grown ho3 (hn0 0 (by omega)), ((hI3.grown ho1 (hn0 1 (by omega))).below hb2 (Nat.lt_of_lt_of_le hI3.lt ho1.size)).grown ho3 (hn0 1 (by omega)), ((hI4.grown ho1 (hn0 2 (by omega))).below hb2 (Nat.lt_of_lt_of_le hI4.lt ho1.size)).grown ho3 (hn0 2 (by omega)), hb3', hsz3⟩
    exact hW3
  case done =>
    rintro D ys W hD rfl ⟨hI1, hI2, hI3, hI4, hI5, hI6⟩ hK
    rw [if_neg (show ¬ (allS (List.range 1)).length = 0 by rw [all_len, List.length_range]; omega)] at hI1
    have n0 : W.cell? ⟨w.heap.size, 0, none⟩ = some (.int .i64 (wn : Int)) := hI2.cell 0
    have n1 : W.cell? ⟨w.heap.size, 1, none⟩ = some (.int .i64 1) := hI2.cell 1
    have n2 : W.cell? ⟨w.heap.size, 2, none⟩ = some (.slice (some ⟨g, 0, none⟩) wn c') := hI2.cell 2
    have r0 : W.cell? ⟨w.heap.size + 2, 0, none⟩ = some (.int .i64 0) := hI4.cell 0
    have r1 : W.cell? ⟨w.heap.size + 2, 1, none⟩ = some (.int .i64 0) := hI4.cell 1
    have r2 : W.cell? ⟨w.heap.size + 2, 2, none⟩ = some (.slice none 0 0) := hI4.cell 2
    have f0 := hI4.free 0
    have f1 := hI4.free 1
    have f2 := hI4.free 2
    gi_wp2
    have hq := hI4.lt
    have hst := stG_blk hI4 wn 1 (some ⟨g, 0, none⟩) wn c'
    have hos := stG_only W (w.heap.size + 2) wn 1 (some ⟨g, 0, none⟩) wn c'
    have hK1 := (KeepsOthers.of_only hos hI4).same D _ hK rfl
    have hbs := stG_below hI5 (Nat.le_add_right w.heap.size 2) wn 1 (some ⟨g, 0, none⟩) wn c'
    have hgl := hI1.lt
    have hRs : RowW (stG W (w.heap.size + 2) wn 1 (some ⟨g, 0, none⟩) wn c') g wn c' (overP l lb px m) := hI1.same (hos.block g hgl (fun e => by injection e with e; omega))
    refine ⟨by simp, .inl ⟨_, _, rfl, run_takeDeferred hK1, ?_⟩⟩
    have hI7 := hst.putObj (D := D) (.deferred none) (by omega)
    have hR7 : RowW ((stG W (w.heap.size + 2) wn 1 (some ⟨g, 0, none⟩) wn c').putObj D (.deferred none)) g wn c' (overP l lb px m) := hRs.same (World.putObj_heap_other (by omega))
    have hb7 : Below w.heap.size w ((stG W (w.heap.size + 2) wn 1 (some ⟨g, 0, none⟩) wn c').putObj D (.deferred none)) := hbs.trans (belowK_b (w := w) (Nat.le_refl _) _ D _ _ (by omega) hK1 rfl rfl)
    have d0 : ((stG W (w.heap.size + 2) wn 1 (some ⟨g, 0, none⟩) wn c').putObj D (.deferred none)).cell? ⟨w.heap.size + 1 + 1, 0, none⟩ = some (.int .i64 (wn : Int)) := hI7.cell 0
    have d1 : ((stG W (w.heap.size + 2) wn 1 (some ⟨g, 0, none⟩) wn c').putObj D (.deferred none)).cell? ⟨w.heap.size + 1 + 1, 1, none⟩ = some (.int .i64 1) := hI7.cell 1
    have d2 : ((stG W (w.heap.size + 2) wn 1 (some ⟨g, 0, none⟩) wn c').putObj D (.deferred none)).cell? ⟨w.heap.size + 1 + 1, 2, none⟩ = some (.slice (some ⟨g, 0, none⟩) wn c') := hI7.cell 2
    generalize (stG W (w.heap.size + 2) wn 1 (some ⟨g, 0, none⟩) wn c').putObj D (.deferred none) = w7 at *
    refine ⟨grv wn 1 (some ⟨g, 0, none⟩) wn c', ?_, g, c', rfl, hR7.s, by omega, hb7⟩
    simp [results, Try.results28, go_sem, d0, d1, d2]
  case stop =>
    rintro D c pre W _ _ h _
    exact h.elim
end Go.Proofs.Ytpjafocgabhieaa

/- grid.Put into a grid of one row, of plain cells: walked (for DiffTells). -/
namespace Go.Proofs.Ytpjafocgabhieaa
open Go.RowKit Go.Sort
set_option maxRecDepth 100000 in
set_option maxHeartbeats 8000000 in
theorem putG_gen (wn : Nat) (ad : Addr) (c : Nat) (l : List Cl) (px rt m cb : Nat) (adB : Addr) (lb : List Cl) (w : World) (hw1 : 1 ≤ wn) (hw2 : wn ≤ 200) (hS : RowS w (some ad) wn c l) (hB : RowS w (some adB) m cb lb)
    (hgr : gridP (wn : Int) 1 l = true) (hm1 : 1 ≤ m) (hrt : rt = px + m) (hrw : rt ≤ wn) (hone : ∀ c ∈ overP l lb px m, oneC c = true) :
    Calls Try.prog 10 #[grv wn 1 (some ad) wn c, .int .i64 (px : Nat), .int .i64 0, .slice (some adB) m cb] w fun e w' => ∃ g c', e = .returned (grv wn 1 (some ⟨g, 0, none⟩) wn c') ∧ RowS w' (some ⟨g, 0, none⟩) wn c' (overP l lb px m) ∧ w.heap.size ≤ g ∧ Below w.heap.size w w' := by
  have HS := Lib.hid hS
  have HB := Lib.hid hB
  have HONE := Lib.hid hone
  have hG := (((Blk.new w 32 (grA wn 1 (some ad) wn c)).alloc (.cells #[.int .i64 (px : Nat)] 3)).alloc (.cells #[.slice (some adB) m cb] 30)).alloc (.cells (grA 0 0 none 0 0) 32)
  have hX := ((Blk.new (w.alloc (.cells (grA wn 1 (some ad) wn c) 32)) 3 #[.int .i64 (px : Nat)]).alloc (.cells #[.slice (some adB) m cb] 30)).alloc (.cells (grA 0 0 none 0 0) 32)
  have hC := (Blk.new ((w.alloc (.cells (grA wn 1 (some ad) wn c) 32)).alloc (.cells #[.int .i64 (px : Nat)] 3)) 30 #[.slice (some adB) m cb]).alloc (.cells (grA 0 0 none 0 0) 32)
  have hR := Blk.new (((w.alloc (.cells (grA wn 1 (some ad) wn c) 32)).alloc (.cells #[.int .i64 (px : Nat)] 3)).alloc (.cells #[.slice (some adB) m cb] 30)) 32 (grA 0 0 none 0 0)
  have hb0 := ((((Below.refl w.heap.size w).alloc (Nat.le_refl _) (.cells (grA wn 1 (some ad) wn c) 32)).alloc (by simp) (.cells #[.int .i64 (px : Nat)] 3)).alloc (by simp; omega) (.cells #[.slice (some adB) m cb] 30)).alloc (by simp; omega) (.cells (grA 0 0 none 0 0) 32)
  rw [World.size_alloc, World.size_alloc, World.size_alloc] at hR
  rw [World.size_alloc, World.size_alloc] at hC
  rw [World.size_alloc] at hX
  obtain ⟨W0, hW0⟩ : ∃ W0, (((w.alloc (.cells (grA wn 1 (some ad) wn c) 32)).alloc (.cells #[.int .i64 (px : Nat)] 3)).alloc (.cells #[.slice (some adB) m cb] 30)).alloc (.cells (grA 0 0 none 0 0) 32) = W0 := ⟨_, rfl⟩
  rw [hW0] at hG hX hC hR hb0
  have k0 : W0.cell? ⟨w.heap.size, 0, none⟩ = some (.int .i64 (wn : Int)) := hG.cell 0
  have k1 : W0.cell? ⟨w.heap.size, 1, none⟩ = some (.int .i64 1) := hG.cell 1
  have k2 : W0.cell? ⟨w.heap.size, 2, none⟩ = some (.slice (some ad) wn c) := hG.cell 2
  have hck := checkG_gen wn 1 (some ad) wn c l W0 (HS.out.below hb0)
  rw [hgr] at hck
  have hsp1 := fun W => span_in 0 1 1 1 W rfl (by omega) (by omega) (by omega)
  have hsp2 := fun W => span_in px m rt wn W hrt hm1 hrw (by omega)
  rw [show ((0 : Nat) : Int) = 0 from rfl, show ((1 : Nat) : Int) = 1 from rfl] at hsp1
  have HRT := Lib.hid hrt
  clear hS hB hone hgr hrt
  go_enter Try.func10, Try.ntmps10
  go_upto_region 1 with fail
  clear hW0
  go_upto_region 3 with (go_at_call 16; refine hck.mono ?_; rintro e w1 ⟨rfl, hb1⟩; have hG1 := hG.below hb1 hG.lt; have hX1 := hX.below hb1 hX.lt; have hC1 := hC.below hb1 hC.lt; have hR1 := hR.below hb1 hR.lt; have hb01 := hb0.trans (hb1.mono hb0.size))
  clear hG hX hC hR hb0 hb1 hck k0 k1 k2
  have k0 : w1.cell? ⟨w.heap.size, 0, none⟩ = some (.int .i64 (wn : Int)) := hG1.cell 0
  have k1 : w1.cell? ⟨w.heap.size, 1, none⟩ = some (.int .i64 1) := hG1.cell 1
  have k2 : w1.cell? ⟨w.heap.size, 2, none⟩ = some (.slice (some ad) wn c) := hG1.cell 2
  have x0 : w1.cell? ⟨w.heap.size + 1, 0, none⟩ = some (.int .i64 (px : Nat)) := hX1.cell 0
  have c0 : w1.cell? ⟨w.heap.size + 1 + 1, 0, none⟩ = some (.slice (some adB) m cb) := hC1.cell 0
  go_upto_region 4 with (go_at_call 27; refine (hsp1 _).mono ?_; rintro e w2 ⟨rfl, rfl⟩)
  go_upto_region 5 with (go_at_call 27; refine (hsp2 _).mono ?_; rintro e w2 ⟨rfl, rfl⟩)
  have hLb := (Blk.new w1 3 #[.int .i64 (px : Nat)]).alloc (.cells #[.int .i64 (rt : Nat)] 3)
  have hRb := Blk.new (w1.alloc (.cells #[.int .i64 (px : Nat)] 3)) 3 #[.int .i64 (rt : Nat)]
  rw [World.size_alloc] at hRb
  have hbn := ((Below.refl w1.heap.size w1).alloc (Nat.le_refl _) (.cells #[.int .i64 (px : Nat)] 3)).alloc (by simp) (.cells #[.int .i64 (rt : Nat)] 3)
  have hG2 := hG1.below hbn hG1.lt
  have hX2 := hX1.below hbn hX1.lt
  have hC2 := hC1.below hbn hC1.lt
  have hR2 := hR1.below hbn hR1.lt
  have hb2 := hb01.trans (hbn.mono hb01.size)
  clear hbn hG1 hX1 hC1 hR1 hb01 k0 k1 k2 x0 c0 hsp1 hsp2
  generalize (w1.alloc (.cells #[.int .i64 (px : Nat)] 3)).alloc (.cells #[.int .i64 (rt : Nat)] 3) = w3 at *
  have k0 : w3.cell? ⟨w.heap.size, 0, none⟩ = some (.int .i64 (wn : Int)) := hG2.cell 0
  have k1 : w3.cell? ⟨w.heap.size, 1, none⟩ = some (.int .i64 1) := hG2.cell 1
  have k2 : w3.cell? ⟨w.heap.size, 2, none⟩ = some (.slice (some ad) wn c) := hG2.cell 2
  have hch := change_gen wn ad c l w1.heap.size (w1.heap.size + 1) (w.heap.size + 1 + 1) (w.heap.size + 1) px rt m cb adB lb w3 hw1 hw2 (HS.out.below hb2) (HB.out.below hb2) ⟨hLb, hRb, hC2, hX2⟩ hm1 HRT.out hrw HONE.out
  rw [show ((1 : Nat) : Int) = 1 from rfl] at hch
  go_wp2_with (go_at_call 28; refine hch.mono ?_; rintro e w4 ⟨g, c', rfl, hR4, hg4, hb4⟩; have hr4 := hR2.below hb4 hR2.lt; have hb5 := hb2.trans (hb4.mono hb2.size); have r0 : w4.cell? ⟨w.heap.size + 1 + 1 + 1, 0, none⟩ = some (.int .i64 0) := hr4.cell 0; have r1 : w4.cell? ⟨w.heap.size + 1 + 1 + 1, 1, none⟩ = some (.int .i64 0) := hr4.cell 1; have r2 : w4.cell? ⟨w.heap.size + 1 + 1 + 1, 2, none⟩ = some (.slice none 0 0) := hr4.cell 2; have f0 := hr4.free 0; have f1 := hr4.free 1; have f2 := hr4.free 2)
  have hlt := hR2.lt
  have hsz := hb2.size
  have g3 := stG_blk hr4 wn 1 (some ⟨g, 0, none⟩) wn c'
  have hb6 := stG_below hb5 (show w.heap.size ≤ w.heap.size + 1 + 1 + 1 by omega) wn 1 (some ⟨g, 0, none⟩) wn c'
  have hR6 := stG_row (G := w.heap.size + 1 + 1 + 1) hR4 (fun _ a e => by injection e with e; subst e; simp only; omega) wn 1 (some ⟨g, 0, none⟩) wn c'
  have d0 : (stG w4 (w.heap.size + 1 + 1 + 1) wn 1 (some ⟨g, 0, none⟩) wn c').cell? ⟨w.heap.size + 1 + 1 + 1, 0, none⟩ = some (.int .i64 (wn : Int)) := g3.cell 0
  have d1 : (stG w4 (w.heap.size + 1 + 1 + 1) wn 1 (some ⟨g, 0, none⟩) wn c').cell? ⟨w.heap.size + 1 + 1 + 1, 1, none⟩ = some (.int .i64 1) := g3.cell 1
  have d2 : (stG w4 (w.heap.size + 1 + 1 + 1) wn 1 (some ⟨g, 0, none⟩) wn c').cell? ⟨w.heap.size + 1 + 1 + 1, 2, none⟩ = some (.slice (some ⟨g, 0, none⟩) wn c') := g3.cell 2
  show bodyPost _ _ _ Exit.ret _ (stG w4 (w.heap.size + 1 + 1 + 1) wn 1 (some ⟨g, 0, none⟩) wn c')
  generalize stG w4 (w.heap.size + 1 + 1 + 1) wn 1 (some ⟨g, 0, none⟩) wn c' = w6 at *
  refine bodyPost_ret (v := grv wn 1 (some ⟨g, 0, none⟩) wn c') ?_ rfl ⟨g, c', rfl, hR6, by omega, hb6⟩
  simp [results, Try.results10, go_sem, d0, d1, d2]
end Go.Proofs.Ytpjafocgabhieaa

/- bits.Mul of 1 and 3, slices.Repeat of a blank three times, grid.New of 3 by 1: walked (for DiffTells). -/
namespace Go.Proofs.Ytpjafocgabhieaa
open Go.RowKit Go.Sort
set_option maxRecDepth 100000 in
set_option maxHeartbeats 4000000 in
theorem mul64_13 (w : World) : Calls Try.prog 76 #[.int .u64 1, .int .u64 3] w fun e w' => e = .returned (.tuple #[.int .u64 0, .int .u64 3]) ∧ w = w' := by
  go_enter Try.func76, Try.ntmps76
  go_wp2_with fail
  refine bodyPost_ret (v := .tuple #[.int .u64 0, .int .u64 3]) ?_ rfl ⟨rfl, rfl⟩
  simp [results, Try.results76, go_sem]
  rfl
set_option maxRecDepth 100000 in
set_option maxHeartbeats 4000000 in
theorem mul_13 (w : World) : Calls Try.prog 68 #[.int .u64 1, .int .u64 3] w fun e w' => e = .returned (.tuple #[.int .u64 0, .int .u64 3]) ∧ w = w' := by
  go_enter Try.func68, Try.ntmps68
  go_wp2_with (go_at_call 76; refine (mul64_13 _).mono ?_; rintro e w2 ⟨rfl, rfl⟩)
  refine bodyPost_ret (v := .tuple #[.int .u64 0, .int .u64 3]) ?_ rfl ⟨rfl, rfl⟩
  simp [results, Try.results68, go_sem]
def zeroC : Cl := ⟨0, 0, 0, 0⟩
/-- A row of three that is being filled: k blanks. -/
def fillA (k : Nat) : List Cl := List.replicate k blankC ++ List.replicate (3 - k) zeroC
theorem fillA_len {k : Nat} (h : k ≤ 3) : (fillA k).length = 3 := by
  unfold fillA
  rw [List.length_append, List.length_replicate, List.length_replicate]
  omega
theorem blank_ok : OkC blankC := ⟨by decide, by decide, by decide, by decide, by decide⟩
theorem zero_ok : OkC zeroC := ⟨by decide, by decide, by decide, by decide, by decide⟩
theorem fillA_ok (k : Nat) : OkL (fillA k) := fun c hc => by
  rcases List.mem_append.1 hc with h | h
  · rw [List.eq_of_mem_replicate h]
    exact blank_ok
  · rw [List.eq_of_mem_replicate h]
    exact zero_ok
theorem step_copy_run {P : Program} {ops : Array Oper} {o : Oper} {a : Act} {w : World} {K : Act → World → Prop} {Q : Exit → Act → World → Prop} {E : Prop} (hgd : o.guard = none) (d s : Operand) (t t' : TypeId)
    (ho : o.op = .call { callee := .builtin .copy, args := #[d, s], argTypes := #[t, t'] }) (v u : Value) (hd : a.eval d = v) (hs : a.eval s = u) {v' : Value} {w' : World}
    (hr : (Builtin.copy_ #[t, t'] o.type #[v, u]).run P w = .ok v' w') (h : K (a.put o.dst v') w') :
    if Region.wanted o (yielded ops a.tmps) = true then Oper.wp P o a w K Q else E := by
  have hw : Region.wanted o (yielded ops a.tmps) = true := by simp [Region.wanted, hgd]
  rw [if_pos hw]
  exact Lib.wp_copy_run w d s t t' ho v u hd hs hr h
/-- Block g is three cells, k of them blanks. -/
def Fil (w : World) (g k : Nat) : Prop := Blk w g 55 (rowV (fillA k)).toArray
theorem Fil.cels {w : World} {g k : Nat} (h : Fil w g k) : Cels w ⟨g, 0, none⟩ (fillA k) := Cels.of_src (fillA_ok k) fun j u hj => by
  rw [at_add, Blk.cell h]
  simpa using hj
theorem made12 : (madeCells (Value.agg #[.int .i32 0, .int .u8 0, .int .u8 0, .int .u8 0]).cells (3 * 4)).toList = (rowV (fillA 0)).toArray.toList := by
  simp [madeCells, Value.cells, rowV, fillA, zeroC, List.range_succ, cvs]
theorem fil_first {w : World} {g k : Nat} (h : Fil w g k) (hk : 1 ≤ k) : Cels w ⟨g, 0, none⟩ [blankC] := fun i d hd => by
  obtain rfl : i = 0 := by
    have := (List.getElem?_eq_some_iff.1 hd).1
    simp at this
    omega
  refine h.cels 0 d ?_
  obtain ⟨j, rfl⟩ : ∃ j, k = j + 1 := ⟨k - 1, by omega⟩
  unfold fillA
  rw [List.replicate_succ, List.cons_append]
  exact hd
/-- A copy of blanks behind blanks. -/
theorem fil_copy {dT sT ty : TypeId} {w : World} {g k : Nat} (h : Fil w g k) (hu : Try.prog.underlying dT = some (.slice 55)) (a : Addr) (dLen dCap sLen sCap : Nat) (hm : Nat.min sLen dLen = 1) (hk : k < 3) (hC : Cels w a [blankC]) :
    ∃ w', (Builtin.copy_ #[dT, sT] ty #[.slice (some ⟨g, k * 4, none⟩) dLen dCap, .slice (some a) sLen sCap]).run Try.prog w = .ok (.int .i64 1) w' ∧ Fil w' g (k + 1) ∧ Only g w w' := by
  have hsz : (rowV (fillA k)).toArray.size = 12 := by
    rw [List.size_toArray, rowV_len, fillA_len (by omega)]
  have hr := run_copy4g (dT := dT) (sT := sT) (ty := ty) w g (k * 4) dLen dCap a sLen sCap _ [blankC] hu h (by rw [hm]; rfl) hC (by rw [hsz]; simp; omega)
  have e : ((rowV (fillA k)).toArray.toList.take (k * 4) ++ rowV [blankC] ++ (rowV (fillA k)).toArray.toList.drop (k * 4 + [blankC].length * 4)) = rowV (fillA (k + 1)) := by
    rcases (show k = 0 ∨ k = 1 ∨ k = 2 by omega) with rfl | rfl | rfl <;> rfl
  rw [e] at hr
  exact ⟨_, hr, setRow_heap w g _ _ _ _ h, only_setRow _ _ _⟩
set_option maxRecDepth 100000 in
set_option maxHeartbeats 8000000 in
theorem repeat_13 (a : Addr) (cp : Nat) (w : World) (hC : Cels w a [blankC]) :
    Calls Try.prog 52 #[.slice (some a) 1 cp, .int .i64 3] w fun e w' => ∃ g, e = .returned (.slice (some ⟨g, 0, none⟩) 3 3) ∧ w.heap.size ≤ g ∧ RowW w' g 3 3 (blanks 3) ∧ Below w.heap.size w w' := by
  obtain ⟨i1, ki, kz0, kz1, kz2⟩ := info_parts Try.info55
  have H1 := Lib.hid (show i1.bytes * 3 ≤ 281474976710656 by rw [kz2]; omega)
  have H2 := Lib.hid (show 3 ≤ maxLen by unfold maxLen; omega)
  go_enter Try.func52, Try.ntmps52
  go_upto_region 4 with (go_at_call 68; refine (mul_13 _).mono ?_; rintro e w2 ⟨rfl, rfl⟩)
  go_upto_region 7 with (at_make; refine wpList_make_full _ rfl (.tmp 29) (.tmp 29) 30 rfl w.heap.size 55 i1 _ 4 Try.underlying30 ki kz0 kz1 .i64 .i64 3 3 3 (by rfl) (by rfl) rfl rfl H1.out H2.out (Nat.le_refl _) ?_; intro w1 hO1 hg1)
  have hb1 : Below w.heap.size w w1 := (Below.refl _ _).grown hg1 (Nat.le_refl _) (fun q e => by cases e)
  have hF1 : Fil w1 w.heap.size 0 := by
    rcases hO1.2 with ⟨e, _⟩ | ⟨g, cap, cur, e, _, hb, _, _, hs, ht⟩
    · cases e
    · injection e with e1 _ e3
      injection e1 with e1
      injection e1 with e1
      subst e1 e3
      rw [List.take_of_length_le (by rw [Array.length_toList, hs]; exact Nat.le_refl _)] at ht
      have hc : cur = (rowV (fillA 0)).toArray := by
        apply Array.ext'
        rw [ht]
        exact made12
      rw [hc] at hb
      exact hb
  obtain ⟨w2, hcp, hF2, ho2⟩ := fil_copy (dT := 30) (sT := 30) (ty := 3) hF1 Try.underlying30 a 3 3 1 cp rfl (by omega) (hC.below hb1)
  have hb2 := hb1.trans (only_below ho2 (Nat.le_refl _) hb1.size)
  rw [Nat.zero_mul] at hcp
  rw [Nat.zero_add] at hF2
  clear hO1 hg1 hF1
  go_wp2_with (at_builtin; refine Lib.wpList_copy_run _ rfl (.tmp 31) (.tmp 32) 30 30 rfl _ _ rfl rfl hcp ?_)
  go_loopw [8] (fun s8 wr => ∃ k : Nat, 1 ≤ k ∧ k ≤ 3 ∧ s8 = .int .i64 (k : Nat) ∧ Fil wr w.heap.size k ∧ Below w.heap.size w wr) (fun s8 _ => 3 - (intOf s8).toNat)
  case atStart => exact ⟨1, by omega, by omega, rfl, hF2, hb2⟩
  case round =>
    clear hF2 hb2 hcp ho2
    obtain ⟨k, h1, hk, rfl, hF, hb⟩ := hrel
    rcases (show k = 1 ∨ k = 2 ∨ k = 3 by omega) with rfl | rfl | rfl
    · obtain ⟨w3, hcp, hF3, ho3⟩ := fil_copy (dT := 30) (sT := 30) (ty := 3) (w := wr.drew) (k := 1) (show Fil wr.drew w.heap.size 1 from hF) Try.underlying30 ⟨w.heap.size, 0, none⟩ 2 2 1 3 rfl (by omega) (fil_first (show Fil wr.drew w.heap.size 1 from hF) (by omega))
      have hb3 := hb.drew.trans (only_below ho3 (Nat.le_refl _) hb.size)
      rw [show ((1 : Nat) : Int) = 1 from rfl]
      go_upto_region 9 with fail
      go_region_held3 (fun _ => True) (exact True.intro) (first | (refine step_copy_run rfl (.tmp 41) (.tmp 44) 30 30 rfl (.slice (some ⟨w.heap.size, 1 * 4, none⟩) 2 2) (.slice (some ⟨w.heap.size, 0, none⟩) 1 3) (by rfl) (by rfl) hcp ?_))
      rw [show IntKind.i64.wrap 2 = 2 from rfl]
      go_wp2_with fail
      go_roundw
      case rel => exact ⟨2, by omega, by omega, rfl, hF3, hb3⟩
      case measure => decide
    · obtain ⟨w3, hcp, hF3, ho3⟩ := fil_copy (dT := 30) (sT := 30) (ty := 3) (w := wr.drew) (k := 2) (show Fil wr.drew w.heap.size 2 from hF) Try.underlying30 ⟨w.heap.size, 0, none⟩ 1 1 2 3 rfl (by omega) (fil_first (show Fil wr.drew w.heap.size 2 from hF) (by omega))
      have hb3 := hb.drew.trans (only_below ho3 (Nat.le_refl _) hb.size)
      rw [show ((2 : Nat) : Int) = 2 from rfl]
      go_upto_region 9 with fail
      go_region_held3 (fun _ => True) (exact True.intro) (first | (refine step_copy_run rfl (.tmp 41) (.tmp 44) 30 30 rfl (.slice (some ⟨w.heap.size, 2 * 4, none⟩) 1 1) (.slice (some ⟨w.heap.size, 0, none⟩) 2 3) (by rfl) (by rfl) hcp ?_))
      rw [show IntKind.i64.wrap 3 = 3 from rfl]
      go_wp2_with fail
      go_roundw
      case rel => exact ⟨3, by omega, by omega, rfl, hF3, hb3⟩
      case measure => decide
    · rw [show ((3 : Nat) : Int) = 3 from rfl]
      go_wp2_with fail
      go_ret
      exact ⟨_, rfl, Nat.le_refl _, ⟨rfl, Nat.le_refl _, H2.out, ⟨_, hF⟩, hF.cels⟩, hb⟩
set_option maxRecDepth 100000 in
set_option maxHeartbeats 2000000 in
theorem blankG_gen (w : World) : Calls Try.prog 32 #[] w fun e w' => e = .returned (.agg blankC.a) ∧ Below w.heap.size w w' := by
  go_enter Try.func32, Try.ntmps32
  go_wp2_with fail
  refine bodyPost_ret (v := .agg blankC.a) ?_ rfl ⟨rfl, (Below.refl _ _).alloc (Nat.le_refl _) _⟩
  have h := (Blk.new w 55 #[.int .i32 32, .int .u8 0, .int .u8 0, .int .u8 0])
  have c0 : (w.alloc (.cells #[.int .i32 32, .int .u8 0, .int .u8 0, .int .u8 0] 55)).cell? ⟨w.heap.size, 0, none⟩ = some (.int .i32 32) := h.cell 0
  have c1 : (w.alloc (.cells #[.int .i32 32, .int .u8 0, .int .u8 0, .int .u8 0] 55)).cell? ⟨w.heap.size, 1, none⟩ = some (.int .u8 0) := h.cell 1
  have c2 : (w.alloc (.cells #[.int .i32 32, .int .u8 0, .int .u8 0, .int .u8 0] 55)).cell? ⟨w.heap.size, 2, none⟩ = some (.int .u8 0) := h.cell 2
  have c3 : (w.alloc (.cells #[.int .i32 32, .int .u8 0, .int .u8 0, .int .u8 0] 55)).cell? ⟨w.heap.size, 3, none⟩ = some (.int .u8 0) := h.cell 3
  simp [results, Try.results32, go_sem, c0, c1, c2, c3]
  exact ⟨rfl, rfl, rfl, rfl⟩
/-- What a fresh grid's call answers. -/
abbrev NewG (w w' : World) (e : Ending) : Prop := ∃ g, e = .returned (grv 3 1 (some ⟨g, 0, none⟩) 3 3) ∧ w.heap.size ≤ g ∧ RowS w' (some ⟨g, 0, none⟩) 3 3 (blanks 3) ∧ Below w.heap.size w w'
set_option maxRecDepth 100000 in
set_option maxHeartbeats 4000000 in
theorem filled_31 (w : World) : Calls Try.prog 31 #[.int .i64 3, .int .i64 1, .agg blankC.a] w fun e w' => NewG w w' e := by
  have hC := (Blk.new w 55 blankC.a).alloc (.cells (grA 0 0 none 0 0) 32)
  have hR := Blk.new (w.alloc (.cells blankC.a 55)) 32 (grA 0 0 none 0 0)
  have hb0 := ((Below.refl w.heap.size w).alloc (Nat.le_refl _) (.cells blankC.a 55)).alloc (by simp) (.cells (grA 0 0 none 0 0) 32)
  rw [World.size_alloc] at hR
  obtain ⟨W0, hW0⟩ : ∃ W0, (w.alloc (.cells blankC.a 55)).alloc (.cells (grA 0 0 none 0 0) 32) = W0 := ⟨_, rfl⟩
  rw [hW0] at hC hR hb0
  have k0 : W0.cell? ⟨w.heap.size, 0, none⟩ = some (.int .i32 blankC.r) := hC.cell 0
  have k1 : W0.cell? ⟨w.heap.size, 1, none⟩ = some (.int .u8 (blankC.f : Int)) := hC.cell 1
  have k2 : W0.cell? ⟨w.heap.size, 2, none⟩ = some (.int .u8 (blankC.b : Int)) := hC.cell 2
  have k3 : W0.cell? ⟨w.heap.size, 3, none⟩ = some (.int .u8 (blankC.x : Int)) := hC.cell 3
  go_enter Try.func31, Try.ntmps31
  go_upto_region 1 with fail
  clear hW0
  have hbn := (Below.refl W0.heap.size W0).alloc (Nat.le_refl _) (.cells #[.int .i32 blankC.r, .int .u8 (blankC.f : Int), .int .u8 (blankC.b : Int), .int .u8 (blankC.x : Int)] 55)
  have hR1 := hR.below hbn hR.lt
  have hb1 := hb0.trans (hbn.mono hb0.size)
  have hrp := repeat_13 ⟨W0.heap.size, 0, none⟩ 1 (W0.alloc (.cells #[.int .i32 blankC.r, .int .u8 (blankC.f : Int), .int .u8 (blankC.b : Int), .int .u8 (blankC.x : Int)] 55)) (Cels.of_src (fun x hx => by rw [List.mem_singleton.1 hx]; exact blank_ok) (news_all W0 _ _))
  go_wp2_with (go_at_call 52; refine hrp.mono ?_; rintro e w4 ⟨g, rfl, hg, hW4, hb4⟩; have hr4 := hR1.below hb4 hR1.lt; have hb5 := hb1.trans (hb4.mono hb1.size); have r0 : w4.cell? ⟨w.heap.size + 1, 0, none⟩ = some (.int .i64 0) := hr4.cell 0; have r1 : w4.cell? ⟨w.heap.size + 1, 1, none⟩ = some (.int .i64 0) := hr4.cell 1; have r2 : w4.cell? ⟨w.heap.size + 1, 2, none⟩ = some (.slice none 0 0) := hr4.cell 2; have f0 := hr4.free 0; have f1 := hr4.free 1; have f2 := hr4.free 2)
  have hlt := hR1.lt
  have hsz := hb1.size
  have g3 := stG_blk hr4 3 1 (some ⟨g, 0, none⟩) 3 3
  have hb6 := stG_below hb5 (Nat.le_succ w.heap.size) 3 1 (some ⟨g, 0, none⟩) 3 3
  have hR6 := stG_row (G := w.heap.size + 1) hW4.s (fun _ a e => by injection e with e; subst e; simp only; omega) 3 1 (some ⟨g, 0, none⟩) 3 3
  have d0 : (stG w4 (w.heap.size + 1) 3 1 (some ⟨g, 0, none⟩) 3 3).cell? ⟨w.heap.size + 1, 0, none⟩ = some (.int .i64 3) := g3.cell 0
  have d1 : (stG w4 (w.heap.size + 1) 3 1 (some ⟨g, 0, none⟩) 3 3).cell? ⟨w.heap.size + 1, 1, none⟩ = some (.int .i64 1) := g3.cell 1
  have d2 : (stG w4 (w.heap.size + 1) 3 1 (some ⟨g, 0, none⟩) 3 3).cell? ⟨w.heap.size + 1, 2, none⟩ = some (.slice (some ⟨g, 0, none⟩) 3 3) := g3.cell 2
  show bodyPost _ _ _ Exit.ret _ (stG w4 (w.heap.size + 1) 3 1 (some ⟨g, 0, none⟩) 3 3)
  generalize stG w4 (w.heap.size + 1) 3 1 (some ⟨g, 0, none⟩) 3 3 = w6 at *
  refine bodyPost_ret (v := grv 3 1 (some ⟨g, 0, none⟩) 3 3) ?_ rfl ⟨g, rfl, by omega, hR6, hb6⟩
  simp [results, Try.results31, go_sem, d0, d1, d2]
set_option maxRecDepth 100000 in
set_option maxHeartbeats 4000000 in
theorem newG_31 (w : World) : Calls Try.prog 11 #[.int .i64 3, .int .i64 1] w fun e w' => NewG w w' e := by
  have hR := Blk.new w 32 (grA 0 0 none 0 0)
  have hb0 := (Below.refl w.heap.size w).alloc (Nat.le_refl _) (.cells (grA 0 0 none 0 0) 32)
  obtain ⟨W0, hW0⟩ : ∃ W0, w.alloc (.cells (grA 0 0 none 0 0) 32) = W0 := ⟨_, rfl⟩
  rw [hW0] at hR hb0
  have hft := fits_any 3 1 W0
  rw [show sizeP 3 1 = true from rfl] at hft
  go_enter Try.func11, Try.ntmps11
  go_wp2_with (first
    | (go_at_call 30; refine hft.mono ?_; rintro e w1 ⟨rfl, rfl⟩)
    | (go_at_call 32; refine (blankG_gen _).mono ?_; rintro e w2 ⟨rfl, hb2⟩; have hR2 := hR.below hb2 hR.lt; have hb02 := hb0.trans (hb2.mono hb0.size))
    | (go_at_call 31; refine (filled_31 _).mono ?_; rintro e w4 ⟨g, rfl, hg, hW4, hb4⟩; have hr4 := hR2.below hb4 hR2.lt; have hb5 := hb02.trans (hb4.mono hb02.size); have r0 : w4.cell? ⟨w.heap.size, 0, none⟩ = some (.int .i64 0) := hr4.cell 0; have r1 : w4.cell? ⟨w.heap.size, 1, none⟩ = some (.int .i64 0) := hr4.cell 1; have r2 : w4.cell? ⟨w.heap.size, 2, none⟩ = some (.slice none 0 0) := hr4.cell 2; have f0 := hr4.free 0; have f1 := hr4.free 1; have f2 := hr4.free 2))
  have hlt := hR2.lt
  have hsz := hb02.size
  have g3 := stG_blk hr4 3 1 (some ⟨g, 0, none⟩) 3 3
  have hb6 := stG_below hb5 (Nat.le_refl w.heap.size) 3 1 (some ⟨g, 0, none⟩) 3 3
  have hR6 := stG_row (G := w.heap.size) hW4 (fun _ a e => by injection e with e; subst e; simp only; omega) 3 1 (some ⟨g, 0, none⟩) 3 3
  have d0 : (stG w4 w.heap.size 3 1 (some ⟨g, 0, none⟩) 3 3).cell? ⟨w.heap.size, 0, none⟩ = some (.int .i64 3) := g3.cell 0
  have d1 : (stG w4 w.heap.size 3 1 (some ⟨g, 0, none⟩) 3 3).cell? ⟨w.heap.size, 1, none⟩ = some (.int .i64 1) := g3.cell 1
  have d2 : (stG w4 w.heap.size 3 1 (some ⟨g, 0, none⟩) 3 3).cell? ⟨w.heap.size, 2, none⟩ = some (.slice (some ⟨g, 0, none⟩) 3 3) := g3.cell 2
  show bodyPost _ _ _ Exit.ret _ (stG w4 w.heap.size 3 1 (some ⟨g, 0, none⟩) 3 3)
  generalize stG w4 w.heap.size 3 1 (some ⟨g, 0, none⟩) 3 3 = w6 at *
  refine bodyPost_ret (v := grv 3 1 (some ⟨g, 0, none⟩) 3 3) ?_ rfl ⟨g, rfl, by omega, hR6, hb6⟩
  simp [results, Try.results11, go_sem, d0, d1, d2]
end Go.Proofs.Ytpjafocgabhieaa
