/- CellMakes, walked. -/
import Derived.Test.YtljjklhkifehaaaCBytW
import Derived.Test.YtljjklhkifehaaaCTextW
import Derived.Deep.CutRange
namespace Go.Proofs.Ytljjklhkifehaaa
open Go.RowKit
set_option maxRecDepth 100000 in
set_option maxHeartbeats 1000000 in
theorem blank_any (w : World) : Calls Try.prog 21 #[] w fun e w' => e = .returned (cv 32 0 0 0) ∧ Below w.heap.size w w' := by
  go_enter Try.func21, Try.ntmps21
  go_wp2_with fail
  refine bodyPost_ret (v := cv 32 0 0 0) ?_ rfl ⟨rfl, ?_⟩
  · simp [results, Try.results21, go_sem]
  · exact (Below.refl _ _).alloc (Nat.le_refl _) _
set_option maxRecDepth 100000 in
set_option maxHeartbeats 1000000 in
theorem awake_cell (w : World) : Calls Try.prog 11 #[] w fun e w' => e = .returned (.bool true) ∧ Below w.heap.size w w' := by
  go_enter Try.func11, Try.ntmps11
  go_wp2_with fail
  refine (blank_any _).mono ?_
  rintro e w1 ⟨rfl, hb1⟩
  go_wp2_with fail
  have hb2 := hb1.alloc hb1.size (.cells #[.int .i32 32, .int .u8 0, .int .u8 0, .int .u8 0] 23)
  have hb3 := hb2.alloc hb2.size (.cells #[.int .i32 32, .int .u8 0, .int .u8 0, .int .u8 0, .int .i32 32, .int .u8 0, .int .u8 0, .int .u8 0, .int .i32 32, .int .u8 0, .int .u8 0, .int .u8 0] 23)
  refine (bytes_blank (w1.heap.size + 1) 3 _ (by simp) ?_).mono ?_
  · intro j v hj
    rw [blank_rows] at hj
    have h := news_all (w1.alloc (.cells #[.int .i32 32, .int .u8 0, .int .u8 0, .int .u8 0] 23)) #[.int .i32 32, .int .u8 0, .int .u8 0, .int .u8 0, .int .i32 32, .int .u8 0, .int .u8 0, .int .u8 0, .int .i32 32, .int .u8 0, .int .u8 0, .int .u8 0] 23 j v hj
    rw [World.size_alloc, show ((⟨w1.heap.size + 1, 0, none⟩ : Addr).add j) = ⟨w1.heap.size + 1, j, none⟩ from by unfold Addr.add; split <;> simp_all] at h
    exact h
  rintro e w4 ⟨rfl, hb4⟩
  have hb5 := hb3.trans (hb4.mono hb3.size)
  go_wp2_with fail
  go_ret
  exact ⟨rfl, hb5⟩
/-- The characters that are seen. -/
def seen (l : List Int) : List Int := l.filter fun r => decide (wid r ≠ 0)
theorem seen_snoc (l : List Int) (r : Int) : seen (l ++ [r]) = if wid r = 0 then seen l else seen l ++ [r] := by
  unfold seen
  rw [List.filter_append]
  by_cases h : wid r = 0 <;> simp [h]
theorem seen_len (l : List Int) : (seen l).length ≤ l.length := List.length_filter_le _ _
theorem rowc_seen (f b u : Int) (l : List Int) (r : Int) : rowc f b u (seen (l ++ [r])) = rowc f b u (seen l) ++ mkc f b u r := by
  rw [seen_snoc]
  by_cases h : wid r = 0
  · rw [if_pos h, mkc_0 f b u h, List.append_nil]
  · rw [if_neg h, rowc_append]
    simp [rowc]
theorem wsum_le : ∀ l : List Int, (l.map wid).sum ≤ 2 * l.length
  | [] => by simp
  | r :: l => by
    have h1 := wid_le r
    have h2 := wsum_le l
    simp only [List.map_cons, List.sum_cons, List.length_cons]
    omega
theorem wsum_seen (l : List Int) (r : Int) : ((seen (l ++ [r])).map wid).sum = ((seen l).map wid).sum + wid r := by
  rw [seen_snoc]
  by_cases h : wid r = 0
  · rw [if_pos h, h]
    rfl
  · rw [if_neg h]
    simp
abbrev HeldC (m : Nat) (r f b x : Int) (p : Addr) (q : Int) (w0 w : World) : Prop :=
  w.cell? ⟨m, 0, none⟩ = some (.int .i32 r) ∧ w.cell? ⟨m, 1, none⟩ = some (.int .u8 f) ∧ w.cell? ⟨m, 2, none⟩ = some (.int .u8 b) ∧ w.cell? ⟨m, 3, none⟩ = some (.int .u8 x) ∧ w.cell? p = some (.int .i32 q) ∧ Below w0.heap.size w0 w ∧ w0.heap.size ≤ w.heap.size
theorem HeldC.keep {m : Nat} {r f b x q : Int} {p : Addr} {w0 w w' : World} (h : HeldC m r f b x p q w0 w) (hb : Below w.heap.size w w') : HeldC m r f b x p q w0 w' := by
  obtain ⟨h0, h1, h2, h3, h4, hB, hS⟩ := h
  exact ⟨keepc hb h0, keepc hb h1, keepc hb h2, keepc hb h3, keepc hb h4, hB.trans (hb.mono hS), Nat.le_trans hS hb.size⟩
theorem mkc_one (f b u r : Int) : ∀ v ∈ mkc f b u r, v.oneCell' = true := fun v hv => by
  unfold mkc at hv
  split at hv
  · simp at hv
    rcases hv with rfl | rfl | rfl | rfl <;> rfl
  · split at hv
    · simp at hv
      rcases hv with rfl | rfl | rfl | rfl | rfl | rfl | rfl | rfl <;> rfl
    · cases hv
/-- Rows of two types lie apart. -/
theorem row_apart {w : World} {B : Nat} {e e' : TypeId} {size size' n n' : Nat} {v v' : Value} {xs xs' : List Value} (h : w.ownsRow B e size v n xs) (h' : w.ownsRow B e' size' v' n' xs') (hne : e ≠ e') : v.ownBlock = none ∨ v.ownBlock ≠ v'.ownBlock := by
  cases hv : v.ownBlock with
  | none => exact .inl rfl
  | some g =>
    refine .inr (fun hg' => ?_)
    rcases h.2 with ⟨h1, _⟩ | ⟨g1, cap, cur, h1, _, h3, _⟩
    · subst h1; cases hv
    · rcases h'.2 with ⟨k1, _⟩ | ⟨g2, cap', cur', k1, _, k3, _⟩
      · subst k1; cases hg'
      · subst h1
        subst k1
        injection hv with hv
        injection hg' with hg'
        have e1 : g1 = g := hv
        have e2 : g2 = g := hg'.symm
        subst e1
        subst e2
        rw [h3] at k3
        injection k3 with k3
        injection k3 with _ k3
        exact hne k3
theorem enc_dot (m : List Int) : (⟨(encL (m ++ [46])).toArray⟩ : ByteArray) = ⟨(encL m).toArray⟩ ++ ⟨#[46]⟩ := by
  rw [encL_snoc, show Lib.encodeRune 46 = [46] from by decide +kernel, show (⟨#[46]⟩ : ByteArray) = ⟨([46] : List UInt8).toArray⟩ from rfl, ba_append]
abbrev HeldR (g : Nat) (f b u r : Int) (p : Addr) (w0 w : World) : Prop :=
  w.cell? ⟨g, 0, none⟩ = some (.int .i32 r) ∧ w.cell? p = some (.int .i32 r) ∧ RowAt w g f b u [r] ∧ Below w0.heap.size w0 w ∧ w0.heap.size ≤ w.heap.size
theorem HeldR.keep {g : Nat} {f b u r : Int} {p : Addr} {w0 w w' : World} (h : HeldR g f b u r p w0 w) (hb : Below w.heap.size w w') : HeldR g f b u r p w0 w' := by
  obtain ⟨h0, h1, h2, hB, hS⟩ := h
  exact ⟨keepc hb h0, keepc hb h1, h2.below hb, hB.trans (hb.mono hS), Nat.le_trans hS hb.size⟩
theorem HeldR.row {g : Nat} {f b u r : Int} {p : Addr} {w0 w : World} (h : HeldR g f b u r p w0 w) : RowAt w g f b u [r] := h.2.2.1
theorem Src.grown {w w' : World} {row : Option Nat} {g : Nat} {us : List Value} (h : Src w (some ⟨g, 0, none⟩) us) (hg : w.grownBy w' row) (hr : some g ≠ row) : Src w' (some ⟨g, 0, none⟩) us := fun h0 => by
  obtain ⟨ad, e, hc⟩ := h h0
  injection e with e
  subst e
  refine ⟨_, rfl, fun j u hu => ?_⟩
  have h1 := hc j u hu
  have hlt := World.block_lt_of_cell? w _ h1
  rw [World.cell?_of_block (w := w) (w' := w') (hg.block _ hlt (by
    have hb : ((⟨g, 0, none⟩ : Addr).add j).block = g := block_add _ _
    rw [hb]
    exact hr))]
  exact h1
set_option maxRecDepth 100000 in
set_option maxHeartbeats 8000000 in
theorem cellMakes_walk (A : Option Addr) (n c : Nat) (l : List Int) (r0 f b a : Int) (w : World) (hn : l.length = n) (hn2 : n ≤ maxLen) (hA : Src w A (l.map rv)) (hl : ∀ r ∈ l, -2147483648 ≤ r ∧ r ≤ 2147483647) (ha0 : 0 ≤ a) (ha1 : a ≤ 255) :
    Calls Try.prog 6 #[.slice A n c, cv r0 f b a] w fun e w' => e = .returned (.bool true) ∧ Below w.heap.size w w' := by
  unfold maxLen at hn2
  subst hn
  obtain ⟨i0, hi, hz0, hz1, hz2⟩ := info_parts (show (Try.prog.info? 21).map (fun i => (i.zero, i.size, i.bytes)) = some (some (.int .i32 0), 1, 4) from by kernel_rfl)
  obtain ⟨i1, ki, kz0, kz1, kz2⟩ := info_parts (show (Try.prog.info? 23).map (fun i => (i.zero, i.size, i.bytes)) = some (some (.agg #[.int .i32 0, .int .u8 0, .int .u8 0, .int .u8 0]), 4, 8) from by kernel_rfl)
  obtain ⟨u, hu64, hau⟩ := way_pen a ha0 ha1
  have hu := way_of u hu64
  have HA := Lib.hid hau
  clear hau
  have hP := Blk.new w 23 #[.int .i32 r0, .int .u8 f, .int .u8 b, .int .u8 a]
  have hb0 := (Below.refl w.heap.size w).alloc (Nat.le_refl _) (.cells #[.int .i32 r0, .int .u8 f, .int .u8 b, .int .u8 a] 23)
  go_enter Try.func6, Try.ntmps6
  go_wp2_with fail
  refine (awake_cell _).mono ?_
  rintro e w1 ⟨rfl, hb1⟩
  have hb1' := hb0.trans (hb1.mono hb0.size)
  have hP1 := hP.below hb1 hP.lt
  clear hP hb0 hb1
  go_wp2_with fail
  go_loopw [6, 7, 8] (fun s6 s7 s8 wr => ∃ k : Nat, k ≤ 12 ∧ k ≤ l.length ∧ s8 = .int .i64 (k : Nat) ∧
    wr.ownsRow (w.heap.size + 1) 23 4 s6 ((seen (l.take k)).map wid).sum (rowc f b u (seen (l.take k))) ∧ wr.ownsRow (w.heap.size + 1) 21 1 s7 (seen (l.take k)).length ((seen (l.take k)).map rv) ∧
    Blk wr w.heap.size 23 #[.int .i32 r0, .int .u8 f, .int .u8 b, .int .u8 a] ∧ Below w.heap.size w wr ∧ w.heap.size + 1 ≤ wr.heap.size) (fun _ _ i _ => l.length - (intOf i).toNat)
  case atStart => exact ⟨0, by omega, by omega, rfl, World.ownsRow_nil _ _ _ _, World.ownsRow_nil _ _ _ _, hP1, hb1', hP1.lt⟩
  case round =>
    obtain ⟨k, hk12, hkl, rfl, hoa, hoc, hPr, hbr, hsz⟩ := hrel
    clear hP1 hb1'
    by_cases hlt : k < l.length ∧ k < 12
    · obtain ⟨hlt, hl12⟩ := hlt
      obtain ⟨r, hr⟩ : ∃ r, l[k]? = some r := ⟨_, List.getElem?_eq_getElem hlt⟩
      obtain ⟨hr0, hr1⟩ := hl r (List.mem_of_getElem? hr)
      obtain ⟨ad, rfl, hc⟩ := (hA.below (by exact hbr.mono (Nat.le_refl _) : Below w.heap.size w wr)) (by simp; omega)
      have cr : wr.cell? (ad.add k) = some (.int .i32 r) := hc k _ (by simp [hr])
      have HT := Lib.hid (take_r hr)
      clear hc hr
      obtain ⟨A6, c6, rfl⟩ := own_form hoa
      obtain ⟨A7, c7, rfl⟩ := own_form hoc
      go_upto_region 7 with fail
      have hS : HeldC w.heap.size r0 f b a (ad.add k) r wr wr.drew := ⟨hPr.cell 0, hPr.cell 1, hPr.cell 2, hPr.cell 3, cr, (Below.refl _ _).drew, Nat.le_refl _⟩
      clear cr
      go_region_held3 (fun w' => w'.cell? ⟨w.heap.size, 0, none⟩ = some (.int .i32 r0) ∧ w'.cell? ⟨w.heap.size, 1, none⟩ = some (.int .u8 f) ∧ w'.cell? ⟨w.heap.size, 2, none⟩ = some (.int .u8 b) ∧ w'.cell? ⟨w.heap.size, 3, none⟩ = some (.int .u8 a) ∧ w'.cell? (ad.add k) = some (.int .i32 r) ∧ Below wr.heap.size wr w' ∧ wr.heap.size ≤ w'.heap.size) (first | exact hS | exact hq) (first
        | (go_at_call 12; refine (make_any r r0 f b a u _ hu HA.out hr0 hr1).mono ?_; rintro e w4 ⟨⟨v, rfl, hM⟩, hb4⟩; have hq := HeldC.keep (by assumption) hb4; obtain ⟨Ax, cx, rfl, hM2⟩ := hM))
      obtain ⟨hsrc, hAx⟩ := hM2
      obtain ⟨_, _, _, _, cr, hbw, hszw⟩ := hq
      have hoa4 := hoa.kept (grown_none hbw) (by
        cases hv : (Value.slice A6 ((seen (l.take k)).map wid).sum c6).ownBlock with
        | none => exact .inl rfl
        | some g => exact .inr (by simp))
      have hoc4 := hoc.kept (grown_none hbw) (by
        cases hv : (Value.slice A7 (seen (l.take k)).length c7).ownBlock with
        | none => exact .inl rfl
        | some g => exact .inr (by simp))
      have hP4 := hPr.below hbw hPr.lt
      have HL7 := Lib.hid (fun q (h : (Value.slice A7 (seen (l.take k)).length c7).ownBlock = some q) => (hoc.lt q h).2)
      have hbr4 := hbr.trans (hbw.mono hbr.size)
      have hsz4 := Nat.le_trans hsz hszw
      have hsl := seen_len (l.take k)
      rw [List.length_take] at hsl
      have hws := wsum_le (seen (l.take k))
      have HS2 := Lib.hid (rowc_seen f b u (l.take k) r)
      have HW2 := Lib.hid (wsum_seen (l.take k) r)
      have HC2 := Lib.hid (seen_snoc (l.take k) r)
      clear hS hoa hoc hPr hbr hsz hbw hszw hb4
      generalize seen (l.take k) = sk at *
      rcases hAx with ⟨rfl, hw, rfl⟩ | ⟨g, rfl, hg1, hg2, hw0⟩
      · have HW := Lib.hid hw
        go_wp2_with fail
        refine (widthR_any r _ hr0 hr1).mono ?_
        rintro e w5 ⟨rfl, rfl⟩
        rw [hw]
        rw [show ((0 : Nat) : Int) = 0 from rfl]
        clear hw
        go_wp2_with fail
        go_quiet ((go_at_call 14; exact Calls.quiet_of_same ((right_nil _).mono fun _ _ h => ⟨h.1, h.2.symm⟩)))
        have hoa5 : (w4.drewN nq).ownsRow (w.heap.size + 1) 23 4 _ _ _ := hoa4
        have hoc5 : (w4.drewN nq).ownsRow (w.heap.size + 1) 21 1 _ _ _ := hoc4
        have hP5 := hP4.drewN nq
        have hbr5 := below_drewN hbr4 nq
        have hsz5 : w.heap.size + 1 ≤ (w4.drewN nq).heap.size := hsz4
        have hsrc5 : Src (w4.drewN nq) none (mkc f b u r) := hsrc
        clear hoa4 hoc4 hP4 hbr4 hsz4 hsrc cr
        generalize w4.drewN nq = w5 at hoa5 hoc5 hP5 hbr5 hsz5 hsrc5 ⊢
        go_wp2_with (at_builtin; refine wpList_append_src rfl (.tmp 66) (.tmp 67) 37 rfl (w.heap.size + 1) 23 i1 _ 4 8 Try.underlying37 ki kz0 kz1 kz2 rfl (by decide) _ _ _ rfl hoa5 none 0 0 (mkc f b u r) rfl (by rw [mkc_len]; rw [HW.out]) hsrc5 (fun _ => ⟨rfl, rfl⟩) (mkc_one f b u r) (by unfold maxLen; omega) (by omega) hsz5 ?_)
        intro v6 w6 ho6 hg6
        have hb6 : Below w.heap.size w w6 := hbr5.grown hg6 (by omega) (fun g hg => by have := (hoa5.lt g hg).1; omega)
        have hoc6 := hoc5.kept hg6 (row_apart hoc5 hoa5 (by decide))
        have hP6 := hP5.grown hg6 (fun e => by have := (hoa5.lt _ e.symm).1; omega)
        have hsz6 : w.heap.size + 1 ≤ w6.heap.size := Nat.le_trans hsz5 hg6.size
        clear hoa5 hoc5 hP5 hbr5 hsz5 hsrc5 hg6
        go_wp2_with fail
        go_roundw
        case rel =>
          refine ⟨k + 1, by omega, by omega, by go_num, ?_, ?_, hP6, hb6, hsz6⟩
          · rw [HT.out, HS2.out, HW2.out, HW.out]
            exact ho6
          · rw [HT.out, HC2.out, if_pos HW.out]
            exact hoc6
        case measure => simp [intOf]; omega
      · have HW0 := Lib.hid hw0
        obtain ⟨W, hW⟩ : ∃ W, W = wid r := ⟨_, rfl⟩
        have hW1 : 0 < W := by omega
        have hW2 := wid_le r
        rw [← hW] at hW2 ⊢
        have HWe := Lib.hid hW
        have hat : RowAt w4 g f b u [r] := fun j v hj => by
          obtain ⟨ad', he, hc'⟩ := hsrc (by rw [mkc_len]; omega)
          injection he with he
          subst he
          have h := hc' j v (by simpa [rowc] using hj)
          rw [show ((⟨g, 0, none⟩ : Addr).add j) = ⟨g, j, none⟩ from by unfold Addr.add; split <;> simp_all] at h
          exact h
        have x0 : w4.cell? ⟨g, 0, none⟩ = some (.int .i32 r) := by
          refine hat 0 _ ?_
          rcases wid_cases r with h | h | h
          · omega
          · simp [rowc, mkc_1 f b u h]
          · simp [rowc, mkc_2 f b u h]
        have hright := fun w' (hR : RowAt w' g f b u [r]) => right_row g W cx f b u [r] w' hu (fun q hq => by obtain rfl := List.mem_singleton.1 hq; exact ⟨HW0.out, hr0, hr1⟩) (by rw [HWe.out]; simp) (by omega) hR
        clear hW hw0
        go_wp2_with fail
        refine (widthR_any r _ hr0 hr1).mono ?_
        rintro e w5 ⟨rfl, rfl⟩
        rw [← HWe.out]
        go_wp2_with fail
        have hS : HeldR g f b u r (ad.add k) w4 w4.drew := ⟨x0, cr, hat, (Below.refl _ _).drew, Nat.le_refl _⟩
        have hd1 : decide (0 < W) = true := decide_eq_true hW1
        have hd2 : decide ((0 : Int) < (W : Int)) = true := decide_eq_true (by omega)
        have hd3 : (0 : Int) < (W : Int) := by omega
        clear x0 cr hat
        go_region_held3 (fun w' => w'.cell? ⟨g, 0, none⟩ = some (.int .i32 r) ∧ w'.cell? (ad.add k) = some (.int .i32 r) ∧ RowAt w' g f b u [r] ∧ Below w4.heap.size w4 w' ∧ w4.heap.size ≤ w'.heap.size) (first | exact hS | exact hq) (first
          | (go_at_call 14; refine (hright _ (HeldR.row (by assumption))).mono ?_; rintro e w6 ⟨rfl, hb6⟩; have hq := HeldR.keep (by assumption) hb6))
        obtain ⟨_, cr6, _, hbw6, hszw6⟩ := hq
        have hoa6 := hoa4.kept (grown_none hbw6) (by
          cases hv : (Value.slice A6 (sk.map wid).sum c6).ownBlock with
          | none => exact .inl rfl
          | some g => exact .inr (by simp))
        have hoc6 := hoc4.kept (grown_none hbw6) (by
          cases hv : (Value.slice A7 sk.length c7).ownBlock with
          | none => exact .inl rfl
          | some g => exact .inr (by simp))
        have hP6 := hP4.below hbw6 hP4.lt
        have hbr6 := hbr4.trans (hbw6.mono hbr4.size)
        have hsz6 := Nat.le_trans hsz4 hszw6
        have hsrc6 := hsrc.below hbw6
        clear hS hoa4 hoc4 hP4 hbr4 hsz4 hsrc hbw6 hszw6 hb6 hright
        go_wp2_with (at_builtin; refine wpList_append_src rfl (.tmp 59) (.tmp 64) 36 rfl (w.heap.size + 1) 21 i0 (.int .i32 0) 1 4 Try.underlying36 hi hz0 hz1 hz2 rfl (by decide) _ _ _ rfl (hoc6.alloc _) (some ⟨w6.heap.size, 0, none⟩) 1 1 [.int .i32 r] rfl rfl (news_one w6 (.int .i32 r) 21) (fun h => by cases h) (fun u hu => by obtain rfl := List.mem_singleton.1 hu; rfl) (by unfold maxLen; omega) (by omega) (Nat.le_trans hsz6 (by simp)) ?_)
        intro v7 w7 ho7 hg7
        have hA6 := (Below.refl w6.heap.size w6).alloc (Nat.le_refl _) (.cells #[.int .i32 r] 21)
        have hoa7 := (hoa6.alloc (.cells #[.int .i32 r] 21)).kept hg7 (row_apart hoa6 hoc6 (by decide))
        have hP7 := (hP6.alloc (.cells #[.int .i32 r] 21)).grown hg7 (fun e => by have := (hoc6.lt _ e.symm).1; omega)
        have hb7 : Below w.heap.size w w7 := (hbr6.alloc hbr6.size _).grown hg7 (Nat.le_trans hbr6.size (by simp)) (fun g hg => by have := (hoc6.lt g hg).1; omega)
        have hsz7 : w.heap.size + 1 ≤ w7.heap.size := Nat.le_trans hsz6 (Nat.le_trans (by simp) hg7.size)
        have hsrc7 : Src w7 (some ⟨g, 0, none⟩) (mkc f b u r) := (hsrc6.alloc (.cells #[.int .i32 r] 21)).grown hg7 (fun e => by have h7 := HL7.out _ e.symm; have h8 : wr.heap.size ≤ g := hg1; omega)
        clear hoa6 hoc6 hP6 hbr6 hsz6 hsrc6 hg7 cr6
        go_wp2_with (at_builtin; refine wpList_append_src rfl (.tmp 66) (.tmp 67) 37 rfl (w.heap.size + 1) 23 i1 _ 4 8 Try.underlying37 ki kz0 kz1 kz2 rfl (by decide) _ _ _ rfl hoa7 (some ⟨g, 0, none⟩) W cx (mkc f b u r) rfl (by rw [mkc_len, HWe.out]) hsrc7 (fun h => by cases h) (mkc_one f b u r) (by unfold maxLen; omega) (by omega) hsz7 ?_)
        intro v8 w8 ho8 hg8
        have hb8 : Below w.heap.size w w8 := hb7.grown hg8 hb7.size (fun g hg => by have := (hoa7.lt g hg).1; omega)
        have hoc8 := ho7.kept hg8 (row_apart ho7 hoa7 (by decide))
        have hP8 := hP7.grown hg8 (fun e => by have := (hoa7.lt _ e.symm).1; omega)
        have hsz8 : w.heap.size + 1 ≤ w8.heap.size := Nat.le_trans hsz7 hg8.size
        clear hoa7 ho7 hP7 hb7 hsz7 hsrc7 hg8
        go_wp2_with fail
        go_roundw
        case rel =>
          refine ⟨k + 1, by omega, by omega, by go_num, ?_, ?_, hP8, hb8, hsz8⟩
          · rw [HT.out, HS2.out, HW2.out, ← HWe.out]
            exact ho8
          · rw [HT.out, HC2.out, if_neg HW0.out]
            simpa using hoc8
        case measure => simp [intOf]; omega
    · have hkk : min l.length 12 = k := by omega
      obtain ⟨m0, hm0⟩ : ∃ m0, m0 = seen (l.take k) := ⟨_, rfl⟩
      rw [← hm0] at hoa hoc
      have hml : m0.length ≤ 12 := by
        have h := seen_len (l.take k)
        rw [List.length_take] at h
        rw [hm0]
        omega
      have hms : ∀ r ∈ m0, wid r ≠ 0 ∧ -2147483648 ≤ r ∧ r ≤ 2147483647 := fun r hr => by
        rw [hm0] at hr
        unfold seen at hr
        obtain ⟨h1, h2⟩ := List.mem_filter.1 hr
        exact ⟨by simpa using h2, hl r (List.mem_of_mem_take h1)⟩
      have hws := wsum_le m0
      clear hm0
      obtain ⟨A6, c6, rfl⟩ := own_form hoa
      obtain ⟨A7, c7, rfl⟩ := own_form hoc
      have c0 : wr.cell? ⟨w.heap.size, 0, none⟩ = some (.int .i32 r0) := hPr.cell 0
      have c1 : wr.cell? ⟨w.heap.size, 1, none⟩ = some (.int .u8 f) := hPr.cell 1
      have c2 : wr.cell? ⟨w.heap.size, 2, none⟩ = some (.int .u8 b) := hPr.cell 2
      have c3 : wr.cell? ⟨w.heap.size, 3, none⟩ = some (.int .u8 a) := hPr.cell 3
      go_wp2_with fail
      all_goals
        refine (make_any 46 r0 f b a u _ hu HA.out (by omega) (by omega)).mono ?_
        rintro e w4 ⟨⟨v, rfl, Ax, cx, rfl, hsrc, hAx⟩, hb4⟩
        have hw46 : wid 46 = 1 := by decide +kernel
        obtain ⟨g, rfl, hg1, hg2, _⟩ : ∃ g, Ax = some ⟨g, 0, none⟩ ∧ wr.heap.size ≤ g ∧ g < w4.heap.size ∧ True := by
          rcases hAx with ⟨_, h, _⟩ | ⟨g, h1, h2, h3, _⟩
          · omega
          · exact ⟨g, h1, h2, h3, trivial⟩
        rw [hw46]
        have hoa4 := hoa.kept (grown_none hb4) (by
          cases hv : (Value.slice A6 (m0.map wid).sum c6).ownBlock with
          | none => exact .inl rfl
          | some g => exact .inr (by simp))
        have hoc4 := hoc.kept (grown_none hb4) (by
          cases hv : (Value.slice A7 m0.length c7).ownBlock with
          | none => exact .inl rfl
          | some g => exact .inr (by simp))
        have hb4' := hbr.trans (hb4.mono hbr.size)
        have hsz4 := Nat.le_trans hsz hb4.size
        have hl46 : (mkc f b u 46).length = 1 * 4 := by rw [mkc_len, hw46]
        have HR2 := Lib.hid (show rowc f b u m0 ++ mkc f b u 46 = rowc f b u (m0 ++ [46]) from by rw [rowc_append]; simp [rowc])
        have HS2 := Lib.hid (show (m0.map wid).sum + 1 = ((m0 ++ [46]).map wid).sum from by simp [hw46])
        clear hoa hoc hPr hbr hsz c0 c1 c2 c3 hAx hw46
        go_wp2_with (at_builtin; refine wpList_append_src rfl (.tmp 69) (.tmp 71) 37 rfl (w.heap.size + 1) 23 i1 _ 4 8 Try.underlying37 ki kz0 kz1 kz2 rfl (by decide) _ _ _ rfl hoa4 (some ⟨g, 0, none⟩) 1 cx (mkc f b u 46) rfl hl46 hsrc (fun h => by cases h) (mkc_one f b u 46) (by unfold maxLen; omega) (by omega) hsz4 ?_)
        intro v5 w5 ho5 hg5
        have hb5 : Below w.heap.size w w5 := hb4'.grown hg5 hb4'.size (fun g hg => by have := (hoa4.lt g hg).1; omega)
        have hoc5 := hoc4.kept hg5 (row_apart hoc4 hoa4 (by decide))
        rw [HR2.out] at ho5
        obtain ⟨g5, c5, rfl, hR5⟩ : ∃ g5 c5, v5 = .slice (some ⟨g5, 0, none⟩) ((m0.map wid).sum + 1) c5 ∧ RowAt w5 g5 f b u (m0 ++ [46]) := by
          rcases ho5.2 with ⟨_, h0⟩ | ⟨g5, c5, cur, h1, _⟩
          · omega
          · subst h1
            refine ⟨g5, c5, rfl, fun j v hj => ?_⟩
            have h := ho5.cells (g := g5) rfl j v hj
            rw [show ((⟨g5, 0, none⟩ : Addr).add j) = ⟨g5, j, none⟩ from by unfold Addr.add; split <;> simp_all] at h
            exact h
        have hsrc5 := Src.of_own hoc5
        clear ho5 hoa4 hoc4 hb4' hsz4 hsrc hb4 hg5 hoc5 hl46
        have hsn : Seen (m0 ++ [46]) := fun r hr => by
          rcases List.mem_append.1 hr with h | h
          · exact hms r h
          · obtain rfl := List.mem_singleton.1 h
            exact ⟨by decide +kernel, by omega, by omega⟩
        have hvr : ∀ r ∈ m0, Vr r := fun r hr => vr_of_wid (hms r hr).1
        have HM := Lib.hid hms
        clear hms
        go_wp2_with fail
        refine (right_row g5 _ c5 f b u (m0 ++ [46]) _ hu hsn HS2.out (by omega) hR5).mono ?_
        rintro e w6 ⟨rfl, hb6⟩
        have hb6' := hb5.trans (hb6.mono hb5.size)
        have hR6 := hR5.below hb6
        have hsrc6 := hsrc5.below hb6
        clear hb5 hR5 hsrc5 hb6
        go_wp2_with fail
        refine (text_row g5 _ c5 f b u m0 46 _ hu hsn (by decide) HS2.out (by omega) hR6).mono ?_
        rintro e w7 ⟨rfl, hb7⟩
        have hb7' := hb6'.trans (hb7.mono hb6'.size)
        have hsrc7 := hsrc6.below hb7
        clear hb6' hR6 hsrc6 hb7
        have hel := encL_len m0
        rw [enc_dot]
        go_wp2_with fail
        refine (encodeR_any A7 m0.length c7 m0 _ rfl (by omega) hsrc7 hvr).mono ?_
        rintro e w8 ⟨rfl, hb8⟩
        have hb8' := hb7'.trans (hb8.mono hb7'.size)
        have hez : (⟨(encL m0).toArray⟩ : ByteArray).size ≤ 48 := Nat.le_trans hel (by omega)
        generalize (⟨(encL m0).toArray⟩ : ByteArray) = sE at hez ⊢
        clear hel hb7' hsrc7 hb8
        go_wp2_with fail
        go_ret
        exact ⟨rfl, hb8'⟩
end Go.Proofs.Ytljjklhkifehaaa
