/- diff.runs (a range over a function): the iterator's contract (for DiffTells). -/
import Derived.Test.YtpjafocgabhieaaDRnL
namespace Go.Proofs.Ytpjafocgabhieaa
open Go.RowKit Go.Shelf
attribute [local go_sem] Oper.semAt_some
theorem drop_cons {T : Type} {L R : List T} {j : Nat} {x : T} (h : L.drop j = x :: R) : L[j]? = some x ∧ L.drop (j + 1) = R := by
  have h1 : (L.drop j)[0]? = some x := by rw [h]; rfl
  rw [List.getElem?_drop, Nat.add_zero] at h1
  refine ⟨h1, ?_⟩
  rw [← List.drop_drop, h]
  rfl
abbrev HeldD (Ba Bb wn hn n ca cb : Nat) (aa ab : Addr) (w0 w : World) : Prop :=
  w.cell? ⟨Ba, 0, none⟩ = some (.int .i64 (wn : Int)) ∧ w.cell? ⟨Ba, 1, none⟩ = some (.int .i64 (hn : Int)) ∧ w.cell? ⟨Ba, 2, none⟩ = some (.slice (some aa) n ca) ∧
  w.cell? ⟨Bb, 0, none⟩ = some (.int .i64 (wn : Int)) ∧ w.cell? ⟨Bb, 1, none⟩ = some (.int .i64 (hn : Int)) ∧ w.cell? ⟨Bb, 2, none⟩ = some (.slice (some ab) n cb) ∧ Below w0.heap.size w0 w ∧ w0.heap.size ≤ w.heap.size
theorem HeldD.keep {Ba Bb wn hn n ca cb : Nat} {aa ab : Addr} {w0 w w' : World} (h : HeldD Ba Bb wn hn n ca cb aa ab w0 w) (hb : Below w.heap.size w w') : HeldD Ba Bb wn hn n ca cb aa ab w0 w' := by
  obtain ⟨h0, h1, h2, h3, h4, h5, hB, hS⟩ := h
  exact ⟨keepc hb h0, keepc hb h1, keepc hb h2, keepc hb h3, keepc hb h4, keepc hb h5, hB.trans (hb.mono hS), Nat.le_trans hS hb.size⟩
theorem HeldD.bel {Ba Bb wn hn n ca cb : Nat} {aa ab : Addr} {w0 w : World} (h : HeldD Ba Bb wn hn n ca cb aa ab w0 w) : Below w0.heap.size w0 w := h.2.2.2.2.2.2.1
set_option maxRecDepth 100000 in
set_option maxHeartbeats 8000000 in
theorem druns_stops (q : Nat) (hq1 : 1 ≤ q) (X : Nat → Prop) (base Ba Bb wn hn n ca cb : Nat) (aa ab : Addr) (la lb : List Cl) (w : World) (hw : 1 ≤ wn) (hw2 : wn ≤ 200) (hh : hn ≤ 60) (hnw : n = wn * hn)
    (hla : la.length = n) (hlb : lb.length = n) (hca : n ≤ ca) (hcb : n ≤ cb) (hcma : ca ≤ maxLen) (hcmb : cb ≤ maxLen) (hrb : ∀ k, k < hn → rightP (rowAt lb wn k) = true)
    (hXa : ¬ X Ba) (hXb : ¬ X Bb) (h1 : ¬ X aa.block) (h2 : ¬ X ab.block) (h3 : aa.block < base) (h4 : ab.block < base) (hXn : ∀ k, X k → k < w.heap.size) (h : DR w Ba Bb wn hn n ca cb aa ab la lb) :
    SeqStopsK Fence.wide q Try.prog 55 #[.pointer (some ⟨Bb, 0, none⟩), .pointer (some ⟨Ba, 0, none⟩)] (encD (L := allD la lb wn hn)) (KpX X base 5) (fun xs => xs = allS (allD la lb wn hn)) (fun pre => pre <+: allS (allD la lb wn hn)) (allD la lb wn hn).length w := fun lo J Jx W hW hJ hJx hY hJ0 => by
  refine callsIn_of_wp Try.func55 rfl trivial ?_ rfl
  simp only [Try.ntmps55, List.size_toArray, List.length_cons, List.length_nil, Nat.reduceAdd, Nat.reduceSub, Array.replicate_succ, Array.replicate_zero, List.push_toArray, List.append_toArray, List.nil_append, List.cons_append]
  have hDW := h.below hW
  have HN := Lib.hid hnw
  have HA := Lib.hid (hla.trans hnw)
  have HB := Lib.hid (hlb.trans hnw)
  have HLa := Lib.hid hla
  have HLb := Lib.hid hlb
  have HR := Lib.hid hrb
  have HXn := Lib.hid hXn
  have hWs := hW.size
  have t0 : W.cell? ⟨Bb, 1, none⟩ = some (.int .i64 (hn : Int)) := hDW.b.cell 1
  clear hnw hla hlb hrb hXn h
  refine wpIn_scope ?_
  gi_wp2
  refine wpIn_label ?_
  gi_wp2
  gi_loopw [10] (fun s10 wr => ∃ k j : Nat, k ≤ hn ∧ s10 = .int .i64 (k : Nat) ∧ RowKit.Hid ((allD la lb wn hn).drop j = restD la lb wn hn k) ∧ j ≤ (allD la lb wn hn).length ∧ J ((allS (allD la lb wn hn)).take j) wr ∧ DR wr Ba Bb wn hn n ca cb aa ab la lb ∧ W.heap.size ≤ wr.heap.size) (fun s10 _ => hn - (intOf s10).toNat)
  case atStart => exact ⟨0, 0, by omega, rfl, Lib.hid rfl, by omega, hJ0, hDW, Nat.le_refl _⟩
  case round =>
    clear hDW hJ0 t0
    obtain ⟨k, j, hk, rfl, HJ, hj, hJr, hDr, hsz⟩ := hrel
    by_cases hlt : k < hn
    · have d1 : decide ((k : Int) < (hn : Int)) = true := decide_eq_true (by omega)
      have d2 : decide (k < hn) = true := decide_eq_true hlt
      have HD := Lib.hid hDr
      have hSa : ∀ W' : World, Below wr.heap.size wr W' → RowS W' (some aa) n ca la := fun W' hb => ⟨HLa.out, hca, hcma, fun _ => ⟨_, rfl, HD.out.la.below hb⟩, fun h => by cases h⟩
      have hSb : ∀ W' : World, Below wr.heap.size wr W' → RowS W' (some ab) n cb lb := fun W' hb => ⟨HLb.out, hcb, hcmb, fun _ => ⟨_, rfl, HD.out.lb.below hb⟩, fun h => by cases h⟩
      have hrowA : ∀ W' : World, Below wr.heap.size wr W' → Calls Try.prog 19 #[grv wn hn (some aa) n ca, .int .i64 (k : Nat)] W' fun e w' => ∃ ad' c', e = .returned (.slice (some ad') wn c') ∧ RowS w' (some ad') wn c' (rowAt la wn k) ∧ Below W'.heap.size W' w' := fun W' hb =>
        (rowG_gen aa n ca wn hn k la W' hw hw2 hh HN.out hlt (hSa W' hb)).mono (fun e w' h => by
          obtain ⟨A', c', rfl, hR, hb⟩ := h
          obtain ⟨ad', rfl⟩ := hR.some_ad hw
          exact ⟨ad', c', rfl, hR, hb⟩)
      have hrowB : ∀ W' : World, Below wr.heap.size wr W' → Calls Try.prog 19 #[grv wn hn (some ab) n cb, .int .i64 (k : Nat)] W' fun e w' => ∃ ad' c', e = .returned (.slice (some ad') wn c') ∧ RowS w' (some ad') wn c' (rowAt lb wn k) ∧ Below W'.heap.size W' w' := fun W' hb =>
        (rowG_gen ab n cb wn hn k lb W' hw hw2 hh HN.out hlt (hSb W' hb)).mono (fun e w' h => by
          obtain ⟨A', c', rfl, hR, hb⟩ := h
          obtain ⟨ad', rfl⟩ := hR.some_ad hw
          exact ⟨ad', c', rfl, hR, hb⟩)
      have hmark := fun ao ar co cp W' h1 h2 => marked_gen ao ar wn co cp (rowAt la wn k) (rowAt lb wn k) W' hw hw2 h1 h2 (HR.out k hlt)
      have hS : HeldD Ba Bb wn hn n ca cb aa ab wr wr.drew := ⟨hDr.a.cell 0, hDr.a.cell 1, hDr.a.cell 2, hDr.b.cell 0, hDr.b.cell 1, hDr.b.cell 2, (Below.refl _ _).drew, Nat.le_refl _⟩
      clear hSa hSb
      gi_wp2
      refine wpIn_wide.2 ?_
      go_region_held3 (fun w' => w'.cell? ⟨Ba, 0, none⟩ = some (.int .i64 (wn : Int)) ∧ w'.cell? ⟨Ba, 1, none⟩ = some (.int .i64 (hn : Int)) ∧ w'.cell? ⟨Ba, 2, none⟩ = some (.slice (some aa) n ca) ∧ w'.cell? ⟨Bb, 0, none⟩ = some (.int .i64 (wn : Int)) ∧ w'.cell? ⟨Bb, 1, none⟩ = some (.int .i64 (hn : Int)) ∧ w'.cell? ⟨Bb, 2, none⟩ = some (.slice (some ab) n cb) ∧ Below wr.heap.size wr w' ∧ wr.heap.size ≤ w'.heap.size) (first | exact hS | exact hq) (first
        | (go_at_call 19; with_reducible refine (hrowA _ (HeldD.bel (by assumption))).mono ?_; rintro e w4 ⟨adA, cA, rfl, hRA, hb4⟩; have hq := HeldD.keep (by assumption) hb4)
        | (go_at_call 19; with_reducible refine (hrowB _ (HeldD.bel (by assumption))).mono ?_; rintro e w5 ⟨adB, cB, rfl, hRB, hb5⟩; have hq := HeldD.keep (by assumption) hb5; have hRA2 := hRA.below hb5)
        | (go_at_call 56; refine (hmark _ _ _ _ _ (by assumption) (by assumption)).mono ?_; rintro e w6 ⟨F, rfl, hF0, hF, hb6⟩; have hq := HeldD.keep (by assumption) hb6))
      have hb6' : Below wr.heap.size wr w6 := HeldD.bel hq
      have hFl : wr.heap.size ≤ F := Nat.le_trans (HeldD.bel (by assumption : HeldD Ba Bb wn hn n ca cb aa ab wr w5)).size hF0
      have hFX : ¬ X F := fun hX => by
        have a1 := HXn.out F hX
        omega
      have hJ6 := hJ _ wr w6 none hJr (grown_none' hb6') (fun r e => by cases e)
      have hD6 := hDr.below hb6'
      have hs6 : W.heap.size ≤ w6.heap.size := Nat.le_trans hsz hb6'.size
      have HJ2 := Lib.hid (HJ.out.trans (restD_go hlt))
      have hml := rowM_len (la := la) HB.out hlt
      have hma := fun x hx => rowM_at (la := la) (x := x) HB.out hlt hx
      have HML := Lib.hid hml
      have HMA := Lib.hid hma
      clear hrowA hrowB hmark hq hS hRA hRB hRA2 hb4 hb5 hb6 hF0 hml hma hJr hDr hsz hb6'
      generalize freshG (rowAt la wn k) (rowAt lb wn k) = fr at hF HMA
      try clear HD
      gi_wp2
      gi_loopw [6] (fun s6 wi => ∃ x j : Nat, x ≤ wn + 1 ∧ s6 = .int .i64 (x : Nat) ∧ RowKit.Hid ((allD la lb wn hn).drop j = pcs la lb wn k x ++ restD la lb wn hn (k + 1)) ∧ j ≤ (allD la lb wn hn).length ∧ J ((allS (allD la lb wn hn)).take j) wi ∧ DR wi Ba Bb wn hn n ca cb aa ab la lb ∧ wi.rowIs F 4 wn (fun i => .bool (fr i)) ∧ W.heap.size ≤ wi.heap.size) (fun s6 _ => wn + 1 - (intOf s6).toNat)
      case atStart => exact ⟨0, j, by omega, rfl, HJ2, hj, hJ6, hD6, hF, hs6⟩
      case round =>
        clear hJ6 hD6 hF hs6 HJ2 hj HJ
        obtain ⟨x, j, hx, rfl, HJ, hj, hJr, hDr, hF, hsz⟩ := hrel
        have b0 : wr.cell? ⟨Bb, 0, none⟩ = some (.int .i64 (wn : Int)) := hDr.b.cell 0
        by_cases hxl : x < wn
        · have d3 : decide ((x : Int) < (wn : Int)) = true := decide_eq_true (by omega)
          have d4 : decide (x < wn) = true := decide_eq_true hxl
          have d5 : (x : Int) < (wn : Int) := by omega
          have f0 : wr.cell? ⟨F, x, none⟩ = some (.bool (fr x)) := hF.cell hxl
          cases hfx : fr x with
          | false =>
            have HJ2 := Lib.hid (HJ.out.trans (by rw [pcs_false (show (rowM la lb wn k)[x]? = some false by rw [HMA.out x hxl, hfx])]))
            rw [hfx] at f0
            clear hfx
            gi_wp2
            go_roundw
            case rel => exact ⟨x + 1, j, by omega, by go_num, HJ2, hj, hJr, hDr, hF, hsz⟩
            case measure => simp [intOf]; omega
          | true =>
            have hmx := Lib.hid (show (rowM la lb wn k)[x]? = some true by rw [HMA.out x hxl, hfx])
            rw [hfx] at f0
            clear hfx
            gi_wp2
            gi_loopw [7] (fun s7 we => ∃ e : Nat, e ≤ wn ∧ x ≤ e ∧ s7 = .int .i64 (e : Nat) ∧ RowKit.Hid (endOf (rowM la lb wn k) x = endOf (rowM la lb wn k) e) ∧ Below wr.heap.size wr we) (fun s7 _ => wn - (intOf s7).toNat)
            case atStart => exact ⟨x, by omega, Nat.le_refl _, rfl, Lib.hid rfl, Below.refl _ _⟩
            case round =>
              clear b0 f0
              obtain ⟨e, he, hxe, rfl, HE, hbe⟩ := hrel
              have hBe := hDr.b.below hbe hDr.b.lt
              have hF0 := rowIs_grown hF hbe
              have b0 : wr.cell? ⟨Bb, 0, none⟩ = some (.int .i64 (wn : Int)) := hBe.cell 0
              by_cases hel : e < wn
              · have d6 : decide ((e : Int) < (wn : Int)) = true := decide_eq_true (by omega)
                have d7 : decide (e < wn) = true := decide_eq_true hel
                have d8 : (e : Int) < (wn : Int) := by omega
                have f0 : wr.cell? ⟨F, e, none⟩ = some (.bool (fr e)) := hF0.cell hel
                cases hfe : fr e with
                | true =>
                  have HE2 := Lib.hid (HE.out.trans (endOf_go (show (rowM la lb wn k)[e]? = some true by rw [HMA.out e hel, hfe])))
                  rw [hfe] at f0
                  clear hfe
                  gi_wp2
                  go_roundw
                  case rel => exact ⟨e + 1, hel, by omega, by go_num, HE2, hbe⟩
                  case measure => simp [intOf]; omega
                | false =>
                  have hstop := Lib.hid (show ¬ (rowM la lb wn k)[e]? = some true by rw [HMA.out e hel, hfe]; simp)
                  rw [hfe] at f0
                  clear hfe
                  have HE2 := Lib.hid (show endOf (rowM la lb wn k) x = e by rw [HE.out, endOf_stop hstop.out])
                  have hex : x < e := by
                    have a1 := HE2.out
                    have a2 := (endOf_gt hmx.out).1
                    omega
                  obtain ⟨hjx, hjd⟩ := drop_cons (HJ.out.trans (by rw [pcs_true hmx.out, List.cons_append]))
                  have hjl := (List.getElem?_eq_some_iff.1 hjx).1
                  obtain ⟨⟨⟨sy, sx, sn⟩, hsm⟩, hs, _, htk⟩ := all_at hjx
                  simp only [Prod.mk.injEq] at hs
                  obtain ⟨rfl, rfl, hsn⟩ := hs
                  have htl := take_len hjx
                  rw [HE2.out] at hsn hjd
                  have HX := Lib.hid hjd
                  have HT := Lib.hid htk
                  have HSn := Lib.hid hsn
                  have i1 : wrap64 ((e : Int) - (sx : Int)) = (sn : Int) := by
                    rw [hsn]
                    unfold wrap64
                    omega
                  have i2 : (e : Int) - (sx : Int) = (sn : Int) := by
                    rw [hsn]
                    omega
                  have hJe := hJ _ _ wr none hJr (grown_none' hbe) (fun r e => by cases e)
                  have hDe := hDr.below hbe
                  have hFe := rowIs_grown hF hbe
                  have hse : W.heap.size ≤ wr.heap.size := Nat.le_trans hsz hbe.size
                  obtain ⟨fn, tmps, assign, body, hyy, hR2⟩ := hY _ ⟨(sy, sx, sn), hsm⟩ _ hJe (by rw [htl]; exact hjl)
                  dsimp only [encD] at hyy
                  clear hjx hjd htk hsn hJr hDr hF hsz hbe hF0
                  gi_wp2
                  refine hR2.mono ?_
                  rintro e' W' (⟨rfl, hJ3, hk3⟩ | ⟨rfl, hJx3⟩)
                  · have hD3 := hDe.kp hk3 hXa hXb (by decide) h1 h2 h3 h4
                    have hF3 := hk3.rowIs hFX (by decide) hFe
                    have hs3 := Nat.le_trans hse hk3.1
                    have HX2 := Lib.hid (show (allD la lb wn hn).drop (j + 1) = pcs la lb wn sy (e + 1) ++ restD la lb wn hn (sy + 1) from HX.out)
                    rw [← HT.out] at hJ3
                    clear hyy hR2 hJe hDe hFe hse
                    gi_wp2
                    go_roundw
                    case rel => exact ⟨e + 1, j + 1, by omega, by go_num, HX2, hjl, hJ3, hD3, hF3, hs3⟩
                    case measure => simp [intOf]; omega
                  · gi_wp2
                    rw [Exit.noGoto_normal]
                    go_end0
                    exact ⟨⟨_, rfl⟩, .inr ⟨_, take_prefix _ (j + 1), by rw [HT.out]; exact hJx3⟩⟩
              · have d6 : decide ((e : Int) < (wn : Int)) = false := decide_eq_false (by omega)
                have d7 : decide (e < wn) = false := decide_eq_false hel
                have d8 : ¬ (e : Int) < (wn : Int) := by omega
                have hstop := Lib.hid (show ¬ (rowM la lb wn k)[e]? = some true by rw [List.getElem?_eq_none (by rw [HML.out]; omega)]; simp)
                have HE2 := Lib.hid (show endOf (rowM la lb wn k) x = e by rw [HE.out, endOf_stop hstop.out])
                have hex : x < e := by
                  have a1 := HE2.out
                  have a2 := (endOf_gt hmx.out).1
                  omega
                obtain ⟨hjx, hjd⟩ := drop_cons (HJ.out.trans (by rw [pcs_true hmx.out, List.cons_append]))
                have hjl := (List.getElem?_eq_some_iff.1 hjx).1
                obtain ⟨⟨⟨sy, sx, sn⟩, hsm⟩, hs, _, htk⟩ := all_at hjx
                simp only [Prod.mk.injEq] at hs
                obtain ⟨rfl, rfl, hsn⟩ := hs
                have htl := take_len hjx
                rw [HE2.out] at hsn hjd
                have HX := Lib.hid hjd
                have HT := Lib.hid htk
                have HSn := Lib.hid hsn
                have i1 : wrap64 ((e : Int) - (sx : Int)) = (sn : Int) := by
                  rw [hsn]
                  unfold wrap64
                  omega
                have i2 : (e : Int) - (sx : Int) = (sn : Int) := by
                  rw [hsn]
                  omega
                have hJe := hJ _ _ wr none hJr (grown_none' hbe) (fun r e => by cases e)
                have hDe := hDr.below hbe
                have hFe := rowIs_grown hF hbe
                have hse : W.heap.size ≤ wr.heap.size := Nat.le_trans hsz hbe.size
                obtain ⟨fn, tmps, assign, body, hyy, hR2⟩ := hY _ ⟨(sy, sx, sn), hsm⟩ _ hJe (by rw [htl]; exact hjl)
                dsimp only [encD] at hyy
                clear hjx hjd htk hsn hJr hDr hF hsz hbe hF0
                gi_wp2
                refine hR2.mono ?_
                rintro e' W' (⟨rfl, hJ3, hk3⟩ | ⟨rfl, hJx3⟩)
                · have hD3 := hDe.kp hk3 hXa hXb (by decide) h1 h2 h3 h4
                  have hF3 := hk3.rowIs hFX (by decide) hFe
                  have hs3 := Nat.le_trans hse hk3.1
                  have HX2 := Lib.hid (show (allD la lb wn hn).drop (j + 1) = pcs la lb wn sy (e + 1) ++ restD la lb wn hn (sy + 1) from HX.out)
                  rw [← HT.out] at hJ3
                  clear hyy hR2 hJe hDe hFe hse
                  gi_wp2
                  go_roundw
                  case rel => exact ⟨e + 1, j + 1, by omega, by go_num, HX2, hjl, hJ3, hD3, hF3, hs3⟩
                  case measure => simp [intOf]; omega
                · gi_wp2
                  rw [Exit.noGoto_normal]
                  go_end0
                  exact ⟨⟨_, rfl⟩, .inr ⟨_, take_prefix _ (j + 1), by rw [HT.out]; exact hJx3⟩⟩
        · have d3 : decide ((x : Int) < (wn : Int)) = false := decide_eq_false (by omega)
          have d4 : decide (x < wn) = false := decide_eq_false hxl
          have HJ2 := Lib.hid (show (allD la lb wn hn).drop j = restD la lb wn hn (k + 1) by rw [HJ.out, pcs_stop (by rw [HML.out]; omega), List.nil_append])
          gi_wp2
          go_roundw
          case rel => exact ⟨k + 1, j, hlt, by go_num, HJ2, hj, hJr, hDr, hsz⟩
          case measure => simp [intOf]; omega
    · have d1 : decide ((k : Int) < (hn : Int)) = false := decide_eq_false (by omega)
      have d2 : decide (k < hn) = false := decide_eq_false hlt
      have HE := Lib.hid (show (allS (allD la lb wn hn)).take j = allS (allD la lb wn hn) by
        have h1 := HJ.out
        rw [restD_stop (show hn ≤ k by omega)] at h1
        exact List.take_of_length_le (by rw [all_len]; simpa using h1))
      rw [HE.out] at hJr
      gi_wp2
      rw [Exit.noGoto_normal]
      go_end0
      exact ⟨⟨_, rfl⟩, .inl ⟨_, rfl, hJr⟩⟩
end Go.Proofs.Ytpjafocgabhieaa
