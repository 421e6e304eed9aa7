/- cell.single, size, Right of any cells: walked (for DiffTells). -/
import Derived.Test.YtpjafocgabhieaaCelG
namespace Go.Proofs.Ytpjafocgabhieaa
open Go.RowKit Go.Sort
theorem bits192 {c : Cl} (h : OkC c) : bits .and .u8 (c.x : Int) 192 = ((c.x / 64 * 64 : Nat) : Int) := by
  have h1 := u8_and_nat c.x 192 h.x (by decide)
  rw [and192 ⟨c.x, h.x⟩] at h1
  exact h1
theorem flat_iff {c : Cl} (h : OkC c) : (!wideC c && !tailC c) = decide (c.x / 64 = 0) := by
  have hx := h.x
  unfold wideC tailC
  rw [Bool.eq_iff_iff]
  simp only [Bool.and_eq_true, Bool.not_eq_true', decide_eq_false_iff_not, decide_eq_true_eq]
  omega
set_option maxRecDepth 100000 in
set_option maxHeartbeats 2000000 in
theorem single_gen (c : Cl) (h : OkC c) (w : World) : Calls Try.prog 60 #[.agg c.a] w fun e w' => e = .returned (.bool (oneC c)) ∧ Below w.heap.size w w' := by
  have h1 := bits192 h
  have hb0 := (Below.refl w.heap.size w).alloc (Nat.le_refl _) (.cells c.a 55)
  have hfl := flat_iff h
  have hchk := check_gen c h (w.alloc (.cells c.a 55))
  by_cases hz : c.x / 64 = 0
  · have HP := Lib.hid (show oneC c = chkC c by unfold oneC; rw [hfl, decide_eq_true hz, Bool.true_and])
    rw [hz, Nat.zero_mul] at h1
    rw [← HP.out] at hchk
    clear hfl hz
    go_enter Try.func60, Try.ntmps60
    go_wp2_with fail
    refine hchk.mono ?_
    rintro e w1 ⟨rfl, hb1⟩
    go_wp2_with fail
    go_ret
    exact ⟨rfl, hb0.trans (hb1.mono hb0.size)⟩
  · have HP := Lib.hid (show oneC c = false by unfold oneC; rw [hfl, decide_eq_false hz, Bool.false_and])
    obtain ⟨z, hz2⟩ : ∃ z : Nat, z = c.x / 64 * 64 := ⟨_, rfl⟩
    rw [← hz2] at h1
    have e1 : ((z : Int) == 0) = false := by
      rw [beq_eq_false_iff_ne]
      omega
    have e2 : (z == 0) = false := by
      rw [beq_eq_false_iff_ne]
      omega
    have e3 : ¬ z = 0 := by omega
    clear hfl hz hz2 hchk
    go_enter Try.func60, Try.ntmps60
    go_wp2_with fail
    go_ret
    exact ⟨ret_bool HP.out.symm, hb0⟩
set_option maxRecDepth 100000 in
set_option maxHeartbeats 2000000 in
theorem size_gen (c : Cl) (h : OkC c) (w : World) : Calls Try.prog 62 #[.agg c.a] w fun e w' => e = .returned (.int .i64 (if wideC c then 2 else 1)) ∧ Below w.heap.size w w' := by
  have h1 := bits64 h
  have hb0 := (Below.refl w.heap.size w).alloc (Nat.le_refl _) (.cells c.a 55)
  cases hw : wideC c <;> rw [hw] at h1 <;> simp only [Bool.false_eq_true, if_false, if_true] at h1 ⊢
  · go_enter Try.func62, Try.ntmps62
    go_wp2_with fail
    go_ret
    exact ⟨rfl, hb0⟩
  · go_enter Try.func62, Try.ntmps62
    go_wp2_with fail
    go_ret
    exact ⟨rfl, hb0⟩
/-- A row's cells, where there are any. -/
def RowC (w : World) (A : Option Addr) (l : List Cl) : Prop := 0 < l.length → ∃ ad, A = some ad ∧ Cels w ad l
theorem RowC.below {w w' : World} {A : Option Addr} {l : List Cl} (h : RowC w A l) (hb : Below w.heap.size w w') : RowC w' A l := fun h0 => by
  obtain ⟨ad, h1, h2⟩ := h h0
  exact ⟨ad, h1, h2.below hb⟩
theorem drop_at {l : List Cl} {k : Nat} {c : Cl} (hc : l[k]? = some c) : l.drop k = c :: l.drop (k + 1) := by
  obtain ⟨h1, h2⟩ := List.getElem?_eq_some_iff.1 hc
  rw [List.drop_eq_getElem_cons h1, h2]
theorem right_drop2 {l : List Cl} {k : Nat} (h : refPair l k = true) : rightP (l.drop k) = rightP (l.drop (k + 2)) := by
  obtain ⟨c, d, h1, h2, h3⟩ := refPair_parts h
  rw [drop_at h1, drop_at h2, rightP, if_pos h3]
theorem right_drop1 {l : List Cl} {k : Nat} {c : Cl} (hc : l[k]? = some c) (h : refPair l k = false) : rightP (l.drop k) = (oneC c && rightP (l.drop (k + 1))) := by
  rw [drop_at hc]
  cases hd : l[k + 1]? with
  | none =>
    rw [List.drop_eq_nil_of_le (List.getElem?_eq_none_iff.1 hd)]
    simp [rightP]
  | some d =>
    have hp : pairC c d = false := by
      unfold refPair at h
      rw [hc, hd] at h
      exact h
    rw [drop_at hd, rightP, if_neg (by rw [hp]; decide)]
set_option maxRecDepth 100000 in
set_option maxHeartbeats 4000000 in
theorem right_gen (A : Option Addr) (n cp : Nat) (l : List Cl) (w : World) (hn : l.length = n) (hm : n ≤ 1000000) (hR : RowC w A l) :
    Calls Try.prog 40 #[.slice A n cp] w fun e w' => e = .returned (.bool (rightP l)) ∧ Below w.heap.size w w' := by
  go_enter Try.func40, Try.ntmps40
  go_wp2_with fail
  go_loopw [3] (fun s3 wr => ∃ k : Nat, k ≤ n ∧ s3 = .int .i64 (k : Nat) ∧ RowKit.Hid (rightP l = rightP (l.drop k)) ∧ Below w.heap.size w wr) (fun s3 _ => n - (intOf s3).toNat)
  case atStart => exact ⟨0, by omega, rfl, Lib.hid rfl, Below.refl _ _⟩
  case round =>
    obtain ⟨k, hk, rfl, HD, hbr⟩ := hrel
    by_cases hlt : k < n
    · obtain ⟨ad, rfl, hC⟩ := hR (by omega)
      obtain ⟨c, hc⟩ : ∃ c, l[k]? = some c := ⟨_, List.getElem?_eq_getElem (by omega)⟩
      have hCr := hC.below hbr
      have hpair := paired_gen ad n cp k l wr hn hm hCr c hc
      obtain ⟨hca, hok⟩ := hCr k c hc
      have e1 : decide ((k : Int) < (n : Int)) = true := decide_eq_true (by omega)
      have e2 : decide (k < n) = true := decide_eq_true hlt
      cases hp : refPair l k with
      | true =>
        have hk2 : k + 2 ≤ n := by
          obtain ⟨_, d, _, h2, _⟩ := refPair_parts hp
          have := (List.getElem?_eq_some_iff.1 h2).1
          omega
        have HD2 := Lib.hid (HD.out.trans (right_drop2 hp))
        rw [hp] at hpair
        clear hca hC hCr hc hp hR
        go_wp2_with fail
        refine hpair.mono ?_
        rintro e w1 ⟨rfl, hb1⟩
        clear hpair
        have hb2 := hbr.trans (hb1.mono hbr.size)
        go_wp2_with fail
        go_roundw
        case rel => exact ⟨k + 2, hk2, by go_num, HD2, hb2⟩
        case measure => simp [intOf]; omega
      | false =>
        have hrd := right_drop1 hc hp
        have hone := fun W => single_gen c hok W
        rw [hp] at hpair
        obtain ⟨c0, c1, c2, c3⟩ := hca
        cases ho : oneC c with
        | true =>
          have HD2 := Lib.hid (HD.out.trans (hrd.trans (by rw [ho, Bool.true_and])))
          rw [ho] at hone
          clear hrd hC hCr hc hp hR ho
          go_wp2_with fail
          refine hpair.mono ?_
          rintro e w1 ⟨rfl, hb1⟩
          have e0 := keepc hb1 c0
          have e1 := keepc hb1 c1
          have e2 := keepc hb1 c2
          have e3 := keepc hb1 c3
          clear hpair c0 c1 c2 c3
          have hb2 := hbr.trans (hb1.mono hbr.size)
          go_wp2_with fail
          refine (hone _).mono ?_
          rintro e w2 ⟨rfl, hb3⟩
          have hb4 := hb2.trans (hb3.mono hb2.size)
          clear hone
          go_wp2_with fail
          go_roundw
          case rel => exact ⟨k + 1, hlt, by go_num, HD2, hb4⟩
          case measure => simp [intOf]; omega
        | false =>
          have HD2 := Lib.hid (HD.out.trans (hrd.trans (by rw [ho, Bool.false_and])))
          rw [ho] at hone
          clear hrd hC hCr hc hp hR ho
          go_wp2_with fail
          refine hpair.mono ?_
          rintro e w1 ⟨rfl, hb1⟩
          have e0 := keepc hb1 c0
          have e1 := keepc hb1 c1
          have e2 := keepc hb1 c2
          have e3 := keepc hb1 c3
          clear hpair c0 c1 c2 c3
          have hb2 := hbr.trans (hb1.mono hbr.size)
          go_wp2_with fail
          refine (hone _).mono ?_
          rintro e w2 ⟨rfl, hb3⟩
          have hb4 := hb2.trans (hb3.mono hb2.size)
          clear hone
          go_wp2_with fail
          go_ret
          exact ⟨ret_bool HD2.out.symm, hb4⟩
    · have e1 : decide ((k : Int) < (n : Int)) = false := decide_eq_false (by omega)
      have e2 : decide (k < n) = false := decide_eq_false hlt
      have HD2 := Lib.hid (HD.out.trans (show rightP (l.drop k) = true by rw [List.drop_eq_nil_of_le (by omega)]; rfl))
      clear hR
      go_wp2_with fail
      go_ret
      exact ⟨ret_bool HD2.out.symm, hbr⟩
end Go.Proofs.Ytpjafocgabhieaa
