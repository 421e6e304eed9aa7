/- NumsParts, walked. -/
import Derived.Test.YtbekggppibimcaaNumsLaw
import Derived.Test.YtbekggppibimcaaSrcL
namespace Go.Proofs.Ytbekggppibimcaa
open Go.RowKit Nums
theorem Try.info3 : (Try.prog.info? 3).map (fun i => (i.zero, i.size, i.bytes)) = some (some (.int .i64 0), 1, 8) := by kernel_rfl

theorem mask62 (q : Int) : ∃ k : Nat, bits .and .i64 q 4611686018427387903 = (k : Int) ∧ k ≤ 4611686018427387903 := by
  refine ⟨(BitVec.ofInt 64 q).toNat % 4611686018427387904, ?_, by omega⟩
  show IntKind.i64.wrap ((BitVec.ofInt 64 q &&& BitVec.ofInt 64 4611686018427387903).toNat : Int) = _
  rw [BitVec.toNat_and, show (BitVec.ofInt 64 4611686018427387903).toNat = 2 ^ 62 - 1 from by decide, Nat.and_two_pow_sub_one_eq_mod, IntKind.wrap_i64]
  omega

set_option maxRecDepth 100000 in
set_option maxHeartbeats 4000000 in
theorem numsParts_core (A B : Option Addr) (n n' c m m' d : Nat) (xs ys : List Int) (q0 q1 : Int) (w : World) (hn : xs.length = n') (hc : n ≤ c) (hA : Ints w A xs) (hx : Fit xs) (hc2 : c ≤ maxLen) (hA0 : A = none → c = 0)
    (hm : ys.length = m') (hd : m ≤ d) (hB : Ints w B ys) (hy : Fit ys) (hd2 : d ≤ maxLen) (hB0 : B = none → d = 0)
    (h1 : (n ≤ 8 ∧ n' = n) ∨ (8 < n ∧ n' = 8)) (h2 : (m ≤ 8 ∧ m' = m) ∨ (8 < m ∧ m' = 8)) :
    Calls Try.prog 4 #[.slice A n c, .slice B m d, .agg #[.int .i64 q0, .int .i64 q1]] w fun e w' => e = .returned (.bool true) ∧ Below w.heap.size w w' := by
  unfold maxLen at hc2 hd2
  have HN := Lib.hid hn
  have HM := Lib.hid hm
  obtain ⟨i0, hi, hz0, hz1, hz2⟩ := info_parts Try.info3
  obtain ⟨x, hx1, hx2⟩ := mask62 q0
  obtain ⟨y, hy1, hy2⟩ := mask62 q1
  have HX := Lib.hid hx1
  have HY := Lib.hid hy1
  clear hn hm hx1 hy1
  rcases h1 with ⟨h1, rfl⟩ | ⟨h1, rfl⟩ <;> rcases h2 with ⟨h2, rfl⟩ | ⟨h2, rfl⟩
  all_goals
    go_enter Try.func4, Try.ntmps4
    go_wp2_with fail
    refine (awake_any _).mono ?_
    rintro e w1 ⟨rfl, hb1⟩
    have hc0 : w1.cell? ⟨w.heap.size, 0, none⟩ = some (.int .i64 q0) := (hb1.cell (p := ⟨w.heap.size, 0, none⟩) (by simp)).trans (World.cell?_alloc_mark w #[.int .i64 q0, .int .i64 q1] 29 (0, 0) 0)
    have hc1 : w1.cell? ⟨w.heap.size, 1, none⟩ = some (.int .i64 q1) := (hb1.cell (p := ⟨w.heap.size, 1, none⟩) (by simp)).trans (World.cell?_alloc_mark w #[.int .i64 q0, .int .i64 q1] 29 (0, 0) 1)
    have hA1 := (hA.alloc (.cells #[.int .i64 q0, .int .i64 q1] 29)).below hb1
    have hB1 := (hB.alloc (.cells #[.int .i64 q0, .int .i64 q1] 29)).below hb1
    clear hA hB
    have hmade : (w1.alloc (.cells #[] 3)).ownsRow w1.heap.size 3 1 (.slice (some ⟨w1.heap.size, 0, none⟩) 0 0) 0 [] := World.ownsRow_made w1 #[] 0 (Nat.le_refl _) (by decide) rfl
    go_wp2_with (first | (at_builtin; refine wpList_append_src rfl (.tmp 28) (.tmp 29) 22 rfl w1.heap.size 3 i0 (.int .i64 0) 1 8 Try.underlying22 hi hz0 hz1 hz2 rfl (by decide) _ 0 [] rfl hmade _ _ _ (xs.map (Value.int .i64)) rfl (by rw [List.length_map, HN.out, Nat.mul_one]) ((Src.of_ints hA1).alloc _) (fun h => ⟨by have := hA0 h; omega, hA0 h⟩) (ints_oneCell' _ _) (by unfold maxLen; omega) (by omega) (by simp) ?_; intro v1 w2 hown1 hgr1; simp only [Nat.zero_add, List.nil_append] at hown1; have hb2 : Below w1.heap.size w1 w2 := ((Below.refl _ _).alloc (Nat.le_refl _) _).grown hgr1 (by simp) (fun q hq => (hmade.lt q hq).1); clear hgr1) | (at_builtin; refine wpList_append_src rfl (.tmp 30) (.tmp 31) 22 rfl w1.heap.size 3 i0 (.int .i64 0) 1 8 Try.underlying22 hi hz0 hz1 hz2 rfl (by decide) v1 _ (xs.map (Value.int .i64)) rfl hown1 _ _ _ (ys.map (Value.int .i64)) rfl (by rw [List.length_map, HM.out, Nat.mul_one]) (Src.of_ints (hB1.below hb2)) (fun h => ⟨by have := hB0 h; omega, hB0 h⟩) (ints_oneCell' _ _) (by unfold maxLen; omega) (by omega) hb2.size ?_; intro v2 w3 hown2 hgr2; rw [← List.map_append] at hown2; obtain ⟨A2, c2, rfl⟩ := own_form hown2; have hAll := (Src.of_own hown2).ints; have hb3 : Below w1.heap.size w1 w3 := hb2.grown hgr2 hb2.size (fun q hq => (hown1.lt q hq).1); clear hgr2 hown2 hown1) | fail)
    rw [HX.out, HY.out]
    refine (put_any _ _ _ (xs ++ ys) _ (by rw [List.length_append, HN.out, HM.out]) hAll (fun v hv => (List.mem_append.1 hv).elim (hx v) (hy v)) (by omega)).mono ?_
    rintro e w4 ⟨rfl, hb4⟩
    go_wp2_with fail
    have hw4 : Below w1.heap.size w1 w4 := hb3.trans (hb4.mono hb3.size)
    refine (put_any _ _ _ xs _ HN.out (hA1.below hw4) hx (by omega)).mono ?_
    rintro e w5 ⟨rfl, hb5⟩
    go_wp2_with fail
    have hw5 : Below w1.heap.size w1 w5 := hw4.trans (hb5.mono hw4.size)
    refine (put_any _ _ _ ys _ HM.out (hB1.below hw5) hy (by omega)).mono ?_
    rintro e w6 ⟨rfl, hb6⟩
    have hw6 : Below w1.heap.size w1 w6 := hw5.trans (hb6.mono hw5.size)
    clear hb3 hb4 hb5 hb6 hw4 hw5 hA1 hB1 hAll hmade
    have l1 := putL_len xs hx
    have l2 := putL_len ys hy
    rw [HN.out] at l1
    rw [HM.out] at l2
    rw [putL_append]
    generalize putL xs = PX at l1 ⊢
    generalize putL ys = PY at l2 ⊢
    have hba := ba_append PX PY
    have hk : ((PX ++ PY).length : Int) ≤ 160 := by rw [List.length_append]; omega
    have HZT : Hid (∀ W : World, Calls Try.prog 9 #[.string ⟨#[]⟩] W fun e w' => e = .returned (.string ⟨#[0]⟩) ∧ Below W.heap.size W w') := fun W => by
      have h := putText_any ⟨#[]⟩ W (by decide)
      rw [show vb (2 * (⟨#[]⟩ : ByteArray).size) = [0] from by rw [show 2 * (⟨#[]⟩ : ByteArray).size = 0 from rfl, vb_small (by omega)]; rfl] at h
      exact h
    have HZ0 := Lib.hid zero_bytes
    have HT := Lib.hid (putL_twin (x : Int) (by omega))
    have hm : (putL [if (x : Int) ≤ y then (x : Int) else y]).length ≤ (putL [if (x : Int) ≤ y then (y : Int) else x]).length := by
      split
      · exact putL_mono _ _ (by omega) (by omega)
      · exact putL_mono _ _ (by omega) (by omega)
    rcases (show (x : Int) < y ∨ (y : Int) < x ∨ x = y by omega) with hxy | hxy | rfl
    all_goals
      first
        | rw [if_pos (by omega), if_pos (by omega)] at hm
        | rw [if_neg (by omega), if_neg (by omega)] at hm
        | rw [if_pos (Int.le_refl _)] at hm
      go_wp2_with fail
      refine (put_one _ _ (by omega) (by omega)).mono ?_
      rintro e w7 ⟨rfl, hb7⟩
      go_wp2_with fail
      refine (put_one _ _ (by omega) (by omega)).mono ?_
      rintro e w8 ⟨rfl, hb8⟩
      go_wp2_with fail
      refine (put_one _ _ (by omega) (by omega)).mono ?_
      rintro e w9 ⟨rfl, hb9⟩
      go_wp2_with fail
      refine (put_one _ _ (by omega) (by omega)).mono ?_
      rintro e w10 ⟨rfl, hb10⟩
      have HT2 : (((putL [(x : Int)]).length : Int) == ((putL [-(x : Int) - 1]).length : Int)) = true := by rw [HT.out]; simp
      go_wp2_with fail
      refine (HZT.out _).mono ?_
      rintro e w11 ⟨rfl, hb11⟩
      go_wp2_with fail
      refine (put_one _ _ (by omega) (by omega)).mono ?_
      rintro e w12 ⟨rfl, hb12⟩
      rw [HZ0.out]
      go_wp2_with fail
      go_ret
      exact ⟨rfl, later_alloc _ (later hb1 (later hw6 (later hb7 (later hb8 (later hb9 (later hb10 (later hb11 hb12)))))))⟩

set_option maxRecDepth 100000 in
theorem numsParts_walk (A B : Option Addr) (n c m d : Nat) (xs ys : List Int) (q0 q1 : Int) (w : World) (hn : xs.length = n) (hc : n ≤ c) (hA : Ints w A xs) (hx : Fit xs) (hc2 : c ≤ maxLen) (hA0 : A = none → c = 0)
    (hm : ys.length = m) (hd : m ≤ d) (hB : Ints w B ys) (hy : Fit ys) (hd2 : d ≤ maxLen) (hB0 : B = none → d = 0) :
    Calls Try.prog 4 #[.slice A n c, .slice B m d, .agg #[.int .i64 q0, .int .i64 q1]] w fun e w' => e = .returned (.bool true) ∧ Below w.heap.size w w' := by
  have hp : ∀ (p : Nat) (zs : List Int), zs.length = p → ∃ p' zs', zs' = zs.take 8 ∧ zs'.length = p' ∧ ((p ≤ 8 ∧ p' = p) ∨ (8 < p ∧ p' = 8)) := fun p zs h => by
    refine ⟨(zs.take 8).length, _, rfl, rfl, ?_⟩
    rw [List.length_take]
    omega
  obtain ⟨n', xs', rfl, hn', h1⟩ := hp n xs hn
  obtain ⟨m', ys', rfl, hm', h2⟩ := hp m ys hm
  exact numsParts_core A B n n' c m m' d _ _ q0 q1 w hn' hc (hA.take 8) (hx.take 8) hc2 hA0 hm' hd (hB.take 8) (hy.take 8) hd2 hB0 h1 h2
end Go.Proofs.Ytbekggppibimcaa
