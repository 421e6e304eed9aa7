/- FaultTexts, walked: the piles' rows, and their texts. -/
import Derived.Test.YtcmepnninlocmaaDoorBuiltW
namespace Go.Proofs.YtcmepnninlocmaaDoor
open Go.RowKit
theorem text_o {F : Option Ft} {v : Value} (w : World) (hF : FtO w F v) (hT : Tab10 w) (hl : (txtO F).length ≤ 1000000000) :
    Calls Tryd.prog 8 #[v] w fun e w' => e = .returned (.string ⟨(txtO F).toArray⟩) ∧ Below w.heap.size w w' := by
  cases F with
  | none =>
    obtain rfl : v = .nilIface := hF
    exact text_nil w
  | some F => exact text_any F.size F v w (Nat.le_refl _) hF hT hl
theorem hide2_none (w : World) : hide2 w none none = w := rfl
/-- The pile's row. -/
theorem pile_join {B N : Nat} {va vb : Value} (w : World) (h : PileAt w B va vb N 1800) (hN : N ≤ 30) :
    Calls Tryd.prog 7 #[va] w fun e w' => (∃ v F, e = .returned v ∧ FtO w' F v ∧ (txtO F).length ≤ 1800) ∧ Below w.heap.size w w' := by
  obtain ⟨vs, es, fs, h1, h2, hS, hp⟩ := h
  have hSa := hS.a
  rw [h1] at hSa
  obtain ⟨A, c, rfl⟩ := own_form hSa
  refine (join_o A N c vs w h1 (by omega) (Src.of_own hSa) hS.in2 hS.f).mono fun e w' ⟨⟨v, he, hF⟩, hb⟩ => ⟨⟨v, joinO fs, he, hF.kp (Kp.of2 _ _ _), ?_⟩, hb⟩
  have := joinO_txt fs
  omega
/-- Two faults' row. -/
theorem join_two {P Q : Option Ft} {u v : Value} (w : World) (g : Nat) (hP : FtO w P u) (hQ : FtO w Q v) (hs : Src w (some ⟨g, 0, none⟩) [u, v]) :
    Calls Tryd.prog 7 #[.slice (some ⟨g, 0, none⟩) 2 2] w fun e w' => (∃ x, e = .returned x ∧ FtO w' (joinO [P, Q]) x) ∧ Below w.heap.size w w' := by
  refine (join_o (o := none) (p := none) (fs := [P, Q]) (some ⟨g, 0, none⟩) 2 2 [u, v] w rfl (by omega) hs ⟨fun g h => by (cases h), fun g h => by (cases h)⟩ ⟨rfl, fun i F x h1 h2 => ?_⟩).mono fun e w' ⟨⟨v, he, hF⟩, hb⟩ => ⟨⟨v, he, hF⟩, hb⟩
  rcases i with _ | _ | i
  · simp at h1 h2
    subst h1
    subst h2
    exact hP
  · simp at h1 h2
    subst h1
    subst h2
    exact hQ
  · simp at h1
theorem FtO.below {w w' : World} {F : Option Ft} {v : Value} (h : FtO w F v) (hb : Below w.heap.size w w') : FtO w' F v := by
  cases F with
  | none => exact h
  | some F => exact FtAt.below hb F v h
theorem in_p {F : Option Ft} {v : Value} (s : ByteArray) (w : World) (hF : FtO w F v) :
    Calls Tryd.prog 9 #[v, .string s] w fun e w' => (∃ x, e = .returned x ∧ FtO w' (inO F s) x) ∧ Below w.heap.size w w' :=
  (in_o (o := none) (p := none) s w ⟨fun g h => by (cases h), fun g h => by (cases h)⟩ hF).mono fun e w' ⟨⟨v, he, hF⟩, hb⟩ => ⟨⟨v, he, hF⟩, hb⟩
theorem txt_ne {w : World} {F : Ft} {v : Value} (h : FtAt w F v) : F.txt ≠ [] := fun e => by
  have := Ft.pos F w v h
  rw [e] at this
  simp at this
theorem join2_len (P Q : Option Ft) (hP : (txtO P).length ≤ 1800) (hQ : (txtO Q).length ≤ 1800) : (txtO (joinO [P, Q])).length ≤ 1000000000 := by
  have h := joinO_txt [P, Q]
  simp [pot] at h
  omega
theorem txtO_ne {w : World} {F : Option Ft} {v : Value} (h : FtO w F v) : F = none ∧ v = .nilIface ∨ (txtO F ≠ [] ∧ ∃ T x, v = .iface T x ∧ F ≠ none) := by
  cases F with
  | none => exact .inl ⟨rfl, h⟩
  | some F =>
    have hF : FtAt w F v := h
    obtain ⟨T, x, e⟩ := FtAt.isErr hF
    exact .inr ⟨txt_ne hF, T, x, e, by simp⟩
theorem str_ne {l : List UInt8} (h : l ≠ []) : (⟨l.toArray⟩ : ByteArray).toList.isEmpty = false := by
  rw [Go.ByteArray.toList_eq]
  simpa using h
theorem str_size {l : List UInt8} (h : l.length ≤ 1800) : (⟨l.toArray⟩ : ByteArray).size ≤ 1800 := h
theorem str_more (a : ByteArray) {b : ByteArray} (h : b.toList.isEmpty = false) : (a ++ b).toList.isEmpty = false := by
  rw [Go.ByteArray.toList_eq] at h ⊢
  simp at h ⊢
  intro _
  exact h
theorem str_zero (a : ByteArray) : (⟨#[]⟩ : ByteArray) ++ a = a := by
  apply ByteArray.ext
  simp
theorem str_zero' (a : ByteArray) : a ++ (⟨#[]⟩ : ByteArray) = a := by
  apply ByteArray.ext
  simp
theorem join_nil (Q : Option Ft) : (⟨(txtO (joinO [none, Q])).toArray⟩ : ByteArray) = ⟨#[]⟩ ++ ⟨(txtO Q).toArray⟩ := by
  rw [show (⟨#[]⟩ : ByteArray) = ⟨([] : List UInt8).toArray⟩ from rfl, ba_append]
  cases Q <;> rfl
theorem join_left {P : Option Ft} : (⟨(txtO (joinO [P, none])).toArray⟩ : ByteArray) = ⟨(txtO P).toArray⟩ ++ ⟨#[]⟩ := by
  rw [show (⟨#[]⟩ : ByteArray) = ⟨([] : List UInt8).toArray⟩ from rfl, ba_append, List.append_nil]
  cases P <;> rfl
theorem join_both {P Q : Option Ft} (hP : P ≠ none) (hQ : Q ≠ none) : (⟨(txtO (joinO [P, Q])).toArray⟩ : ByteArray) = (⟨(txtO P).toArray⟩ ++ ⟨#[59, 32]⟩) ++ ⟨(txtO Q).toArray⟩ := by
  rw [show (⟨#[59, 32]⟩ : ByteArray) = ⟨([59, 32] : List UInt8).toArray⟩ from rfl, ba_append, ba_append]
  cases P with
  | none => exact absurd rfl hP
  | some P =>
    cases Q with
    | none => exact absurd rfl hQ
    | some Q =>
      congr 2
      show Ft.txt (.row [P, Q]) = (P.txt ++ [59, 32]) ++ Q.txt
      simp [Ft.txt, txts]
theorem in_both {Q : Option Ft} (s : ByteArray) (hQ : Q ≠ none) : (⟨(txtO (inO Q s)).toArray⟩ : ByteArray) = (s ++ ⟨#[58, 32]⟩) ++ ⟨(txtO Q).toArray⟩ := by
  rw [show (⟨#[58, 32]⟩ : ByteArray) = ⟨([58, 32] : List UInt8).toArray⟩ from rfl, ← ba_of s, ba_append, ba_append]
  cases Q with
  | none => exact absurd rfl hQ
  | some Q =>
    congr 2
set_option maxRecDepth 100000 in
set_option maxHeartbeats 4000000 in
theorem faultTexts_walk (A A' : Option Addr) (n c n' c' : Nat) (s : ByteArray) (w : World) (hA : OpsAt w A n) (hA' : OpsAt w A' n') (hn : n ≤ maxLen) (hn' : n' ≤ maxLen) (hs : s.size ≤ maxLen) (hT : Tab10 w) :
    Calls Tryd.prog 3 #[.slice A n c, .slice A' n' c', .string s] w fun e w' => e = .returned (.bool true) ∧ Below w.heap.size w w' := by
  unfold maxLen at hs
  go_enter Tryd.func3, Tryd.ntmps3
  go_wp2_with fail
  refine (awake_any _ hT).mono ?_
  rintro e w1 ⟨rfl, hb1⟩
  go_wp2_with fail
  refine (built_any A n c _ (hA.below hb1 (Nat.le_refl _)) hn).mono ?_
  rintro e w2 ⟨⟨va, vb, N, rfl, hN, hP⟩, hb2⟩
  have hb2' := hb1.trans (hb2.mono hb1.size)
  go_wp2_with fail
  refine (built_any A' n' c' _ (hA'.below hb2' (Nat.le_refl _)) hn').mono ?_
  rintro e w3 ⟨⟨va', vb', N', rfl, hN', hP'⟩, hb3⟩
  have hb3' := hb2'.trans (hb3.mono hb2'.size)
  have hPb := hP.below hb3
  clear hP hA hA'
  go_upto_if 31 with fail
  go_cut [2] from 18 to 89 (fun s2 wx => ∃ s' : ByteArray, s'.size ≤ 8 ∧ s2 = .string s' ∧ wx = w3)
  case first =>
    by_cases h8 : (8 : Int) < (s.size : Int)
    · have hd : decide ((8 : Int) < (s.size : Int)) = true := decide_eq_true h8
      have hsz : (s.extract 0 8).size ≤ 8 := by
        rw [ByteArray.size_extract]
        omega
      go_wp2_with fail
      go_meet
      exact ⟨_, hsz, rfl, rfl⟩
    · have hd : decide ((8 : Int) < (s.size : Int)) = false := decide_eq_false h8
      go_wp2_with fail
      go_meet
      exact ⟨s, by omega, rfl, rfl⟩
  case rest =>
  obtain ⟨s', hs', rfl, hw3⟩ := hcut
  subst hw3
  clear hs
  have hT3 := tab10_below hT hb3'
  clear hT
  go_wp2_with fail
  refine (pile_join _ hPb hN).mono ?_
  rintro e w4 ⟨⟨u, P, rfl, hPu, hPl⟩, hb4⟩
  have hb4' := hb3'.trans (hb4.mono hb3'.size)
  have hP4 := hP'.below hb4
  clear hPb hP'
  go_wp2_with fail
  refine (pile_join _ hP4 hN').mono ?_
  rintro e w5 ⟨⟨v, Q, rfl, hQv, hQl⟩, hb5⟩
  have hb5' := hb4'.trans (hb5.mono hb4'.size)
  have hPu5 := hPu.below hb5
  have hT5 := tab10_below (tab10_below hT3 hb4) hb5
  clear hP4 hPu hT3
  have hb6 : Below w5.heap.size w5 (w5.alloc (.cells #[u, v] 29)) := (Below.refl _ _).alloc (Nat.le_refl _) _
  have hj := join_two (w5.alloc (.cells #[u, v] 29)) w5.heap.size (hPu5.below hb6) (hQv.below hb6) (fun _ => ⟨_, rfl, news_all w5 #[u, v] 29⟩)
  clear hb4 hb5 hb2 hb3 hb2' hb3' hb4' hb1
  rcases hPu5.isErr with hu | ⟨T1, x1, hu⟩ <;> rcases hQv.isErr with hv | ⟨T2, x2, hv⟩
  all_goals
    subst hu
    subst hv
    go_wp2_with fail
    refine hj.mono ?_
    clear hj
    rintro e w7 ⟨⟨x, rfl, hx⟩, hb7⟩
    have hb7' : Below w5.heap.size w5 w7 := hb6.trans (hb7.mono hb6.size)
    have hPu7 := hPu5.below hb7'
    have hQv7 := hQv.below hb7'
    have hT7 := tab10_below hT5 hb7'
    have hb8 := hb5'.trans (hb7'.mono hb5'.size)
    clear hPu5 hQv hT5 hb6 hb7 hb7' hb5'
    go_wp2_with fail
    refine (text_o _ hx hT7 (join2_len P Q hPl hQl)).mono ?_
    clear hx
    rintro e w9 ⟨rfl, hb9⟩
    have hb9' := hb8.trans (hb9.mono hb8.size)
    have hPu9 := hPu7.below hb9
    have hQv9 := hQv7.below hb9
    have hT9 := tab10_below hT7 hb9
    clear hPu7 hQv7 hT7 hb8 hb9
    go_wp2_with fail
    refine (text_o _ hPu9 hT9 (by omega)).mono ?_
    rintro e w10 ⟨rfl, hb10⟩
    have hb10' := hb9'.trans (hb10.mono hb9'.size)
    have hQv10 := hQv9.below hb10
    have hT10 := tab10_below hT9 hb10
    have hP0 := txtO_ne hPu9
    clear hPu9 hQv9 hT9 hb10 hb9'
    go_wp2_with fail
    refine (text_o _ hQv10 hT10 (by omega)).mono ?_
    rintro e w11 ⟨rfl, hb11⟩
    have hb11' := hb10'.trans (hb11.mono hb10'.size)
    have hQv11 := hQv10.below hb11
    have hT11 := tab10_below hT10 hb11
    have hQ0 := txtO_ne hQv10
    clear hQv10 hT10 hb11 hb10'
    go_wp2_with fail
    refine (in_p s' _ hQv11).mono ?_
    rintro e w12 ⟨⟨y, rfl, hy⟩, hb12⟩
    have hb12' := hb11'.trans (hb12.mono hb11'.size)
    have hT12 := tab10_below hT11 hb12
    clear hQv11 hT11 hb12 hb11'
    go_wp2_with fail
    refine (text_o _ hy hT12 (by have := inO_len Q s' hs'; omega)).mono ?_
    clear hy
    rintro e w13 ⟨rfl, hb13⟩
    have hb13' := hb12'.trans (hb13.mono hb12'.size)
    clear hT12 hb13 hb12'
    rcases hP0 with ⟨rfl, hP0⟩ | ⟨hP0, T3, x3, hP1, hP2⟩ <;> rcases hQ0 with ⟨rfl, hQ0⟩ | ⟨hQ0, T4, x4, hQ1, hQ2⟩
  all_goals (first | (exfalso; cases hP0; done) | (exfalso; cases hP1; done) | (exfalso; cases hQ0; done) | (exfalso; cases hQ1; done) | skip)
  · have HE : (⟨(txtO (none : Option Ft)).toArray⟩ : ByteArray) = ⟨#[]⟩ := rfl
    rw [join_nil, show inO none s' = none from rfl, HE]
    go_wp2_with fail
    go_ret
    exact ⟨rfl, hb13'⟩
  · rw [join_nil, in_both s' hQ2]
    have hq := str_ne hQ0
    have hz := str_size hQl
    generalize (⟨(txtO Q).toArray⟩ : ByteArray) = sQ at hq hz ⊢
    have hi := str_more (s' ++ ⟨#[58, 32]⟩) hq
    have h0 := str_zero sQ
    go_wp2_with fail
    go_ret
    exact ⟨rfl, hb13'⟩
  · have HE : (⟨(txtO (none : Option Ft)).toArray⟩ : ByteArray) = ⟨#[]⟩ := rfl
    rw [join_left, show inO none s' = none from rfl, HE]
    have hq := str_ne hP0
    have hz := str_size hPl
    generalize (⟨(txtO P).toArray⟩ : ByteArray) = sP at hq hz ⊢
    have h0 := str_zero' sP
    go_wp2_with fail
    go_ret
    exact ⟨rfl, hb13'⟩
  · rw [join_both hP2 hQ2, in_both s' hQ2]
    have hq := str_ne hQ0
    have hp := str_ne hP0
    have hz := str_size hQl
    have hy := str_size hPl
    generalize (⟨(txtO Q).toArray⟩ : ByteArray) = sQ at hq hz ⊢
    generalize (⟨(txtO P).toArray⟩ : ByteArray) = sP at hp hy ⊢
    go_wp2_with fail
    go_ret
    exact ⟨rfl, hb13'⟩
end Go.Proofs.YtcmepnninlocmaaDoor
