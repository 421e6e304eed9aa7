/- delete upon the map; Between; change out of bounds. (Types and functions by this seat's numbers.) -/
import Derived.Test.YtfficdloekfpcaaNetAwk
import Derived.Maps.OwnSet
namespace Go.Proofs.Ytfficdloekfpcaa
open Go.RowKit Go.Maps
section
variable {w : World} {b n : Nat} {f : Int → Int → Int}
/-- 'delete(m, k)'. -/
theorem MapAt.del (h : MapAt w b n f) {a c : Int} (ha : Fit1 a) (hc : Fit1 c) (ty : TypeId) :
    ∃ w', (Builtin.delete_ #[42, 46] ty #[.map (some b), pairV a c]).run Try.prog w = .ok (.tuple #[]) w' ∧ MapAt w' b n (setF f a c 0) ∧ w.grownBy w' (some b) := by
  obtain ⟨D, h1, h2, h3⟩ := h
  obtain ⟨w', hrun, hown, ht⟩ := h2.drop keyed Try.underlying42 (klOf_eq w ha hc) ty
  refine ⟨w', hrun, ⟨_, h1.del _, hown, fun a' c' ha' hc' => ?_⟩, ht.grown⟩
  unfold setF
  by_cases he : a' = a ∧ c' = c
  · obtain ⟨rfl, rfl⟩ := he
    rw [if_pos ⟨rfl, rfl⟩, atKey_del_same]
  · rw [if_neg he, atKey_del_other (fun e => he (klOf_inj w ha' hc' ha hc e))]
    exact h3 a' c' ha' hc'
end
set_option maxRecDepth 100000 in
theorem between_any (m nn : Nat) (room lost : Int) (ps : List (Int × Int × ByteArray)) (f : Int → Int → Int) (a c : Int) (w : World) (h : NetAt w m nn room ps lost f) (ha : Fit1 a) (hc : Fit1 c) :
    Calls Try.prog 11 #[.pointer (some ⟨m + 1, 0, none⟩), .int .i64 a, .int .i64 c] w fun e w' => e = .returned (.int .i64 (f a c)) ∧ w = w' := by
  have h2 := h.map
  obtain ⟨A, cp, hB, hM, _⟩ := h
  have hl := hM.look ha hc
  unfold pairV at hl
  go_enter Try.func11, Try.ntmps11
  go_wp2_with fail
  refine (none_no (m + 1) m _ h2).mono ?_
  rintro e w1 ⟨rfl, rfl⟩
  go_wp2_with fail
  go_ret
  exact ⟨rfl, rfl⟩
set_option maxRecDepth 100000 in
set_option maxHeartbeats 1000000 in
/-- change, out of bounds. -/
theorem change_out (m nn : Nat) (room lost : Int) (ps : List (Int × Int × ByteArray)) (f : Int → Int → Int) (i : Int) (F : Value) (w : World) (h : NetAt w m nn room ps lost f) (hi : i < 0 ∨ (ps.length : Int) ≤ i) :
    Calls Try.prog 21 #[.pointer (some ⟨m + 1, 0, none⟩), .int .i64 i, F] w fun e w' => e = .returned (.bool false) ∧ w = w' := by
  have h2 := h.map
  obtain ⟨A, cp, hB, hM, _⟩ := h
  have c1 : w.cell? ⟨m + 1, 1, none⟩ = some (.slice A ps.length cp) := hB.cell 1
  rcases (show i < 0 ∨ (¬ i < 0 ∧ (ps.length : Int) ≤ i) by omega) with h0 | ⟨h0, h1⟩
  · have d0 : decide (i < 0) = true := decide_eq_true h0
    go_enter Try.func21, Try.ntmps21
    go_wp2_with fail
    refine (none_no (m + 1) m _ h2).mono ?_
    rintro e w1 ⟨rfl, rfl⟩
    go_wp2_with fail
    go_ret
    exact ⟨rfl, rfl⟩
  · have d0 : decide (i < 0) = false := decide_eq_false h0
    have d1 : decide (i ≥ (ps.length : Int)) = true := decide_eq_true h1
    go_enter Try.func21, Try.ntmps21
    go_wp2_with fail
    refine (none_no (m + 1) m _ h2).mono ?_
    rintro e w1 ⟨rfl, rfl⟩
    go_wp2_with fail
    go_ret
    exact ⟨rfl, rfl⟩
end Go.Proofs.Ytfficdloekfpcaa
