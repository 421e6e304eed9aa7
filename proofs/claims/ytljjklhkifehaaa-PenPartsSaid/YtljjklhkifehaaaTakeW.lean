/- pen.Apply's 'take', walked: it hands over the first numbers that are left, and leaves the rest. -/
import Derived.Test.YtljjklhkifehaaaBlkL
import Derived.Test.YtljjklhkifehaaaSrcL
namespace Go.Proofs.Ytljjklhkifehaaa
open Go.RowKit

set_option maxRecDepth 100000 in
set_option maxHeartbeats 1000000 in
theorem take_any (L N n : Nat) (A : Option Addr) (c m : Nat) (w : World) (hc : w.cell? ⟨L, 0, none⟩ = some (.slice A m c)) (hf : w.frozen? ⟨L, 0, none⟩ = false) (hm : m ≤ c) (hN : (N ≤ m ∧ n = N) ∨ (m < N ∧ n = m)) (hN2 : N ≤ 1000) :
    Calls Try.prog 17 #[.int .i64 N, .pointer (some ⟨L, 0, none⟩)] w fun e w' => e = .returned (.slice A n n) ∧ w' = w.setCell ⟨L, 0, none⟩ (.slice (if c = n then A else A.map (·.add n)) (m - n) (c - n)) := by
  rcases hN with ⟨hN, rfl⟩ | ⟨hN, rfl⟩ <;> by_cases hcn : c = n
  all_goals
    go_enter Try.func17, Try.ntmps17
    go_wp2
    go_ret
    exact ⟨rfl, rfl⟩

theorem add_add (a : Addr) (i j : Nat) : (a.add i).add j = a.add (i + j) := by
  unfold Addr.add
  by_cases hi : i = 0 <;> by_cases hj : j = 0 <;> simp [hi, hj, Nat.add_assoc]
theorem Ints.drop {w : World} {A : Option Addr} {xs : List Int} {c : Nat} (h : Ints w A xs) (k : Nat) (hc : xs.length ≤ c) : Ints w (if c = k then A else A.map (·.add k)) (xs.drop k) := fun h0 => by
  simp only [List.length_drop] at h0
  obtain ⟨ad, rfl, hx⟩ := h (by omega)
  rw [if_neg (by omega)]
  refine ⟨ad.add k, rfl, fun j hj => ?_⟩
  simp only [List.length_drop] at hj
  rw [add_add, hx (k + j) (by omega)]
  simp [List.getD]
theorem Elems.far {w : World} {A : Option Addr} {n : Nat} {f : Nat → Value} (h : Elems w A n f) {p : Addr} (hp : ∀ ad, A = some ad → ad.block ≠ p.block) (u : Value) : Elems (w.setCell p u) A n f := fun h0 => by
  obtain ⟨ad, e, hc⟩ := h h0
  refine ⟨ad, e, fun k hk => (World.cell?_setCell_other _ _ _ _ (fun e2 => hp ad e ?_)).trans (hc k hk)⟩
  rw [e2, block_add]

/-- In block L lies the slice of what is left: the numbers xs. -/
def LeftAt (w : World) (L : Nat) (xs : List Int) : Prop :=
  ∃ A c, w.cell? ⟨L, 0, none⟩ = some (.slice A xs.length c) ∧ w.frozen? ⟨L, 0, none⟩ = false ∧ xs.length ≤ c ∧ c ≤ maxLen ∧ Ints w A xs ∧ ∀ ad, A = some ad → ad.block ≠ L

theorem take_left (L N : Nat) (xs : List Int) (w : World) (h : LeftAt w L xs) (hN2 : N ≤ 1000) :
    Calls Try.prog 17 #[.int .i64 N, .pointer (some ⟨L, 0, none⟩)] w fun e w' => ∃ A' : Option Addr, e = .returned (.slice A' (min N xs.length) (min N xs.length)) ∧ Ints w' A' (xs.take N) ∧ LeftAt w' L (xs.drop N) ∧ Only L w w' := by
  obtain ⟨A, c, hc, hf, hm, hcm, hx, hne⟩ := h
  refine (take_any L N (min N xs.length) A c xs.length w hc hf hm (by omega) hN2).mono ?_
  rintro e w' ⟨rfl, rfl⟩
  have hfar : Ints (w.setCell ⟨L, 0, none⟩ (.slice (if c = min N xs.length then A else A.map (·.add (min N xs.length))) (xs.length - min N xs.length) (c - min N xs.length))) A xs := Elems.far hx hne _
  refine ⟨A, rfl, hfar.take N, ?_, only_set (only_refl _ _) 0 _⟩
  have hd : xs.drop N = xs.drop (min N xs.length) := by
    by_cases hle : N ≤ xs.length
    · rw [Nat.min_eq_left hle]
    · rw [Nat.min_eq_right (by omega), List.drop_of_length_le (by omega), List.drop_of_length_le (by omega)]
  rw [hd]
  refine ⟨_, c - min N xs.length, ?_, by rw [World.frozen?_setCell]; exact hf, ?_, ?_, hfar.drop _ hm, ?_⟩
  · rw [List.length_drop]
    exact World.cell?_setCell_same _ _ _ hc
  · rw [List.length_drop]; omega
  · omega
  · intro ad had
    split at had
    · exact hne ad had
    · cases A with
      | none => cases had
      | some a0 =>
        simp at had
        subst had
        rw [block_add]
        exact hne a0 rfl
end Go.Proofs.Ytljjklhkifehaaa
