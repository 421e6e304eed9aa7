/- Numbers as bytes, by definition: the fold of a signed number, its bytes seven bits at a time, a row of numbers. Plain mathematics; no program in sight. -/
import Derived.Below
namespace Go.Proofs.Ytpjafocgabhieaa.Nums

/-- A number folded: 0, -1, 1, -2 .. become 0, 1, 2, 3 .. -/
def zz (n : Int) : Nat := if 0 ≤ n then (2 * n).toNat else (-2 * n - 1).toNat

/-- The bytes of a folded number, seven bits at a time, the lowest first. -/
def vb (u : Nat) : List UInt8 := if _h : u < 128 then [UInt8.ofNat u] else UInt8.ofNat (u % 128 + 128) :: vb (u / 128)
  termination_by u
  decreasing_by omega

/-- The bytes of a row of numbers. -/
def putL (l : List Int) : List UInt8 := l.flatMap fun n => vb (zz n)

theorem vb_small {u : Nat} (h : u < 128) : vb u = [UInt8.ofNat u] := by rw [vb, dif_pos h]
theorem vb_great {u : Nat} (h : ¬ u < 128) : vb u = UInt8.ofNat (u % 128 + 128) :: vb (u / 128) := by rw [vb, dif_neg h]

theorem vb_pos (u : Nat) : 0 < (vb u).length := by
  by_cases h : u < 128
  · rw [vb_small h]; simp
  · rw [vb_great h]; simp

theorem vb_mono (b : Nat) : ∀ a, a ≤ b → (vb a).length ≤ (vb b).length := by
  induction b using Nat.strongRecOn with
  | ind b ih =>
    intro a hab
    by_cases ha : a < 128
    · rw [vb_small ha]
      exact vb_pos b
    · rw [vb_great ha, vb_great (show ¬ b < 128 by omega)]
      have := ih (b / 128) (by omega) (a / 128) (by omega)
      simp only [List.length_cons]
      omega

theorem vb_twin (k : Nat) : (vb (2 * k)).length = (vb (2 * k + 1)).length := by
  by_cases h : 2 * k < 128
  · rw [vb_small h, vb_small (show 2 * k + 1 < 128 by omega)]; rfl
  · rw [vb_great h, vb_great (show ¬ 2 * k + 1 < 128 by omega), show (2 * k + 1) / 128 = 2 * k / 128 by omega]; rfl

theorem vb_len (d : Nat) : ∀ u, u < 128 ^ d → (vb u).length ≤ max d 1 := by
  induction d with
  | zero => intro u hu; rw [vb_small (by simp at hu; omega)]; simp
  | succ d ih =>
    intro u hu
    by_cases h : u < 128
    · rw [vb_small h]; simp
    · rw [vb_great h]
      have := ih (u / 128) (by rw [Nat.pow_succ] at hu; omega)
      simp only [List.length_cons]
      rcases Nat.eq_zero_or_pos d with rfl | hd
      · simp at hu; omega
      · omega

theorem zz_lt (n : Int) (h0 : -9223372036854775808 ≤ n) (h1 : n ≤ 9223372036854775807) : zz n < 18446744073709551616 := by unfold zz; split <;> omega
theorem vb_zz_len (n : Int) (h0 : -9223372036854775808 ≤ n) (h1 : n ≤ 9223372036854775807) : (vb (zz n)).length ≤ 10 := by
  have := vb_len 10 (zz n) (Nat.lt_trans (zz_lt n h0 h1) (by decide))
  simpa using this

theorem putL_nil : putL [] = [] := rfl
theorem putL_cons (n : Int) (l : List Int) : putL (n :: l) = vb (zz n) ++ putL l := by simp [putL]
theorem putL_append (a b : List Int) : putL (a ++ b) = putL a ++ putL b := by simp [putL]
theorem putL_one (n : Int) : putL [n] = vb (zz n) := by simp [putL]
theorem putL_len (l : List Int) (h : ∀ n ∈ l, -9223372036854775808 ≤ n ∧ n ≤ 9223372036854775807) : (putL l).length ≤ 10 * l.length := by
  induction l with
  | nil => simp [putL]
  | cons n l ih =>
    rw [putL_cons, List.length_append, List.length_cons]
    have := ih fun m hm => h m (by simp [hm])
    have := vb_zz_len n (h n (by simp)).1 (h n (by simp)).2
    omega

theorem putL_mono (x y : Int) (hx : 0 ≤ x) (h : x ≤ y) : (putL [x]).length ≤ (putL [y]).length := by
  rw [putL_one, putL_one]
  exact vb_mono _ _ (by unfold zz; split <;> split <;> omega)
theorem putL_twin (x : Int) (hx : 0 ≤ x) : (putL [x]).length = (putL [-x - 1]).length := by
  rw [putL_one, putL_one]
  have h1 : zz x = 2 * x.toNat := by unfold zz; split <;> omega
  have h2 : zz (-x - 1) = 2 * x.toNat + 1 := by unfold zz; split <;> omega
  rw [h1, h2]
  exact vb_twin _

theorem awake_bytes : putL [1, -1, 150] = [2, 1, 172, 2] := by
  rw [putL_cons, putL_cons, putL_one, show zz 1 = 2 from rfl, show zz (-1) = 1 from rfl, show zz 150 = 300 from rfl, vb_small (by omega), vb_small (by omega), vb_great (by omega), vb_small (by omega)]
  rfl
theorem zero_bytes : putL [0] = [0] := by rw [putL_one, show zz 0 = 0 from rfl, vb_small (by omega)]; rfl

end Go.Proofs.Ytpjafocgabhieaa.Nums
