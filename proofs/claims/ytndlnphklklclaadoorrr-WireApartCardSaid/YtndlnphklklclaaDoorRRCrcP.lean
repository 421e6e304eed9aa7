/- The sum of a text, by definition: a register that goes down bit by bit. What one byte does is linear; nothing but 0 goes to 0; so four bytes beside one another that were turned turn the sum. Plain mathematics; no program in sight. -/
import Derived.Below
namespace Go.Proofs.YtndlnphklklclaaDoorRR.Crc

def poly : Nat := 2197175160
def ones : Nat := 4294967295

/-- One bit goes out of a register. -/
def step (r : Nat) : Nat := if r % 2 = 1 then (r >>> 1) ^^^ poly else r >>> 1
/-- Eight bits go out. -/
def eight (r : Nat) : Nat := step (step (step (step (step (step (step (step r)))))))
/-- A byte goes in. -/
def upd (r : Nat) (b : Nat) : Nat := eight (r ^^^ b)
/-- All bytes go in. -/
def run (r : Nat) (l : List UInt8) : Nat := l.foldl (fun r b => upd r b.toNat) r
/-- The sum of a text. -/
def crc (l : List UInt8) : Nat := run ones l ^^^ ones

theorem poly_lt : poly < 2 ^ 32 := by decide
theorem ones_lt : ones < 2 ^ 32 := by decide

theorem xor_zero {a b : Nat} (h : a ^^^ b = 0) : a = b := by
  have := congrArg (· ^^^ b) h
  simpa [Nat.xor_assoc, Nat.xor_self, Nat.zero_xor] using this

theorem step_xor (a b : Nat) : step (a ^^^ b) = step a ^^^ step b := by
  unfold step
  rw [Nat.shiftRight_xor_distrib]
  have h := @Nat.xor_mod_two_eq_one a b
  have e : ∀ x y : Nat, x ^^^ poly ^^^ (y ^^^ poly) = x ^^^ y := fun x y => by
    rw [Nat.xor_assoc, Nat.xor_comm y poly, ← Nat.xor_assoc poly poly y, Nat.xor_self, Nat.zero_xor]
  have f : ∀ x y : Nat, x ^^^ poly ^^^ y = x ^^^ y ^^^ poly := fun x y => by rw [Nat.xor_assoc, Nat.xor_comm poly y, Nat.xor_assoc]
  have g : ∀ x y : Nat, x ^^^ (y ^^^ poly) = x ^^^ y ^^^ poly := fun x y => by rw [Nat.xor_assoc]
  by_cases ha : a % 2 = 1 <;> by_cases hb : b % 2 = 1 <;> simp [ha, hb, h, e, f, g]
theorem step_zero : step 0 = 0 := rfl
theorem step_lt {r : Nat} (h : r < 2 ^ 32) : step r < 2 ^ 32 := by
  unfold step
  have : r >>> 1 < 2 ^ 32 := by rw [Nat.shiftRight_eq_div_pow]; omega
  split
  · exact Nat.xor_lt_two_pow this poly_lt
  · exact this
theorem step_eq_zero {r : Nat} (h : r < 2 ^ 32) (h0 : step r = 0) : r = 0 := by
  unfold step at h0
  rw [Nat.shiftRight_eq_div_pow] at h0
  split at h0
  · have := xor_zero h0
    unfold poly at this
    omega
  · omega

theorem eight_xor (a b : Nat) : eight (a ^^^ b) = eight a ^^^ eight b := by unfold eight; simp only [step_xor]
theorem eight_zero : eight 0 = 0 := rfl
theorem eight_lt {r : Nat} (h : r < 2 ^ 32) : eight r < 2 ^ 32 := by
  unfold eight
  exact step_lt (step_lt (step_lt (step_lt (step_lt (step_lt (step_lt (step_lt h)))))))
theorem eight_eq_zero {r : Nat} (h : r < 2 ^ 32) (h0 : eight r = 0) : r = 0 := by
  unfold eight at h0
  have h1 := step_lt h
  have h2 := step_lt h1
  have h3 := step_lt h2
  have h4 := step_lt h3
  have h5 := step_lt h4
  have h6 := step_lt h5
  have h7 := step_lt h6
  exact step_eq_zero h (step_eq_zero h1 (step_eq_zero h2 (step_eq_zero h3 (step_eq_zero h4 (step_eq_zero h5 (step_eq_zero h6 (step_eq_zero h7 h0)))))))

theorem step_even (x : Nat) : step (x * 2) = x := by
  unfold step
  rw [if_neg (by omega), Nat.shiftRight_eq_div_pow]
  omega
theorem eight_shift (x : Nat) : eight (x * 256) = x := by
  unfold eight
  rw [show x * 256 = x * 128 * 2 from by omega, step_even, show x * 128 = x * 64 * 2 from by omega, step_even, show x * 64 = x * 32 * 2 from by omega, step_even, show x * 32 = x * 16 * 2 from by omega, step_even,
    show x * 16 = x * 8 * 2 from by omega, step_even, show x * 8 = x * 4 * 2 from by omega, step_even, show x * 4 = x * 2 * 2 from by omega, step_even, step_even]

/-- A number is its upper part and its lowest byte. -/
theorem parts (r : Nat) : r = (r / 256 * 256) ^^^ (r % 256) := by
  have h : r = r / 256 * 256 + r % 256 := by omega
  have e : (r / 256 * 256) ^^^ (r % 256) = r / 256 * 256 + r % 256 := by
    have := Nat.two_pow_add_eq_or_of_lt (b := r % 256) (i := 8) (by omega) (r / 256)
    rw [show (2 : Nat) ^ 8 = 256 from rfl, Nat.mul_comm] at this
    rw [this]
    apply Nat.eq_of_testBit_eq
    intro i
    rw [Nat.testBit_xor, Nat.testBit_or]
    have hk : (r / 256 * 256).testBit i = (decide (8 ≤ i) && (r / 256).testBit (i - 8)) := by
      rw [Nat.mul_comm, show (256 : Nat) = 2 ^ 8 from rfl, Nat.testBit_two_pow_mul]
    have hm : (r % 256).testBit i = (decide (i < 8) && r.testBit i) := by
      rw [show (256 : Nat) = 2 ^ 8 from rfl, Nat.testBit_mod_two_pow]
    rw [hk, hm]
    by_cases hi : 8 ≤ i
    · have : ¬ i < 8 := by omega
      simp [hi, this]
    · have : i < 8 := by omega
      simp [hi, this]
  rw [e, ← h]

/-- WHAT THE TABLE DOES: the register's upper part goes down by itself, and its lowest byte by the table. -/
theorem upd_table (r b : Nat) : (r / 256) ^^^ eight ((r % 256) ^^^ b) = upd r b := by
  unfold upd
  conv => rhs; rw [parts r, Nat.xor_assoc, eight_xor, eight_shift]

theorem upd_lt {r b : Nat} (h : r < 2 ^ 32) (hb : b < 256) : upd r b < 2 ^ 32 := eight_lt (Nat.xor_lt_two_pow h (by omega))
theorem run_nil (r : Nat) : run r [] = r := rfl
theorem run_cons (r : Nat) (b : UInt8) (l : List UInt8) : run r (b :: l) = run (upd r b.toNat) l := rfl
theorem run_append (r : Nat) (a b : List UInt8) : run r (a ++ b) = run (run r a) b := by simp [run]
theorem run_snoc (r : Nat) (a : List UInt8) (b : UInt8) : run r (a ++ [b]) = upd (run r a) b.toNat := by simp [run]
theorem run_lt (l : List UInt8) : ∀ r, r < 2 ^ 32 → run r l < 2 ^ 32 := by
  induction l with
  | nil => intro r h; exact h
  | cons b l ih => intro r h; exact ih _ (upd_lt h (UInt8.toNat_lt b))
theorem crc_lt (l : List UInt8) : crc l < 2 ^ 32 := Nat.xor_lt_two_pow (run_lt l _ ones_lt) ones_lt
theorem crc_nil : crc [] = 0 := rfl

/-- How two registers differ when the same bytes go into both. -/
theorem run_same (l : List UInt8) : ∀ r s, r < 2 ^ 32 → s < 2 ^ 32 → run r l = run s l → r = s := by
  induction l with
  | nil => intro r s _ _ h; exact h
  | cons b l ih =>
    intro r s hr hs h
    have hb : b.toNat < 256 := UInt8.toNat_lt b
    have := ih _ _ (upd_lt hr hb) (upd_lt hs hb) h
    unfold upd at this
    have h0 : eight (r ^^^ b.toNat ^^^ (s ^^^ b.toNat)) = 0 := by rw [eight_xor, this, Nat.xor_self]
    have e : r ^^^ b.toNat ^^^ (s ^^^ b.toNat) = r ^^^ s := by
      rw [Nat.xor_assoc, Nat.xor_comm s, ← Nat.xor_assoc b.toNat, Nat.xor_self, Nat.zero_xor]
    rw [e] at h0
    exact xor_zero (eight_eq_zero (Nat.xor_lt_two_pow hr hs) h0)

theorem four (r a b c d : Nat) : upd (upd (upd (upd r a) b) c) d = eight (eight (eight (eight (r ^^^ (a ^^^ (b * 256 ^^^ (c * 65536 ^^^ d * 16777216))))))) := by
  have s1 : ∀ x y, upd (eight x) y = eight (eight (x ^^^ y * 256)) := fun x y => by unfold upd; rw [eight_xor x, eight_shift]
  have s2 : ∀ x y, upd (eight (eight x)) y = eight (eight (eight (x ^^^ y * 65536))) := fun x y => by
    unfold upd; rw [eight_xor x, show y * 65536 = y * 256 * 256 from by omega, eight_shift, eight_xor _ (y * 256), eight_shift]
  have s3 : ∀ x y, upd (eight (eight (eight x))) y = eight (eight (eight (eight (x ^^^ y * 16777216)))) := fun x y => by
    unfold upd; rw [eight_xor x, show y * 16777216 = y * 65536 * 256 from by omega, eight_shift, eight_xor _ (y * 65536), show y * 65536 = y * 256 * 256 from by omega, eight_shift, eight_xor _ (y * 256), eight_shift]
  rw [show upd r a = eight (r ^^^ a) from rfl, s1, s2, s3]
  simp only [Nat.xor_assoc]

theorem eight4_inj {x y : Nat} (hx : x < 2 ^ 32) (hy : y < 2 ^ 32) (h : eight (eight (eight (eight x))) = eight (eight (eight (eight y)))) : x = y := by
  have h0 : eight (eight (eight (eight (x ^^^ y)))) = 0 := by rw [eight_xor, eight_xor, eight_xor, eight_xor, h, Nat.xor_self]
  have hz : x ^^^ y < 2 ^ 32 := Nat.xor_lt_two_pow hx hy
  exact xor_zero (eight_eq_zero hz (eight_eq_zero (eight_lt hz) (eight_eq_zero (eight_lt (eight_lt hz)) (eight_eq_zero (eight_lt (eight_lt (eight_lt hz))) h0))))

/-- Four bytes as one number. -/
theorem word_eq (a b c d : Nat) (ha : a < 256) (hb : b < 256) (hc : c < 256) : a ^^^ (b * 256 ^^^ (c * 65536 ^^^ d * 16777216)) = a + b * 256 + c * 65536 + d * 16777216 := by
  have p : ∀ x y : Nat, y < 256 → y ^^^ x * 256 = y + x * 256 := fun x y hy => by
    have h := parts (y + x * 256)
    rw [show (y + x * 256) / 256 = x from by omega, show (y + x * 256) % 256 = y from by omega] at h
    rw [Nat.xor_comm, ← h]
  have q : ∀ x y : Nat, x * 256 ^^^ y * 256 = (x ^^^ y) * 256 := fun x y => by
    rw [show (256 : Nat) = 2 ^ 8 from rfl, ← Nat.shiftLeft_eq, ← Nat.shiftLeft_eq, ← Nat.shiftLeft_eq, Nat.shiftLeft_xor_distrib]
  rw [show c * 65536 = c * 256 * 256 from by omega, show d * 16777216 = d * 256 * 256 * 256 from by omega, q (c * 256), q b, q c, p _ _ ha, p _ _ hb, p _ _ hc]
  omega

/-- TWO TEXTS THAT DIFFER WITHIN FOUR BYTES BESIDE ONE ANOTHER HAVE TWO SUMS. -/
theorem differ (p q : List UInt8) (a b c d a' b' c' d' : UInt8) (h : crc (p ++ [a, b, c, d] ++ q) = crc (p ++ [a', b', c', d'] ++ q)) : a = a' ∧ b = b' ∧ c = c' ∧ d = d' := by
  unfold crc at h
  have h1 : run ones (p ++ [a, b, c, d] ++ q) = run ones (p ++ [a', b', c', d'] ++ q) := by
    have := congrArg (· ^^^ ones) h
    simpa [Nat.xor_assoc, Nat.xor_self, Nat.xor_zero] using this
  rw [run_append, run_append, run_append, run_append] at h1
  have hp := run_lt p ones ones_lt
  generalize run ones p = r at h1 hp
  have h2 := run_same q _ _ (run_lt _ _ hp) (run_lt _ _ hp) h1
  simp only [run_cons, run_nil, four] at h2
  have A := UInt8.toNat_lt a
  have B := UInt8.toNat_lt b
  have C := UInt8.toNat_lt c
  have D := UInt8.toNat_lt d
  have A' := UInt8.toNat_lt a'
  have B' := UInt8.toNat_lt b'
  have C' := UInt8.toNat_lt c'
  have D' := UInt8.toNat_lt d'
  rw [word_eq _ _ _ _ A B C, word_eq _ _ _ _ A' B' C'] at h2
  have h3 := eight4_inj (Nat.xor_lt_two_pow hp (by omega)) (Nat.xor_lt_two_pow hp (by omega)) h2
  have h4 : a.toNat + b.toNat * 256 + c.toNat * 65536 + d.toNat * 16777216 = a'.toNat + b'.toNat * 256 + c'.toNat * 65536 + d'.toNat * 16777216 := by
    have := congrArg (r ^^^ ·) h3
    simpa [← Nat.xor_assoc, Nat.xor_self, Nat.zero_xor] using this
  exact ⟨UInt8.toNat_inj.1 (by omega), UInt8.toNat_inj.1 (by omega), UInt8.toNat_inj.1 (by omega), UInt8.toNat_inj.1 (by omega)⟩

theorem awake_sum : crc [49, 50, 51, 52, 53, 54, 55, 56, 57] = 3808858755 := by decide +kernel

end Go.Proofs.YtndlnphklklclaaDoorRR.Crc
