/- How wide a character is: the program's table, and the document's words. -/
import Derived.Test.YtpjafocgabhieaaBytesL
import Derived.Deep.Light
import Derived.Deep.WholeRow
import Derived.Deep.Cut
import Derived.Deep.CutRange
namespace Go.Proofs.Ytpjafocgabhieaa
open Go.RowKit
/-- Is a character from one on, up to another one? -/
def inR (r lo hi : Int) : Bool := decide (lo ≤ r) && decide (r ≤ hi)
theorem inR_true {r lo hi : Int} (h : inR r lo hi = true) : lo ≤ r ∧ r ≤ hi := by
  unfold inR at h
  simpa using h
theorem inR_false {r lo hi : Int} (h : inR r lo hi = false) : r < lo ∨ hi < r := by
  unfold inR at h
  simp at h
  omega
theorem inR_of {r lo hi : Int} (h : lo ≤ r ∧ r ≤ hi) : inR r lo hi = true := by
  unfold inR
  simp
  exact h
theorem inR_not {r lo hi : Int} (h : r < lo ∨ hi < r) : inR r lo hi = false := by
  unfold inR
  simp
  omega
theorem ret_bool {a b : Bool} (h : a = b) : Ending.returned (.bool a) = .returned (.bool b) := by rw [h]
theorem ret_int64 {a b : Int} (h : a = b) : Ending.returned (.int .i64 a) = .returned (.int .i64 b) := by rw [h]
def noneR (r : Int) : Bool := decide (r < 0) || decide (1114111 < r) || inR r 55296 57343
def zeroW (r : Int) : Bool := noneR r || decide (r < 32) || inR r 127 159 || inR r 768 879 || inR r 8203 8207 || inR r 65024 65039
def twoW (r : Int) : Bool := inR r 4352 4447 || inR r 11904 12350 || inR r 12353 42191 || inR r 44032 55203 || inR r 63744 64255 || inR r 65072 65135 || inR r 65281 65376 || inR r 65504 65510 || inR r 127744 128591 || inR r 129280 129535 || inR r 131072 262141
/-- How wide. -/
def wid (r : Int) : Nat := if zeroW r then 0 else if twoW r then 2 else 1
theorem wid_le (r : Int) : wid r ≤ 2 := by
  unfold wid
  split
  · omega
  · split <;> omega
set_option maxRecDepth 100000 in
set_option maxHeartbeats 1000000 in
theorem none_any (r : Int) (w : World) : Calls Try.prog 69 #[.int .i32 r] w fun e w' => e = .returned (.bool (noneR r)) ∧ w = w' := by
  by_cases h0 : r < 0
  · have e : noneR r = true := by simp [noneR, h0]
    have he := Lib.hid e
    clear e
    go_enter Try.func69, Try.ntmps69
    go_wp2
    go_ret
    exact ⟨ret_bool he.out.symm, rfl⟩
  by_cases h1 : 1114111 < r
  · have e : noneR r = true := by simp [noneR, h1]
    have he := Lib.hid e
    clear e
    go_enter Try.func69, Try.ntmps69
    go_wp2
    go_ret
    exact ⟨ret_bool he.out.symm, rfl⟩
  by_cases h2 : 55296 ≤ r
  · by_cases h3 : r ≤ 57343
    · have e : noneR r = true := by simp [noneR, inR_of ⟨h2, h3⟩]
      have he := Lib.hid e
      clear e
      go_enter Try.func69, Try.ntmps69
      go_wp2
      go_ret
      exact ⟨ret_bool he.out.symm, rfl⟩
    · have e : noneR r = false := by simp [noneR, h0, h1, inR_not (r := r) (lo := 55296) (hi := 57343) (by omega)]
      have he := Lib.hid e
      clear e
      go_enter Try.func69, Try.ntmps69
      go_wp2
      go_ret
      exact ⟨ret_bool he.out.symm, rfl⟩
  · have e : noneR r = false := by simp [noneR, h0, h1, inR_not (r := r) (lo := 55296) (hi := 57343) (by omega)]
    have he := Lib.hid e
    clear e
    go_enter Try.func69, Try.ntmps69
    go_wp2
    go_ret
    exact ⟨ret_bool he.out.symm, rfl⟩
set_option maxRecDepth 100000 in
set_option maxHeartbeats 1000000 in
theorem within_any (r lo hi : Int) (w : World) (hr0 : -2147483648 ≤ r) (hr1 : r ≤ 2147483647) : Calls Try.prog 70 #[.int .i32 r, .int .i64 lo, .int .i64 hi] w fun e w' => e = .returned (.bool (inR r lo hi)) ∧ w = w' := by
  by_cases h1 : lo ≤ r
  · by_cases h2 : r ≤ hi
    · have he := Lib.hid (inR_of ⟨h1, h2⟩)
      go_enter Try.func70, Try.ntmps70
      go_wp2
      go_ret
      exact ⟨ret_bool he.out.symm, rfl⟩
    · have he := Lib.hid (inR_not (r := r) (lo := lo) (hi := hi) (by omega))
      go_enter Try.func70, Try.ntmps70
      go_wp2
      go_ret
      exact ⟨ret_bool he.out.symm, rfl⟩
  · have he := Lib.hid (inR_not (r := r) (lo := lo) (hi := hi) (by omega))
    go_enter Try.func70, Try.ntmps70
    go_wp2
    go_ret
    exact ⟨ret_bool he.out.symm, rfl⟩
theorem z_of {r : Int} (h : zeroW r = true) : (0 : Int) = (wid r : Nat) := by unfold wid; rw [if_pos h]; rfl
theorem t_of {r : Int} (hz : zeroW r = false) (h : twoW r = true) : (2 : Int) = (wid r : Nat) := by unfold wid; rw [if_neg (by rw [hz]; decide), if_pos h]; rfl
theorem o_of {r : Int} (hz : zeroW r = false) (h : twoW r = false) : (1 : Int) = (wid r : Nat) := by unfold wid; rw [if_neg (by rw [hz]; decide), if_neg (by rw [h]; decide)]; rfl
theorem z_n {r : Int} (h : noneR r = true) : zeroW r = true := by unfold zeroW; rw [h]; simp only [Bool.true_or]
theorem z_0 {r : Int} (h : inR r 127 159 = true) : zeroW r = true := by unfold zeroW; rw [h]; simp
theorem z_1 {r : Int} (h : inR r 768 879 = true) : zeroW r = true := by unfold zeroW; rw [h]; simp
theorem z_2 {r : Int} (h : inR r 8203 8207 = true) : zeroW r = true := by unfold zeroW; rw [h]; simp
theorem z_3 {r : Int} (h : inR r 65024 65039 = true) : zeroW r = true := by unfold zeroW; rw [h]; simp
theorem z_32 {r : Int} (h : r < 32) : zeroW r = true := by unfold zeroW; rw [decide_eq_true h]; simp
theorem z_or {r : Int} (h : r < 32 ∨ inR r 65024 65039 = true) : zeroW r = true := by
  rcases h with h | h
  · exact z_32 h
  · exact z_3 h
theorem z_no {r : Int} (a : ¬noneR r = true) (b : 32 ≤ r) (c0 : ¬inR r 127 159 = true) (c1 : ¬inR r 768 879 = true) (c2 : ¬inR r 8203 8207 = true) (c : 32 ≤ r ∧ inR r 65024 65039 = false) : zeroW r = false := by
  unfold zeroW
  rw [Bool.eq_false_iff.2 a, decide_eq_false (show ¬ r < 32 by omega), Bool.eq_false_iff.2 c0, Bool.eq_false_iff.2 c1, Bool.eq_false_iff.2 c2, c.2]
  rfl
theorem t_0 {r : Int} (h : inR r 4352 4447 = true) : twoW r = true := by unfold twoW; rw [h]; simp
theorem t_1 {r : Int} (h : inR r 11904 12350 = true) : twoW r = true := by unfold twoW; rw [h]; simp
theorem t_2 {r : Int} (h : inR r 12353 42191 = true) : twoW r = true := by unfold twoW; rw [h]; simp
theorem t_3 {r : Int} (h : inR r 44032 55203 = true) : twoW r = true := by unfold twoW; rw [h]; simp
theorem t_4 {r : Int} (h : inR r 63744 64255 = true) : twoW r = true := by unfold twoW; rw [h]; simp
theorem t_5 {r : Int} (h : inR r 65072 65135 = true) : twoW r = true := by unfold twoW; rw [h]; simp
theorem t_6 {r : Int} (h : inR r 65281 65376 = true) : twoW r = true := by unfold twoW; rw [h]; simp
theorem t_7 {r : Int} (h : inR r 65504 65510 = true) : twoW r = true := by unfold twoW; rw [h]; simp
theorem t_8 {r : Int} (h : inR r 127744 128591 = true) : twoW r = true := by unfold twoW; rw [h]; simp
theorem t_9 {r : Int} (h : inR r 129280 129535 = true) : twoW r = true := by unfold twoW; rw [h]; simp
theorem t_10 {r : Int} (h : inR r 131072 262141 = true) : twoW r = true := by unfold twoW; rw [h]; simp
theorem t_no {r : Int} (c0 : ¬inR r 4352 4447 = true) (c1 : ¬inR r 11904 12350 = true) (c2 : ¬inR r 12353 42191 = true) (c3 : ¬inR r 44032 55203 = true) (c4 : ¬inR r 63744 64255 = true) (c5 : ¬inR r 65072 65135 = true) (c6 : ¬inR r 65281 65376 = true) (c7 : ¬inR r 65504 65510 = true) (c8 : ¬inR r 127744 128591 = true) (c9 : ¬inR r 129280 129535 = true) (c10 : inR r 131072 262141 = false) : twoW r = false := by
  unfold twoW
  rw [Bool.eq_false_iff.2 c0, Bool.eq_false_iff.2 c1, Bool.eq_false_iff.2 c2, Bool.eq_false_iff.2 c3, Bool.eq_false_iff.2 c4, Bool.eq_false_iff.2 c5, Bool.eq_false_iff.2 c6, Bool.eq_false_iff.2 c7, Bool.eq_false_iff.2 c8, Bool.eq_false_iff.2 c9, c10]
  rfl
set_option maxRecDepth 100000 in
set_option maxHeartbeats 4000000 in
theorem widthR_any (r : Int) (w : World) (hr0 : -2147483648 ≤ r) (hr1 : r ≤ 2147483647) : Calls Try.prog 53 #[.int .i32 r] w fun e w' => e = .returned (.int .i64 (wid r : Nat)) ∧ w = w' := by
  go_enter Try.func53, Try.ntmps53
  go_wp2_with (first | (go_at_call 69; refine (none_any _ _).mono ?_; rintro e w' ⟨rfl, rfl⟩) | (go_at_call 70; refine (within_any _ _ _ _ (by assumption) (by assumption)).mono ?_; rintro e w' ⟨rfl, rfl⟩))
  all_goals
    go_ret
    refine ⟨ret_int64 ?_, rfl⟩
    go_light
    first
      | exact z_of (z_n (by assumption))
      | exact z_of (z_0 (by assumption))
      | exact z_of (z_1 (by assumption))
      | exact z_of (z_2 (by assumption))
      | exact z_of (z_3 (by assumption))
      | exact z_of (z_32 (by assumption))
      | exact z_of (z_or (by assumption))
      | exact t_of (z_no (by assumption) (by assumption) (by assumption) (by assumption) (by assumption) (by assumption)) (t_0 (by assumption))
      | exact t_of (z_no (by assumption) (by assumption) (by assumption) (by assumption) (by assumption) (by assumption)) (t_1 (by assumption))
      | exact t_of (z_no (by assumption) (by assumption) (by assumption) (by assumption) (by assumption) (by assumption)) (t_2 (by assumption))
      | exact t_of (z_no (by assumption) (by assumption) (by assumption) (by assumption) (by assumption) (by assumption)) (t_3 (by assumption))
      | exact t_of (z_no (by assumption) (by assumption) (by assumption) (by assumption) (by assumption) (by assumption)) (t_4 (by assumption))
      | exact t_of (z_no (by assumption) (by assumption) (by assumption) (by assumption) (by assumption) (by assumption)) (t_5 (by assumption))
      | exact t_of (z_no (by assumption) (by assumption) (by assumption) (by assumption) (by assumption) (by assumption)) (t_6 (by assumption))
      | exact t_of (z_no (by assumption) (by assumption) (by assumption) (by assumption) (by assumption) (by assumption)) (t_7 (by assumption))
      | exact t_of (z_no (by assumption) (by assumption) (by assumption) (by assumption) (by assumption) (by assumption)) (t_8 (by assumption))
      | exact t_of (z_no (by assumption) (by assumption) (by assumption) (by assumption) (by assumption) (by assumption)) (t_9 (by assumption))
      | exact t_of (z_no (by assumption) (by assumption) (by assumption) (by assumption) (by assumption) (by assumption)) (t_10 (by assumption))
      | exact o_of (z_no (by assumption) (by assumption) (by assumption) (by assumption) (by assumption) (by assumption)) (t_no (by assumption) (by assumption) (by assumption) (by assumption) (by assumption) (by assumption) (by assumption) (by assumption) (by assumption) (by assumption) (by assumption))
/-- The program's table. -/
def spanL : List (Int × Int × Int) := [(127, 159, 0), (768, 879, 0), (8203, 8207, 0), (55296, 57343, 0), (65024, 65039, 0), (4352, 4447, 2), (11904, 12350, 2), (12353, 42191, 2), (44032, 55203, 2), (63744, 64255, 2), (65072, 65135, 2), (65281, 65376, 2), (65504, 65510, 2), (127744, 128591, 2), (129280, 129535, 2), (131072, 262141, 2)]
def spC : Array Value := (spanL.flatMap fun s => [.int .i32 s.1, .int .i32 s.2.1, .int .i64 s.2.2]).toArray
def spV (s : Int × Int × Int) : Value := .agg #[.int .i32 s.1, .int .i32 s.2.1, .int .i64 s.2.2]
def spAt (k : Nat) : Int × Int × Int := spanL.getD k (0, 0, 0)
theorem spC_at (k : Nat) (hk : k < 16) (w : World) : (Instr.index 115 (.agg spC) (.int .i64 (k : Nat))).run Try.prog w = .ok (spV (spAt k)) w := by
  have h : ∀ k : Fin 16, ∀ w : World, (Instr.index 115 (.agg spC) (.int .i64 (k.val : Nat))).run Try.prog w = .ok (spV (spAt k.val)) w := by
    intro k w
    rcases k with ⟨k, hk⟩
    rcases k with _ | _ | _ | _ | _ | _ | _ | _ | _ | _ | _ | _ | _ | _ | _ | _ | k
    case' succ.succ.succ.succ.succ.succ.succ.succ.succ.succ.succ.succ.succ.succ.succ.succ => omega
    all_goals kernel_rfl
  exact h ⟨k, hk⟩ w
def NoSp (r : Int) (k : Nat) : Prop := ∀ j, j < k → inR r (spAt j).1 (spAt j).2.1 = false
theorem NoSp.succ {r : Int} {k : Nat} (h : NoSp r k) (hn : inR r (spAt k).1 (spAt k).2.1 = false) : NoSp r (k + 1) := fun j hj => by
  by_cases e : j = k
  · rw [e]; exact hn
  · exact h j (by omega)
theorem zeroW_no {r : Int} (h : 159 < r ∧ r ≤ 1114111 ∧ (r < 55296 ∨ 57343 < r) ∧ (r < 768 ∨ 879 < r) ∧ (r < 8203 ∨ 8207 < r) ∧ (r < 65024 ∨ 65039 < r)) : zeroW r = false := by
  unfold zeroW noneR
  rw [decide_eq_false (show ¬ r < 0 by omega), decide_eq_false (show ¬ 1114111 < r by omega), decide_eq_false (show ¬ r < 32 by omega), inR_not (show r < 55296 ∨ 57343 < r by omega), inR_not (show r < 127 ∨ 159 < r by omega), inR_not (show r < 768 ∨ 879 < r by omega), inR_not (show r < 8203 ∨ 8207 < r by omega), inR_not (show r < 65024 ∨ 65039 < r by omega)]
  rfl
theorem wid_span (r : Int) (k : Nat) (hk : k < 16) (hin : inR r (spAt k).1 (spAt k).2.1 = true) : (spAt k).2.2 = (wid r : Nat) := by
  rcases k with _ | _ | _ | _ | _ | _ | _ | _ | _ | _ | _ | _ | _ | _ | _ | _ | k
  · exact z_of (z_0 hin)
  · exact z_of (z_1 hin)
  · exact z_of (z_2 hin)
  · exact z_of (z_n (by unfold noneR; rw [show inR r 55296 57343 = true from hin]; simp))
  · exact z_of (z_3 hin)
  · have h : 4352 ≤ r ∧ r ≤ 4447 := inR_true hin
    exact t_of (zeroW_no (by omega)) (t_0 hin)
  · have h : 11904 ≤ r ∧ r ≤ 12350 := inR_true hin
    exact t_of (zeroW_no (by omega)) (t_1 hin)
  · have h : 12353 ≤ r ∧ r ≤ 42191 := inR_true hin
    exact t_of (zeroW_no (by omega)) (t_2 hin)
  · have h : 44032 ≤ r ∧ r ≤ 55203 := inR_true hin
    exact t_of (zeroW_no (by omega)) (t_3 hin)
  · have h : 63744 ≤ r ∧ r ≤ 64255 := inR_true hin
    exact t_of (zeroW_no (by omega)) (t_4 hin)
  · have h : 65072 ≤ r ∧ r ≤ 65135 := inR_true hin
    exact t_of (zeroW_no (by omega)) (t_5 hin)
  · have h : 65281 ≤ r ∧ r ≤ 65376 := inR_true hin
    exact t_of (zeroW_no (by omega)) (t_6 hin)
  · have h : 65504 ≤ r ∧ r ≤ 65510 := inR_true hin
    exact t_of (zeroW_no (by omega)) (t_7 hin)
  · have h : 127744 ≤ r ∧ r ≤ 128591 := inR_true hin
    exact t_of (zeroW_no (by omega)) (t_8 hin)
  · have h : 129280 ≤ r ∧ r ≤ 129535 := inR_true hin
    exact t_of (zeroW_no (by omega)) (t_9 hin)
  · have h : 131072 ≤ r ∧ r ≤ 262141 := inR_true hin
    exact t_of (zeroW_no (by omega)) (t_10 hin)
  · omega
theorem wid_none (r : Int) (h0 : 127 ≤ r) (h1 : r ≤ 1114111) (hno : NoSp r 16) : (1 : Int) = (wid r : Nat) := by
  have e0 : inR r 127 159 = false := hno 0 (by omega)
  have e1 : inR r 768 879 = false := hno 1 (by omega)
  have e2 : inR r 8203 8207 = false := hno 2 (by omega)
  have e3 : inR r 55296 57343 = false := hno 3 (by omega)
  have e4 : inR r 65024 65039 = false := hno 4 (by omega)
  have e5 : inR r 4352 4447 = false := hno 5 (by omega)
  have e6 : inR r 11904 12350 = false := hno 6 (by omega)
  have e7 : inR r 12353 42191 = false := hno 7 (by omega)
  have e8 : inR r 44032 55203 = false := hno 8 (by omega)
  have e9 : inR r 63744 64255 = false := hno 9 (by omega)
  have e10 : inR r 65072 65135 = false := hno 10 (by omega)
  have e11 : inR r 65281 65376 = false := hno 11 (by omega)
  have e12 : inR r 65504 65510 = false := hno 12 (by omega)
  have e13 : inR r 127744 128591 = false := hno 13 (by omega)
  have e14 : inR r 129280 129535 = false := hno 14 (by omega)
  have e15 : inR r 131072 262141 = false := hno 15 (by omega)
  refine o_of ?_ ?_
  · unfold zeroW noneR
    rw [decide_eq_false (show ¬ r < 0 by omega), decide_eq_false (show ¬ 1114111 < r by omega), decide_eq_false (show ¬ r < 32 by omega), e3, e0, e1, e2, e4]
    rfl
  · unfold twoW
    rw [e5, e6, e7, e8, e9, e10, e11, e12, e13, e14, e15]
    rfl
theorem wid_low (r : Int) (h0 : 32 ≤ r) (h1 : r < 127) : (1 : Int) = (wid r : Nat) := by
  refine o_of ?_ ?_
  · unfold zeroW noneR
    rw [decide_eq_false (show ¬ r < 0 by omega), decide_eq_false (show ¬ 1114111 < r by omega), decide_eq_false (show ¬ r < 32 by omega), inR_not (show r < 55296 ∨ 57343 < r by omega), inR_not (show r < 127 ∨ 159 < r by omega), inR_not (show r < 768 ∨ 879 < r by omega), inR_not (show r < 8203 ∨ 8207 < r by omega), inR_not (show r < 65024 ∨ 65039 < r by omega)]
    rfl
  · unfold twoW
    rw [inR_not (show r < 4352 ∨ 4447 < r by omega), inR_not (show r < 11904 ∨ 12350 < r by omega), inR_not (show r < 12353 ∨ 42191 < r by omega), inR_not (show r < 44032 ∨ 55203 < r by omega), inR_not (show r < 63744 ∨ 64255 < r by omega), inR_not (show r < 65072 ∨ 65135 < r by omega), inR_not (show r < 65281 ∨ 65376 < r by omega), inR_not (show r < 65504 ∨ 65510 < r by omega), inR_not (show r < 127744 ∨ 128591 < r by omega), inR_not (show r < 129280 ∨ 129535 < r by omega), inR_not (show r < 131072 ∨ 262141 < r by omega)]
    rfl
theorem wid_out (r : Int) (h0 : r < 32 ∨ 1114111 < r) : (0 : Int) = (wid r : Nat) := by
  rcases h0 with h | h
  · exact z_of (z_32 h)
  · exact z_of (z_n (by unfold noneR; rw [decide_eq_true h]; simp))
section
variable {P : Program} {w : World} {ops : Array Oper} {rest : List Oper} {o : Oper} {a : Act} {Q : Exit → Act → World → Prop}
theorem wpList_build_to (hg : o.guard = none) (t : TypeId) (parts : Array (Nat × Operand)) (ho : o.op = .build t parts) (cs : Array Value) (hb : P.built t (parts.map fun (i, x) => (i, a.eval x)).toList = some cs)
    (h : wpList P ops Q rest (a.put o.dst (.agg cs)) w) : wpList P ops Q (o :: rest) a w := wpList_build hg t parts ho (by rw [hb]; rfl) (by rw [hb]; exact h)
end
set_option maxRecDepth 100000 in
set_option maxHeartbeats 4000000 in
theorem width_any (r : Int) (w : World) (hr0 : -2147483648 ≤ r) (hr1 : r ≤ 2147483647) : Calls Try.prog 77 #[.int .i32 r] w fun e w' => e = .returned (.int .i64 (wid r : Nat)) ∧ Below w.heap.size w w' := by
  go_enter Try.func77, Try.ntmps77
  go_upto_region 1 with fail
  go_cut [3] from 6 to 23 (fun s3 wx => s3 = .pointer (some ⟨w.heap.size, 0, none⟩) ∧ wx.heap[w.heap.size]? = some (.cells spC 115 (0, 0)) ∧ Below w.heap.size w wx)
  case first =>
    go_wp2_with (first
      | (refine wpList_build_to rfl 115 #[(0, .tmp 6), (1, .tmp 7), (2, .tmp 8), (3, .tmp 9), (4, .tmp 10), (5, .tmp 11), (6, .tmp 12), (7, .tmp 13), (8, .tmp 14), (9, .tmp 15), (10, .tmp 16), (11, .tmp 17), (12, .tmp 18), (13, .tmp 19), (14, .tmp 20), (15, .tmp 21)] rfl spC (by kernel_rfl) ?_)
      | (refine wpList_store_row rfl 115 (.tmp 3) (.tmp 22) rfl _ spC rfl rfl _ _ (heap_alloc_last _ _) (by kernel_rfl) (by kernel_rfl) (by kernel_rfl) ?_; rw [World.setRow_alloc_new]))
    go_meet
    exact ⟨rfl, heap_alloc_last _ _, (Below.refl _ _).alloc (Nat.le_refl _) _⟩
  case rest =>
  obtain ⟨rfl, hB, hb⟩ := hcut
  by_cases h0 : r < 32
  · have HW := Lib.hid (wid_out r (.inl h0))
    go_wp2_with fail
    go_ret
    exact ⟨ret_int64 HW.out, hb⟩
  by_cases h1 : 1114111 < r
  · have HW := Lib.hid (wid_out r (.inr h1))
    go_wp2_with fail
    go_ret
    exact ⟨ret_int64 HW.out, hb⟩
  by_cases h2 : r < 127
  · have HW := Lib.hid (wid_low r (by omega) h2)
    go_wp2_with fail
    go_ret
    exact ⟨ret_int64 HW.out, hb⟩
  go_wp2_with (refine wpList_load_row rfl 115 (.tmp 3) rfl w.heap.size rfl _ spC (0, 0) _ hB Try.underlying115 rfl (by kernel_rfl) ?_)
  go_loopw [34] (fun i wr => ∃ k : Nat, k ≤ 16 ∧ i = .int .i64 k ∧ NoSp r k ∧ Below w.heap.size w wr) (fun i _ => 16 - (intOf i).toNat)
  case atStart => exact ⟨0, by omega, rfl, fun j hj => by omega, hb⟩
  case round =>
    obtain ⟨k, hk, rfl, hno, hbr⟩ := hrel
    have HNo := Lib.hid hno
    clear hno hB hb
    by_cases hlt : k < 16
    · obtain ⟨⟨lo, hi, v⟩, hsp⟩ : ∃ s, s = spAt k := ⟨_, rfl⟩
      have hix : ∀ w' : World, (Instr.index 115 (.agg spC) (.int .i64 (k : Nat))).run Try.prog w' = .ok (.agg #[.int .i32 lo, .int .i32 hi, .int .i64 v]) w' := fun w' => by
        rw [spC_at k hlt w', ← hsp]
        rfl
      have HI := Lib.hid hsp
      clear hsp
      by_cases hin : lo ≤ r
      · by_cases hin2 : r ≤ hi
        · go_wp2_with fail
          go_ret
          exact ⟨ret_int64 (by
            have e := HI.out
            have h := wid_span r k hlt (by rw [← e]; exact inR_of ⟨hin, hin2⟩)
            rw [← e] at h
            exact h), (hbr.alloc hbr.size _)⟩
        · go_wp2_with fail
          go_roundw
          case rel => exact ⟨k + 1, by omega, by go_num, HNo.out.succ (by rw [← HI.out]; exact inR_not (.inr (by show hi < r; omega))), (hbr.alloc hbr.size _)⟩
          case measure => simp [intOf]; omega
      · go_wp2_with fail
        go_roundw
        case rel => exact ⟨k + 1, by omega, by go_num, HNo.out.succ (by rw [← HI.out]; exact inR_not (.inl (by show r < lo; omega))), (hbr.alloc hbr.size _)⟩
        case measure => simp [intOf]; omega
    · obtain rfl : k = 16 := by omega
      have HW := Lib.hid (wid_none r (by omega) (by omega) HNo.out)
      go_wp2_with fail
      go_ret
      exact ⟨ret_int64 HW.out, hbr⟩
end Go.Proofs.Ytpjafocgabhieaa
