/- The laws of chapter 2 that need no fault: CheckNil, CheckParts, walked. -/
import Derived.Test.YtopcohfkfpjecaaCheckW
namespace Go.Proofs.Ytopcohfkfpjecaa
open Go.RowKit Crc

theorem more_crc (L m : List UInt8) : run (crc L ^^^ ones) m ^^^ ones = crc (L ++ m) := by
  unfold crc
  rw [Nat.xor_assoc, Nat.xor_self, Nat.xor_zero, run_append]
theorem write_crc (b : Nat) (L : List UInt8) (A : Option Addr) (n c : Nat) (ps : List ByteArray) (w : World) (hS : SumAt w b (crc L)) (hn : ps.length = n) (hm : n ≤ maxLen) (hP : Elems w A n fun k => .string (ps.getD k ByteArray.empty)) (hsz : ∀ p ∈ ps, p.size ≤ maxLen) :
    Calls Try.prog 10 #[.pointer (some ⟨b, 0, none⟩), .slice A n c] w fun e w' => e = .returned (.pointer (some ⟨b, 0, none⟩)) ∧ SumAt w' b (crc (L ++ allB ps)) ∧ Only b w w' :=
  (write_any b (crc L) A n c ps w (crc_lt L) hS hn hm hP hsz).mono fun _ _ ⟨he, h1, h2⟩ => ⟨he, by rw [more_crc] at h1; exact h1, h2⟩

theorem ba_data (x y : ByteArray) : (x ++ y).data.toList = x.data.toList ++ y.data.toList := by simp

set_option maxRecDepth 100000 in
theorem awake_any (w : World) : Calls Try.prog 6 #[] w fun e w' => e = .returned (.bool true) ∧ Below w.heap.size w w' := by
  have HZ := Lib.hid awake_sum
  go_enter Try.func6, Try.ntmps6
  go_wp2_with fail
  refine (sum_any _ w (by decide)).mono ?_
  rintro e w1 ⟨rfl, hb⟩
  rw [show (⟨#[49, 50, 51, 52, 53, 54, 55, 56, 57]⟩ : ByteArray).data.toList = [49, 50, 51, 52, 53, 54, 55, 56, 57] from rfl, HZ.out]
  go_wp2_with fail
  go_ret
  exact ⟨rfl, hb⟩

set_option maxRecDepth 100000 in
theorem short_any (s : ByteArray) (n : Nat) (w : World) : Calls Try.prog 7 #[.string s, .int .i64 n] w fun e w' => e = .returned (.string (cutB s n)) ∧ w = w' := by
  by_cases h : n < s.size
  · go_enter Try.func7, Try.ntmps7
    go_wp2
    go_ret
    exact ⟨ret_str_of (cutB_some s n).symm, rfl⟩
  · go_enter Try.func7, Try.ntmps7
    go_wp2
    go_ret
    exact ⟨ret_str_of (cutB_all (by omega)).symm, rfl⟩

set_option maxRecDepth 100000 in
theorem write_nil (A : Option Addr) (n c : Nat) (w : World) : Calls Try.prog 10 #[.pointer none, .slice A n c] w fun e w' => e = .returned (.pointer none) ∧ w = w' := by
  go_enter Try.func10, Try.ntmps10
  go_wp2
  go_ret
  exact ⟨rfl, rfl⟩
set_option maxRecDepth 100000 in
theorem sumM_nil (w : World) : Calls Try.prog 11 #[.pointer none] w fun e w' => e = .returned (.int .u32 0) ∧ w = w' := by
  go_enter Try.func11, Try.ntmps11
  go_wp2
  go_ret
  exact ⟨rfl, rfl⟩
set_option maxRecDepth 100000 in
theorem resetM_nil (w : World) : Calls Try.prog 12 #[.pointer none] w fun e w' => e = .returned (.tuple #[]) ∧ w = w' := by
  go_enter Try.func12, Try.ntmps12
  go_wp2
  go_end0
  exact ⟨rfl, rfl⟩

set_option maxRecDepth 100000 in
theorem checkNil_walk (s : ByteArray) (w : World) : Calls Try.prog 5 #[.string s] w fun e w' => e = .returned (.bool true) ∧ Below w.heap.size w w' := by
  go_enter Try.func5, Try.ntmps5
  go_wp2_with fail
  refine (resetM_nil w).mono ?_
  rintro e w1 ⟨rfl, rfl⟩
  go_wp2_with fail
  refine (awake_any w).mono ?_
  rintro e w1 ⟨rfl, hb1⟩
  go_wp2_with fail
  refine (sumM_nil _).mono ?_
  rintro e w2 ⟨rfl, rfl⟩
  go_wp2_with fail
  refine (short_any s 20 _).mono ?_
  rintro e w2 ⟨rfl, rfl⟩
  go_wp2_with fail
  refine (write_nil _ _ _ _).mono ?_
  rintro e w2 ⟨rfl, rfl⟩
  go_wp2_with fail
  go_ret
  exact ⟨rfl, hb1.alloc hb1.size _⟩

theorem Elems.made (w : World) (cs : Array Value) (t : TypeId) (n : Nat) (f : Nat → Value) (hf : ∀ k, k < n → cs[k]? = some (f k)) : Elems (w.alloc (.cells cs t)) (some ⟨w.heap.size, 0, none⟩) n f := fun _ =>
  ⟨_, rfl, fun k hk => by
    rw [show ((⟨w.heap.size, 0, none⟩ : Addr).add k) = ⟨w.heap.size, k, none⟩ from by unfold Addr.add; split <;> simp_all, World.cell?_alloc_mark w cs t (0, 0) k]
    exact hf k hk⟩
theorem SumAt.only {w w' : World} {b s g : Nat} (h : SumAt w b s) (ho : Only g w w') (hne : b ≠ g) : SumAt w' b s := by
  obtain ⟨cs, hB, hs, ht, hl⟩ := h
  exact ⟨cs, hB.grown ho (fun e => hne (by injection e)), hs, ht, hl⟩

set_option maxRecDepth 100000 in
set_option maxHeartbeats 1000000 in
theorem checkParts_walk (a b c : ByteArray) (w : World) : Calls Try.prog 4 #[.string a, .string b, .string c] w fun e w' => e = .returned (.bool true) ∧ Below w.heap.size w w' := by
  have hxs : (cutB a 100).size ≤ 100 := by rw [cutB_size]; omega
  have hys : (cutB b 100).size ≤ 100 := by rw [cutB_size]; omega
  have hzs : (cutB c 100).size ≤ 100 := by rw [cutB_size]; omega
  go_enter Try.func4, Try.ntmps4
  go_wp2_with fail
  refine (awake_any w).mono ?_
  rintro e w1 ⟨rfl, hb1⟩
  go_wp2_with fail
  refine (short_any a 100 _).mono ?_
  rintro e w2 ⟨rfl, rfl⟩
  go_wp2_with fail
  refine (short_any b 100 _).mono ?_
  rintro e w2 ⟨rfl, rfl⟩
  go_wp2_with fail
  refine (short_any c 100 _).mono ?_
  rintro e w2 ⟨rfl, rfl⟩
  generalize cutB a 100 = x at hxs ⊢
  generalize cutB b 100 = y at hys ⊢
  generalize cutB c 100 = z at hzs ⊢
  go_wp2_with fail
  refine (new_any _).mono ?_
  rintro e w2 ⟨rfl, hS2, hb2, hlt2⟩
  have hB2 := later hb1 hb2
  go_wp2_with fail
  refine (write_crc _ [] _ _ _ [x, y] _ (hS2.alloc _) rfl (by simp [maxLen]) (Elems.made _ _ _ _ _ (fun k hk => by have hk2 : k < 2 := hk; rcases (show k = 0 ∨ k = 1 by omega) with rfl | rfl <;> rfl)) (fun p hp => by simp at hp; unfold maxLen; rcases hp with rfl | rfl <;> omega)).mono ?_
  rintro e w3 ⟨rfl, hS3, hO3⟩
  rw [show ([] ++ allB [x, y] : List UInt8) = x.data.toList ++ y.data.toList from by simp [allB]] at hS3
  have hB3 : Below w.heap.size w w3 := (hB2.alloc hB2.size _).trans (only_below hO3 hb1.size (by simp; have := hB2.size; omega))
  have hlt3 : w1.heap.size < w3.heap.size := hS3.lt
  go_wp2_with fail
  refine (sumM_any _ _ _ hS3).mono ?_
  rintro e w4 ⟨rfl, rfl⟩
  go_wp2_with fail
  refine (write_crc _ (x.data.toList ++ y.data.toList) _ _ _ [z] _ (hS3.alloc _) rfl (by simp [maxLen]) (Elems.made _ _ _ _ _ (fun k hk => by have hk1 : k < 1 := hk; obtain rfl : k = 0 := (by omega); rfl)) (fun p hp => by simp at hp; unfold maxLen; subst hp; omega)).mono ?_
  rintro e w4 ⟨rfl, hS4, hO4⟩
  rw [show allB [z] = z.data.toList from by simp [allB]] at hS4
  have hB4 : Below w.heap.size w w4 := (hB3.alloc hB3.size _).trans (only_below hO4 hb1.size (by simp; have := hB3.size; omega))
  go_wp2_with fail
  refine (sumM_any _ _ _ hS4).mono ?_
  rintro e w5 ⟨rfl, rfl⟩
  go_wp2_with fail
  refine (resetM_any _ _ _ hS4).mono ?_
  rintro e w5 ⟨rfl, hS5, hO5⟩
  have hB5 : Below w.heap.size w w5 := hB4.trans (only_below hO5 hb1.size hB4.size)
  go_wp2_with fail
  refine (sumM_any _ _ _ hS5).mono ?_
  rintro e w6 ⟨rfl, rfl⟩
  go_wp2_with fail
  refine (write_crc _ [] _ _ _ [z] _ (hS5.alloc _) rfl (by simp [maxLen]) (Elems.made _ _ _ _ _ (fun k hk => by have hk1 : k < 1 := hk; obtain rfl : k = 0 := (by omega); rfl)) (fun p hp => by simp at hp; unfold maxLen; subst hp; omega)).mono ?_
  rintro e w6 ⟨rfl, hS6, hO6⟩
  rw [show ([] ++ allB [z] : List UInt8) = z.data.toList from by simp [allB]] at hS6
  have hB6 : Below w.heap.size w w6 := (hB5.alloc hB5.size _).trans (only_below hO6 hb1.size (by simp; have := hB5.size; omega))
  go_wp2_with fail
  refine (sumM_any _ _ _ hS6).mono ?_
  rintro e w7 ⟨rfl, rfl⟩
  clear hO3 hO4 hO5 hO6 hS2 hS3 hS4 hS5 hS6
  go_wp2_with fail
  refine (sum_any _ _ (by rw [ByteArray.size_append]; unfold maxLen; omega)).mono ?_
  rintro e w7 ⟨rfl, hb7⟩
  rw [ba_data]
  go_wp2_with fail
  refine (sum_any _ _ (by rw [ByteArray.size_append, ByteArray.size_append]; unfold maxLen; omega)).mono ?_
  rintro e w8 ⟨rfl, hb8⟩
  rw [ba_data, ba_data]
  go_wp2_with fail
  refine (sum_any _ _ (by decide)).mono ?_
  rintro e w9 ⟨rfl, hb9⟩
  rw [show crc (⟨#[]⟩ : ByteArray).data.toList = 0 from rfl]
  go_wp2_with fail
  refine (sum_any _ _ (by unfold maxLen; omega)).mono ?_
  rintro e w10 ⟨rfl, hb10⟩
  go_wp2_with fail
  go_ret
  exact ⟨rfl, hB6.trans ((later hb7 (later hb8 (later hb9 hb10))).mono hB6.size)⟩
end Go.Proofs.Ytopcohfkfpjecaa
