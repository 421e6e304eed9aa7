/- Of no network nothing comes: its methods, walked. (Types and functions by this seat's numbers.) -/
import Derived.Test.YtfficdloekfpcaaNetAwk
import Derived.Test.YtfficdloekfpcaaOpenN
namespace Go.Proofs.Ytfficdloekfpcaa
open Go.RowKit Go.Maps
set_option maxRecDepth 100000 in
theorem change_nil (i : Int) (F : Value) (w : World) : Calls Try.prog 21 #[.pointer none, .int .i64 i, F] w fun e w' => e = .returned (.bool false) ∧ w = w' := by
  go_enter Try.func21, Try.ntmps21
  go_wp2_with fail
  refine (none_nil _).mono ?_
  rintro e w1 ⟨rfl, rfl⟩
  go_wp2_with fail
  go_ret
  exact ⟨rfl, rfl⟩
set_option maxRecDepth 100000 in
theorem take_nil (i : Int) (w : World) : Calls Try.prog 9 #[.pointer none, .int .i64 i] w fun e w' => e = .returned (.tuple #[.agg #[.int .i64 0, .int .i64 0, .string ByteArray.empty], .bool false]) ∧ Below w.heap.size w w' := by
  go_enter Try.func9, Try.ntmps9
  go_wp2_with fail
  refine (change_nil i _ _).mono ?_
  rintro e w1 ⟨rfl, rfl⟩
  go_wp2_with fail
  refine bodyPost_ret (v := .tuple #[.agg #[.int .i64 0, .int .i64 0, .string ByteArray.empty], .bool false]) ?_ rfl ⟨rfl, ?_⟩
  · simp [results, Try.results9, go_sem]
    try rfl
  · exact ((((Below.refl _ _).alloc (Nat.le_refl _) _).alloc (by simp) _).alloc (by simp; omega) _).alloc (by simp; omega) _
set_option maxRecDepth 100000 in
theorem drop_nil (i : Int) (w : World) : Calls Try.prog 12 #[.pointer none, .int .i64 i] w fun e w' => e = .returned (.bool false) ∧ Below w.heap.size w w' := by
  go_enter Try.func12, Try.ntmps12
  go_wp2_with fail
  refine (take_nil i _).mono ?_
  rintro e w1 ⟨rfl, hb1⟩
  go_wp2_with fail
  go_ret
  exact ⟨rfl, hb1.alloc hb1.size _⟩
set_option maxRecDepth 100000 in
theorem copy_nil (i : Int) (w : World) : Calls Try.prog 13 #[.pointer none, .int .i64 i] w fun e w' => e = .returned (.bool false) ∧ Below w.heap.size w w' := by
  go_enter Try.func13, Try.ntmps13
  go_wp2_with fail
  refine (change_nil i _ _).mono ?_
  rintro e w1 ⟨rfl, rfl⟩
  go_wp2_with fail
  go_ret
  exact ⟨rfl, (Below.refl _ _).alloc (Nat.le_refl _) _⟩
set_option maxRecDepth 100000 in
theorem spoil_nil (i at_ : Int) (b0 b1 b2 b3 : Int) (w : World) : Calls Try.prog 17 #[.pointer none, .int .i64 i, .int .i64 at_, .agg #[.int .u8 b0, .int .u8 b1, .int .u8 b2, .int .u8 b3]] w fun e w' => e = .returned (.bool false) ∧ Below w.heap.size w w' := by
  go_enter Try.func17, Try.ntmps17
  go_wp2_with fail
  refine (change_nil i _ _).mono ?_
  rintro e w1 ⟨rfl, rfl⟩
  go_wp2_with fail
  go_ret
  exact ⟨rfl, ((Below.refl _ _).alloc (Nat.le_refl _) _).alloc (by simp) _⟩
set_option maxRecDepth 100000 in
theorem inject_nil (a c : Int) (s : ByteArray) (w : World) (hs : s.size ≤ maxLen) : Calls Try.prog 15 #[.pointer none, .agg #[.int .i64 a, .int .i64 c, .string s]] w fun e w' => e = .returned (.bool false) ∧ Below w.heap.size w w' := by
  have ho := fun w => open_any s w hs
  generalize (openP s).1 = x at ho
  generalize (openP s).2 = n at ho
  go_enter Try.func15, Try.ntmps15
  go_wp2_with fail
  refine (ho _).mono ?_
  rintro e w1 ⟨rfl, hb1⟩
  have hP := (Blk.new w 27 #[.int .i64 a, .int .i64 c, .string s]).below hb1 (by simp)
  have p0 : w1.cell? ⟨w.heap.size, 0, none⟩ = some (.int .i64 a) := hP.cell 0
  have p1 : w1.cell? ⟨w.heap.size, 1, none⟩ = some (.int .i64 c) := hP.cell 1
  have p2 : w1.cell? ⟨w.heap.size, 2, none⟩ = some (.string s) := hP.cell 2
  clear ho
  by_cases hn : n = 0
  · have he : errV n = .nilIface := if_pos hn
    rw [he]
    go_wp2_with fail
    go_ret
    exact ⟨rfl, later_alloc _ hb1⟩
  · have he : errV n = .iface 51 (.int .i64 n) := if_neg hn
    rw [he]
    go_wp2_with fail
    refine (send_nil a c s _).mono ?_
    rintro e w2 ⟨rfl, hb2⟩
    go_wp2_with fail
    go_ret
    exact ⟨rfl, later (later_alloc _ hb1) hb2⟩
end Go.Proofs.Ytfficdloekfpcaa
