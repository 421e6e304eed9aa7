/- fault.New, fault.Code, fault.Is of a code alone. -/
import Derived.Test.YtcmepnninlocmaaDoorAsW
import Derived.Test.YtcmepnninlocmaaDoorBytesL
import Derived.Stop.IfaceNil
import Derived.Lib.IfaceEq
namespace Go.Proofs.YtcmepnninlocmaaDoor
open Go.RowKit Go.Extern.Stop Go.Stop Go.Extern
/-- What the package errors keeps: the type error. -/
def ErrT (w : World) : Prop := w.cell? ⟨0, 0, none⟩ = some (.iface 95 (.agg #[.pointer (some ⟨5, 29, none⟩)]))
theorem ErrT.lt {w : World} (h : ErrT w) : 0 < w.heap.size := World.block_lt_of_cell? w _ h
theorem ErrT.below {w w' : World} (h : ErrT w) (hb : Below w.heap.size w w') : ErrT w' := (hb.cell (p := ⟨0, 0, none⟩) h.lt).trans h
set_option maxRecDepth 100000 in
theorem faultNew_any (c : Int) (w : World) (h0 : c ≠ 0) : Calls Tryd.prog 11 #[.int .i64 c] w fun e w' => e = .returned (.iface 34 (.int .i64 c)) ∧ w = w' := by
  have h1 : (c == 0) = false := by simpa using h0
  clear h0
  go_enter Tryd.func11, Tryd.ntmps11
  go_wp2
  go_ret
  exact ⟨rfl, rfl⟩
set_option maxRecDepth 100000 in
theorem code_nil (w : World) : Calls Tryd.prog 13 #[.nilIface] w fun e w' => e = .returned (.int .i64 0) ∧ Below w.heap.size w w' := by
  go_enter Tryd.func13, Tryd.ntmps13
  go_wp2
  go_ret
  exact ⟨rfl, (Below.refl _ _).alloc (Nat.le_refl _) _⟩
set_option maxRecDepth 100000 in
set_option maxHeartbeats 4000000 in
theorem code_hit (c : Int) (w : World) (hg : ErrT w) : Calls Tryd.prog 13 #[.iface 34 (.int .i64 c)] w fun e w' => e = .returned (.int .i64 c) ∧ Below w.heap.size w w' := by
  have hlt := hg.lt
  have hg1 : (w.alloc (.cells #[.int .i64 0] 34)).cell? ⟨0, 0, none⟩ = some (.iface 95 (.agg #[.pointer (some ⟨5, 29, none⟩)])) := by
    rw [World.cell?_alloc_lt _ _ ⟨0, 0, none⟩ hlt]; exact hg
  have ht : (w.alloc (.cells #[.int .i64 0] 34)).cell? ⟨w.heap.size, 0, none⟩ = some (.int .i64 0) := by simp
  have hf : (w.alloc (.cells #[.int .i64 0] 34)).frozen? ⟨w.heap.size, 0, none⟩ = false := by simp
  go_enter Tryd.func13, Tryd.ntmps13
  go_wp2_with (go_at_call 24; refine (as_hit c _ (.int .i64 0) _ hg1 ht hf).mono ?_; rintro e w' ⟨rfl, rfl⟩)
  go_ret
  refine ⟨rfl, ?_⟩
  exact ((((((Below.refl _ _).alloc (Nat.le_refl _) _).alloc (by simp) _).alloc (by simp; omega) _).alloc (by simp; omega) _).alloc (by simp; omega) _)
theorem comp34 (w : World) : (ReflectliteType.method (fun t => do Rtype.noPackHeld "Comparable" t; (fun a => Value.bool a.comparable) <$> typeInfo t) #[.agg #[.pointer (some ⟨5, 34, none⟩)]]).run Tryd.prog w = .ok (.bool true) w := by kernel_rfl
theorem mComp (h : Value) (w : World) : (Go.method 252 95 (.agg #[h]) "Comparable").run Tryd.prog w = .ok (83, .agg #[h]) w := by kernel_rfl
theorem eq34 (c d : Int) (w : World) : (binOp .eql 29 (.iface 34 (.int .i64 c)) (.iface 34 (.int .i64 d))).run Tryd.prog w = .ok (.bool (c == d)) w :=
  Lib.run_eql_iface_int w c d Tryd.underlying29 (by kernel_rfl) Tryd.underlying34
set_option maxRecDepth 100000 in
set_option maxHeartbeats 4000000 in
theorem is_same (c : Int) (w : World) : Calls Tryd.prog 35 #[.iface 34 (.int .i64 c), .iface 34 (.int .i64 c), .bool true] w fun e w' => e = .returned (.bool true) ∧ w = w' := by
  have he := eq34 c c
  rw [beq_self_eq_true] at he
  go_enter Tryd.func35, Tryd.ntmps35
  go_wp2_with fail
  refine wp_loop_rounds 1 ?_
  rw [rounds_succ]
  go_wp2_with fail
  go_ret
  exact ⟨rfl, rfl⟩
set_option maxRecDepth 100000 in
set_option maxHeartbeats 4000000 in
theorem errorsIs_same (c : Int) (w : World) : Calls Tryd.prog 26 #[.iface 34 (.int .i64 c), .iface 34 (.int .i64 c)] w fun e w' => e = .returned (.bool true) ∧ w = w' := by
  have h10 := @run_callFunc_extern Tryd.prog 34 _ ReflectliteType.typeOf Tryd.func34 (by kernel_rfl) (by kernel_rfl) (by kernel_rfl) (by kernel_rfl)
  have h57 := @run_callFunc_extern Tryd.prog 83 _ (ReflectliteType.method (fun t => do Rtype.noPackHeld "Comparable" t; pure (.bool (← typeInfo t).comparable))) Tryd.func83 (by kernel_rfl) (by kernel_rfl) (by kernel_rfl) (by kernel_rfl)
  have tO := typeOf34
  have mC := mComp
  have c34 := comp34
  go_enter Tryd.func26, Tryd.ntmps26
  go_wp2_with fail
  refine (is_same c _).mono ?_
  rintro e w1 ⟨rfl, rfl⟩
  go_wp2_with fail
  go_ret
  exact ⟨rfl, rfl⟩
set_option maxRecDepth 100000 in
theorem is_hit (c : Int) (w : World) : Calls Tryd.prog 15 #[.iface 34 (.int .i64 c), .int .i64 c] w fun e w' => e = .returned (.bool true) ∧ w = w' := by
  go_enter Tryd.func15, Tryd.ntmps15
  go_wp2_with fail
  refine (errorsIs_same c _).mono ?_
  rintro e w1 ⟨rfl, rfl⟩
  go_wp2_with fail
  go_ret
  exact ⟨rfl, rfl⟩
end Go.Proofs.YtcmepnninlocmaaDoor
