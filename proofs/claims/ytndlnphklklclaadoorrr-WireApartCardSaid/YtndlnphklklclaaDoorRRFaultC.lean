/- fault.New, fault.Code of a code alone (FaultG without Is). -/
import Derived.Test.YtndlnphklklclaaDoorRRAsW
import Derived.Test.YtndlnphklklclaaDoorRRBytesL
import Derived.Stop.IfaceNil
import Derived.Lib.IfaceEq
namespace Go.Proofs.YtndlnphklklclaaDoorRR
open Go.RowKit Go.Extern.Stop Go.Stop Go.Extern
/-- What the package errors keeps: the type error. -/
def ErrT (w : World) : Prop := w.cell? ⟨0, 0, none⟩ = some (.iface 72 (.agg #[.pointer (some ⟨1, 29, none⟩)]))
theorem ErrT.lt {w : World} (h : ErrT w) : 0 < w.heap.size := World.block_lt_of_cell? w _ h
theorem ErrT.below {w w' : World} (h : ErrT w) (hb : Below w.heap.size w w') : ErrT w' := (hb.cell (p := ⟨0, 0, none⟩) h.lt).trans h
set_option maxRecDepth 100000 in
theorem faultNew_any (c : Int) (w : World) (h0 : c ≠ 0) : Calls Tryd.prog 12 #[.int .i64 c] w fun e w' => e = .returned (.iface 32 (.int .i64 c)) ∧ w = w' := by
  have h1 : (c == 0) = false := by simpa using h0
  clear h0
  go_enter Tryd.func12, Tryd.ntmps12
  go_wp2
  go_ret
  exact ⟨rfl, rfl⟩
set_option maxRecDepth 100000 in
theorem code_nil (w : World) : Calls Tryd.prog 8 #[.nilIface] w fun e w' => e = .returned (.int .i64 0) ∧ Below w.heap.size w w' := by
  go_enter Tryd.func8, Tryd.ntmps8
  go_wp2
  go_ret
  exact ⟨rfl, (Below.refl _ _).alloc (Nat.le_refl _) _⟩
set_option maxRecDepth 100000 in
set_option maxHeartbeats 4000000 in
theorem code_hit (c : Int) (w : World) (hg : ErrT w) : Calls Tryd.prog 8 #[.iface 32 (.int .i64 c)] w fun e w' => e = .returned (.int .i64 c) ∧ Below w.heap.size w w' := by
  have hlt := hg.lt
  have hg1 : (w.alloc (.cells #[.int .i64 0] 32)).cell? ⟨0, 0, none⟩ = some (.iface 72 (.agg #[.pointer (some ⟨1, 29, none⟩)])) := by
    rw [World.cell?_alloc_lt _ _ ⟨0, 0, none⟩ hlt]; exact hg
  have ht : (w.alloc (.cells #[.int .i64 0] 32)).cell? ⟨w.heap.size, 0, none⟩ = some (.int .i64 0) := by simp
  have hf : (w.alloc (.cells #[.int .i64 0] 32)).frozen? ⟨w.heap.size, 0, none⟩ = false := by simp
  go_enter Tryd.func8, Tryd.ntmps8
  go_wp2_with (go_at_call 18; refine (as_hit c _ (.int .i64 0) _ hg1 ht hf).mono ?_; rintro e w' ⟨rfl, rfl⟩)
  go_ret
  refine ⟨rfl, ?_⟩
  exact ((((((Below.refl _ _).alloc (Nat.le_refl _) _).alloc (by simp) _).alloc (by simp; omega) _).alloc (by simp; omega) _).alloc (by simp; omega) _)
end Go.Proofs.YtndlnphklklclaaDoorRR
