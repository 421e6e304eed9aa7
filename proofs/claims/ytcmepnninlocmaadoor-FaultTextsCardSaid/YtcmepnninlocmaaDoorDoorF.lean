/- What the row's listed variables give a walk (fault's seat): the cell of errors.errorType, and the table of the numbers' texts. After the guide's worked examples Toyas, B64badTold. -/
import Derived.Test.YtcmepnninlocmaaDoorRows
import Derived.Test.YtcmepnninlocmaaDoorFaultG
import Derived.Test.YtcmepnninlocmaaDoorTextW
import Derived.ChangeSame
import Derived.ChangeVars
import Derived.JoinedOf
import Derived.RowKit
import Derived.RowKitTokens
import Derived.LaidLaws
import Derived.LaidHandle
import Derived.Stop.Joined
import Derived.Lib.LaidTab
namespace Go.Proofs.YtcmepnninlocmaaDoor
open Go.ChangeShapes Go.WideShapes Go.RowKit
theorem own : ownKnob Tryd.prog.godebug = none := by kernel_rfl
theorem et : Tryd.prog.globalNamed "errors.errorType" = some 0 := by kernel_rfl
theorem rt : (Tryd.prog.cutTypes.find? (·.1 == "internal/reflectlite.rtype")).map (·.2) = some 95 := by kernel_rfl
theorem oneRow : ((List.range 152).filter fun t => Tryd.prog.rowNamed t [101, 114, 114, 111, 114]) = [29] := by kernel_rfl
theorem tsize : Tryd.prog.types.size = 152 := by kernel_rfl
def laidT : List (String × DataW Unit) := [("math/bits.deBruijn32tab", Rows.laid_math_bits_deBruijn32tab), ("math/bits.deBruijn64tab", Rows.laid_math_bits_deBruijn64tab), ("internal/strconv.uint64pow10", Rows.laid_internal_strconv_uint64pow10)]
def laidE : List (String × DataW Unit) := [("math/bits.deBruijn32tab", Rows.laid_math_bits_deBruijn32tab), ("math/bits.deBruijn64tab", Rows.laid_math_bits_deBruijn64tab), ("internal/strconv.uint64pow10", Rows.laid_internal_strconv_uint64pow10), ("errors.errorType", Rows.laid_errors_errorType)]
theorem pow_tab : (Rows.laid_internal_strconv_uint64pow10 : DataW Unit) = Lib.tabData .u64 Lib.pow10Tab := by kernel_rfl
theorem tab_of_laidT {W : World} (h : laidMet Tryd.prog laidT W) : Tab10 W := by
  obtain ⟨ps, ⟨_, _, _, _, _, _, _, _, _, _, hr1, _⟩, _⟩ := h
  obtain ⟨_, _, _, _, _, _, _, _, _, _, hr2, _⟩ := hr1
  obtain ⟨g', t', cs, fuel, p, q, hg', ht', hvar, hd, _, _⟩ := hr2
  obtain rfl := Option.some.inj ((show Tryd.prog.globalNamed "internal/strconv.uint64pow10" = some 1 by kernel_rfl).symm.trans hg')
  obtain rfl := Option.some.inj ((show (Tryd.prog.globals[1]?).map (·.type) = some 116 by kernel_rfl).symm.trans ht')
  rw [pow_tab] at hd
  unfold Tab10 Lib.TabIs
  rw [hvar, ← Lib.cells_of_tab Tryd.underlying116 Tryd.underlying108 (by kernel_rfl) (by kernel_rfl) hd]
theorem parts_of_laid {W : World} (h : laidMetH Tryd.prog laidE W) : laidMet Tryd.prog laidT W ∧ handlesMet Tryd.prog [("errors.errorType", Rows.laid_errors_errorType)] W := h
theorem handle_of_laid {W : World} (h : laidMetH Tryd.prog laidE W) : ErrT W := by
  have h' := (parts_of_laid h).2
  obtain ⟨name, u, ty, e1, e2, e3, e4, e5⟩ := h' _ (List.mem_singleton.2 rfl)
  have en : name = [101, 114, 114, 111, 114] := (Option.some.inj e1).symm
  subst en
  obtain rfl := Option.some.inj (rt.symm.trans e2)
  have hm : ty ∈ (List.range 152).filter fun t => Tryd.prog.rowNamed t [101, 114, 114, 111, 114] := List.mem_filter.2 ⟨List.mem_range.2 (by rw [← tsize]; exact e3), e4⟩
  rw [oneRow] at hm
  obtain rfl := List.mem_singleton.1 hm
  have hh : typeHandle Tryd.prog 29 = .pointer (some ⟨5, 29, none⟩) := by kernel_rfl
  rw [hh] at e5
  have := World.var?_cell et e5 0
  unfold ErrT
  simpa using this
theorem tab_of_laid {W : World} (h : laidMetH Tryd.prog laidE W) : Tab10 W := tab_of_laidT (parts_of_laid h).1
/-- A table's cells. -/
def tabOf (w : World) (g : Nat) (d : DataW Unit) : World := { w with heap := w.heap.modify g fun
      | .cells _ t frozen => .cells (match d with | .agg xs => (xs.map fun x => match x with | .lit (.int k n) => Value.int k n | _ => undef).toArray | _ => #[]) t frozen
      | o => o }
noncomputable def laidWorldT (os : Os) : World :=
  tabOf (tabOf (tabOf (World.holding Tryd.prog os ⟨#[], #[], []⟩) 3 Rows.laid_math_bits_deBruijn32tab) 4 Rows.laid_math_bits_deBruijn64tab) 1 Rows.laid_internal_strconv_uint64pow10
noncomputable def laidWorld (os : Os) : World :=
  let w0 := laidWorldT os
  { w0 with heap := w0.heap.modify 0 fun
      | .cells _ t frozen => .cells #[.iface 95 (.agg #[.pointer (some ⟨5, 29, none⟩)])] t frozen
      | o => o }
theorem laidWorld_metT (os : Os) (args : Array Value) : laidMet Tryd.prog laidT ((laidWorld os).forCall (fun _ _ => 0) ⟨#[], args, []⟩).memory :=
  laidMet_of_run' 8 (by kernel_rfl) (by kernel_rfl)
theorem laidWorld_met (os : Os) (args : Array Value) : laidMetH Tryd.prog laidE ((laidWorld os).forCall (fun _ _ => 0) ⟨#[], args, []⟩).memory :=
  laidMetH_of_parts (laidWorld_metT os args) (by kernel_rfl)
end Go.Proofs.YtcmepnninlocmaaDoor
