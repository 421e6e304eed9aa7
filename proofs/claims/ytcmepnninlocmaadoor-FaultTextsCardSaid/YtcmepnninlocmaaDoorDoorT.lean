/- What FaultTexts' row lists: the three tables alone. -/
import Derived.Test.YtcmepnninlocmaaDoorDoorF
namespace Go.Proofs.YtcmepnninlocmaaDoor.faultTexts
open Go.ChangeShapes Go.WideShapes Go.RowKit
def laidE : List (String × DataW Unit) := [("math/bits.deBruijn32tab", Rows.laid_math_bits_deBruijn32tab), ("math/bits.deBruijn64tab", Rows.laid_math_bits_deBruijn64tab), ("internal/strconv.uint64pow10", Rows.laid_internal_strconv_uint64pow10)]
theorem tab_of_laid {W : World} (h : laidMetH Tryd.prog laidE W) : Tab10 W := tab_of_laidT h
noncomputable def laidWorld (os : Os) : World := laidWorldT os
theorem laidWorld_met (os : Os) (args : Array Value) : laidMetH Tryd.prog laidE ((laidWorld os).forCall (fun _ _ => 0) ⟨#[], args, []⟩).memory :=
  laidMet_of_run' 8 (by kernel_rfl) (by kernel_rfl)
end Go.Proofs.YtcmepnninlocmaaDoor.faultTexts
