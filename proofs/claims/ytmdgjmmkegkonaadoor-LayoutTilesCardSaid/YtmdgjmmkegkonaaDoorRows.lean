/-
  NARROWER THAN 'FOR EVERY INPUT', by the rows' own cells (each row's printed sentence says how): LayoutBack: laid · LayoutNext: laid · LayoutRefuses: laid · LayoutTiles: laid.
  DERIVED. THE GIVEN ROWS OF THIS SEAT. 4 by the template 'for every input the law returns true; each argument reads behind the call as it read before'; 0 by the template 'total and deterministic' (their statements: YtmdgjmmkegkonaaDoorTotals.lean).
  GIVEN WITH THE SEED: the statements are not yours to turn. If you find one false, say at which input.
  Laid BY PROGRAM, IN A SANDBOX (cutbox-rows.mjs): the forced cells as the released guide's own fill.sh prints them over the translation 0ca9854b9070e6e3… (all of the seat's roots in one cut). By AI agents, Wed Nov 11 2026. No macro, syntax, notation, axiom, sorry.
-/
import Derived.Test.YtmdgjmmkegkonaaDoorChecked
import GoSem.Claim
import GoSem.ClaimJoined
import GoSem.ClaimMapViews
import Derived.JoinedTies
import Derived.KernelRfl
namespace Go.Proofs.YtmdgjmmkegkonaaDoor
/- THE CELL 'sum', in the pinned program and in every row, IS THE sha256 OF THE DUMP (.gsa) THAT YtmdgjmmkegkonaaDoorProg.lean LOADS. Nothing in Lean hashes anything: it is a label: what it is worth is what the hold of that sum in a sandbox is worth. -/
noncomputable def Tryd.pinned : Pinned := { name := "ytmdgjmmkegkonaadoor", sum := "0ca9854b9070e6e3678fe3b2af449c3d0a503ea3e5a4fbb8d6600dd68bd82974", checked := Tryd.checked }
namespace Rows
def none {H : Type} : Left H := { results := [], args := [] }

/- WHAT THE LISTED PACKAGE-LEVEL VARIABLES READ AS WHEN THE CALL BEGINS. Each datum BY PROGRAM (the guide's laid-datum.mjs) off the statement by which the dump's own 'gosem.cut.vars' lays the variable. In a bare row this is a premise. The card (YtmdgjmmkegkonaaDoorCards.lean) ties it to the program's text. -/
def laid_errors_errorType {H : Type} : DataW H := .iface "internal/reflectlite.rtype" (.agg [.ptr (.lit (.string [101, 114, 114, 111, 114]))])

/-- 'lyceumlaw12.LayoutBack': WHATEVER THE INPUT: true; the input reads as it did. -/
def layoutBackSpec : ChangeSpec := { name := "layoutBack", fn := fun _ => fun
  | [d1, d2, d3] => { results := [.lit (.bool true)], args := [d1, d2, d3] }
  | _ => none }
def layoutBackRow : OpenClaim := { program := "ytmdgjmmkegkonaadoor", sum := "0ca9854b9070e6e3678fe3b2af449c3d0a503ea3e5a4fbb8d6600dd68bd82974", func := "lyceum/lyceumlaw12.LayoutBack", spec := "layoutBack", inPlace := ["internal/reflectlite.ValueOf", "(internal/reflectlite.Value).Type", "(internal/reflectlite.Value).IsNil", "internal/reflectlite.TypeOf", "(internal/reflectlite.Value).Elem", "(internal/reflectlite.Value).Set"], unfollowed := true, recurses := true, named := ["errors.errorType"], apart := false, laid := [("errors.errorType", laid_errors_errorType)] }
def LayoutBackSaid : Prop := layoutBackRow.holds Tryd.pinned (OpenSpec.ofChange layoutBackSpec)

/-- ITS FALSE NEIGHBOUR: 'it returns false'. Refute it at one input. -/
def layoutBackWrong : ChangeSpec := { name := "layoutBack", fn := fun _ => fun
  | [d1, d2, d3] => { results := [.lit (.bool false)], args := [d1, d2, d3] }
  | _ => none }
def LayoutBackWrongFalsely : Prop := layoutBackRow.holds Tryd.pinned (OpenSpec.ofChange layoutBackWrong)

/-- 'lyceumlaw12.LayoutNext': WHATEVER THE INPUT: true; the input reads as it did. -/
def layoutNextSpec : ChangeSpec := { name := "layoutNext", fn := fun _ => fun
  | [d1, d2, d3] => { results := [.lit (.bool true)], args := [d1, d2, d3] }
  | _ => none }
def layoutNextRow : OpenClaim := { program := "ytmdgjmmkegkonaadoor", sum := "0ca9854b9070e6e3678fe3b2af449c3d0a503ea3e5a4fbb8d6600dd68bd82974", func := "lyceum/lyceumlaw12.LayoutNext", spec := "layoutNext", inPlace := ["internal/reflectlite.ValueOf", "(internal/reflectlite.Value).Type", "(internal/reflectlite.Value).IsNil", "internal/reflectlite.TypeOf", "(internal/reflectlite.Value).Elem", "(internal/reflectlite.Value).Set"], unfollowed := true, recurses := true, named := ["errors.errorType"], apart := false, laid := [("errors.errorType", laid_errors_errorType)] }
def LayoutNextSaid : Prop := layoutNextRow.holds Tryd.pinned (OpenSpec.ofChange layoutNextSpec)

/-- ITS FALSE NEIGHBOUR: 'it returns false'. Refute it at one input. -/
def layoutNextWrong : ChangeSpec := { name := "layoutNext", fn := fun _ => fun
  | [d1, d2, d3] => { results := [.lit (.bool false)], args := [d1, d2, d3] }
  | _ => none }
def LayoutNextWrongFalsely : Prop := layoutNextRow.holds Tryd.pinned (OpenSpec.ofChange layoutNextWrong)

/-- 'lyceumlaw12.LayoutRefuses': WHATEVER THE INPUT: true; the input reads as it did. -/
def layoutRefusesSpec : ChangeSpec := { name := "layoutRefuses", fn := fun _ => fun
  | [d1, d2] => { results := [.lit (.bool true)], args := [d1, d2] }
  | _ => none }
def layoutRefusesRow : OpenClaim := { program := "ytmdgjmmkegkonaadoor", sum := "0ca9854b9070e6e3678fe3b2af449c3d0a503ea3e5a4fbb8d6600dd68bd82974", func := "lyceum/lyceumlaw12.LayoutRefuses", spec := "layoutRefuses", inPlace := ["internal/reflectlite.ValueOf", "(internal/reflectlite.Value).Type", "(internal/reflectlite.Value).IsNil", "internal/reflectlite.TypeOf", "(internal/reflectlite.Value).Elem", "(internal/reflectlite.Value).Set"], unfollowed := true, recurses := true, named := ["errors.errorType"], apart := false, laid := [("errors.errorType", laid_errors_errorType)] }
def LayoutRefusesSaid : Prop := layoutRefusesRow.holds Tryd.pinned (OpenSpec.ofChange layoutRefusesSpec)

/-- ITS FALSE NEIGHBOUR: 'it returns false'. Refute it at one input. -/
def layoutRefusesWrong : ChangeSpec := { name := "layoutRefuses", fn := fun _ => fun
  | [d1, d2] => { results := [.lit (.bool false)], args := [d1, d2] }
  | _ => none }
def LayoutRefusesWrongFalsely : Prop := layoutRefusesRow.holds Tryd.pinned (OpenSpec.ofChange layoutRefusesWrong)

/-- 'lyceumlaw12.LayoutTiles': WHATEVER THE INPUT: true; the input reads as it did. -/
def layoutTilesSpec : ChangeSpec := { name := "layoutTiles", fn := fun _ => fun
  | [d1, d2] => { results := [.lit (.bool true)], args := [d1, d2] }
  | _ => none }
def layoutTilesRow : OpenClaim := { program := "ytmdgjmmkegkonaadoor", sum := "0ca9854b9070e6e3678fe3b2af449c3d0a503ea3e5a4fbb8d6600dd68bd82974", func := "lyceum/lyceumlaw12.LayoutTiles", spec := "layoutTiles", inPlace := ["internal/reflectlite.ValueOf", "(internal/reflectlite.Value).Type", "(internal/reflectlite.Value).IsNil", "internal/reflectlite.TypeOf", "(internal/reflectlite.Value).Elem", "(internal/reflectlite.Value).Set"], unfollowed := true, recurses := true, named := ["errors.errorType"], apart := false, laid := [("errors.errorType", laid_errors_errorType)] }
def LayoutTilesSaid : Prop := layoutTilesRow.holds Tryd.pinned (OpenSpec.ofChange layoutTilesSpec)

/-- ITS FALSE NEIGHBOUR: 'it returns false'. Refute it at one input. -/
def layoutTilesWrong : ChangeSpec := { name := "layoutTiles", fn := fun _ => fun
  | [d1, d2] => { results := [.lit (.bool false)], args := [d1, d2] }
  | _ => none }
def LayoutTilesWrongFalsely : Prop := layoutTilesRow.holds Tryd.pinned (OpenSpec.ofChange layoutTilesWrong)

/- THE SECOND FORM. 'bulk': how many values and letters a reading holds, each counted each time it is reached (what is shared counts as often as it is met; a slice's spare places count too). A statement '..UptoSaid' is the law's where the arguments, and the package variables that the reading takes, are together of bulk at most 1048576: NARROWER than '..Said'. Prove '..Said' where nothing that the law and all that it calls make is longer than what came in: it says more and counts as full. Else prove '..UptoSaid'. A law counts once. -/
mutual
def uptoBulk {H : Type} : DataW H → Nat
  | .lit (.string bytes) => bytes.length + 1
  | .lit _ => 1
  | .nil => 1
  | .ptr d => uptoBulk d + 1
  | .slice elems spare => uptoBulkAll elems + uptoBulkAll spare + 1
  | .agg parts => uptoBulkAll parts + 1
  | .iface _ d => uptoBulk d + 1
  | .map entries => uptoBulkEntries entries + 1
  | .held _ => 1
def uptoBulkAll {H : Type} : List (DataW H) → Nat
  | [] => 0
  | d :: r => uptoBulk d + uptoBulkAll r
def uptoBulkEntries {H : Type} : List (Lit × DataW H) → Nat
  | [] => 0
  | x :: r => uptoBulkEntry x + uptoBulkEntries r
def uptoBulkEntry {H : Type} : Lit × DataW H → Nat
  | (.string bytes, d) => bytes.length + uptoBulk d + 1
  | (_, d) => uptoBulk d + 1
 end
def uptoSmall : (H : Type) → List (DataW H) → Bool := fun _ ds => decide (uptoBulkAll ds ≤ 1048576)
def OpenSpec.upto (s : _root_.Go.ChangeSpec) : _root_.Go.OpenSpec := { _root_.Go.OpenSpec.ofChange s with cond := some uptoSmall }

/-- 'lyceumlaw12.LayoutBack', WHERE WHAT IT READS IS OF BULK AT MOST 1048576: true; the input reads as it did. -/
def layoutBackUptoRow : OpenClaim := { program := "ytmdgjmmkegkonaadoor", sum := "0ca9854b9070e6e3678fe3b2af449c3d0a503ea3e5a4fbb8d6600dd68bd82974", func := "lyceum/lyceumlaw12.LayoutBack", spec := "layoutBack", inPlace := ["internal/reflectlite.ValueOf", "(internal/reflectlite.Value).Type", "(internal/reflectlite.Value).IsNil", "internal/reflectlite.TypeOf", "(internal/reflectlite.Value).Elem", "(internal/reflectlite.Value).Set"], unfollowed := true, recurses := true, named := ["errors.errorType"], apart := false, laid := [("errors.errorType", laid_errors_errorType)], narrowed := true }
def LayoutBackUptoSaid : Prop := layoutBackUptoRow.holds Tryd.pinned (OpenSpec.upto layoutBackSpec)

/-- 'lyceumlaw12.LayoutNext', WHERE WHAT IT READS IS OF BULK AT MOST 1048576: true; the input reads as it did. -/
def layoutNextUptoRow : OpenClaim := { program := "ytmdgjmmkegkonaadoor", sum := "0ca9854b9070e6e3678fe3b2af449c3d0a503ea3e5a4fbb8d6600dd68bd82974", func := "lyceum/lyceumlaw12.LayoutNext", spec := "layoutNext", inPlace := ["internal/reflectlite.ValueOf", "(internal/reflectlite.Value).Type", "(internal/reflectlite.Value).IsNil", "internal/reflectlite.TypeOf", "(internal/reflectlite.Value).Elem", "(internal/reflectlite.Value).Set"], unfollowed := true, recurses := true, named := ["errors.errorType"], apart := false, laid := [("errors.errorType", laid_errors_errorType)], narrowed := true }
def LayoutNextUptoSaid : Prop := layoutNextUptoRow.holds Tryd.pinned (OpenSpec.upto layoutNextSpec)

/-- 'lyceumlaw12.LayoutRefuses', WHERE WHAT IT READS IS OF BULK AT MOST 1048576: true; the input reads as it did. -/
def layoutRefusesUptoRow : OpenClaim := { program := "ytmdgjmmkegkonaadoor", sum := "0ca9854b9070e6e3678fe3b2af449c3d0a503ea3e5a4fbb8d6600dd68bd82974", func := "lyceum/lyceumlaw12.LayoutRefuses", spec := "layoutRefuses", inPlace := ["internal/reflectlite.ValueOf", "(internal/reflectlite.Value).Type", "(internal/reflectlite.Value).IsNil", "internal/reflectlite.TypeOf", "(internal/reflectlite.Value).Elem", "(internal/reflectlite.Value).Set"], unfollowed := true, recurses := true, named := ["errors.errorType"], apart := false, laid := [("errors.errorType", laid_errors_errorType)], narrowed := true }
def LayoutRefusesUptoSaid : Prop := layoutRefusesUptoRow.holds Tryd.pinned (OpenSpec.upto layoutRefusesSpec)

/-- 'lyceumlaw12.LayoutTiles', WHERE WHAT IT READS IS OF BULK AT MOST 1048576: true; the input reads as it did. -/
def layoutTilesUptoRow : OpenClaim := { program := "ytmdgjmmkegkonaadoor", sum := "0ca9854b9070e6e3678fe3b2af449c3d0a503ea3e5a4fbb8d6600dd68bd82974", func := "lyceum/lyceumlaw12.LayoutTiles", spec := "layoutTiles", inPlace := ["internal/reflectlite.ValueOf", "(internal/reflectlite.Value).Type", "(internal/reflectlite.Value).IsNil", "internal/reflectlite.TypeOf", "(internal/reflectlite.Value).Elem", "(internal/reflectlite.Value).Set"], unfollowed := true, recurses := true, named := ["errors.errorType"], apart := false, laid := [("errors.errorType", laid_errors_errorType)], narrowed := true }
def LayoutTilesUptoSaid : Prop := layoutTilesUptoRow.holds Tryd.pinned (OpenSpec.upto layoutTilesSpec)

end Rows
end Go.Proofs.YtmdgjmmkegkonaaDoor
