/-
  No cell of these rows narrows 'for every input' (looked for: loops, veiled, ifaces, maps, wideKeys, modest, calm, conditions, laid).
  DERIVED. THE GIVEN ROWS OF THIS SEAT. 4 by the template 'for every input the law returns true; each argument reads behind the call as it read before'; 0 by the template 'total and deterministic' (their statements: YtljjklhkifehaaaTotals.lean).
  GIVEN WITH THE SEED: the statements are not yours to turn. If you find one false, say at which input.
  Laid BY PROGRAM, IN A SANDBOX (cutbox-rows.mjs): the forced cells as the released guide's own fill.sh prints them over the translation 5ff891e1afbc655f… (all of the seat's roots in one cut). By AI agents, Wed Nov 11 2026. No macro, syntax, notation, axiom, sorry.
-/
import Derived.Test.YtljjklhkifehaaaChecked
import GoSem.Claim
import GoSem.ClaimJoined
import GoSem.ClaimMapViews
import Derived.JoinedTies
import Derived.KernelRfl
namespace Go.Proofs.Ytljjklhkifehaaa
/- THE CELL 'sum', in the pinned program and in every row, IS THE sha256 OF THE DUMP (.gsa) THAT YtljjklhkifehaaaProg.lean LOADS. Nothing in Lean hashes anything: it is a label: what it is worth is what the hold of that sum in a sandbox is worth. -/
noncomputable def Try.pinned : Pinned := { name := "ytljjklhkifehaaa", sum := "5ff891e1afbc655f0e863ca4171efad8441955683918e2e700b4f25d66302978", checked := Try.checked }
namespace Rows
def none {H : Type} : Left H := { results := [], args := [] }

/-- 'lyceumlaw08.PenLeaves': WHATEVER THE INPUT: true; the input reads as it did. -/
def penLeavesSpec : ChangeSpec := { name := "penLeaves", fn := fun _ => fun
  | [d1, d2, d3] => { results := [.lit (.bool true)], args := [d1, d2, d3] }
  | _ => none }
def penLeavesRow : OpenClaim := { program := "ytljjklhkifehaaa", sum := "5ff891e1afbc655f0e863ca4171efad8441955683918e2e700b4f25d66302978", func := "lyceum/lyceumlaw08.PenLeaves", spec := "penLeaves", unfollowed := true, recurses := true, apart := false }
def PenLeavesSaid : Prop := penLeavesRow.holds Try.pinned (OpenSpec.ofChange penLeavesSpec)

/-- ITS FALSE NEIGHBOUR: 'it returns false'. Refute it at one input. -/
def penLeavesWrong : ChangeSpec := { name := "penLeaves", fn := fun _ => fun
  | [d1, d2, d3] => { results := [.lit (.bool false)], args := [d1, d2, d3] }
  | _ => none }
def PenLeavesWrongFalsely : Prop := penLeavesRow.holds Try.pinned (OpenSpec.ofChange penLeavesWrong)

/-- 'lyceumlaw08.PenParts': WHATEVER THE INPUT: true; the input reads as it did. -/
def penPartsSpec : ChangeSpec := { name := "penParts", fn := fun _ => fun
  | [d1, d2, d3] => { results := [.lit (.bool true)], args := [d1, d2, d3] }
  | _ => none }
def penPartsRow : OpenClaim := { program := "ytljjklhkifehaaa", sum := "5ff891e1afbc655f0e863ca4171efad8441955683918e2e700b4f25d66302978", func := "lyceum/lyceumlaw08.PenParts", spec := "penParts", unfollowed := true, recurses := true, apart := false }
def PenPartsSaid : Prop := penPartsRow.holds Try.pinned (OpenSpec.ofChange penPartsSpec)

/-- ITS FALSE NEIGHBOUR: 'it returns false'. Refute it at one input. -/
def penPartsWrong : ChangeSpec := { name := "penParts", fn := fun _ => fun
  | [d1, d2, d3] => { results := [.lit (.bool false)], args := [d1, d2, d3] }
  | _ => none }
def PenPartsWrongFalsely : Prop := penPartsRow.holds Try.pinned (OpenSpec.ofChange penPartsWrong)

/-- 'lyceumlaw08.PenColours': WHATEVER THE INPUT: true; the input reads as it did. -/
def penColoursSpec : ChangeSpec := { name := "penColours", fn := fun _ => fun
  | [d1, d2] => { results := [.lit (.bool true)], args := [d1, d2] }
  | _ => none }
def penColoursRow : OpenClaim := { program := "ytljjklhkifehaaa", sum := "5ff891e1afbc655f0e863ca4171efad8441955683918e2e700b4f25d66302978", func := "lyceum/lyceumlaw08.PenColours", spec := "penColours", unfollowed := true, recurses := true, apart := false }
def PenColoursSaid : Prop := penColoursRow.holds Try.pinned (OpenSpec.ofChange penColoursSpec)

/-- ITS FALSE NEIGHBOUR: 'it returns false'. Refute it at one input. -/
def penColoursWrong : ChangeSpec := { name := "penColours", fn := fun _ => fun
  | [d1, d2] => { results := [.lit (.bool false)], args := [d1, d2] }
  | _ => none }
def PenColoursWrongFalsely : Prop := penColoursRow.holds Try.pinned (OpenSpec.ofChange penColoursWrong)

/-- 'lyceumlaw05.CellMakes': WHATEVER THE INPUT: true; the input reads as it did. -/
def cellMakesSpec : ChangeSpec := { name := "cellMakes", fn := fun _ => fun
  | [d1, d2] => { results := [.lit (.bool true)], args := [d1, d2] }
  | _ => none }
def cellMakesRow : OpenClaim := { program := "ytljjklhkifehaaa", sum := "5ff891e1afbc655f0e863ca4171efad8441955683918e2e700b4f25d66302978", func := "lyceum/lyceumlaw05.CellMakes", spec := "cellMakes", inPlace := ["internal/abi.NoEscape"], unfollowed := true, recurses := true, apart := false }
def CellMakesSaid : Prop := cellMakesRow.holds Try.pinned (OpenSpec.ofChange cellMakesSpec)

/-- ITS FALSE NEIGHBOUR: 'it returns false'. Refute it at one input. -/
def cellMakesWrong : ChangeSpec := { name := "cellMakes", fn := fun _ => fun
  | [d1, d2] => { results := [.lit (.bool false)], args := [d1, d2] }
  | _ => none }
def CellMakesWrongFalsely : Prop := cellMakesRow.holds Try.pinned (OpenSpec.ofChange cellMakesWrong)

/- THE SECOND FORM. 'bulk': how many values and letters a reading holds, each counted each time it is reached (what is shared counts as often as it is met; a slice's spare places count too). A statement '..UptoSaid' is the law's where the arguments, and the package variables that the reading takes, are together of bulk at most 1048576: NARROWER than '..Said'. Prove '..Said' where nothing that the law and all that it calls make is longer than what came in: it says more and counts as full. Else prove '..UptoSaid'. A law counts once. -/
mutual
def uptoBulk {H : Type} : DataW H → Nat
  | .lit (.string bytes) => bytes.length + 1
  | .lit _ => 1
  | .nil => 1
  | .ptr d => uptoBulk d + 1
  | .slice elems spare => uptoBulkAll elems + uptoBulkAll spare + 1
  | .agg parts => uptoBulkAll parts + 1
  | .iface _ d => uptoBulk d + 1
  | .map entries => uptoBulkEntries entries + 1
  | .held _ => 1
def uptoBulkAll {H : Type} : List (DataW H) → Nat
  | [] => 0
  | d :: r => uptoBulk d + uptoBulkAll r
def uptoBulkEntries {H : Type} : List (Lit × DataW H) → Nat
  | [] => 0
  | x :: r => uptoBulkEntry x + uptoBulkEntries r
def uptoBulkEntry {H : Type} : Lit × DataW H → Nat
  | (.string bytes, d) => bytes.length + uptoBulk d + 1
  | (_, d) => uptoBulk d + 1
 end
def uptoSmall : (H : Type) → List (DataW H) → Bool := fun _ ds => decide (uptoBulkAll ds ≤ 1048576)
def OpenSpec.upto (s : _root_.Go.ChangeSpec) : _root_.Go.OpenSpec := { _root_.Go.OpenSpec.ofChange s with cond := some uptoSmall }

/-- 'lyceumlaw08.PenLeaves', WHERE WHAT IT READS IS OF BULK AT MOST 1048576: true; the input reads as it did. -/
def penLeavesUptoRow : OpenClaim := { program := "ytljjklhkifehaaa", sum := "5ff891e1afbc655f0e863ca4171efad8441955683918e2e700b4f25d66302978", func := "lyceum/lyceumlaw08.PenLeaves", spec := "penLeaves", unfollowed := true, recurses := true, apart := false, narrowed := true }
def PenLeavesUptoSaid : Prop := penLeavesUptoRow.holds Try.pinned (OpenSpec.upto penLeavesSpec)

/-- 'lyceumlaw08.PenParts', WHERE WHAT IT READS IS OF BULK AT MOST 1048576: true; the input reads as it did. -/
def penPartsUptoRow : OpenClaim := { program := "ytljjklhkifehaaa", sum := "5ff891e1afbc655f0e863ca4171efad8441955683918e2e700b4f25d66302978", func := "lyceum/lyceumlaw08.PenParts", spec := "penParts", unfollowed := true, recurses := true, apart := false, narrowed := true }
def PenPartsUptoSaid : Prop := penPartsUptoRow.holds Try.pinned (OpenSpec.upto penPartsSpec)

/-- 'lyceumlaw08.PenColours', WHERE WHAT IT READS IS OF BULK AT MOST 1048576: true; the input reads as it did. -/
def penColoursUptoRow : OpenClaim := { program := "ytljjklhkifehaaa", sum := "5ff891e1afbc655f0e863ca4171efad8441955683918e2e700b4f25d66302978", func := "lyceum/lyceumlaw08.PenColours", spec := "penColours", unfollowed := true, recurses := true, apart := false, narrowed := true }
def PenColoursUptoSaid : Prop := penColoursUptoRow.holds Try.pinned (OpenSpec.upto penColoursSpec)

/-- 'lyceumlaw05.CellMakes', WHERE WHAT IT READS IS OF BULK AT MOST 1048576: true; the input reads as it did. -/
def cellMakesUptoRow : OpenClaim := { program := "ytljjklhkifehaaa", sum := "5ff891e1afbc655f0e863ca4171efad8441955683918e2e700b4f25d66302978", func := "lyceum/lyceumlaw05.CellMakes", spec := "cellMakes", inPlace := ["internal/abi.NoEscape"], unfollowed := true, recurses := true, apart := false, narrowed := true }
def CellMakesUptoSaid : Prop := cellMakesUptoRow.holds Try.pinned (OpenSpec.upto cellMakesSpec)

end Rows
end Go.Proofs.Ytljjklhkifehaaa
