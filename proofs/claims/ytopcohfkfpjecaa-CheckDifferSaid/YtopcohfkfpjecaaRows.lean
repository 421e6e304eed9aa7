/-
  No cell of these rows narrows 'for every input' (looked for: loops, veiled, ifaces, maps, wideKeys, modest, calm, conditions, laid).
  DERIVED. THE GIVEN ROWS OF THIS SEAT. 3 by the template 'for every input the law returns true; each argument reads behind the call as it read before'; 0 by the template 'total and deterministic' (their statements: YtopcohfkfpjecaaTotals.lean).
  GIVEN WITH THE SEED: the statements are not yours to turn. If you find one false, say at which input.
  Laid BY PROGRAM, IN A SANDBOX (cutbox-rows.mjs): the forced cells as the released guide's own fill.sh prints them over the translation 8f6ec5e518f6c658… (all of the seat's roots in one cut). By AI agents, Wed Nov 11 2026. No macro, syntax, notation, axiom, sorry.
-/
import Derived.Test.YtopcohfkfpjecaaChecked
import GoSem.Claim
import GoSem.ClaimJoined
import GoSem.ClaimMapViews
import Derived.JoinedTies
import Derived.KernelRfl
namespace Go.Proofs.Ytopcohfkfpjecaa
/- THE CELL 'sum', in the pinned program and in every row, IS THE sha256 OF THE DUMP (.gsa) THAT YtopcohfkfpjecaaProg.lean LOADS. Nothing in Lean hashes anything: it is a label: what it is worth is what the hold of that sum in a sandbox is worth. -/
noncomputable def Try.pinned : Pinned := { name := "ytopcohfkfpjecaa", sum := "8f6ec5e518f6c65879a825a395900689fd23a9938ccee7b5b3186a4c3a799392", checked := Try.checked }
namespace Rows
def none {H : Type} : Left H := { results := [], args := [] }

/-- 'lyceumlaw02.CheckDiffer': WHATEVER THE INPUT: true; the input reads as it did. -/
def checkDifferSpec : ChangeSpec := { name := "checkDiffer", fn := fun _ => fun
  | [d1, d2, d3] => { results := [.lit (.bool true)], args := [d1, d2, d3] }
  | _ => none }
def checkDifferRow : OpenClaim := { program := "ytopcohfkfpjecaa", sum := "8f6ec5e518f6c65879a825a395900689fd23a9938ccee7b5b3186a4c3a799392", func := "lyceum/lyceumlaw02.CheckDiffer", spec := "checkDiffer", apart := false }
def CheckDifferSaid : Prop := checkDifferRow.holds Try.pinned (OpenSpec.ofChange checkDifferSpec)

/-- ITS FALSE NEIGHBOUR: 'it returns false'. Refute it at one input. -/
def checkDifferWrong : ChangeSpec := { name := "checkDiffer", fn := fun _ => fun
  | [d1, d2, d3] => { results := [.lit (.bool false)], args := [d1, d2, d3] }
  | _ => none }
def CheckDifferWrongFalsely : Prop := checkDifferRow.holds Try.pinned (OpenSpec.ofChange checkDifferWrong)

/-- 'lyceumlaw02.CheckParts': WHATEVER THE INPUT: true; the input reads as it did. -/
def checkPartsSpec : ChangeSpec := { name := "checkParts", fn := fun _ => fun
  | [d1, d2, d3] => { results := [.lit (.bool true)], args := [d1, d2, d3] }
  | _ => none }
def checkPartsRow : OpenClaim := { program := "ytopcohfkfpjecaa", sum := "8f6ec5e518f6c65879a825a395900689fd23a9938ccee7b5b3186a4c3a799392", func := "lyceum/lyceumlaw02.CheckParts", spec := "checkParts", apart := false }
def CheckPartsSaid : Prop := checkPartsRow.holds Try.pinned (OpenSpec.ofChange checkPartsSpec)

/-- ITS FALSE NEIGHBOUR: 'it returns false'. Refute it at one input. -/
def checkPartsWrong : ChangeSpec := { name := "checkParts", fn := fun _ => fun
  | [d1, d2, d3] => { results := [.lit (.bool false)], args := [d1, d2, d3] }
  | _ => none }
def CheckPartsWrongFalsely : Prop := checkPartsRow.holds Try.pinned (OpenSpec.ofChange checkPartsWrong)

/-- 'lyceumlaw02.CheckNil': WHATEVER THE INPUT: true; the input reads as it did. -/
def checkNilSpec : ChangeSpec := { name := "checkNil", fn := fun _ => fun
  | [d] => { results := [.lit (.bool true)], args := [d] }
  | _ => none }
def checkNilRow : OpenClaim := { program := "ytopcohfkfpjecaa", sum := "8f6ec5e518f6c65879a825a395900689fd23a9938ccee7b5b3186a4c3a799392", func := "lyceum/lyceumlaw02.CheckNil", spec := "checkNil", apart := false }
def CheckNilSaid : Prop := checkNilRow.holds Try.pinned (OpenSpec.ofChange checkNilSpec)

/-- ITS FALSE NEIGHBOUR: 'it returns false'. Refute it at one input. -/
def checkNilWrong : ChangeSpec := { name := "checkNil", fn := fun _ => fun
  | [d] => { results := [.lit (.bool false)], args := [d] }
  | _ => none }
def CheckNilWrongFalsely : Prop := checkNilRow.holds Try.pinned (OpenSpec.ofChange checkNilWrong)

/- THE SECOND FORM. 'bulk': how many values and letters a reading holds, each counted each time it is reached (what is shared counts as often as it is met; a slice's spare places count too). A statement '..UptoSaid' is the law's where the arguments, and the package variables that the reading takes, are together of bulk at most 1048576: NARROWER than '..Said'. Prove '..Said' where nothing that the law and all that it calls make is longer than what came in: it says more and counts as full. Else prove '..UptoSaid'. A law counts once. -/
mutual
def uptoBulk {H : Type} : DataW H → Nat
  | .lit (.string bytes) => bytes.length + 1
  | .lit _ => 1
  | .nil => 1
  | .ptr d => uptoBulk d + 1
  | .slice elems spare => uptoBulkAll elems + uptoBulkAll spare + 1
  | .agg parts => uptoBulkAll parts + 1
  | .iface _ d => uptoBulk d + 1
  | .map entries => uptoBulkEntries entries + 1
  | .held _ => 1
def uptoBulkAll {H : Type} : List (DataW H) → Nat
  | [] => 0
  | d :: r => uptoBulk d + uptoBulkAll r
def uptoBulkEntries {H : Type} : List (Lit × DataW H) → Nat
  | [] => 0
  | x :: r => uptoBulkEntry x + uptoBulkEntries r
def uptoBulkEntry {H : Type} : Lit × DataW H → Nat
  | (.string bytes, d) => bytes.length + uptoBulk d + 1
  | (_, d) => uptoBulk d + 1
 end
def uptoSmall : (H : Type) → List (DataW H) → Bool := fun _ ds => decide (uptoBulkAll ds ≤ 1048576)
def OpenSpec.upto (s : _root_.Go.ChangeSpec) : _root_.Go.OpenSpec := { _root_.Go.OpenSpec.ofChange s with cond := some uptoSmall }

/-- 'lyceumlaw02.CheckDiffer', WHERE WHAT IT READS IS OF BULK AT MOST 1048576: true; the input reads as it did. -/
def checkDifferUptoRow : OpenClaim := { program := "ytopcohfkfpjecaa", sum := "8f6ec5e518f6c65879a825a395900689fd23a9938ccee7b5b3186a4c3a799392", func := "lyceum/lyceumlaw02.CheckDiffer", spec := "checkDiffer", apart := false, narrowed := true }
def CheckDifferUptoSaid : Prop := checkDifferUptoRow.holds Try.pinned (OpenSpec.upto checkDifferSpec)

/-- 'lyceumlaw02.CheckParts', WHERE WHAT IT READS IS OF BULK AT MOST 1048576: true; the input reads as it did. -/
def checkPartsUptoRow : OpenClaim := { program := "ytopcohfkfpjecaa", sum := "8f6ec5e518f6c65879a825a395900689fd23a9938ccee7b5b3186a4c3a799392", func := "lyceum/lyceumlaw02.CheckParts", spec := "checkParts", apart := false, narrowed := true }
def CheckPartsUptoSaid : Prop := checkPartsUptoRow.holds Try.pinned (OpenSpec.upto checkPartsSpec)

/-- 'lyceumlaw02.CheckNil', WHERE WHAT IT READS IS OF BULK AT MOST 1048576: true; the input reads as it did. -/
def checkNilUptoRow : OpenClaim := { program := "ytopcohfkfpjecaa", sum := "8f6ec5e518f6c65879a825a395900689fd23a9938ccee7b5b3186a4c3a799392", func := "lyceum/lyceumlaw02.CheckNil", spec := "checkNil", apart := false, narrowed := true }
def CheckNilUptoSaid : Prop := checkNilUptoRow.holds Try.pinned (OpenSpec.upto checkNilSpec)

end Rows
end Go.Proofs.Ytopcohfkfpjecaa
