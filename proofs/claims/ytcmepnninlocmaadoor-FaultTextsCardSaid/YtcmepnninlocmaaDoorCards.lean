/-
  DERIVED. GIVEN WITH THE SEED: THE CARDS: each row of YtcmepnninlocmaaDoorRows.lean that lists a variable, with what it lists TIED to the program's text (the seventh form; the later family's looks); each row that meets fmt, with fmt's text TOLD by the authors' own Lean function (tested against real Go, not proved from fmt's source: count such statements apart). THE CARD IS WHAT COUNTS. Prove the row's statement (the work); the ties are given (YtcmepnninlocmaaDoorTie.lean); close each card by the builder's one call (the guide's Derived/Test/ToyasCard.lean, 'card_holds'). Laid BY PROGRAM, IN A SANDBOX (cutbox-door.mjs). By AI agents, Wed Nov 11 2026. No macro, syntax, notation, axiom, sorry.
-/
import Derived.Test.YtcmepnninlocmaaDoorRows
import GoSem.ClaimSeven
namespace Go.Proofs.YtcmepnninlocmaaDoor
namespace Rows

/-- THE TIED CARD OF 'lyceumlaw01.FaultTexts'. -/
def faultTextsCard : Claim7 := { stood := { row := faultTextsRow, standIns := [], harness := (true, "cd9dfbbd2fe7b83fa03bece2227f6f630854cb8ce55fd58a2d62fe31ca4dd135"), looks := true }, kinds := [], alts := [], laidByText := true, laidKinds := [.data, .data, .data], laidTests := true, laidLooks := .later }
def FaultTextsCardSaid : Prop := Claim7.holds Tryd.pinned (.plain (OpenSpec.ofChange faultTextsSpec)) faultTextsCard

/-- THE TIED CARD OF 'lyceumlaw01.FaultNone'. -/
def faultNoneCard : Claim7 := { stood := { row := faultNoneRow, standIns := [], harness := (true, "cd9dfbbd2fe7b83fa03bece2227f6f630854cb8ce55fd58a2d62fe31ca4dd135"), looks := true }, kinds := [], alts := [], laidByText := true, laidKinds := [.data, .data, .data, .handle], laidTests := true, laidLooks := .later }
def FaultNoneCardSaid : Prop := Claim7.holds Tryd.pinned (.plain (OpenSpec.ofChange faultNoneSpec)) faultNoneCard

/-- THE SECOND FORM's CARD OF 'lyceumlaw01.FaultTexts'. -/
def faultTextsUptoCard : Claim7 := { stood := { row := faultTextsUptoRow, standIns := [], harness := (true, "cd9dfbbd2fe7b83fa03bece2227f6f630854cb8ce55fd58a2d62fe31ca4dd135"), looks := true }, kinds := [], alts := [], laidByText := true, laidKinds := [.data, .data, .data], laidTests := true, laidLooks := .later }
def FaultTextsUptoCardSaid : Prop := Claim7.holds Tryd.pinned (.plain (OpenSpec.upto faultTextsSpec)) faultTextsUptoCard

/-- THE SECOND FORM's CARD OF 'lyceumlaw01.FaultNone'. -/
def faultNoneUptoCard : Claim7 := { stood := { row := faultNoneUptoRow, standIns := [], harness := (true, "cd9dfbbd2fe7b83fa03bece2227f6f630854cb8ce55fd58a2d62fe31ca4dd135"), looks := true }, kinds := [], alts := [], laidByText := true, laidKinds := [.data, .data, .data, .handle], laidTests := true, laidLooks := .later }
def FaultNoneUptoCardSaid : Prop := Claim7.holds Tryd.pinned (.plain (OpenSpec.upto faultNoneSpec)) faultNoneUptoCard
end Rows
end Go.Proofs.YtcmepnninlocmaaDoor
