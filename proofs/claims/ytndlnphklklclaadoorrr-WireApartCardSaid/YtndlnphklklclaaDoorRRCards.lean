/-
  DERIVED. GIVEN WITH THE SEED: THE CARDS: each row of YtndlnphklklclaaDoorRRRows.lean that lists a variable, with what it lists TIED to the program's text (the seventh form; the later family's looks); each row that meets fmt, with fmt's text TOLD by the authors' own Lean function (tested against real Go, not proved from fmt's source: count such statements apart). THE CARD IS WHAT COUNTS. Prove the row's statement (the work); the ties are given (YtndlnphklklclaaDoorRRTie.lean); close each card by the builder's one call (the guide's Derived/Test/ToyasCard.lean, 'card_holds'). Laid BY PROGRAM, IN A SANDBOX (cutbox-door.mjs). By AI agents, Wed Nov 11 2026. No macro, syntax, notation, axiom, sorry.
-/
import Derived.Test.YtndlnphklklclaaDoorRRRows
import GoSem.ClaimSeven
namespace Go.Proofs.YtndlnphklklclaaDoorRR
namespace Rows

/-- THE TIED CARD OF 'lyceumlaw19.WireApart'. -/
def wireApartCard : Claim7 := { stood := { row := wireApartRow, standIns := [], harness := (true, "b95205c670daa491ec687c7c41196194cab1517d58c23b0b738f9d3c008a21d0"), looks := true }, kinds := [], alts := [], laidByText := true, laidKinds := [.handle], laidTests := true, laidLooks := .later }
def WireApartCardSaid : Prop := Claim7.holds Tryd.pinned (.plain (OpenSpec.ofChange wireApartSpec)) wireApartCard

/-- THE SECOND FORM's CARD OF 'lyceumlaw19.WireApart'. -/
def wireApartUptoCard : Claim7 := { stood := { row := wireApartUptoRow, standIns := [], harness := (true, "b95205c670daa491ec687c7c41196194cab1517d58c23b0b738f9d3c008a21d0"), looks := true }, kinds := [], alts := [], laidByText := true, laidKinds := [.handle], laidTests := true, laidLooks := .later }
def WireApartUptoCardSaid : Prop := Claim7.holds Tryd.pinned (.plain (OpenSpec.upto wireApartSpec)) wireApartUptoCard
end Rows
end Go.Proofs.YtndlnphklklclaaDoorRR
