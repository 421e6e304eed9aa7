/-
  DERIVED. GIVEN WITH THE SEED: THE CARDS: each row of YtmdgjmmkegkonaaDoorRows.lean that lists a variable, with what it lists TIED to the program's text (the seventh form; the later family's looks); each row that meets fmt, with fmt's text TOLD by the authors' own Lean function (tested against real Go, not proved from fmt's source: count such statements apart). THE CARD IS WHAT COUNTS. Prove the row's statement (the work); the ties are given (YtmdgjmmkegkonaaDoorTie.lean); close each card by the builder's one call (the guide's Derived/Test/ToyasCard.lean, 'card_holds'). Laid BY PROGRAM, IN A SANDBOX (cutbox-door.mjs). By AI agents, Wed Nov 11 2026. No macro, syntax, notation, axiom, sorry.
-/
import Derived.Test.YtmdgjmmkegkonaaDoorRows
import GoSem.ClaimSeven
namespace Go.Proofs.YtmdgjmmkegkonaaDoor
namespace Rows

/-- THE TIED CARD OF 'lyceumlaw12.LayoutBack'. -/
def layoutBackCard : Claim7 := { stood := { row := layoutBackRow, standIns := [], harness := (true, "580be9b29e7837a3e9a53578258783dd8b2897152f36b5d7cd0c3ffffc7962fd"), looks := true }, kinds := [], alts := [], laidByText := true, laidKinds := [.handle], laidTests := true, laidLooks := .later }
def LayoutBackCardSaid : Prop := Claim7.holds Tryd.pinned (.plain (OpenSpec.ofChange layoutBackSpec)) layoutBackCard

/-- THE TIED CARD OF 'lyceumlaw12.LayoutNext'. -/
def layoutNextCard : Claim7 := { stood := { row := layoutNextRow, standIns := [], harness := (true, "580be9b29e7837a3e9a53578258783dd8b2897152f36b5d7cd0c3ffffc7962fd"), looks := true }, kinds := [], alts := [], laidByText := true, laidKinds := [.handle], laidTests := true, laidLooks := .later }
def LayoutNextCardSaid : Prop := Claim7.holds Tryd.pinned (.plain (OpenSpec.ofChange layoutNextSpec)) layoutNextCard

/-- THE TIED CARD OF 'lyceumlaw12.LayoutRefuses'. -/
def layoutRefusesCard : Claim7 := { stood := { row := layoutRefusesRow, standIns := [], harness := (true, "580be9b29e7837a3e9a53578258783dd8b2897152f36b5d7cd0c3ffffc7962fd"), looks := true }, kinds := [], alts := [], laidByText := true, laidKinds := [.handle], laidTests := true, laidLooks := .later }
def LayoutRefusesCardSaid : Prop := Claim7.holds Tryd.pinned (.plain (OpenSpec.ofChange layoutRefusesSpec)) layoutRefusesCard

/-- THE TIED CARD OF 'lyceumlaw12.LayoutTiles'. -/
def layoutTilesCard : Claim7 := { stood := { row := layoutTilesRow, standIns := [], harness := (true, "580be9b29e7837a3e9a53578258783dd8b2897152f36b5d7cd0c3ffffc7962fd"), looks := true }, kinds := [], alts := [], laidByText := true, laidKinds := [.handle], laidTests := true, laidLooks := .later }
def LayoutTilesCardSaid : Prop := Claim7.holds Tryd.pinned (.plain (OpenSpec.ofChange layoutTilesSpec)) layoutTilesCard

/-- THE SECOND FORM's CARD OF 'lyceumlaw12.LayoutBack'. -/
def layoutBackUptoCard : Claim7 := { stood := { row := layoutBackUptoRow, standIns := [], harness := (true, "580be9b29e7837a3e9a53578258783dd8b2897152f36b5d7cd0c3ffffc7962fd"), looks := true }, kinds := [], alts := [], laidByText := true, laidKinds := [.handle], laidTests := true, laidLooks := .later }
def LayoutBackUptoCardSaid : Prop := Claim7.holds Tryd.pinned (.plain (OpenSpec.upto layoutBackSpec)) layoutBackUptoCard

/-- THE SECOND FORM's CARD OF 'lyceumlaw12.LayoutNext'. -/
def layoutNextUptoCard : Claim7 := { stood := { row := layoutNextUptoRow, standIns := [], harness := (true, "580be9b29e7837a3e9a53578258783dd8b2897152f36b5d7cd0c3ffffc7962fd"), looks := true }, kinds := [], alts := [], laidByText := true, laidKinds := [.handle], laidTests := true, laidLooks := .later }
def LayoutNextUptoCardSaid : Prop := Claim7.holds Tryd.pinned (.plain (OpenSpec.upto layoutNextSpec)) layoutNextUptoCard

/-- THE SECOND FORM's CARD OF 'lyceumlaw12.LayoutRefuses'. -/
def layoutRefusesUptoCard : Claim7 := { stood := { row := layoutRefusesUptoRow, standIns := [], harness := (true, "580be9b29e7837a3e9a53578258783dd8b2897152f36b5d7cd0c3ffffc7962fd"), looks := true }, kinds := [], alts := [], laidByText := true, laidKinds := [.handle], laidTests := true, laidLooks := .later }
def LayoutRefusesUptoCardSaid : Prop := Claim7.holds Tryd.pinned (.plain (OpenSpec.upto layoutRefusesSpec)) layoutRefusesUptoCard

/-- THE SECOND FORM's CARD OF 'lyceumlaw12.LayoutTiles'. -/
def layoutTilesUptoCard : Claim7 := { stood := { row := layoutTilesUptoRow, standIns := [], harness := (true, "580be9b29e7837a3e9a53578258783dd8b2897152f36b5d7cd0c3ffffc7962fd"), looks := true }, kinds := [], alts := [], laidByText := true, laidKinds := [.handle], laidTests := true, laidLooks := .later }
def LayoutTilesUptoCardSaid : Prop := Claim7.holds Tryd.pinned (.plain (OpenSpec.upto layoutTilesSpec)) layoutTilesUptoCard
end Rows
end Go.Proofs.YtmdgjmmkegkonaaDoor
