/-
  DERIVED. GIVEN WITH THE SEED: THE CARDS: each row of YtfcadpknnbgibaaGreatDoorRows.lean that lists a variable, with what it lists TIED to the program's text (the seventh form; the later family's looks); each row that meets fmt, with fmt's text TOLD by the authors' own Lean function (tested against real Go, not proved from fmt's source: count such statements apart). THE CARD IS WHAT COUNTS. Prove the row's statement (the work); the ties are given (YtfcadpknnbgibaaGreatDoorTie.lean); close each card by the builder's one call (the guide's Derived/Test/ToyasCard.lean, 'card_holds'). Laid BY PROGRAM, IN A SANDBOX (cutbox-door.mjs). By AI agents, Wed Nov 11 2026. No macro, syntax, notation, axiom, sorry.
-/
import Derived.Test.YtfcadpknnbgibaaGreatDoorRows
import GoSem.ClaimSeven
namespace Go.Proofs.YtfcadpknnbgibaaGreatDoor
namespace Rows

/-- THE TIED CARD OF 'waypointtop.WholeViews'. -/
def wholeViewsCard : Claim7 := { stood := { row := wholeViewsRow, standIns := [], harness := (true, "e22565dbf1c31a42097e06e712fdcd669265f739c4017d8fd98e8fcb8c0831a9"), looks := false }, kinds := [], alts := [], laidByText := true, laidKinds := [.data, .data, .data], laidTests := true, laidLooks := .later }
def WholeViewsCardSaid : Prop := Claim7.holds Tryz.pinned (.plain (OpenSpec.ofChange wholeViewsSpec)) wholeViewsCard

/-- THE SECOND FORM's CARD OF 'waypointtop.WholeViews'. -/
def wholeViewsUptoCard : Claim7 := { stood := { row := wholeViewsUptoRow, standIns := [], harness := (true, "e22565dbf1c31a42097e06e712fdcd669265f739c4017d8fd98e8fcb8c0831a9"), looks := false }, kinds := [], alts := [], laidByText := true, laidKinds := [.data, .data, .data], laidTests := true, laidLooks := .later }
def WholeViewsUptoCardSaid : Prop := Claim7.holds Tryz.pinned (.plain (OpenSpec.upto wholeViewsSpec)) wholeViewsUptoCard
end Rows
end Go.Proofs.YtfcadpknnbgibaaGreatDoor
