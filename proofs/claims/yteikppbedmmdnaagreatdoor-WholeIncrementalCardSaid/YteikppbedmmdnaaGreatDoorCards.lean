/-
  DERIVED. GIVEN WITH THE SEED: THE CARDS: each row of YteikppbedmmdnaaGreatDoorRows.lean that lists a variable, with what it lists TIED to the program's text (the seventh form; the later family's looks); each row that meets fmt, with fmt's text TOLD by the authors' own Lean function (tested against real Go, not proved from fmt's source: count such statements apart). THE CARD IS WHAT COUNTS. Prove the row's statement (the work); the ties are given (YteikppbedmmdnaaGreatDoorTie.lean); close each card by the builder's one call (the guide's Derived/Test/ToyasCard.lean, 'card_holds'). Laid BY PROGRAM, IN A SANDBOX (cutbox-door.mjs). By AI agents, Wed Nov 11 2026. No macro, syntax, notation, axiom, sorry.
-/
import Derived.Test.YteikppbedmmdnaaGreatDoorRows
import GoSem.ClaimSeven
namespace Go.Proofs.YteikppbedmmdnaaGreatDoor
namespace Rows

/-- THE TIED CARD OF 'waypointtop.WholeIncremental'. -/
def wholeIncrementalCard : Claim7 := { stood := { row := wholeIncrementalRow, standIns := [], harness := (true, "d9937bfa3d30c37712cf571181d114f748dc834ac9ab3a72ba0f037ebcb0970c"), looks := false }, kinds := [], alts := [], laidByText := true, laidKinds := [.data, .data, .data], laidTests := true, laidLooks := .later }
def WholeIncrementalCardSaid : Prop := Claim7.holds Tryz.pinned (.plain (OpenSpec.ofChange wholeIncrementalSpec)) wholeIncrementalCard

/-- THE SECOND FORM's CARD OF 'waypointtop.WholeIncremental'. -/
def wholeIncrementalUptoCard : Claim7 := { stood := { row := wholeIncrementalUptoRow, standIns := [], harness := (true, "d9937bfa3d30c37712cf571181d114f748dc834ac9ab3a72ba0f037ebcb0970c"), looks := false }, kinds := [], alts := [], laidByText := true, laidKinds := [.data, .data, .data], laidTests := true, laidLooks := .later }
def WholeIncrementalUptoCardSaid : Prop := Claim7.holds Tryz.pinned (.plain (OpenSpec.upto wholeIncrementalSpec)) wholeIncrementalUptoCard
end Rows
end Go.Proofs.YteikppbedmmdnaaGreatDoor
