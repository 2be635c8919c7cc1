/-
  DERIVED. GIVEN WITH THE SEED: THE CARDS: each row of YtoopjinigmhpcaaGreatDoorRows.lean that lists a variable, with what it lists TIED to the program's text (the seventh form; the later family's looks); each row that meets fmt, with fmt's text TOLD by the authors' own Lean function (tested against real Go, not proved from fmt's source: count such statements apart). THE CARD IS WHAT COUNTS. Prove the row's statement (the work); the ties are given (YtoopjinigmhpcaaGreatDoorTie.lean); close each card by the builder's one call (the guide's Derived/Test/ToyasCard.lean, 'card_holds'). Laid BY PROGRAM, IN A SANDBOX (cutbox-door.mjs). By AI agents, Wed Nov 11 2026. No macro, syntax, notation, axiom, sorry.
-/
import Derived.Test.YtoopjinigmhpcaaGreatDoorRows
import GoSem.ClaimSeven
namespace Go.Proofs.YtoopjinigmhpcaaGreatDoor
namespace Rows

/-- THE TIED CARD OF 'waypointlaw31.MixtureFollows'. -/
def mixtureFollowsCard : Claim7 := { stood := { row := mixtureFollowsRow, standIns := [], harness := (true, "86087e39bbd711314a6bc76d172f9250dde73c5b7d363ce60454414575713f08"), looks := false }, kinds := [], alts := [], laidByText := true, laidKinds := [.data, .data, .data], laidTests := true, laidLooks := .later }
def MixtureFollowsCardSaid : Prop := Claim7.holds Tryz.pinned (.plain (OpenSpec.ofChange mixtureFollowsSpec)) mixtureFollowsCard

/-- THE SECOND FORM's CARD OF 'waypointlaw31.MixtureFollows'. -/
def mixtureFollowsUptoCard : Claim7 := { stood := { row := mixtureFollowsUptoRow, standIns := [], harness := (true, "86087e39bbd711314a6bc76d172f9250dde73c5b7d363ce60454414575713f08"), looks := false }, kinds := [], alts := [], laidByText := true, laidKinds := [.data, .data, .data], laidTests := true, laidLooks := .later }
def MixtureFollowsUptoCardSaid : Prop := Claim7.holds Tryz.pinned (.plain (OpenSpec.upto mixtureFollowsSpec)) mixtureFollowsUptoCard
end Rows
end Go.Proofs.YtoopjinigmhpcaaGreatDoor
