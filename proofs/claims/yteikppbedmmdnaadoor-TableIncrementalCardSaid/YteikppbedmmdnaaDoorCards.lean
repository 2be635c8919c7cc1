/-
  DERIVED. GIVEN WITH THE SEED: THE CARDS: each row of YteikppbedmmdnaaDoorRows.lean that lists a variable, with what it lists TIED to the program's text (the seventh form; the later family's looks); each row that meets fmt, with fmt's text TOLD by the authors' own Lean function (tested against real Go, not proved from fmt's source: count such statements apart). THE CARD IS WHAT COUNTS. Prove the row's statement (the work); the ties are given (YteikppbedmmdnaaDoorTie.lean); close each card by the builder's one call (the guide's Derived/Test/ToyasCard.lean, 'card_holds'). Laid BY PROGRAM, IN A SANDBOX (cutbox-door.mjs). By AI agents, Wed Nov 11 2026. No macro, syntax, notation, axiom, sorry.
-/
import Derived.Test.YteikppbedmmdnaaDoorRows
import GoSem.ClaimSeven
namespace Go.Proofs.YteikppbedmmdnaaDoor
namespace Rows

/-- THE TIED CARD OF 'waypointlaw22.TableIncremental'. -/
def tableIncrementalCard : Claim7 := { stood := { row := tableIncrementalRow, standIns := [], harness := (true, "81118e64488adece91830265995f950564e19da05e4b8517defef81b54d8d195"), looks := false }, kinds := [], alts := [], laidByText := true, laidKinds := [.data, .data, .data], laidTests := true, laidLooks := .later }
def TableIncrementalCardSaid : Prop := Claim7.holds Tryd.pinned (.plain (OpenSpec.ofChange tableIncrementalSpec)) tableIncrementalCard

/-- THE SECOND FORM's CARD OF 'waypointlaw22.TableIncremental'. -/
def tableIncrementalUptoCard : Claim7 := { stood := { row := tableIncrementalUptoRow, standIns := [], harness := (true, "81118e64488adece91830265995f950564e19da05e4b8517defef81b54d8d195"), looks := false }, kinds := [], alts := [], laidByText := true, laidKinds := [.data, .data, .data], laidTests := true, laidLooks := .later }
def TableIncrementalUptoCardSaid : Prop := Claim7.holds Tryd.pinned (.plain (OpenSpec.upto tableIncrementalSpec)) tableIncrementalUptoCard
end Rows
end Go.Proofs.YteikppbedmmdnaaDoor
