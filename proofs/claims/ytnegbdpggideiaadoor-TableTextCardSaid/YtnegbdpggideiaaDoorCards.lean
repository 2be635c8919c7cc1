/-
  DERIVED. GIVEN WITH THE SEED: THE CARDS: each row of YtnegbdpggideiaaDoorRows.lean that lists a variable, with what it lists TIED to the program's text (the seventh form; the later family's looks); each row that meets fmt, with fmt's text TOLD by the authors' own Lean function (tested against real Go, not proved from fmt's source: count such statements apart). THE CARD IS WHAT COUNTS. Prove the row's statement (the work); the ties are given (YtnegbdpggideiaaDoorTie.lean); close each card by the builder's one call (the guide's Derived/Test/ToyasCard.lean, 'card_holds'). Laid BY PROGRAM, IN A SANDBOX (cutbox-door.mjs). By AI agents, Wed Nov 11 2026. No macro, syntax, notation, axiom, sorry.
-/
import Derived.Test.YtnegbdpggideiaaDoorRows
import GoSem.ClaimSeven
namespace Go.Proofs.YtnegbdpggideiaaDoor
namespace Rows

/-- THE TIED CARD OF 'waypointlaw22.TableText'. -/
def tableTextCard : Claim7 := { stood := { row := tableTextRow, standIns := [], harness := (true, "6978e9ff64b5762aac7cb673b7819b2a17a27b25c8d4e42caaa333ebf3205e5b"), looks := false }, kinds := [], alts := [], laidByText := true, laidKinds := [.data, .data, .data], laidTests := true, laidLooks := .later }
def TableTextCardSaid : Prop := Claim7.holds Tryd.pinned (.plain (OpenSpec.ofChange tableTextSpec)) tableTextCard

/-- THE TIED CARD OF 'waypointlaw25.FlowhashArrives'. -/
def flowhashArrivesCard : Claim7 := { stood := { row := flowhashArrivesRow, standIns := [], harness := (true, "6978e9ff64b5762aac7cb673b7819b2a17a27b25c8d4e42caaa333ebf3205e5b"), looks := false }, kinds := [], alts := [], laidByText := true, laidKinds := [.data, .data, .data], laidTests := true, laidLooks := .later }
def FlowhashArrivesCardSaid : Prop := Claim7.holds Tryd.pinned (.plain (OpenSpec.ofChange flowhashArrivesSpec)) flowhashArrivesCard

/-- THE SECOND FORM's CARD OF 'waypointlaw22.TableText'. -/
def tableTextUptoCard : Claim7 := { stood := { row := tableTextUptoRow, standIns := [], harness := (true, "6978e9ff64b5762aac7cb673b7819b2a17a27b25c8d4e42caaa333ebf3205e5b"), looks := false }, kinds := [], alts := [], laidByText := true, laidKinds := [.data, .data, .data], laidTests := true, laidLooks := .later }
def TableTextUptoCardSaid : Prop := Claim7.holds Tryd.pinned (.plain (OpenSpec.upto tableTextSpec)) tableTextUptoCard

/-- THE SECOND FORM's CARD OF 'waypointlaw25.FlowhashArrives'. -/
def flowhashArrivesUptoCard : Claim7 := { stood := { row := flowhashArrivesUptoRow, standIns := [], harness := (true, "6978e9ff64b5762aac7cb673b7819b2a17a27b25c8d4e42caaa333ebf3205e5b"), looks := false }, kinds := [], alts := [], laidByText := true, laidKinds := [.data, .data, .data], laidTests := true, laidLooks := .later }
def FlowhashArrivesUptoCardSaid : Prop := Claim7.holds Tryd.pinned (.plain (OpenSpec.upto flowhashArrivesSpec)) flowhashArrivesUptoCard
end Rows
end Go.Proofs.YtnegbdpggideiaaDoor
