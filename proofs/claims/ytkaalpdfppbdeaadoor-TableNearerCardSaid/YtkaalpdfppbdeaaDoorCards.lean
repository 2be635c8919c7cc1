/-
  DERIVED. GIVEN WITH THE SEED: THE CARDS: each row of YtkaalpdfppbdeaaDoorRows.lean that lists a variable, with what it lists TIED to the program's text (the seventh form; the later family's looks); each row that meets fmt, with fmt's text TOLD by the authors' own Lean function (tested against real Go, not proved from fmt's source: count such statements apart). THE CARD IS WHAT COUNTS. Prove the row's statement (the work); the ties are given (YtkaalpdfppbdeaaDoorTie.lean); close each card by the builder's one call (the guide's Derived/Test/ToyasCard.lean, 'card_holds'). Laid BY PROGRAM, IN A SANDBOX (cutbox-door.mjs). By AI agents, Wed Nov 11 2026. No macro, syntax, notation, axiom, sorry.
-/
import Derived.Test.YtkaalpdfppbdeaaDoorRows
import GoSem.ClaimSeven
namespace Go.Proofs.YtkaalpdfppbdeaaDoor
namespace Rows

/-- THE TIED CARD OF 'waypointlaw22.TableRoutes'. -/
def tableRoutesCard : Claim7 := { stood := { row := tableRoutesRow, standIns := [], harness := (true, "b6f37571878e50a4db78bf11737a66575ad26af79a1a95ed8600468fc83ed6c1"), looks := false }, kinds := [], alts := [], laidByText := true, laidKinds := [.data, .data, .data], laidTests := true, laidLooks := .later }
def TableRoutesCardSaid : Prop := Claim7.holds Tryd.pinned (.plain (OpenSpec.ofChange tableRoutesSpec)) tableRoutesCard

/-- THE TIED CARD OF 'waypointlaw22.TableText'. -/
def tableTextCard : Claim7 := { stood := { row := tableTextRow, standIns := [], harness := (true, "b6f37571878e50a4db78bf11737a66575ad26af79a1a95ed8600468fc83ed6c1"), looks := false }, kinds := [], alts := [], laidByText := true, laidKinds := [.data, .data, .data], laidTests := true, laidLooks := .later }
def TableTextCardSaid : Prop := Claim7.holds Tryd.pinned (.plain (OpenSpec.ofChange tableTextSpec)) tableTextCard

/-- THE TIED CARD OF 'waypointlaw22.TableSame'. -/
def tableSameCard : Claim7 := { stood := { row := tableSameRow, standIns := [], harness := (true, "b6f37571878e50a4db78bf11737a66575ad26af79a1a95ed8600468fc83ed6c1"), looks := false }, kinds := [], alts := [], laidByText := true, laidKinds := [.data, .data, .data], laidTests := true, laidLooks := .later }
def TableSameCardSaid : Prop := Claim7.holds Tryd.pinned (.plain (OpenSpec.ofChange tableSameSpec)) tableSameCard

/-- THE TIED CARD OF 'waypointlaw22.TableValid'. -/
def tableValidCard : Claim7 := { stood := { row := tableValidRow, standIns := [], harness := (true, "b6f37571878e50a4db78bf11737a66575ad26af79a1a95ed8600468fc83ed6c1"), looks := false }, kinds := [], alts := [], laidByText := true, laidKinds := [.data, .data, .data], laidTests := true, laidLooks := .later }
def TableValidCardSaid : Prop := Claim7.holds Tryd.pinned (.plain (OpenSpec.ofChange tableValidSpec)) tableValidCard

/-- THE TIED CARD OF 'waypointlaw22.TableNearer'. -/
def tableNearerCard : Claim7 := { stood := { row := tableNearerRow, standIns := [], harness := (true, "b6f37571878e50a4db78bf11737a66575ad26af79a1a95ed8600468fc83ed6c1"), looks := false }, kinds := [], alts := [], laidByText := true, laidKinds := [.data, .data, .data], laidTests := true, laidLooks := .later }
def TableNearerCardSaid : Prop := Claim7.holds Tryd.pinned (.plain (OpenSpec.ofChange tableNearerSpec)) tableNearerCard

/-- THE TIED CARD OF 'waypointlaw22.TableAll'. -/
def tableAllCard : Claim7 := { stood := { row := tableAllRow, standIns := [], harness := (true, "b6f37571878e50a4db78bf11737a66575ad26af79a1a95ed8600468fc83ed6c1"), looks := false }, kinds := [], alts := [], laidByText := true, laidKinds := [.data, .data, .data], laidTests := true, laidLooks := .later }
def TableAllCardSaid : Prop := Claim7.holds Tryd.pinned (.plain (OpenSpec.ofChange tableAllSpec)) tableAllCard

/-- THE SECOND FORM's CARD OF 'waypointlaw22.TableRoutes'. -/
def tableRoutesUptoCard : Claim7 := { stood := { row := tableRoutesUptoRow, standIns := [], harness := (true, "b6f37571878e50a4db78bf11737a66575ad26af79a1a95ed8600468fc83ed6c1"), looks := false }, kinds := [], alts := [], laidByText := true, laidKinds := [.data, .data, .data], laidTests := true, laidLooks := .later }
def TableRoutesUptoCardSaid : Prop := Claim7.holds Tryd.pinned (.plain (OpenSpec.upto tableRoutesSpec)) tableRoutesUptoCard

/-- THE SECOND FORM's CARD OF 'waypointlaw22.TableText'. -/
def tableTextUptoCard : Claim7 := { stood := { row := tableTextUptoRow, standIns := [], harness := (true, "b6f37571878e50a4db78bf11737a66575ad26af79a1a95ed8600468fc83ed6c1"), looks := false }, kinds := [], alts := [], laidByText := true, laidKinds := [.data, .data, .data], laidTests := true, laidLooks := .later }
def TableTextUptoCardSaid : Prop := Claim7.holds Tryd.pinned (.plain (OpenSpec.upto tableTextSpec)) tableTextUptoCard

/-- THE SECOND FORM's CARD OF 'waypointlaw22.TableSame'. -/
def tableSameUptoCard : Claim7 := { stood := { row := tableSameUptoRow, standIns := [], harness := (true, "b6f37571878e50a4db78bf11737a66575ad26af79a1a95ed8600468fc83ed6c1"), looks := false }, kinds := [], alts := [], laidByText := true, laidKinds := [.data, .data, .data], laidTests := true, laidLooks := .later }
def TableSameUptoCardSaid : Prop := Claim7.holds Tryd.pinned (.plain (OpenSpec.upto tableSameSpec)) tableSameUptoCard

/-- THE SECOND FORM's CARD OF 'waypointlaw22.TableValid'. -/
def tableValidUptoCard : Claim7 := { stood := { row := tableValidUptoRow, standIns := [], harness := (true, "b6f37571878e50a4db78bf11737a66575ad26af79a1a95ed8600468fc83ed6c1"), looks := false }, kinds := [], alts := [], laidByText := true, laidKinds := [.data, .data, .data], laidTests := true, laidLooks := .later }
def TableValidUptoCardSaid : Prop := Claim7.holds Tryd.pinned (.plain (OpenSpec.upto tableValidSpec)) tableValidUptoCard

/-- THE SECOND FORM's CARD OF 'waypointlaw22.TableNearer'. -/
def tableNearerUptoCard : Claim7 := { stood := { row := tableNearerUptoRow, standIns := [], harness := (true, "b6f37571878e50a4db78bf11737a66575ad26af79a1a95ed8600468fc83ed6c1"), looks := false }, kinds := [], alts := [], laidByText := true, laidKinds := [.data, .data, .data], laidTests := true, laidLooks := .later }
def TableNearerUptoCardSaid : Prop := Claim7.holds Tryd.pinned (.plain (OpenSpec.upto tableNearerSpec)) tableNearerUptoCard

/-- THE SECOND FORM's CARD OF 'waypointlaw22.TableAll'. -/
def tableAllUptoCard : Claim7 := { stood := { row := tableAllUptoRow, standIns := [], harness := (true, "b6f37571878e50a4db78bf11737a66575ad26af79a1a95ed8600468fc83ed6c1"), looks := false }, kinds := [], alts := [], laidByText := true, laidKinds := [.data, .data, .data], laidTests := true, laidLooks := .later }
def TableAllUptoCardSaid : Prop := Claim7.holds Tryd.pinned (.plain (OpenSpec.upto tableAllSpec)) tableAllUptoCard
end Rows
end Go.Proofs.YtkaalpdfppbdeaaDoor
