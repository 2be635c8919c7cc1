/-
  DERIVED. GIVEN WITH THE SEED: THE CARDS: each row of YtnegbdpggideiaaGreatDoorRows.lean that lists a variable, with what it lists TIED to the program's text (the seventh form; the later family's looks); each row that meets fmt, with fmt's text TOLD by the authors' own Lean function (tested against real Go, not proved from fmt's source: count such statements apart). THE CARD IS WHAT COUNTS. Prove the row's statement (the work); the ties are given (YtnegbdpggideiaaGreatDoorTie.lean); close each card by the builder's one call (the guide's Derived/Test/ToyasCard.lean, 'card_holds'). Laid BY PROGRAM, IN A SANDBOX (cutbox-door.mjs). By AI agents, Wed Nov 11 2026. No macro, syntax, notation, axiom, sorry.
-/
import Derived.Test.YtnegbdpggideiaaGreatDoorRows
import GoSem.ClaimSeven
namespace Go.Proofs.YtnegbdpggideiaaGreatDoor
namespace Rows

/-- THE TIED CARD OF 'waypointtop.WholeStable'. -/
def wholeStableCard : Claim7 := { stood := { row := wholeStableRow, standIns := [], harness := (true, "3eedc3262a1e22f25a0699067de5cf2e4c3ca5fe316ddc4ea68067e33fe38499"), looks := false }, kinds := [], alts := [], laidByText := true, laidKinds := [.data, .data, .data], laidTests := true, laidLooks := .later }
def WholeStableCardSaid : Prop := Claim7.holds Tryz.pinned (.plain (OpenSpec.ofChange wholeStableSpec)) wholeStableCard

/-- THE TIED CARD OF 'waypointlaw31.MixturePermitted'. -/
def mixturePermittedCard : Claim7 := { stood := { row := mixturePermittedRow, standIns := [], harness := (true, "3eedc3262a1e22f25a0699067de5cf2e4c3ca5fe316ddc4ea68067e33fe38499"), looks := false }, kinds := [], alts := [], laidByText := true, laidKinds := [.data, .data, .data], laidTests := true, laidLooks := .later }
def MixturePermittedCardSaid : Prop := Claim7.holds Tryz.pinned (.plain (OpenSpec.ofChange mixturePermittedSpec)) mixturePermittedCard

/-- THE TIED CARD OF 'waypointlaw31.MixtureTables'. -/
def mixtureTablesCard : Claim7 := { stood := { row := mixtureTablesRow, standIns := [], harness := (true, "3eedc3262a1e22f25a0699067de5cf2e4c3ca5fe316ddc4ea68067e33fe38499"), looks := false }, kinds := [], alts := [], laidByText := true, laidKinds := [.data, .data, .data], laidTests := true, laidLooks := .later }
def MixtureTablesCardSaid : Prop := Claim7.holds Tryz.pinned (.plain (OpenSpec.ofChange mixtureTablesSpec)) mixtureTablesCard

/-- THE TIED CARD OF 'waypointlaw31.MixtureListed'. -/
def mixtureListedCard : Claim7 := { stood := { row := mixtureListedRow, standIns := [], harness := (true, "3eedc3262a1e22f25a0699067de5cf2e4c3ca5fe316ddc4ea68067e33fe38499"), looks := false }, kinds := [], alts := [], laidByText := true, laidKinds := [.data, .data, .data], laidTests := true, laidLooks := .later }
def MixtureListedCardSaid : Prop := Claim7.holds Tryz.pinned (.plain (OpenSpec.ofChange mixtureListedSpec)) mixtureListedCard

/-- THE TIED CARD OF 'waypointlaw31.MixtureLate'. -/
def mixtureLateCard : Claim7 := { stood := { row := mixtureLateRow, standIns := [], harness := (true, "3eedc3262a1e22f25a0699067de5cf2e4c3ca5fe316ddc4ea68067e33fe38499"), looks := false }, kinds := [], alts := [], laidByText := true, laidKinds := [.data, .data, .data], laidTests := true, laidLooks := .later }
def MixtureLateCardSaid : Prop := Claim7.holds Tryz.pinned (.plain (OpenSpec.ofChange mixtureLateSpec)) mixtureLateCard

/-- THE TIED CARD OF 'waypointlaw31.MixtureEarly'. -/
def mixtureEarlyCard : Claim7 := { stood := { row := mixtureEarlyRow, standIns := [], harness := (true, "3eedc3262a1e22f25a0699067de5cf2e4c3ca5fe316ddc4ea68067e33fe38499"), looks := false }, kinds := [], alts := [], laidByText := true, laidKinds := [.data, .data, .data], laidTests := true, laidLooks := .later }
def MixtureEarlyCardSaid : Prop := Claim7.holds Tryz.pinned (.plain (OpenSpec.ofChange mixtureEarlySpec)) mixtureEarlyCard

/-- THE TIED CARD OF 'waypointlaw31.MixtureRepair'. -/
def mixtureRepairCard : Claim7 := { stood := { row := mixtureRepairRow, standIns := [], harness := (true, "3eedc3262a1e22f25a0699067de5cf2e4c3ca5fe316ddc4ea68067e33fe38499"), looks := false }, kinds := [], alts := [], laidByText := true, laidKinds := [.data, .data, .data], laidTests := true, laidLooks := .later }
def MixtureRepairCardSaid : Prop := Claim7.holds Tryz.pinned (.plain (OpenSpec.ofChange mixtureRepairSpec)) mixtureRepairCard

/-- THE TIED CARD OF 'waypointlaw31.MixtureMoving'. -/
def mixtureMovingCard : Claim7 := { stood := { row := mixtureMovingRow, standIns := [], harness := (true, "3eedc3262a1e22f25a0699067de5cf2e4c3ca5fe316ddc4ea68067e33fe38499"), looks := false }, kinds := [], alts := [], laidByText := true, laidKinds := [.data, .data, .data], laidTests := true, laidLooks := .later }
def MixtureMovingCardSaid : Prop := Claim7.holds Tryz.pinned (.plain (OpenSpec.ofChange mixtureMovingSpec)) mixtureMovingCard

/-- THE TIED CARD OF 'waypointlaw31.MixtureFollows'. -/
def mixtureFollowsCard : Claim7 := { stood := { row := mixtureFollowsRow, standIns := [], harness := (true, "3eedc3262a1e22f25a0699067de5cf2e4c3ca5fe316ddc4ea68067e33fe38499"), looks := false }, kinds := [], alts := [], laidByText := true, laidKinds := [.data, .data, .data], laidTests := true, laidLooks := .later }
def MixtureFollowsCardSaid : Prop := Claim7.holds Tryz.pinned (.plain (OpenSpec.ofChange mixtureFollowsSpec)) mixtureFollowsCard

/-- THE TIED CARD OF 'waypointlaw31.MixtureArrives'. -/
def mixtureArrivesCard : Claim7 := { stood := { row := mixtureArrivesRow, standIns := [], harness := (true, "3eedc3262a1e22f25a0699067de5cf2e4c3ca5fe316ddc4ea68067e33fe38499"), looks := false }, kinds := [], alts := [], laidByText := true, laidKinds := [.data, .data, .data], laidTests := true, laidLooks := .later }
def MixtureArrivesCardSaid : Prop := Claim7.holds Tryz.pinned (.plain (OpenSpec.ofChange mixtureArrivesSpec)) mixtureArrivesCard

/-- THE SECOND FORM's CARD OF 'waypointtop.WholeStable'. -/
def wholeStableUptoCard : Claim7 := { stood := { row := wholeStableUptoRow, standIns := [], harness := (true, "3eedc3262a1e22f25a0699067de5cf2e4c3ca5fe316ddc4ea68067e33fe38499"), looks := false }, kinds := [], alts := [], laidByText := true, laidKinds := [.data, .data, .data], laidTests := true, laidLooks := .later }
def WholeStableUptoCardSaid : Prop := Claim7.holds Tryz.pinned (.plain (OpenSpec.upto wholeStableSpec)) wholeStableUptoCard

/-- THE SECOND FORM's CARD OF 'waypointlaw31.MixturePermitted'. -/
def mixturePermittedUptoCard : Claim7 := { stood := { row := mixturePermittedUptoRow, standIns := [], harness := (true, "3eedc3262a1e22f25a0699067de5cf2e4c3ca5fe316ddc4ea68067e33fe38499"), looks := false }, kinds := [], alts := [], laidByText := true, laidKinds := [.data, .data, .data], laidTests := true, laidLooks := .later }
def MixturePermittedUptoCardSaid : Prop := Claim7.holds Tryz.pinned (.plain (OpenSpec.upto mixturePermittedSpec)) mixturePermittedUptoCard

/-- THE SECOND FORM's CARD OF 'waypointlaw31.MixtureTables'. -/
def mixtureTablesUptoCard : Claim7 := { stood := { row := mixtureTablesUptoRow, standIns := [], harness := (true, "3eedc3262a1e22f25a0699067de5cf2e4c3ca5fe316ddc4ea68067e33fe38499"), looks := false }, kinds := [], alts := [], laidByText := true, laidKinds := [.data, .data, .data], laidTests := true, laidLooks := .later }
def MixtureTablesUptoCardSaid : Prop := Claim7.holds Tryz.pinned (.plain (OpenSpec.upto mixtureTablesSpec)) mixtureTablesUptoCard

/-- THE SECOND FORM's CARD OF 'waypointlaw31.MixtureListed'. -/
def mixtureListedUptoCard : Claim7 := { stood := { row := mixtureListedUptoRow, standIns := [], harness := (true, "3eedc3262a1e22f25a0699067de5cf2e4c3ca5fe316ddc4ea68067e33fe38499"), looks := false }, kinds := [], alts := [], laidByText := true, laidKinds := [.data, .data, .data], laidTests := true, laidLooks := .later }
def MixtureListedUptoCardSaid : Prop := Claim7.holds Tryz.pinned (.plain (OpenSpec.upto mixtureListedSpec)) mixtureListedUptoCard

/-- THE SECOND FORM's CARD OF 'waypointlaw31.MixtureLate'. -/
def mixtureLateUptoCard : Claim7 := { stood := { row := mixtureLateUptoRow, standIns := [], harness := (true, "3eedc3262a1e22f25a0699067de5cf2e4c3ca5fe316ddc4ea68067e33fe38499"), looks := false }, kinds := [], alts := [], laidByText := true, laidKinds := [.data, .data, .data], laidTests := true, laidLooks := .later }
def MixtureLateUptoCardSaid : Prop := Claim7.holds Tryz.pinned (.plain (OpenSpec.upto mixtureLateSpec)) mixtureLateUptoCard

/-- THE SECOND FORM's CARD OF 'waypointlaw31.MixtureEarly'. -/
def mixtureEarlyUptoCard : Claim7 := { stood := { row := mixtureEarlyUptoRow, standIns := [], harness := (true, "3eedc3262a1e22f25a0699067de5cf2e4c3ca5fe316ddc4ea68067e33fe38499"), looks := false }, kinds := [], alts := [], laidByText := true, laidKinds := [.data, .data, .data], laidTests := true, laidLooks := .later }
def MixtureEarlyUptoCardSaid : Prop := Claim7.holds Tryz.pinned (.plain (OpenSpec.upto mixtureEarlySpec)) mixtureEarlyUptoCard

/-- THE SECOND FORM's CARD OF 'waypointlaw31.MixtureRepair'. -/
def mixtureRepairUptoCard : Claim7 := { stood := { row := mixtureRepairUptoRow, standIns := [], harness := (true, "3eedc3262a1e22f25a0699067de5cf2e4c3ca5fe316ddc4ea68067e33fe38499"), looks := false }, kinds := [], alts := [], laidByText := true, laidKinds := [.data, .data, .data], laidTests := true, laidLooks := .later }
def MixtureRepairUptoCardSaid : Prop := Claim7.holds Tryz.pinned (.plain (OpenSpec.upto mixtureRepairSpec)) mixtureRepairUptoCard

/-- THE SECOND FORM's CARD OF 'waypointlaw31.MixtureMoving'. -/
def mixtureMovingUptoCard : Claim7 := { stood := { row := mixtureMovingUptoRow, standIns := [], harness := (true, "3eedc3262a1e22f25a0699067de5cf2e4c3ca5fe316ddc4ea68067e33fe38499"), looks := false }, kinds := [], alts := [], laidByText := true, laidKinds := [.data, .data, .data], laidTests := true, laidLooks := .later }
def MixtureMovingUptoCardSaid : Prop := Claim7.holds Tryz.pinned (.plain (OpenSpec.upto mixtureMovingSpec)) mixtureMovingUptoCard

/-- THE SECOND FORM's CARD OF 'waypointlaw31.MixtureFollows'. -/
def mixtureFollowsUptoCard : Claim7 := { stood := { row := mixtureFollowsUptoRow, standIns := [], harness := (true, "3eedc3262a1e22f25a0699067de5cf2e4c3ca5fe316ddc4ea68067e33fe38499"), looks := false }, kinds := [], alts := [], laidByText := true, laidKinds := [.data, .data, .data], laidTests := true, laidLooks := .later }
def MixtureFollowsUptoCardSaid : Prop := Claim7.holds Tryz.pinned (.plain (OpenSpec.upto mixtureFollowsSpec)) mixtureFollowsUptoCard

/-- THE SECOND FORM's CARD OF 'waypointlaw31.MixtureArrives'. -/
def mixtureArrivesUptoCard : Claim7 := { stood := { row := mixtureArrivesUptoRow, standIns := [], harness := (true, "3eedc3262a1e22f25a0699067de5cf2e4c3ca5fe316ddc4ea68067e33fe38499"), looks := false }, kinds := [], alts := [], laidByText := true, laidKinds := [.data, .data, .data], laidTests := true, laidLooks := .later }
def MixtureArrivesUptoCardSaid : Prop := Claim7.holds Tryz.pinned (.plain (OpenSpec.upto mixtureArrivesSpec)) mixtureArrivesUptoCard
end Rows
end Go.Proofs.YtnegbdpggideiaaGreatDoor
