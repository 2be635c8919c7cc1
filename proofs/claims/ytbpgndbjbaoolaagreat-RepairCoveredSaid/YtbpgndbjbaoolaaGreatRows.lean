/-
  No cell of these rows narrows 'for every input' (looked for: loops, veiled, ifaces, maps, wideKeys, modest, calm, conditions, laid).
  DERIVED. THE GIVEN ROWS OF THIS SEAT. 11 by the template 'for every input the law returns true; each argument reads behind the call as it read before'; 0 by the template 'total and deterministic' (their statements: YtbpgndbjbaoolaaGreatTotals.lean).
  GIVEN WITH THE SEED: the statements are not yours to turn. If you find one false, say at which input.
  Laid BY PROGRAM, IN A SANDBOX (cutbox-rows.mjs): the forced cells as the released guide's own fill.sh prints them over the translation 8680061e83406459… (all of the seat's roots in one cut). By AI agents, Wed Nov 11 2026. No macro, syntax, notation, axiom, sorry.
-/
import Derived.Test.YtbpgndbjbaoolaaGreatChecked
import GoSem.Claim
import GoSem.ClaimJoined
import GoSem.ClaimMapViews
import Derived.JoinedTies
import Derived.KernelRfl
namespace Go.Proofs.YtbpgndbjbaoolaaGreat
/- THE CELL 'sum', in the pinned program and in every row, IS THE sha256 OF THE DUMP (.gsa) THAT YtbpgndbjbaoolaaGreatProg.lean LOADS. Nothing in Lean hashes anything: it is a label: what it is worth is what the hold of that sum in a sandbox is worth. -/
noncomputable def Tryz.pinned : Pinned := { name := "ytbpgndbjbaoolaagreat", sum := "8680061e83406459c9f5f0aef4f025e138b3f82542162d8e8b9603d647620d14", checked := Tryz.checked }
namespace Rows
def none {H : Type} : Left H := { results := [], args := [] }

/-- 'waypointlaw30.TransitionTables': WHATEVER THE INPUT: true; the input reads as it did. -/
def transitionTablesSpec : ChangeSpec := { name := "transitionTables", fn := fun _ => fun
  | [d] => { results := [.lit (.bool true)], args := [d] }
  | _ => none }
def transitionTablesRow : OpenClaim := { program := "ytbpgndbjbaoolaagreat", sum := "8680061e83406459c9f5f0aef4f025e138b3f82542162d8e8b9603d647620d14", func := "waypoint/waypointlaw30.TransitionTables", spec := "transitionTables", unfollowed := true, recurses := true, plainKeys := false, apart := false }
def TransitionTablesSaid : Prop := transitionTablesRow.holds Tryz.pinned (OpenSpec.ofChange transitionTablesSpec)

/-- ITS FALSE NEIGHBOUR: 'it returns false'. Refute it at one input. -/
def transitionTablesWrong : ChangeSpec := { name := "transitionTables", fn := fun _ => fun
  | [d] => { results := [.lit (.bool false)], args := [d] }
  | _ => none }
def TransitionTablesWrongFalsely : Prop := transitionTablesRow.holds Tryz.pinned (OpenSpec.ofChange transitionTablesWrong)

/-- 'waypointlaw30.TransitionValid': WHATEVER THE INPUT: true; the input reads as it did. -/
def transitionValidSpec : ChangeSpec := { name := "transitionValid", fn := fun _ => fun
  | [d] => { results := [.lit (.bool true)], args := [d] }
  | _ => none }
def transitionValidRow : OpenClaim := { program := "ytbpgndbjbaoolaagreat", sum := "8680061e83406459c9f5f0aef4f025e138b3f82542162d8e8b9603d647620d14", func := "waypoint/waypointlaw30.TransitionValid", spec := "transitionValid", unfollowed := true, recurses := true, plainKeys := false, apart := false }
def TransitionValidSaid : Prop := transitionValidRow.holds Tryz.pinned (OpenSpec.ofChange transitionValidSpec)

/-- ITS FALSE NEIGHBOUR: 'it returns false'. Refute it at one input. -/
def transitionValidWrong : ChangeSpec := { name := "transitionValid", fn := fun _ => fun
  | [d] => { results := [.lit (.bool false)], args := [d] }
  | _ => none }
def TransitionValidWrongFalsely : Prop := transitionValidRow.holds Tryz.pinned (OpenSpec.ofChange transitionValidWrong)

/-- 'waypointlaw30.TransitionStable': WHATEVER THE INPUT: true; the input reads as it did. -/
def transitionStableSpec : ChangeSpec := { name := "transitionStable", fn := fun _ => fun
  | [d] => { results := [.lit (.bool true)], args := [d] }
  | _ => none }
def transitionStableRow : OpenClaim := { program := "ytbpgndbjbaoolaagreat", sum := "8680061e83406459c9f5f0aef4f025e138b3f82542162d8e8b9603d647620d14", func := "waypoint/waypointlaw30.TransitionStable", spec := "transitionStable", unfollowed := true, recurses := true, plainKeys := false, apart := false }
def TransitionStableSaid : Prop := transitionStableRow.holds Tryz.pinned (OpenSpec.ofChange transitionStableSpec)

/-- ITS FALSE NEIGHBOUR: 'it returns false'. Refute it at one input. -/
def transitionStableWrong : ChangeSpec := { name := "transitionStable", fn := fun _ => fun
  | [d] => { results := [.lit (.bool false)], args := [d] }
  | _ => none }
def TransitionStableWrongFalsely : Prop := transitionStableRow.holds Tryz.pinned (OpenSpec.ofChange transitionStableWrong)

/-- 'waypointlaw30.TransitionLists': WHATEVER THE INPUT: true; the input reads as it did. -/
def transitionListsSpec : ChangeSpec := { name := "transitionLists", fn := fun _ => fun
  | [d] => { results := [.lit (.bool true)], args := [d] }
  | _ => none }
def transitionListsRow : OpenClaim := { program := "ytbpgndbjbaoolaagreat", sum := "8680061e83406459c9f5f0aef4f025e138b3f82542162d8e8b9603d647620d14", func := "waypoint/waypointlaw30.TransitionLists", spec := "transitionLists", unfollowed := true, recurses := true, plainKeys := false, apart := false }
def TransitionListsSaid : Prop := transitionListsRow.holds Tryz.pinned (OpenSpec.ofChange transitionListsSpec)

/-- ITS FALSE NEIGHBOUR: 'it returns false'. Refute it at one input. -/
def transitionListsWrong : ChangeSpec := { name := "transitionLists", fn := fun _ => fun
  | [d] => { results := [.lit (.bool false)], args := [d] }
  | _ => none }
def TransitionListsWrongFalsely : Prop := transitionListsRow.holds Tryz.pinned (OpenSpec.ofChange transitionListsWrong)

/-- 'waypointlaw29.RepairEntry': WHATEVER THE INPUT: true; the input reads as it did. -/
def repairEntrySpec : ChangeSpec := { name := "repairEntry", fn := fun _ => fun
  | [d1, d2] => { results := [.lit (.bool true)], args := [d1, d2] }
  | _ => none }
def repairEntryRow : OpenClaim := { program := "ytbpgndbjbaoolaagreat", sum := "8680061e83406459c9f5f0aef4f025e138b3f82542162d8e8b9603d647620d14", func := "waypoint/waypointlaw29.RepairEntry", spec := "repairEntry", unfollowed := true, recurses := true, plainKeys := false, apart := false }
def RepairEntrySaid : Prop := repairEntryRow.holds Tryz.pinned (OpenSpec.ofChange repairEntrySpec)

/-- ITS FALSE NEIGHBOUR: 'it returns false'. Refute it at one input. -/
def repairEntryWrong : ChangeSpec := { name := "repairEntry", fn := fun _ => fun
  | [d1, d2] => { results := [.lit (.bool false)], args := [d1, d2] }
  | _ => none }
def RepairEntryWrongFalsely : Prop := repairEntryRow.holds Tryz.pinned (OpenSpec.ofChange repairEntryWrong)

/-- 'waypointlaw29.RepairTable': WHATEVER THE INPUT: true; the input reads as it did. -/
def repairTableSpec : ChangeSpec := { name := "repairTable", fn := fun _ => fun
  | [d] => { results := [.lit (.bool true)], args := [d] }
  | _ => none }
def repairTableRow : OpenClaim := { program := "ytbpgndbjbaoolaagreat", sum := "8680061e83406459c9f5f0aef4f025e138b3f82542162d8e8b9603d647620d14", func := "waypoint/waypointlaw29.RepairTable", spec := "repairTable", unfollowed := true, recurses := true, plainKeys := false, apart := false }
def RepairTableSaid : Prop := repairTableRow.holds Tryz.pinned (OpenSpec.ofChange repairTableSpec)

/-- ITS FALSE NEIGHBOUR: 'it returns false'. Refute it at one input. -/
def repairTableWrong : ChangeSpec := { name := "repairTable", fn := fun _ => fun
  | [d] => { results := [.lit (.bool false)], args := [d] }
  | _ => none }
def RepairTableWrongFalsely : Prop := repairTableRow.holds Tryz.pinned (OpenSpec.ofChange repairTableWrong)

/-- 'waypointlaw29.RepairValid': WHATEVER THE INPUT: true; the input reads as it did. -/
def repairValidSpec : ChangeSpec := { name := "repairValid", fn := fun _ => fun
  | [d] => { results := [.lit (.bool true)], args := [d] }
  | _ => none }
def repairValidRow : OpenClaim := { program := "ytbpgndbjbaoolaagreat", sum := "8680061e83406459c9f5f0aef4f025e138b3f82542162d8e8b9603d647620d14", func := "waypoint/waypointlaw29.RepairValid", spec := "repairValid", unfollowed := true, recurses := true, plainKeys := false, apart := false }
def RepairValidSaid : Prop := repairValidRow.holds Tryz.pinned (OpenSpec.ofChange repairValidSpec)

/-- ITS FALSE NEIGHBOUR: 'it returns false'. Refute it at one input. -/
def repairValidWrong : ChangeSpec := { name := "repairValid", fn := fun _ => fun
  | [d] => { results := [.lit (.bool false)], args := [d] }
  | _ => none }
def RepairValidWrongFalsely : Prop := repairValidRow.holds Tryz.pinned (OpenSpec.ofChange repairValidWrong)

/-- 'waypointlaw29.RepairPath': WHATEVER THE INPUT: true; the input reads as it did. -/
def repairPathSpec : ChangeSpec := { name := "repairPath", fn := fun _ => fun
  | [d1, d2] => { results := [.lit (.bool true)], args := [d1, d2] }
  | _ => none }
def repairPathRow : OpenClaim := { program := "ytbpgndbjbaoolaagreat", sum := "8680061e83406459c9f5f0aef4f025e138b3f82542162d8e8b9603d647620d14", func := "waypoint/waypointlaw29.RepairPath", spec := "repairPath", unfollowed := true, recurses := true, plainKeys := false, apart := false }
def RepairPathSaid : Prop := repairPathRow.holds Tryz.pinned (OpenSpec.ofChange repairPathSpec)

/-- ITS FALSE NEIGHBOUR: 'it returns false'. Refute it at one input. -/
def repairPathWrong : ChangeSpec := { name := "repairPath", fn := fun _ => fun
  | [d1, d2] => { results := [.lit (.bool false)], args := [d1, d2] }
  | _ => none }
def RepairPathWrongFalsely : Prop := repairPathRow.holds Tryz.pinned (OpenSpec.ofChange repairPathWrong)

/-- 'waypointlaw29.RepairReaches': WHATEVER THE INPUT: true; the input reads as it did. -/
def repairReachesSpec : ChangeSpec := { name := "repairReaches", fn := fun _ => fun
  | [d] => { results := [.lit (.bool true)], args := [d] }
  | _ => none }
def repairReachesRow : OpenClaim := { program := "ytbpgndbjbaoolaagreat", sum := "8680061e83406459c9f5f0aef4f025e138b3f82542162d8e8b9603d647620d14", func := "waypoint/waypointlaw29.RepairReaches", spec := "repairReaches", unfollowed := true, recurses := true, plainKeys := false, apart := false }
def RepairReachesSaid : Prop := repairReachesRow.holds Tryz.pinned (OpenSpec.ofChange repairReachesSpec)

/-- ITS FALSE NEIGHBOUR: 'it returns false'. Refute it at one input. -/
def repairReachesWrong : ChangeSpec := { name := "repairReaches", fn := fun _ => fun
  | [d] => { results := [.lit (.bool false)], args := [d] }
  | _ => none }
def RepairReachesWrongFalsely : Prop := repairReachesRow.holds Tryz.pinned (OpenSpec.ofChange repairReachesWrong)

/-- 'waypointlaw29.RepairCovered': WHATEVER THE INPUT: true; the input reads as it did. -/
def repairCoveredSpec : ChangeSpec := { name := "repairCovered", fn := fun _ => fun
  | [d] => { results := [.lit (.bool true)], args := [d] }
  | _ => none }
def repairCoveredRow : OpenClaim := { program := "ytbpgndbjbaoolaagreat", sum := "8680061e83406459c9f5f0aef4f025e138b3f82542162d8e8b9603d647620d14", func := "waypoint/waypointlaw29.RepairCovered", spec := "repairCovered", unfollowed := true, recurses := true, plainKeys := false, apart := false }
def RepairCoveredSaid : Prop := repairCoveredRow.holds Tryz.pinned (OpenSpec.ofChange repairCoveredSpec)

/-- ITS FALSE NEIGHBOUR: 'it returns false'. Refute it at one input. -/
def repairCoveredWrong : ChangeSpec := { name := "repairCovered", fn := fun _ => fun
  | [d] => { results := [.lit (.bool false)], args := [d] }
  | _ => none }
def RepairCoveredWrongFalsely : Prop := repairCoveredRow.holds Tryz.pinned (OpenSpec.ofChange repairCoveredWrong)

/-- 'waypointlaw29.RepairStep': WHATEVER THE INPUT: true; the input reads as it did. -/
def repairStepSpec : ChangeSpec := { name := "repairStep", fn := fun _ => fun
  | [d1, d2] => { results := [.lit (.bool true)], args := [d1, d2] }
  | _ => none }
def repairStepRow : OpenClaim := { program := "ytbpgndbjbaoolaagreat", sum := "8680061e83406459c9f5f0aef4f025e138b3f82542162d8e8b9603d647620d14", func := "waypoint/waypointlaw29.RepairStep", spec := "repairStep", unfollowed := true, recurses := true, plainKeys := false, apart := false }
def RepairStepSaid : Prop := repairStepRow.holds Tryz.pinned (OpenSpec.ofChange repairStepSpec)

/-- ITS FALSE NEIGHBOUR: 'it returns false'. Refute it at one input. -/
def repairStepWrong : ChangeSpec := { name := "repairStep", fn := fun _ => fun
  | [d1, d2] => { results := [.lit (.bool false)], args := [d1, d2] }
  | _ => none }
def RepairStepWrongFalsely : Prop := repairStepRow.holds Tryz.pinned (OpenSpec.ofChange repairStepWrong)

/- THE SECOND FORM. 'bulk': how many values and letters a reading holds, each counted each time it is reached (what is shared counts as often as it is met; a slice's spare places count too). A statement '..UptoSaid' is the law's where the arguments, and the package variables that the reading takes, are together of bulk at most 1048576: NARROWER than '..Said'. Prove '..Said' where nothing that the law and all that it calls make is longer than what came in: it says more and counts as full. Else prove '..UptoSaid'. A law counts once. -/
mutual
def uptoBulk {H : Type} : DataW H → Nat
  | .lit (.string bytes) => bytes.length + 1
  | .lit _ => 1
  | .nil => 1
  | .ptr d => uptoBulk d + 1
  | .slice elems spare => uptoBulkAll elems + uptoBulkAll spare + 1
  | .agg parts => uptoBulkAll parts + 1
  | .iface _ d => uptoBulk d + 1
  | .map entries => uptoBulkEntries entries + 1
  | .held _ => 1
def uptoBulkAll {H : Type} : List (DataW H) → Nat
  | [] => 0
  | d :: r => uptoBulk d + uptoBulkAll r
def uptoBulkEntries {H : Type} : List (Lit × DataW H) → Nat
  | [] => 0
  | x :: r => uptoBulkEntry x + uptoBulkEntries r
def uptoBulkEntry {H : Type} : Lit × DataW H → Nat
  | (.string bytes, d) => bytes.length + uptoBulk d + 1
  | (_, d) => uptoBulk d + 1
 end
def uptoSmall : (H : Type) → List (DataW H) → Bool := fun _ ds => decide (uptoBulkAll ds ≤ 1048576)
def OpenSpec.upto (s : _root_.Go.ChangeSpec) : _root_.Go.OpenSpec := { _root_.Go.OpenSpec.ofChange s with cond := some uptoSmall }

/-- 'waypointlaw30.TransitionTables', WHERE WHAT IT READS IS OF BULK AT MOST 1048576: true; the input reads as it did. -/
def transitionTablesUptoRow : OpenClaim := { program := "ytbpgndbjbaoolaagreat", sum := "8680061e83406459c9f5f0aef4f025e138b3f82542162d8e8b9603d647620d14", func := "waypoint/waypointlaw30.TransitionTables", spec := "transitionTables", unfollowed := true, recurses := true, plainKeys := false, apart := false, narrowed := true }
def TransitionTablesUptoSaid : Prop := transitionTablesUptoRow.holds Tryz.pinned (OpenSpec.upto transitionTablesSpec)

/-- 'waypointlaw30.TransitionValid', WHERE WHAT IT READS IS OF BULK AT MOST 1048576: true; the input reads as it did. -/
def transitionValidUptoRow : OpenClaim := { program := "ytbpgndbjbaoolaagreat", sum := "8680061e83406459c9f5f0aef4f025e138b3f82542162d8e8b9603d647620d14", func := "waypoint/waypointlaw30.TransitionValid", spec := "transitionValid", unfollowed := true, recurses := true, plainKeys := false, apart := false, narrowed := true }
def TransitionValidUptoSaid : Prop := transitionValidUptoRow.holds Tryz.pinned (OpenSpec.upto transitionValidSpec)

/-- 'waypointlaw30.TransitionStable', WHERE WHAT IT READS IS OF BULK AT MOST 1048576: true; the input reads as it did. -/
def transitionStableUptoRow : OpenClaim := { program := "ytbpgndbjbaoolaagreat", sum := "8680061e83406459c9f5f0aef4f025e138b3f82542162d8e8b9603d647620d14", func := "waypoint/waypointlaw30.TransitionStable", spec := "transitionStable", unfollowed := true, recurses := true, plainKeys := false, apart := false, narrowed := true }
def TransitionStableUptoSaid : Prop := transitionStableUptoRow.holds Tryz.pinned (OpenSpec.upto transitionStableSpec)

/-- 'waypointlaw30.TransitionLists', WHERE WHAT IT READS IS OF BULK AT MOST 1048576: true; the input reads as it did. -/
def transitionListsUptoRow : OpenClaim := { program := "ytbpgndbjbaoolaagreat", sum := "8680061e83406459c9f5f0aef4f025e138b3f82542162d8e8b9603d647620d14", func := "waypoint/waypointlaw30.TransitionLists", spec := "transitionLists", unfollowed := true, recurses := true, plainKeys := false, apart := false, narrowed := true }
def TransitionListsUptoSaid : Prop := transitionListsUptoRow.holds Tryz.pinned (OpenSpec.upto transitionListsSpec)

/-- 'waypointlaw29.RepairEntry', WHERE WHAT IT READS IS OF BULK AT MOST 1048576: true; the input reads as it did. -/
def repairEntryUptoRow : OpenClaim := { program := "ytbpgndbjbaoolaagreat", sum := "8680061e83406459c9f5f0aef4f025e138b3f82542162d8e8b9603d647620d14", func := "waypoint/waypointlaw29.RepairEntry", spec := "repairEntry", unfollowed := true, recurses := true, plainKeys := false, apart := false, narrowed := true }
def RepairEntryUptoSaid : Prop := repairEntryUptoRow.holds Tryz.pinned (OpenSpec.upto repairEntrySpec)

/-- 'waypointlaw29.RepairTable', WHERE WHAT IT READS IS OF BULK AT MOST 1048576: true; the input reads as it did. -/
def repairTableUptoRow : OpenClaim := { program := "ytbpgndbjbaoolaagreat", sum := "8680061e83406459c9f5f0aef4f025e138b3f82542162d8e8b9603d647620d14", func := "waypoint/waypointlaw29.RepairTable", spec := "repairTable", unfollowed := true, recurses := true, plainKeys := false, apart := false, narrowed := true }
def RepairTableUptoSaid : Prop := repairTableUptoRow.holds Tryz.pinned (OpenSpec.upto repairTableSpec)

/-- 'waypointlaw29.RepairValid', WHERE WHAT IT READS IS OF BULK AT MOST 1048576: true; the input reads as it did. -/
def repairValidUptoRow : OpenClaim := { program := "ytbpgndbjbaoolaagreat", sum := "8680061e83406459c9f5f0aef4f025e138b3f82542162d8e8b9603d647620d14", func := "waypoint/waypointlaw29.RepairValid", spec := "repairValid", unfollowed := true, recurses := true, plainKeys := false, apart := false, narrowed := true }
def RepairValidUptoSaid : Prop := repairValidUptoRow.holds Tryz.pinned (OpenSpec.upto repairValidSpec)

/-- 'waypointlaw29.RepairPath', WHERE WHAT IT READS IS OF BULK AT MOST 1048576: true; the input reads as it did. -/
def repairPathUptoRow : OpenClaim := { program := "ytbpgndbjbaoolaagreat", sum := "8680061e83406459c9f5f0aef4f025e138b3f82542162d8e8b9603d647620d14", func := "waypoint/waypointlaw29.RepairPath", spec := "repairPath", unfollowed := true, recurses := true, plainKeys := false, apart := false, narrowed := true }
def RepairPathUptoSaid : Prop := repairPathUptoRow.holds Tryz.pinned (OpenSpec.upto repairPathSpec)

/-- 'waypointlaw29.RepairReaches', WHERE WHAT IT READS IS OF BULK AT MOST 1048576: true; the input reads as it did. -/
def repairReachesUptoRow : OpenClaim := { program := "ytbpgndbjbaoolaagreat", sum := "8680061e83406459c9f5f0aef4f025e138b3f82542162d8e8b9603d647620d14", func := "waypoint/waypointlaw29.RepairReaches", spec := "repairReaches", unfollowed := true, recurses := true, plainKeys := false, apart := false, narrowed := true }
def RepairReachesUptoSaid : Prop := repairReachesUptoRow.holds Tryz.pinned (OpenSpec.upto repairReachesSpec)

/-- 'waypointlaw29.RepairCovered', WHERE WHAT IT READS IS OF BULK AT MOST 1048576: true; the input reads as it did. -/
def repairCoveredUptoRow : OpenClaim := { program := "ytbpgndbjbaoolaagreat", sum := "8680061e83406459c9f5f0aef4f025e138b3f82542162d8e8b9603d647620d14", func := "waypoint/waypointlaw29.RepairCovered", spec := "repairCovered", unfollowed := true, recurses := true, plainKeys := false, apart := false, narrowed := true }
def RepairCoveredUptoSaid : Prop := repairCoveredUptoRow.holds Tryz.pinned (OpenSpec.upto repairCoveredSpec)

/-- 'waypointlaw29.RepairStep', WHERE WHAT IT READS IS OF BULK AT MOST 1048576: true; the input reads as it did. -/
def repairStepUptoRow : OpenClaim := { program := "ytbpgndbjbaoolaagreat", sum := "8680061e83406459c9f5f0aef4f025e138b3f82542162d8e8b9603d647620d14", func := "waypoint/waypointlaw29.RepairStep", spec := "repairStep", unfollowed := true, recurses := true, plainKeys := false, apart := false, narrowed := true }
def RepairStepUptoSaid : Prop := repairStepUptoRow.holds Tryz.pinned (OpenSpec.upto repairStepSpec)

end Rows
end Go.Proofs.YtbpgndbjbaoolaaGreat
