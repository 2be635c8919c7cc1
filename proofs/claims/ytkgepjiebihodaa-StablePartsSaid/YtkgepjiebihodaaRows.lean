/-
  No cell of these rows narrows 'for every input' (looked for: loops, veiled, ifaces, maps, wideKeys, modest, calm, conditions, laid).
  DERIVED. THE GIVEN ROWS OF THIS SEAT. 7 by the template 'for every input the law returns true; each argument reads behind the call as it read before'; 0 by the template 'total and deterministic' (their statements: YtkgepjiebihodaaTotals.lean).
  GIVEN WITH THE SEED: the statements are not yours to turn. If you find one false, say at which input.
  Laid BY PROGRAM, IN A SANDBOX (cutbox-rows.mjs): the forced cells as the released guide's own fill.sh prints them over the translation 07b9940024334a77… (all of the seat's roots in one cut). By AI agents, Wed Nov 11 2026. No macro, syntax, notation, axiom, sorry.
-/
import Derived.Test.YtkgepjiebihodaaChecked
import GoSem.Claim
import GoSem.ClaimJoined
import GoSem.ClaimMapViews
import Derived.JoinedTies
import Derived.KernelRfl
namespace Go.Proofs.Ytkgepjiebihodaa
/- THE CELL 'sum', in the pinned program and in every row, IS THE sha256 OF THE DUMP (.gsa) THAT YtkgepjiebihodaaProg.lean LOADS. Nothing in Lean hashes anything: it is a label: what it is worth is what the hold of that sum in a sandbox is worth. -/
noncomputable def Try.pinned : Pinned := { name := "ytkgepjiebihodaa", sum := "07b9940024334a7768937d3f8b00686bd695637bfdbacb9f1efe7c1053d60d31", checked := Try.checked }
namespace Rows
def none {H : Type} : Left H := { results := [], args := [] }

/-- 'waypointlaw28.StableList': WHATEVER THE INPUT: true; the input reads as it did. -/
def stableListSpec : ChangeSpec := { name := "stableList", fn := fun _ => fun
  | [d] => { results := [.lit (.bool true)], args := [d] }
  | _ => none }
def stableListRow : OpenClaim := { program := "ytkgepjiebihodaa", sum := "07b9940024334a7768937d3f8b00686bd695637bfdbacb9f1efe7c1053d60d31", func := "waypoint/waypointlaw28.StableList", spec := "stableList", unfollowed := true, recurses := true, plainKeys := false, apart := false }
def StableListSaid : Prop := stableListRow.holds Try.pinned (OpenSpec.ofChange stableListSpec)

/-- ITS FALSE NEIGHBOUR: 'it returns false'. Refute it at one input. -/
def stableListWrong : ChangeSpec := { name := "stableList", fn := fun _ => fun
  | [d] => { results := [.lit (.bool false)], args := [d] }
  | _ => none }
def StableListWrongFalsely : Prop := stableListRow.holds Try.pinned (OpenSpec.ofChange stableListWrong)

/-- 'waypointlaw28.StableLeast': WHATEVER THE INPUT: true; the input reads as it did. -/
def stableLeastSpec : ChangeSpec := { name := "stableLeast", fn := fun _ => fun
  | [d] => { results := [.lit (.bool true)], args := [d] }
  | _ => none }
def stableLeastRow : OpenClaim := { program := "ytkgepjiebihodaa", sum := "07b9940024334a7768937d3f8b00686bd695637bfdbacb9f1efe7c1053d60d31", func := "waypoint/waypointlaw28.StableLeast", spec := "stableLeast", unfollowed := true, recurses := true, plainKeys := false, apart := false }
def StableLeastSaid : Prop := stableLeastRow.holds Try.pinned (OpenSpec.ofChange stableLeastSpec)

/-- ITS FALSE NEIGHBOUR: 'it returns false'. Refute it at one input. -/
def stableLeastWrong : ChangeSpec := { name := "stableLeast", fn := fun _ => fun
  | [d] => { results := [.lit (.bool false)], args := [d] }
  | _ => none }
def StableLeastWrongFalsely : Prop := stableLeastRow.holds Try.pinned (OpenSpec.ofChange stableLeastWrong)

/-- 'waypointlaw28.StableEncode': WHATEVER THE INPUT: true; the input reads as it did. -/
def stableEncodeSpec : ChangeSpec := { name := "stableEncode", fn := fun _ => fun
  | [d] => { results := [.lit (.bool true)], args := [d] }
  | _ => none }
def stableEncodeRow : OpenClaim := { program := "ytkgepjiebihodaa", sum := "07b9940024334a7768937d3f8b00686bd695637bfdbacb9f1efe7c1053d60d31", func := "waypoint/waypointlaw28.StableEncode", spec := "stableEncode", unfollowed := true, recurses := true, plainKeys := false, apart := false }
def StableEncodeSaid : Prop := stableEncodeRow.holds Try.pinned (OpenSpec.ofChange stableEncodeSpec)

/-- ITS FALSE NEIGHBOUR: 'it returns false'. Refute it at one input. -/
def stableEncodeWrong : ChangeSpec := { name := "stableEncode", fn := fun _ => fun
  | [d] => { results := [.lit (.bool false)], args := [d] }
  | _ => none }
def StableEncodeWrongFalsely : Prop := stableEncodeRow.holds Try.pinned (OpenSpec.ofChange stableEncodeWrong)

/-- 'waypointlaw28.StableSegment': WHATEVER THE INPUT: true; the input reads as it did. -/
def stableSegmentSpec : ChangeSpec := { name := "stableSegment", fn := fun _ => fun
  | [d] => { results := [.lit (.bool true)], args := [d] }
  | _ => none }
def stableSegmentRow : OpenClaim := { program := "ytkgepjiebihodaa", sum := "07b9940024334a7768937d3f8b00686bd695637bfdbacb9f1efe7c1053d60d31", func := "waypoint/waypointlaw28.StableSegment", spec := "stableSegment", unfollowed := true, recurses := true, plainKeys := false, apart := false }
def StableSegmentSaid : Prop := stableSegmentRow.holds Try.pinned (OpenSpec.ofChange stableSegmentSpec)

/-- ITS FALSE NEIGHBOUR: 'it returns false'. Refute it at one input. -/
def stableSegmentWrong : ChangeSpec := { name := "stableSegment", fn := fun _ => fun
  | [d] => { results := [.lit (.bool false)], args := [d] }
  | _ => none }
def StableSegmentWrongFalsely : Prop := stableSegmentRow.holds Try.pinned (OpenSpec.ofChange stableSegmentWrong)

/-- 'waypointlaw28.StableParts': WHATEVER THE INPUT: true; the input reads as it did. -/
def stablePartsSpec : ChangeSpec := { name := "stableParts", fn := fun _ => fun
  | [d1, d2, d3] => { results := [.lit (.bool true)], args := [d1, d2, d3] }
  | _ => none }
def stablePartsRow : OpenClaim := { program := "ytkgepjiebihodaa", sum := "07b9940024334a7768937d3f8b00686bd695637bfdbacb9f1efe7c1053d60d31", func := "waypoint/waypointlaw28.StableParts", spec := "stableParts", unfollowed := true, recurses := true, plainKeys := false, apart := false }
def StablePartsSaid : Prop := stablePartsRow.holds Try.pinned (OpenSpec.ofChange stablePartsSpec)

/-- ITS FALSE NEIGHBOUR: 'it returns false'. Refute it at one input. -/
def stablePartsWrong : ChangeSpec := { name := "stableParts", fn := fun _ => fun
  | [d1, d2, d3] => { results := [.lit (.bool false)], args := [d1, d2, d3] }
  | _ => none }
def StablePartsWrongFalsely : Prop := stablePartsRow.holds Try.pinned (OpenSpec.ofChange stablePartsWrong)

/-- 'waypointlaw28.StableRoutes': WHATEVER THE INPUT: true; the input reads as it did. -/
def stableRoutesSpec : ChangeSpec := { name := "stableRoutes", fn := fun _ => fun
  | [d] => { results := [.lit (.bool true)], args := [d] }
  | _ => none }
def stableRoutesRow : OpenClaim := { program := "ytkgepjiebihodaa", sum := "07b9940024334a7768937d3f8b00686bd695637bfdbacb9f1efe7c1053d60d31", func := "waypoint/waypointlaw28.StableRoutes", spec := "stableRoutes", unfollowed := true, recurses := true, plainKeys := false, apart := false }
def StableRoutesSaid : Prop := stableRoutesRow.holds Try.pinned (OpenSpec.ofChange stableRoutesSpec)

/-- ITS FALSE NEIGHBOUR: 'it returns false'. Refute it at one input. -/
def stableRoutesWrong : ChangeSpec := { name := "stableRoutes", fn := fun _ => fun
  | [d] => { results := [.lit (.bool false)], args := [d] }
  | _ => none }
def StableRoutesWrongFalsely : Prop := stableRoutesRow.holds Try.pinned (OpenSpec.ofChange stableRoutesWrong)

/-- 'waypointlaw28.StableDetour': WHATEVER THE INPUT: true; the input reads as it did. -/
def stableDetourSpec : ChangeSpec := { name := "stableDetour", fn := fun _ => fun
  | [d] => { results := [.lit (.bool true)], args := [d] }
  | _ => none }
def stableDetourRow : OpenClaim := { program := "ytkgepjiebihodaa", sum := "07b9940024334a7768937d3f8b00686bd695637bfdbacb9f1efe7c1053d60d31", func := "waypoint/waypointlaw28.StableDetour", spec := "stableDetour", unfollowed := true, recurses := true, plainKeys := false, apart := false }
def StableDetourSaid : Prop := stableDetourRow.holds Try.pinned (OpenSpec.ofChange stableDetourSpec)

/-- ITS FALSE NEIGHBOUR: 'it returns false'. Refute it at one input. -/
def stableDetourWrong : ChangeSpec := { name := "stableDetour", fn := fun _ => fun
  | [d] => { results := [.lit (.bool false)], args := [d] }
  | _ => none }
def StableDetourWrongFalsely : Prop := stableDetourRow.holds Try.pinned (OpenSpec.ofChange stableDetourWrong)

/- THE SECOND FORM. 'bulk': how many values and letters a reading holds, each counted each time it is reached (what is shared counts as often as it is met; a slice's spare places count too). A statement '..UptoSaid' is the law's where the arguments, and the package variables that the reading takes, are together of bulk at most 1048576: NARROWER than '..Said'. Prove '..Said' where nothing that the law and all that it calls make is longer than what came in: it says more and counts as full. Else prove '..UptoSaid'. A law counts once. -/
mutual
def uptoBulk {H : Type} : DataW H → Nat
  | .lit (.string bytes) => bytes.length + 1
  | .lit _ => 1
  | .nil => 1
  | .ptr d => uptoBulk d + 1
  | .slice elems spare => uptoBulkAll elems + uptoBulkAll spare + 1
  | .agg parts => uptoBulkAll parts + 1
  | .iface _ d => uptoBulk d + 1
  | .map entries => uptoBulkEntries entries + 1
  | .held _ => 1
def uptoBulkAll {H : Type} : List (DataW H) → Nat
  | [] => 0
  | d :: r => uptoBulk d + uptoBulkAll r
def uptoBulkEntries {H : Type} : List (Lit × DataW H) → Nat
  | [] => 0
  | x :: r => uptoBulkEntry x + uptoBulkEntries r
def uptoBulkEntry {H : Type} : Lit × DataW H → Nat
  | (.string bytes, d) => bytes.length + uptoBulk d + 1
  | (_, d) => uptoBulk d + 1
 end
def uptoSmall : (H : Type) → List (DataW H) → Bool := fun _ ds => decide (uptoBulkAll ds ≤ 1048576)
def OpenSpec.upto (s : _root_.Go.ChangeSpec) : _root_.Go.OpenSpec := { _root_.Go.OpenSpec.ofChange s with cond := some uptoSmall }

/-- 'waypointlaw28.StableList', WHERE WHAT IT READS IS OF BULK AT MOST 1048576: true; the input reads as it did. -/
def stableListUptoRow : OpenClaim := { program := "ytkgepjiebihodaa", sum := "07b9940024334a7768937d3f8b00686bd695637bfdbacb9f1efe7c1053d60d31", func := "waypoint/waypointlaw28.StableList", spec := "stableList", unfollowed := true, recurses := true, plainKeys := false, apart := false, narrowed := true }
def StableListUptoSaid : Prop := stableListUptoRow.holds Try.pinned (OpenSpec.upto stableListSpec)

/-- 'waypointlaw28.StableLeast', WHERE WHAT IT READS IS OF BULK AT MOST 1048576: true; the input reads as it did. -/
def stableLeastUptoRow : OpenClaim := { program := "ytkgepjiebihodaa", sum := "07b9940024334a7768937d3f8b00686bd695637bfdbacb9f1efe7c1053d60d31", func := "waypoint/waypointlaw28.StableLeast", spec := "stableLeast", unfollowed := true, recurses := true, plainKeys := false, apart := false, narrowed := true }
def StableLeastUptoSaid : Prop := stableLeastUptoRow.holds Try.pinned (OpenSpec.upto stableLeastSpec)

/-- 'waypointlaw28.StableEncode', WHERE WHAT IT READS IS OF BULK AT MOST 1048576: true; the input reads as it did. -/
def stableEncodeUptoRow : OpenClaim := { program := "ytkgepjiebihodaa", sum := "07b9940024334a7768937d3f8b00686bd695637bfdbacb9f1efe7c1053d60d31", func := "waypoint/waypointlaw28.StableEncode", spec := "stableEncode", unfollowed := true, recurses := true, plainKeys := false, apart := false, narrowed := true }
def StableEncodeUptoSaid : Prop := stableEncodeUptoRow.holds Try.pinned (OpenSpec.upto stableEncodeSpec)

/-- 'waypointlaw28.StableSegment', WHERE WHAT IT READS IS OF BULK AT MOST 1048576: true; the input reads as it did. -/
def stableSegmentUptoRow : OpenClaim := { program := "ytkgepjiebihodaa", sum := "07b9940024334a7768937d3f8b00686bd695637bfdbacb9f1efe7c1053d60d31", func := "waypoint/waypointlaw28.StableSegment", spec := "stableSegment", unfollowed := true, recurses := true, plainKeys := false, apart := false, narrowed := true }
def StableSegmentUptoSaid : Prop := stableSegmentUptoRow.holds Try.pinned (OpenSpec.upto stableSegmentSpec)

/-- 'waypointlaw28.StableParts', WHERE WHAT IT READS IS OF BULK AT MOST 1048576: true; the input reads as it did. -/
def stablePartsUptoRow : OpenClaim := { program := "ytkgepjiebihodaa", sum := "07b9940024334a7768937d3f8b00686bd695637bfdbacb9f1efe7c1053d60d31", func := "waypoint/waypointlaw28.StableParts", spec := "stableParts", unfollowed := true, recurses := true, plainKeys := false, apart := false, narrowed := true }
def StablePartsUptoSaid : Prop := stablePartsUptoRow.holds Try.pinned (OpenSpec.upto stablePartsSpec)

/-- 'waypointlaw28.StableRoutes', WHERE WHAT IT READS IS OF BULK AT MOST 1048576: true; the input reads as it did. -/
def stableRoutesUptoRow : OpenClaim := { program := "ytkgepjiebihodaa", sum := "07b9940024334a7768937d3f8b00686bd695637bfdbacb9f1efe7c1053d60d31", func := "waypoint/waypointlaw28.StableRoutes", spec := "stableRoutes", unfollowed := true, recurses := true, plainKeys := false, apart := false, narrowed := true }
def StableRoutesUptoSaid : Prop := stableRoutesUptoRow.holds Try.pinned (OpenSpec.upto stableRoutesSpec)

/-- 'waypointlaw28.StableDetour', WHERE WHAT IT READS IS OF BULK AT MOST 1048576: true; the input reads as it did. -/
def stableDetourUptoRow : OpenClaim := { program := "ytkgepjiebihodaa", sum := "07b9940024334a7768937d3f8b00686bd695637bfdbacb9f1efe7c1053d60d31", func := "waypoint/waypointlaw28.StableDetour", spec := "stableDetour", unfollowed := true, recurses := true, plainKeys := false, apart := false, narrowed := true }
def StableDetourUptoSaid : Prop := stableDetourUptoRow.holds Try.pinned (OpenSpec.upto stableDetourSpec)

end Rows
end Go.Proofs.Ytkgepjiebihodaa
