/-
  No cell of these rows narrows 'for every input' (looked for: loops, veiled, ifaces, maps, wideKeys, modest, calm, conditions, laid).
  DERIVED. THE GIVEN ROWS OF THIS SEAT. 12 by the template 'for every input the law returns true; each argument reads behind the call as it read before'; 0 by the template 'total and deterministic' (their statements: YtmacdknicgfglaaTotals.lean).
  GIVEN WITH THE SEED: the statements are not yours to turn. If you find one false, say at which input.
  Laid BY PROGRAM, IN A SANDBOX (cutbox-rows.mjs): the forced cells as the released guide's own fill.sh prints them over the translation 3341580646011f23… (all of the seat's roots in one cut). By AI agents, Wed Nov 11 2026. No macro, syntax, notation, axiom, sorry.
-/
import Derived.Test.YtmacdknicgfglaaChecked
import GoSem.Claim
import GoSem.ClaimJoined
import GoSem.ClaimMapViews
import Derived.JoinedTies
import Derived.KernelRfl
namespace Go.Proofs.Ytmacdknicgfglaa
/- THE CELL 'sum', in the pinned program and in every row, IS THE sha256 OF THE DUMP (.gsa) THAT YtmacdknicgfglaaProg.lean LOADS. Nothing in Lean hashes anything: it is a label: what it is worth is what the hold of that sum in a sandbox is worth. -/
noncomputable def Try.pinned : Pinned := { name := "ytmacdknicgfglaa", sum := "3341580646011f23368504cb0fc4b359e22d7d8b766aec66c03b982b4a20625b", checked := Try.checked }
namespace Rows
def none {H : Type} : Left H := { results := [], args := [] }

/-- 'busbarlaw12.GraphNodesMatchReference': WHATEVER THE INPUT: true; the input reads as it did. -/
def graphNodesMatchReferenceSpec : ChangeSpec := { name := "graphNodesMatchReference", fn := fun _ => fun
  | [d1, d2] => { results := [.lit (.bool true)], args := [d1, d2] }
  | _ => none }
def graphNodesMatchReferenceRow : OpenClaim := { program := "ytmacdknicgfglaa", sum := "3341580646011f23368504cb0fc4b359e22d7d8b766aec66c03b982b4a20625b", func := "busbar/busbarlaw12.GraphNodesMatchReference", spec := "graphNodesMatchReference", unfollowed := true, recurses := true, apart := false }
def GraphNodesMatchReferenceSaid : Prop := graphNodesMatchReferenceRow.holds Try.pinned (OpenSpec.ofChange graphNodesMatchReferenceSpec)

/-- ITS FALSE NEIGHBOUR: 'it returns false'. Refute it at one input. -/
def graphNodesMatchReferenceWrong : ChangeSpec := { name := "graphNodesMatchReference", fn := fun _ => fun
  | [d1, d2] => { results := [.lit (.bool false)], args := [d1, d2] }
  | _ => none }
def GraphNodesMatchReferenceWrongFalsely : Prop := graphNodesMatchReferenceRow.holds Try.pinned (OpenSpec.ofChange graphNodesMatchReferenceWrong)

/-- 'busbarlaw12.GraphTopoSort': WHATEVER THE INPUT: true; the input reads as it did. -/
def graphTopoSortSpec : ChangeSpec := { name := "graphTopoSort", fn := fun _ => fun
  | [d] => { results := [.lit (.bool true)], args := [d] }
  | _ => none }
def graphTopoSortRow : OpenClaim := { program := "ytmacdknicgfglaa", sum := "3341580646011f23368504cb0fc4b359e22d7d8b766aec66c03b982b4a20625b", func := "busbar/busbarlaw12.GraphTopoSort", spec := "graphTopoSort", unfollowed := true, recurses := true, apart := false }
def GraphTopoSortSaid : Prop := graphTopoSortRow.holds Try.pinned (OpenSpec.ofChange graphTopoSortSpec)

/-- ITS FALSE NEIGHBOUR: 'it returns false'. Refute it at one input. -/
def graphTopoSortWrong : ChangeSpec := { name := "graphTopoSort", fn := fun _ => fun
  | [d] => { results := [.lit (.bool false)], args := [d] }
  | _ => none }
def GraphTopoSortWrongFalsely : Prop := graphTopoSortRow.holds Try.pinned (OpenSpec.ofChange graphTopoSortWrong)

/-- 'busbarlaw12.GraphAddContact': WHATEVER THE INPUT: true; the input reads as it did. -/
def graphAddContactSpec : ChangeSpec := { name := "graphAddContact", fn := fun _ => fun
  | [d1, d2, d3] => { results := [.lit (.bool true)], args := [d1, d2, d3] }
  | _ => none }
def graphAddContactRow : OpenClaim := { program := "ytmacdknicgfglaa", sum := "3341580646011f23368504cb0fc4b359e22d7d8b766aec66c03b982b4a20625b", func := "busbar/busbarlaw12.GraphAddContact", spec := "graphAddContact", unfollowed := true, recurses := true, apart := false }
def GraphAddContactSaid : Prop := graphAddContactRow.holds Try.pinned (OpenSpec.ofChange graphAddContactSpec)

/-- ITS FALSE NEIGHBOUR: 'it returns false'. Refute it at one input. -/
def graphAddContactWrong : ChangeSpec := { name := "graphAddContact", fn := fun _ => fun
  | [d1, d2, d3] => { results := [.lit (.bool false)], args := [d1, d2, d3] }
  | _ => none }
def GraphAddContactWrongFalsely : Prop := graphAddContactRow.holds Try.pinned (OpenSpec.ofChange graphAddContactWrong)

/-- 'busbarlaw12.GraphReachabilityMatchesReference': WHATEVER THE INPUT: true; the input reads as it did. -/
def graphReachabilityMatchesReferenceSpec : ChangeSpec := { name := "graphReachabilityMatchesReference", fn := fun _ => fun
  | [d1, d2] => { results := [.lit (.bool true)], args := [d1, d2] }
  | _ => none }
def graphReachabilityMatchesReferenceRow : OpenClaim := { program := "ytmacdknicgfglaa", sum := "3341580646011f23368504cb0fc4b359e22d7d8b766aec66c03b982b4a20625b", func := "busbar/busbarlaw12.GraphReachabilityMatchesReference", spec := "graphReachabilityMatchesReference", unfollowed := true, recurses := true, apart := false }
def GraphReachabilityMatchesReferenceSaid : Prop := graphReachabilityMatchesReferenceRow.holds Try.pinned (OpenSpec.ofChange graphReachabilityMatchesReferenceSpec)

/-- ITS FALSE NEIGHBOUR: 'it returns false'. Refute it at one input. -/
def graphReachabilityMatchesReferenceWrong : ChangeSpec := { name := "graphReachabilityMatchesReference", fn := fun _ => fun
  | [d1, d2] => { results := [.lit (.bool false)], args := [d1, d2] }
  | _ => none }
def GraphReachabilityMatchesReferenceWrongFalsely : Prop := graphReachabilityMatchesReferenceRow.holds Try.pinned (OpenSpec.ofChange graphReachabilityMatchesReferenceWrong)

/-- 'busbarlaw12.GraphReachableAncestors': WHATEVER THE INPUT: true; the input reads as it did. -/
def graphReachableAncestorsSpec : ChangeSpec := { name := "graphReachableAncestors", fn := fun _ => fun
  | [d] => { results := [.lit (.bool true)], args := [d] }
  | _ => none }
def graphReachableAncestorsRow : OpenClaim := { program := "ytmacdknicgfglaa", sum := "3341580646011f23368504cb0fc4b359e22d7d8b766aec66c03b982b4a20625b", func := "busbar/busbarlaw12.GraphReachableAncestors", spec := "graphReachableAncestors", unfollowed := true, recurses := true, apart := false }
def GraphReachableAncestorsSaid : Prop := graphReachableAncestorsRow.holds Try.pinned (OpenSpec.ofChange graphReachableAncestorsSpec)

/-- ITS FALSE NEIGHBOUR: 'it returns false'. Refute it at one input. -/
def graphReachableAncestorsWrong : ChangeSpec := { name := "graphReachableAncestors", fn := fun _ => fun
  | [d] => { results := [.lit (.bool false)], args := [d] }
  | _ => none }
def GraphReachableAncestorsWrongFalsely : Prop := graphReachableAncestorsRow.holds Try.pinned (OpenSpec.ofChange graphReachableAncestorsWrong)

/-- 'busbarlaw12.GraphReversal': WHATEVER THE INPUT: true; the input reads as it did. -/
def graphReversalSpec : ChangeSpec := { name := "graphReversal", fn := fun _ => fun
  | [d1, d2] => { results := [.lit (.bool true)], args := [d1, d2] }
  | _ => none }
def graphReversalRow : OpenClaim := { program := "ytmacdknicgfglaa", sum := "3341580646011f23368504cb0fc4b359e22d7d8b766aec66c03b982b4a20625b", func := "busbar/busbarlaw12.GraphReversal", spec := "graphReversal", unfollowed := true, recurses := true, apart := false }
def GraphReversalSaid : Prop := graphReversalRow.holds Try.pinned (OpenSpec.ofChange graphReversalSpec)

/-- ITS FALSE NEIGHBOUR: 'it returns false'. Refute it at one input. -/
def graphReversalWrong : ChangeSpec := { name := "graphReversal", fn := fun _ => fun
  | [d1, d2] => { results := [.lit (.bool false)], args := [d1, d2] }
  | _ => none }
def GraphReversalWrongFalsely : Prop := graphReversalRow.holds Try.pinned (OpenSpec.ofChange graphReversalWrong)

/-- 'busbarlaw13.FlowCheckMatchesReference': WHATEVER THE INPUT: true; the input reads as it did. -/
def flowCheckMatchesReferenceSpec : ChangeSpec := { name := "flowCheckMatchesReference", fn := fun _ => fun
  | [d] => { results := [.lit (.bool true)], args := [d] }
  | _ => none }
def flowCheckMatchesReferenceRow : OpenClaim := { program := "ytmacdknicgfglaa", sum := "3341580646011f23368504cb0fc4b359e22d7d8b766aec66c03b982b4a20625b", func := "busbar/busbarlaw13.FlowCheckMatchesReference", spec := "flowCheckMatchesReference", unfollowed := true, recurses := true, apart := false }
def FlowCheckMatchesReferenceSaid : Prop := flowCheckMatchesReferenceRow.holds Try.pinned (OpenSpec.ofChange flowCheckMatchesReferenceSpec)

/-- ITS FALSE NEIGHBOUR: 'it returns false'. Refute it at one input. -/
def flowCheckMatchesReferenceWrong : ChangeSpec := { name := "flowCheckMatchesReference", fn := fun _ => fun
  | [d] => { results := [.lit (.bool false)], args := [d] }
  | _ => none }
def FlowCheckMatchesReferenceWrongFalsely : Prop := flowCheckMatchesReferenceRow.holds Try.pinned (OpenSpec.ofChange flowCheckMatchesReferenceWrong)

/-- 'busbarlaw13.FlowPathsMatchReference': WHATEVER THE INPUT: true; the input reads as it did. -/
def flowPathsMatchReferenceSpec : ChangeSpec := { name := "flowPathsMatchReference", fn := fun _ => fun
  | [d] => { results := [.lit (.bool true)], args := [d] }
  | _ => none }
def flowPathsMatchReferenceRow : OpenClaim := { program := "ytmacdknicgfglaa", sum := "3341580646011f23368504cb0fc4b359e22d7d8b766aec66c03b982b4a20625b", func := "busbar/busbarlaw13.FlowPathsMatchReference", spec := "flowPathsMatchReference", unfollowed := true, recurses := true, apart := false }
def FlowPathsMatchReferenceSaid : Prop := flowPathsMatchReferenceRow.holds Try.pinned (OpenSpec.ofChange flowPathsMatchReferenceSpec)

/-- ITS FALSE NEIGHBOUR: 'it returns false'. Refute it at one input. -/
def flowPathsMatchReferenceWrong : ChangeSpec := { name := "flowPathsMatchReference", fn := fun _ => fun
  | [d] => { results := [.lit (.bool false)], args := [d] }
  | _ => none }
def FlowPathsMatchReferenceWrongFalsely : Prop := flowPathsMatchReferenceRow.holds Try.pinned (OpenSpec.ofChange flowPathsMatchReferenceWrong)

/-- 'busbarlaw13.FlowShortestPathIsPath': WHATEVER THE INPUT: true; the input reads as it did. -/
def flowShortestPathIsPathSpec : ChangeSpec := { name := "flowShortestPathIsPath", fn := fun _ => fun
  | [d] => { results := [.lit (.bool true)], args := [d] }
  | _ => none }
def flowShortestPathIsPathRow : OpenClaim := { program := "ytmacdknicgfglaa", sum := "3341580646011f23368504cb0fc4b359e22d7d8b766aec66c03b982b4a20625b", func := "busbar/busbarlaw13.FlowShortestPathIsPath", spec := "flowShortestPathIsPath", unfollowed := true, recurses := true, apart := false }
def FlowShortestPathIsPathSaid : Prop := flowShortestPathIsPathRow.holds Try.pinned (OpenSpec.ofChange flowShortestPathIsPathSpec)

/-- ITS FALSE NEIGHBOUR: 'it returns false'. Refute it at one input. -/
def flowShortestPathIsPathWrong : ChangeSpec := { name := "flowShortestPathIsPath", fn := fun _ => fun
  | [d] => { results := [.lit (.bool false)], args := [d] }
  | _ => none }
def FlowShortestPathIsPathWrongFalsely : Prop := flowShortestPathIsPathRow.holds Try.pinned (OpenSpec.ofChange flowShortestPathIsPathWrong)

/-- 'busbarlaw13.FlowEveryContactOnPath': WHATEVER THE INPUT: true; the input reads as it did. -/
def flowEveryContactOnPathSpec : ChangeSpec := { name := "flowEveryContactOnPath", fn := fun _ => fun
  | [d1, d2] => { results := [.lit (.bool true)], args := [d1, d2] }
  | _ => none }
def flowEveryContactOnPathRow : OpenClaim := { program := "ytmacdknicgfglaa", sum := "3341580646011f23368504cb0fc4b359e22d7d8b766aec66c03b982b4a20625b", func := "busbar/busbarlaw13.FlowEveryContactOnPath", spec := "flowEveryContactOnPath", unfollowed := true, recurses := true, apart := false }
def FlowEveryContactOnPathSaid : Prop := flowEveryContactOnPathRow.holds Try.pinned (OpenSpec.ofChange flowEveryContactOnPathSpec)

/-- ITS FALSE NEIGHBOUR: 'it returns false'. Refute it at one input. -/
def flowEveryContactOnPathWrong : ChangeSpec := { name := "flowEveryContactOnPath", fn := fun _ => fun
  | [d1, d2] => { results := [.lit (.bool false)], args := [d1, d2] }
  | _ => none }
def FlowEveryContactOnPathWrongFalsely : Prop := flowEveryContactOnPathRow.holds Try.pinned (OpenSpec.ofChange flowEveryContactOnPathWrong)

/-- 'busbarlaw13.FlowComposition': WHATEVER THE INPUT: true; the input reads as it did. -/
def flowCompositionSpec : ChangeSpec := { name := "flowComposition", fn := fun _ => fun
  | [d1, d2] => { results := [.lit (.bool true)], args := [d1, d2] }
  | _ => none }
def flowCompositionRow : OpenClaim := { program := "ytmacdknicgfglaa", sum := "3341580646011f23368504cb0fc4b359e22d7d8b766aec66c03b982b4a20625b", func := "busbar/busbarlaw13.FlowComposition", spec := "flowComposition", unfollowed := true, recurses := true, apart := false }
def FlowCompositionSaid : Prop := flowCompositionRow.holds Try.pinned (OpenSpec.ofChange flowCompositionSpec)

/-- ITS FALSE NEIGHBOUR: 'it returns false'. Refute it at one input. -/
def flowCompositionWrong : ChangeSpec := { name := "flowComposition", fn := fun _ => fun
  | [d1, d2] => { results := [.lit (.bool false)], args := [d1, d2] }
  | _ => none }
def FlowCompositionWrongFalsely : Prop := flowCompositionRow.holds Try.pinned (OpenSpec.ofChange flowCompositionWrong)

/-- 'busbarlaw13.FlowDeadNodes': WHATEVER THE INPUT: true; the input reads as it did. -/
def flowDeadNodesSpec : ChangeSpec := { name := "flowDeadNodes", fn := fun _ => fun
  | [d] => { results := [.lit (.bool true)], args := [d] }
  | _ => none }
def flowDeadNodesRow : OpenClaim := { program := "ytmacdknicgfglaa", sum := "3341580646011f23368504cb0fc4b359e22d7d8b766aec66c03b982b4a20625b", func := "busbar/busbarlaw13.FlowDeadNodes", spec := "flowDeadNodes", unfollowed := true, recurses := true, apart := false }
def FlowDeadNodesSaid : Prop := flowDeadNodesRow.holds Try.pinned (OpenSpec.ofChange flowDeadNodesSpec)

/-- ITS FALSE NEIGHBOUR: 'it returns false'. Refute it at one input. -/
def flowDeadNodesWrong : ChangeSpec := { name := "flowDeadNodes", fn := fun _ => fun
  | [d] => { results := [.lit (.bool false)], args := [d] }
  | _ => none }
def FlowDeadNodesWrongFalsely : Prop := flowDeadNodesRow.holds Try.pinned (OpenSpec.ofChange flowDeadNodesWrong)

/- THE SECOND FORM. 'bulk': how many values and letters a reading holds, each counted each time it is reached (what is shared counts as often as it is met; a slice's spare places count too). A statement '..UptoSaid' is the law's where the arguments, and the package variables that the reading takes, are together of bulk at most 1048576: NARROWER than '..Said'. Prove '..Said' where nothing that the law and all that it calls make is longer than what came in: it says more and counts as full. Else prove '..UptoSaid'. A law counts once. -/
mutual
def uptoBulk {H : Type} : DataW H → Nat
  | .lit (.string bytes) => bytes.length + 1
  | .lit _ => 1
  | .nil => 1
  | .ptr d => uptoBulk d + 1
  | .slice elems spare => uptoBulkAll elems + uptoBulkAll spare + 1
  | .agg parts => uptoBulkAll parts + 1
  | .iface _ d => uptoBulk d + 1
  | .map entries => uptoBulkEntries entries + 1
  | .held _ => 1
def uptoBulkAll {H : Type} : List (DataW H) → Nat
  | [] => 0
  | d :: r => uptoBulk d + uptoBulkAll r
def uptoBulkEntries {H : Type} : List (Lit × DataW H) → Nat
  | [] => 0
  | x :: r => uptoBulkEntry x + uptoBulkEntries r
def uptoBulkEntry {H : Type} : Lit × DataW H → Nat
  | (.string bytes, d) => bytes.length + uptoBulk d + 1
  | (_, d) => uptoBulk d + 1
 end
def uptoSmall : (H : Type) → List (DataW H) → Bool := fun _ ds => decide (uptoBulkAll ds ≤ 1048576)
def OpenSpec.upto (s : _root_.Go.ChangeSpec) : _root_.Go.OpenSpec := { _root_.Go.OpenSpec.ofChange s with cond := some uptoSmall }

/-- 'busbarlaw12.GraphNodesMatchReference', WHERE WHAT IT READS IS OF BULK AT MOST 1048576: true; the input reads as it did. -/
def graphNodesMatchReferenceUptoRow : OpenClaim := { program := "ytmacdknicgfglaa", sum := "3341580646011f23368504cb0fc4b359e22d7d8b766aec66c03b982b4a20625b", func := "busbar/busbarlaw12.GraphNodesMatchReference", spec := "graphNodesMatchReference", unfollowed := true, recurses := true, apart := false, narrowed := true }
def GraphNodesMatchReferenceUptoSaid : Prop := graphNodesMatchReferenceUptoRow.holds Try.pinned (OpenSpec.upto graphNodesMatchReferenceSpec)

/-- 'busbarlaw12.GraphTopoSort', WHERE WHAT IT READS IS OF BULK AT MOST 1048576: true; the input reads as it did. -/
def graphTopoSortUptoRow : OpenClaim := { program := "ytmacdknicgfglaa", sum := "3341580646011f23368504cb0fc4b359e22d7d8b766aec66c03b982b4a20625b", func := "busbar/busbarlaw12.GraphTopoSort", spec := "graphTopoSort", unfollowed := true, recurses := true, apart := false, narrowed := true }
def GraphTopoSortUptoSaid : Prop := graphTopoSortUptoRow.holds Try.pinned (OpenSpec.upto graphTopoSortSpec)

/-- 'busbarlaw12.GraphAddContact', WHERE WHAT IT READS IS OF BULK AT MOST 1048576: true; the input reads as it did. -/
def graphAddContactUptoRow : OpenClaim := { program := "ytmacdknicgfglaa", sum := "3341580646011f23368504cb0fc4b359e22d7d8b766aec66c03b982b4a20625b", func := "busbar/busbarlaw12.GraphAddContact", spec := "graphAddContact", unfollowed := true, recurses := true, apart := false, narrowed := true }
def GraphAddContactUptoSaid : Prop := graphAddContactUptoRow.holds Try.pinned (OpenSpec.upto graphAddContactSpec)

/-- 'busbarlaw12.GraphReachabilityMatchesReference', WHERE WHAT IT READS IS OF BULK AT MOST 1048576: true; the input reads as it did. -/
def graphReachabilityMatchesReferenceUptoRow : OpenClaim := { program := "ytmacdknicgfglaa", sum := "3341580646011f23368504cb0fc4b359e22d7d8b766aec66c03b982b4a20625b", func := "busbar/busbarlaw12.GraphReachabilityMatchesReference", spec := "graphReachabilityMatchesReference", unfollowed := true, recurses := true, apart := false, narrowed := true }
def GraphReachabilityMatchesReferenceUptoSaid : Prop := graphReachabilityMatchesReferenceUptoRow.holds Try.pinned (OpenSpec.upto graphReachabilityMatchesReferenceSpec)

/-- 'busbarlaw12.GraphReachableAncestors', WHERE WHAT IT READS IS OF BULK AT MOST 1048576: true; the input reads as it did. -/
def graphReachableAncestorsUptoRow : OpenClaim := { program := "ytmacdknicgfglaa", sum := "3341580646011f23368504cb0fc4b359e22d7d8b766aec66c03b982b4a20625b", func := "busbar/busbarlaw12.GraphReachableAncestors", spec := "graphReachableAncestors", unfollowed := true, recurses := true, apart := false, narrowed := true }
def GraphReachableAncestorsUptoSaid : Prop := graphReachableAncestorsUptoRow.holds Try.pinned (OpenSpec.upto graphReachableAncestorsSpec)

/-- 'busbarlaw12.GraphReversal', WHERE WHAT IT READS IS OF BULK AT MOST 1048576: true; the input reads as it did. -/
def graphReversalUptoRow : OpenClaim := { program := "ytmacdknicgfglaa", sum := "3341580646011f23368504cb0fc4b359e22d7d8b766aec66c03b982b4a20625b", func := "busbar/busbarlaw12.GraphReversal", spec := "graphReversal", unfollowed := true, recurses := true, apart := false, narrowed := true }
def GraphReversalUptoSaid : Prop := graphReversalUptoRow.holds Try.pinned (OpenSpec.upto graphReversalSpec)

/-- 'busbarlaw13.FlowCheckMatchesReference', WHERE WHAT IT READS IS OF BULK AT MOST 1048576: true; the input reads as it did. -/
def flowCheckMatchesReferenceUptoRow : OpenClaim := { program := "ytmacdknicgfglaa", sum := "3341580646011f23368504cb0fc4b359e22d7d8b766aec66c03b982b4a20625b", func := "busbar/busbarlaw13.FlowCheckMatchesReference", spec := "flowCheckMatchesReference", unfollowed := true, recurses := true, apart := false, narrowed := true }
def FlowCheckMatchesReferenceUptoSaid : Prop := flowCheckMatchesReferenceUptoRow.holds Try.pinned (OpenSpec.upto flowCheckMatchesReferenceSpec)

/-- 'busbarlaw13.FlowPathsMatchReference', WHERE WHAT IT READS IS OF BULK AT MOST 1048576: true; the input reads as it did. -/
def flowPathsMatchReferenceUptoRow : OpenClaim := { program := "ytmacdknicgfglaa", sum := "3341580646011f23368504cb0fc4b359e22d7d8b766aec66c03b982b4a20625b", func := "busbar/busbarlaw13.FlowPathsMatchReference", spec := "flowPathsMatchReference", unfollowed := true, recurses := true, apart := false, narrowed := true }
def FlowPathsMatchReferenceUptoSaid : Prop := flowPathsMatchReferenceUptoRow.holds Try.pinned (OpenSpec.upto flowPathsMatchReferenceSpec)

/-- 'busbarlaw13.FlowShortestPathIsPath', WHERE WHAT IT READS IS OF BULK AT MOST 1048576: true; the input reads as it did. -/
def flowShortestPathIsPathUptoRow : OpenClaim := { program := "ytmacdknicgfglaa", sum := "3341580646011f23368504cb0fc4b359e22d7d8b766aec66c03b982b4a20625b", func := "busbar/busbarlaw13.FlowShortestPathIsPath", spec := "flowShortestPathIsPath", unfollowed := true, recurses := true, apart := false, narrowed := true }
def FlowShortestPathIsPathUptoSaid : Prop := flowShortestPathIsPathUptoRow.holds Try.pinned (OpenSpec.upto flowShortestPathIsPathSpec)

/-- 'busbarlaw13.FlowEveryContactOnPath', WHERE WHAT IT READS IS OF BULK AT MOST 1048576: true; the input reads as it did. -/
def flowEveryContactOnPathUptoRow : OpenClaim := { program := "ytmacdknicgfglaa", sum := "3341580646011f23368504cb0fc4b359e22d7d8b766aec66c03b982b4a20625b", func := "busbar/busbarlaw13.FlowEveryContactOnPath", spec := "flowEveryContactOnPath", unfollowed := true, recurses := true, apart := false, narrowed := true }
def FlowEveryContactOnPathUptoSaid : Prop := flowEveryContactOnPathUptoRow.holds Try.pinned (OpenSpec.upto flowEveryContactOnPathSpec)

/-- 'busbarlaw13.FlowComposition', WHERE WHAT IT READS IS OF BULK AT MOST 1048576: true; the input reads as it did. -/
def flowCompositionUptoRow : OpenClaim := { program := "ytmacdknicgfglaa", sum := "3341580646011f23368504cb0fc4b359e22d7d8b766aec66c03b982b4a20625b", func := "busbar/busbarlaw13.FlowComposition", spec := "flowComposition", unfollowed := true, recurses := true, apart := false, narrowed := true }
def FlowCompositionUptoSaid : Prop := flowCompositionUptoRow.holds Try.pinned (OpenSpec.upto flowCompositionSpec)

/-- 'busbarlaw13.FlowDeadNodes', WHERE WHAT IT READS IS OF BULK AT MOST 1048576: true; the input reads as it did. -/
def flowDeadNodesUptoRow : OpenClaim := { program := "ytmacdknicgfglaa", sum := "3341580646011f23368504cb0fc4b359e22d7d8b766aec66c03b982b4a20625b", func := "busbar/busbarlaw13.FlowDeadNodes", spec := "flowDeadNodes", unfollowed := true, recurses := true, apart := false, narrowed := true }
def FlowDeadNodesUptoSaid : Prop := flowDeadNodesUptoRow.holds Try.pinned (OpenSpec.upto flowDeadNodesSpec)

end Rows
end Go.Proofs.Ytmacdknicgfglaa
