/-
  No cell of these rows narrows 'for every input' (looked for: loops, veiled, ifaces, maps, wideKeys, modest, calm, conditions, laid).
  DERIVED. THE GIVEN ROWS OF THIS SEAT. 13 by the template 'for every input the law returns true; each argument reads behind the call as it read before'; 0 by the template 'total and deterministic' (their statements: YtjohdkbciafpfaaTotals.lean).
  GIVEN WITH THE SEED: the statements are not yours to turn. If you find one false, say at which input.
  Laid BY PROGRAM, IN A SANDBOX (cutbox-rows.mjs): the forced cells as the released guide's own fill.sh prints them over the translation 7793dfb5de3b01a5… (all of the seat's roots in one cut). By AI agents, Wed Nov 11 2026. No macro, syntax, notation, axiom, sorry.
-/
import Derived.Test.YtjohdkbciafpfaaChecked
import GoSem.Claim
import GoSem.ClaimJoined
import GoSem.ClaimMapViews
import Derived.JoinedTies
import Derived.KernelRfl
namespace Go.Proofs.Ytjohdkbciafpfaa
/- THE CELL 'sum', in the pinned program and in every row, IS THE sha256 OF THE DUMP (.gsa) THAT YtjohdkbciafpfaaProg.lean LOADS. Nothing in Lean hashes anything: it is a label: what it is worth is what the hold of that sum in a sandbox is worth. -/
noncomputable def Try.pinned : Pinned := { name := "ytjohdkbciafpfaa", sum := "7793dfb5de3b01a5a422ada1584b5662d0fbbbb6330c251d7981133e74ceafaa", checked := Try.checked }
namespace Rows
def none {H : Type} : Left H := { results := [], args := [] }

/-- 'busbarlaw03.StateReadWriteMatchReference': WHATEVER THE INPUT: true; the input reads as it did. -/
def stateReadWriteMatchReferenceSpec : ChangeSpec := { name := "stateReadWriteMatchReference", fn := fun _ => fun
  | [d1, d2, d3] => { results := [.lit (.bool true)], args := [d1, d2, d3] }
  | _ => none }
def stateReadWriteMatchReferenceRow : OpenClaim := { program := "ytjohdkbciafpfaa", sum := "7793dfb5de3b01a5a422ada1584b5662d0fbbbb6330c251d7981133e74ceafaa", func := "busbar/busbarlaw03.StateReadWriteMatchReference", spec := "stateReadWriteMatchReference", plainKeys := false, apart := false }
def StateReadWriteMatchReferenceSaid : Prop := stateReadWriteMatchReferenceRow.holds Try.pinned (OpenSpec.ofChange stateReadWriteMatchReferenceSpec)

/-- ITS FALSE NEIGHBOUR: 'it returns false'. Refute it at one input. -/
def stateReadWriteMatchReferenceWrong : ChangeSpec := { name := "stateReadWriteMatchReference", fn := fun _ => fun
  | [d1, d2, d3] => { results := [.lit (.bool false)], args := [d1, d2, d3] }
  | _ => none }
def StateReadWriteMatchReferenceWrongFalsely : Prop := stateReadWriteMatchReferenceRow.holds Try.pinned (OpenSpec.ofChange stateReadWriteMatchReferenceWrong)

/-- 'busbarlaw03.StateWriteIsolated': WHATEVER THE INPUT: true; the input reads as it did. -/
def stateWriteIsolatedSpec : ChangeSpec := { name := "stateWriteIsolated", fn := fun _ => fun
  | [d1, d2, d3] => { results := [.lit (.bool true)], args := [d1, d2, d3] }
  | _ => none }
def stateWriteIsolatedRow : OpenClaim := { program := "ytjohdkbciafpfaa", sum := "7793dfb5de3b01a5a422ada1584b5662d0fbbbb6330c251d7981133e74ceafaa", func := "busbar/busbarlaw03.StateWriteIsolated", spec := "stateWriteIsolated", plainKeys := false, apart := false }
def StateWriteIsolatedSaid : Prop := stateWriteIsolatedRow.holds Try.pinned (OpenSpec.ofChange stateWriteIsolatedSpec)

/-- ITS FALSE NEIGHBOUR: 'it returns false'. Refute it at one input. -/
def stateWriteIsolatedWrong : ChangeSpec := { name := "stateWriteIsolated", fn := fun _ => fun
  | [d1, d2, d3] => { results := [.lit (.bool false)], args := [d1, d2, d3] }
  | _ => none }
def StateWriteIsolatedWrongFalsely : Prop := stateWriteIsolatedRow.holds Try.pinned (OpenSpec.ofChange stateWriteIsolatedWrong)

/-- 'busbarlaw03.StateNewFits': WHATEVER THE INPUT: true; the input reads as it did. -/
def stateNewFitsSpec : ChangeSpec := { name := "stateNewFits", fn := fun _ => fun
  | [d1, d2] => { results := [.lit (.bool true)], args := [d1, d2] }
  | _ => none }
def stateNewFitsRow : OpenClaim := { program := "ytjohdkbciafpfaa", sum := "7793dfb5de3b01a5a422ada1584b5662d0fbbbb6330c251d7981133e74ceafaa", func := "busbar/busbarlaw03.StateNewFits", spec := "stateNewFits", plainKeys := false, apart := false }
def StateNewFitsSaid : Prop := stateNewFitsRow.holds Try.pinned (OpenSpec.ofChange stateNewFitsSpec)

/-- ITS FALSE NEIGHBOUR: 'it returns false'. Refute it at one input. -/
def stateNewFitsWrong : ChangeSpec := { name := "stateNewFits", fn := fun _ => fun
  | [d1, d2] => { results := [.lit (.bool false)], args := [d1, d2] }
  | _ => none }
def StateNewFitsWrongFalsely : Prop := stateNewFitsRow.holds Try.pinned (OpenSpec.ofChange stateNewFitsWrong)

/-- 'busbarlaw03.StateMatchesReference': WHATEVER THE INPUT: true; the input reads as it did. -/
def stateMatchesReferenceSpec : ChangeSpec := { name := "stateMatchesReference", fn := fun _ => fun
  | [d1, d2, d3] => { results := [.lit (.bool true)], args := [d1, d2, d3] }
  | _ => none }
def stateMatchesReferenceRow : OpenClaim := { program := "ytjohdkbciafpfaa", sum := "7793dfb5de3b01a5a422ada1584b5662d0fbbbb6330c251d7981133e74ceafaa", func := "busbar/busbarlaw03.StateMatchesReference", spec := "stateMatchesReference", plainKeys := false, apart := false }
def StateMatchesReferenceSaid : Prop := stateMatchesReferenceRow.holds Try.pinned (OpenSpec.ofChange stateMatchesReferenceSpec)

/-- ITS FALSE NEIGHBOUR: 'it returns false'. Refute it at one input. -/
def stateMatchesReferenceWrong : ChangeSpec := { name := "stateMatchesReference", fn := fun _ => fun
  | [d1, d2, d3] => { results := [.lit (.bool false)], args := [d1, d2, d3] }
  | _ => none }
def StateMatchesReferenceWrongFalsely : Prop := stateMatchesReferenceRow.holds Try.pinned (OpenSpec.ofChange stateMatchesReferenceWrong)

/-- 'busbarlaw03.StateWritesCommute': WHATEVER THE INPUT: true; the input reads as it did. -/
def stateWritesCommuteSpec : ChangeSpec := { name := "stateWritesCommute", fn := fun _ => fun
  | [d1, d2, d3] => { results := [.lit (.bool true)], args := [d1, d2, d3] }
  | _ => none }
def stateWritesCommuteRow : OpenClaim := { program := "ytjohdkbciafpfaa", sum := "7793dfb5de3b01a5a422ada1584b5662d0fbbbb6330c251d7981133e74ceafaa", func := "busbar/busbarlaw03.StateWritesCommute", spec := "stateWritesCommute", plainKeys := false, apart := false }
def StateWritesCommuteSaid : Prop := stateWritesCommuteRow.holds Try.pinned (OpenSpec.ofChange stateWritesCommuteSpec)

/-- ITS FALSE NEIGHBOUR: 'it returns false'. Refute it at one input. -/
def stateWritesCommuteWrong : ChangeSpec := { name := "stateWritesCommute", fn := fun _ => fun
  | [d1, d2, d3] => { results := [.lit (.bool false)], args := [d1, d2, d3] }
  | _ => none }
def StateWritesCommuteWrongFalsely : Prop := stateWritesCommuteRow.holds Try.pinned (OpenSpec.ofChange stateWritesCommuteWrong)

/-- 'busbarlaw06.VmRunMatchesReference': WHATEVER THE INPUT: true; the input reads as it did. -/
def vmRunMatchesReferenceSpec : ChangeSpec := { name := "vmRunMatchesReference", fn := fun _ => fun
  | [d1, d2, d3] => { results := [.lit (.bool true)], args := [d1, d2, d3] }
  | _ => none }
def vmRunMatchesReferenceRow : OpenClaim := { program := "ytjohdkbciafpfaa", sum := "7793dfb5de3b01a5a422ada1584b5662d0fbbbb6330c251d7981133e74ceafaa", func := "busbar/busbarlaw06.VmRunMatchesReference", spec := "vmRunMatchesReference", unfollowed := true, recurses := true, plainKeys := false, apart := false }
def VmRunMatchesReferenceSaid : Prop := vmRunMatchesReferenceRow.holds Try.pinned (OpenSpec.ofChange vmRunMatchesReferenceSpec)

/-- ITS FALSE NEIGHBOUR: 'it returns false'. Refute it at one input. -/
def vmRunMatchesReferenceWrong : ChangeSpec := { name := "vmRunMatchesReference", fn := fun _ => fun
  | [d1, d2, d3] => { results := [.lit (.bool false)], args := [d1, d2, d3] }
  | _ => none }
def VmRunMatchesReferenceWrongFalsely : Prop := vmRunMatchesReferenceRow.holds Try.pinned (OpenSpec.ofChange vmRunMatchesReferenceWrong)

/-- 'busbarlaw06.VmBooleanOperations': WHATEVER THE INPUT: true; the input reads as it did. -/
def vmBooleanOperationsSpec : ChangeSpec := { name := "vmBooleanOperations", fn := fun _ => fun
  | [d1, d2, d3] => { results := [.lit (.bool true)], args := [d1, d2, d3] }
  | _ => none }
def vmBooleanOperationsRow : OpenClaim := { program := "ytjohdkbciafpfaa", sum := "7793dfb5de3b01a5a422ada1584b5662d0fbbbb6330c251d7981133e74ceafaa", func := "busbar/busbarlaw06.VmBooleanOperations", spec := "vmBooleanOperations", unfollowed := true, recurses := true, plainKeys := false, apart := false }
def VmBooleanOperationsSaid : Prop := vmBooleanOperationsRow.holds Try.pinned (OpenSpec.ofChange vmBooleanOperationsSpec)

/-- ITS FALSE NEIGHBOUR: 'it returns false'. Refute it at one input. -/
def vmBooleanOperationsWrong : ChangeSpec := { name := "vmBooleanOperations", fn := fun _ => fun
  | [d1, d2, d3] => { results := [.lit (.bool false)], args := [d1, d2, d3] }
  | _ => none }
def VmBooleanOperationsWrongFalsely : Prop := vmBooleanOperationsRow.holds Try.pinned (OpenSpec.ofChange vmBooleanOperationsWrong)

/-- 'busbarlaw06.VmBranchStack': WHATEVER THE INPUT: true; the input reads as it did. -/
def vmBranchStackSpec : ChangeSpec := { name := "vmBranchStack", fn := fun _ => fun
  | [d1, d2] => { results := [.lit (.bool true)], args := [d1, d2] }
  | _ => none }
def vmBranchStackRow : OpenClaim := { program := "ytjohdkbciafpfaa", sum := "7793dfb5de3b01a5a422ada1584b5662d0fbbbb6330c251d7981133e74ceafaa", func := "busbar/busbarlaw06.VmBranchStack", spec := "vmBranchStack", unfollowed := true, recurses := true, plainKeys := false, apart := false }
def VmBranchStackSaid : Prop := vmBranchStackRow.holds Try.pinned (OpenSpec.ofChange vmBranchStackSpec)

/-- ITS FALSE NEIGHBOUR: 'it returns false'. Refute it at one input. -/
def vmBranchStackWrong : ChangeSpec := { name := "vmBranchStack", fn := fun _ => fun
  | [d1, d2] => { results := [.lit (.bool false)], args := [d1, d2] }
  | _ => none }
def VmBranchStackWrongFalsely : Prop := vmBranchStackRow.holds Try.pinned (OpenSpec.ofChange vmBranchStackWrong)

/-- 'busbarlaw06.VmConditionalJump': WHATEVER THE INPUT: true; the input reads as it did. -/
def vmConditionalJumpSpec : ChangeSpec := { name := "vmConditionalJump", fn := fun _ => fun
  | [d1, d2] => { results := [.lit (.bool true)], args := [d1, d2] }
  | _ => none }
def vmConditionalJumpRow : OpenClaim := { program := "ytjohdkbciafpfaa", sum := "7793dfb5de3b01a5a422ada1584b5662d0fbbbb6330c251d7981133e74ceafaa", func := "busbar/busbarlaw06.VmConditionalJump", spec := "vmConditionalJump", unfollowed := true, recurses := true, plainKeys := false, apart := false }
def VmConditionalJumpSaid : Prop := vmConditionalJumpRow.holds Try.pinned (OpenSpec.ofChange vmConditionalJumpSpec)

/-- ITS FALSE NEIGHBOUR: 'it returns false'. Refute it at one input. -/
def vmConditionalJumpWrong : ChangeSpec := { name := "vmConditionalJump", fn := fun _ => fun
  | [d1, d2] => { results := [.lit (.bool false)], args := [d1, d2] }
  | _ => none }
def VmConditionalJumpWrongFalsely : Prop := vmConditionalJumpRow.holds Try.pinned (OpenSpec.ofChange vmConditionalJumpWrong)

/-- 'busbarlaw06.VmFrame': WHATEVER THE INPUT: true; the input reads as it did. -/
def vmFrameSpec : ChangeSpec := { name := "vmFrame", fn := fun _ => fun
  | [d1, d2, d3] => { results := [.lit (.bool true)], args := [d1, d2, d3] }
  | _ => none }
def vmFrameRow : OpenClaim := { program := "ytjohdkbciafpfaa", sum := "7793dfb5de3b01a5a422ada1584b5662d0fbbbb6330c251d7981133e74ceafaa", func := "busbar/busbarlaw06.VmFrame", spec := "vmFrame", unfollowed := true, recurses := true, plainKeys := false, apart := false }
def VmFrameSaid : Prop := vmFrameRow.holds Try.pinned (OpenSpec.ofChange vmFrameSpec)

/-- ITS FALSE NEIGHBOUR: 'it returns false'. Refute it at one input. -/
def vmFrameWrong : ChangeSpec := { name := "vmFrame", fn := fun _ => fun
  | [d1, d2, d3] => { results := [.lit (.bool false)], args := [d1, d2, d3] }
  | _ => none }
def VmFrameWrongFalsely : Prop := vmFrameRow.holds Try.pinned (OpenSpec.ofChange vmFrameWrong)

/-- 'busbarlaw06.VmTerminates': WHATEVER THE INPUT: true; the input reads as it did. -/
def vmTerminatesSpec : ChangeSpec := { name := "vmTerminates", fn := fun _ => fun
  | [d1, d2, d3] => { results := [.lit (.bool true)], args := [d1, d2, d3] }
  | _ => none }
def vmTerminatesRow : OpenClaim := { program := "ytjohdkbciafpfaa", sum := "7793dfb5de3b01a5a422ada1584b5662d0fbbbb6330c251d7981133e74ceafaa", func := "busbar/busbarlaw06.VmTerminates", spec := "vmTerminates", unfollowed := true, recurses := true, plainKeys := false, apart := false }
def VmTerminatesSaid : Prop := vmTerminatesRow.holds Try.pinned (OpenSpec.ofChange vmTerminatesSpec)

/-- ITS FALSE NEIGHBOUR: 'it returns false'. Refute it at one input. -/
def vmTerminatesWrong : ChangeSpec := { name := "vmTerminates", fn := fun _ => fun
  | [d1, d2, d3] => { results := [.lit (.bool false)], args := [d1, d2, d3] }
  | _ => none }
def VmTerminatesWrongFalsely : Prop := vmTerminatesRow.holds Try.pinned (OpenSpec.ofChange vmTerminatesWrong)

/-- 'busbarlaw06.VmIsolated': WHATEVER THE INPUT: true; the input reads as it did. -/
def vmIsolatedSpec : ChangeSpec := { name := "vmIsolated", fn := fun _ => fun
  | [d1, d2, d3] => { results := [.lit (.bool true)], args := [d1, d2, d3] }
  | _ => none }
def vmIsolatedRow : OpenClaim := { program := "ytjohdkbciafpfaa", sum := "7793dfb5de3b01a5a422ada1584b5662d0fbbbb6330c251d7981133e74ceafaa", func := "busbar/busbarlaw06.VmIsolated", spec := "vmIsolated", unfollowed := true, recurses := true, plainKeys := false, apart := false }
def VmIsolatedSaid : Prop := vmIsolatedRow.holds Try.pinned (OpenSpec.ofChange vmIsolatedSpec)

/-- ITS FALSE NEIGHBOUR: 'it returns false'. Refute it at one input. -/
def vmIsolatedWrong : ChangeSpec := { name := "vmIsolated", fn := fun _ => fun
  | [d1, d2, d3] => { results := [.lit (.bool false)], args := [d1, d2, d3] }
  | _ => none }
def VmIsolatedWrongFalsely : Prop := vmIsolatedRow.holds Try.pinned (OpenSpec.ofChange vmIsolatedWrong)

/-- 'busbarlaw06.VmStepMatchesReference': WHATEVER THE INPUT: true; the input reads as it did. -/
def vmStepMatchesReferenceSpec : ChangeSpec := { name := "vmStepMatchesReference", fn := fun _ => fun
  | [d1, d2, d3] => { results := [.lit (.bool true)], args := [d1, d2, d3] }
  | _ => none }
def vmStepMatchesReferenceRow : OpenClaim := { program := "ytjohdkbciafpfaa", sum := "7793dfb5de3b01a5a422ada1584b5662d0fbbbb6330c251d7981133e74ceafaa", func := "busbar/busbarlaw06.VmStepMatchesReference", spec := "vmStepMatchesReference", unfollowed := true, recurses := true, plainKeys := false, apart := false }
def VmStepMatchesReferenceSaid : Prop := vmStepMatchesReferenceRow.holds Try.pinned (OpenSpec.ofChange vmStepMatchesReferenceSpec)

/-- ITS FALSE NEIGHBOUR: 'it returns false'. Refute it at one input. -/
def vmStepMatchesReferenceWrong : ChangeSpec := { name := "vmStepMatchesReference", fn := fun _ => fun
  | [d1, d2, d3] => { results := [.lit (.bool false)], args := [d1, d2, d3] }
  | _ => none }
def VmStepMatchesReferenceWrongFalsely : Prop := vmStepMatchesReferenceRow.holds Try.pinned (OpenSpec.ofChange vmStepMatchesReferenceWrong)

/- THE SECOND FORM. 'bulk': how many values and letters a reading holds, each counted each time it is reached (what is shared counts as often as it is met; a slice's spare places count too). A statement '..UptoSaid' is the law's where the arguments, and the package variables that the reading takes, are together of bulk at most 1048576: NARROWER than '..Said'. Prove '..Said' where nothing that the law and all that it calls make is longer than what came in: it says more and counts as full. Else prove '..UptoSaid'. A law counts once. -/
mutual
def uptoBulk {H : Type} : DataW H → Nat
  | .lit (.string bytes) => bytes.length + 1
  | .lit _ => 1
  | .nil => 1
  | .ptr d => uptoBulk d + 1
  | .slice elems spare => uptoBulkAll elems + uptoBulkAll spare + 1
  | .agg parts => uptoBulkAll parts + 1
  | .iface _ d => uptoBulk d + 1
  | .map entries => uptoBulkEntries entries + 1
  | .held _ => 1
def uptoBulkAll {H : Type} : List (DataW H) → Nat
  | [] => 0
  | d :: r => uptoBulk d + uptoBulkAll r
def uptoBulkEntries {H : Type} : List (Lit × DataW H) → Nat
  | [] => 0
  | x :: r => uptoBulkEntry x + uptoBulkEntries r
def uptoBulkEntry {H : Type} : Lit × DataW H → Nat
  | (.string bytes, d) => bytes.length + uptoBulk d + 1
  | (_, d) => uptoBulk d + 1
 end
def uptoSmall : (H : Type) → List (DataW H) → Bool := fun _ ds => decide (uptoBulkAll ds ≤ 1048576)
def OpenSpec.upto (s : _root_.Go.ChangeSpec) : _root_.Go.OpenSpec := { _root_.Go.OpenSpec.ofChange s with cond := some uptoSmall }

/-- 'busbarlaw03.StateReadWriteMatchReference', WHERE WHAT IT READS IS OF BULK AT MOST 1048576: true; the input reads as it did. -/
def stateReadWriteMatchReferenceUptoRow : OpenClaim := { program := "ytjohdkbciafpfaa", sum := "7793dfb5de3b01a5a422ada1584b5662d0fbbbb6330c251d7981133e74ceafaa", func := "busbar/busbarlaw03.StateReadWriteMatchReference", spec := "stateReadWriteMatchReference", plainKeys := false, apart := false, narrowed := true }
def StateReadWriteMatchReferenceUptoSaid : Prop := stateReadWriteMatchReferenceUptoRow.holds Try.pinned (OpenSpec.upto stateReadWriteMatchReferenceSpec)

/-- 'busbarlaw03.StateWriteIsolated', WHERE WHAT IT READS IS OF BULK AT MOST 1048576: true; the input reads as it did. -/
def stateWriteIsolatedUptoRow : OpenClaim := { program := "ytjohdkbciafpfaa", sum := "7793dfb5de3b01a5a422ada1584b5662d0fbbbb6330c251d7981133e74ceafaa", func := "busbar/busbarlaw03.StateWriteIsolated", spec := "stateWriteIsolated", plainKeys := false, apart := false, narrowed := true }
def StateWriteIsolatedUptoSaid : Prop := stateWriteIsolatedUptoRow.holds Try.pinned (OpenSpec.upto stateWriteIsolatedSpec)

/-- 'busbarlaw03.StateNewFits', WHERE WHAT IT READS IS OF BULK AT MOST 1048576: true; the input reads as it did. -/
def stateNewFitsUptoRow : OpenClaim := { program := "ytjohdkbciafpfaa", sum := "7793dfb5de3b01a5a422ada1584b5662d0fbbbb6330c251d7981133e74ceafaa", func := "busbar/busbarlaw03.StateNewFits", spec := "stateNewFits", plainKeys := false, apart := false, narrowed := true }
def StateNewFitsUptoSaid : Prop := stateNewFitsUptoRow.holds Try.pinned (OpenSpec.upto stateNewFitsSpec)

/-- 'busbarlaw03.StateMatchesReference', WHERE WHAT IT READS IS OF BULK AT MOST 1048576: true; the input reads as it did. -/
def stateMatchesReferenceUptoRow : OpenClaim := { program := "ytjohdkbciafpfaa", sum := "7793dfb5de3b01a5a422ada1584b5662d0fbbbb6330c251d7981133e74ceafaa", func := "busbar/busbarlaw03.StateMatchesReference", spec := "stateMatchesReference", plainKeys := false, apart := false, narrowed := true }
def StateMatchesReferenceUptoSaid : Prop := stateMatchesReferenceUptoRow.holds Try.pinned (OpenSpec.upto stateMatchesReferenceSpec)

/-- 'busbarlaw03.StateWritesCommute', WHERE WHAT IT READS IS OF BULK AT MOST 1048576: true; the input reads as it did. -/
def stateWritesCommuteUptoRow : OpenClaim := { program := "ytjohdkbciafpfaa", sum := "7793dfb5de3b01a5a422ada1584b5662d0fbbbb6330c251d7981133e74ceafaa", func := "busbar/busbarlaw03.StateWritesCommute", spec := "stateWritesCommute", plainKeys := false, apart := false, narrowed := true }
def StateWritesCommuteUptoSaid : Prop := stateWritesCommuteUptoRow.holds Try.pinned (OpenSpec.upto stateWritesCommuteSpec)

/-- 'busbarlaw06.VmRunMatchesReference', WHERE WHAT IT READS IS OF BULK AT MOST 1048576: true; the input reads as it did. -/
def vmRunMatchesReferenceUptoRow : OpenClaim := { program := "ytjohdkbciafpfaa", sum := "7793dfb5de3b01a5a422ada1584b5662d0fbbbb6330c251d7981133e74ceafaa", func := "busbar/busbarlaw06.VmRunMatchesReference", spec := "vmRunMatchesReference", unfollowed := true, recurses := true, plainKeys := false, apart := false, narrowed := true }
def VmRunMatchesReferenceUptoSaid : Prop := vmRunMatchesReferenceUptoRow.holds Try.pinned (OpenSpec.upto vmRunMatchesReferenceSpec)

/-- 'busbarlaw06.VmBooleanOperations', WHERE WHAT IT READS IS OF BULK AT MOST 1048576: true; the input reads as it did. -/
def vmBooleanOperationsUptoRow : OpenClaim := { program := "ytjohdkbciafpfaa", sum := "7793dfb5de3b01a5a422ada1584b5662d0fbbbb6330c251d7981133e74ceafaa", func := "busbar/busbarlaw06.VmBooleanOperations", spec := "vmBooleanOperations", unfollowed := true, recurses := true, plainKeys := false, apart := false, narrowed := true }
def VmBooleanOperationsUptoSaid : Prop := vmBooleanOperationsUptoRow.holds Try.pinned (OpenSpec.upto vmBooleanOperationsSpec)

/-- 'busbarlaw06.VmBranchStack', WHERE WHAT IT READS IS OF BULK AT MOST 1048576: true; the input reads as it did. -/
def vmBranchStackUptoRow : OpenClaim := { program := "ytjohdkbciafpfaa", sum := "7793dfb5de3b01a5a422ada1584b5662d0fbbbb6330c251d7981133e74ceafaa", func := "busbar/busbarlaw06.VmBranchStack", spec := "vmBranchStack", unfollowed := true, recurses := true, plainKeys := false, apart := false, narrowed := true }
def VmBranchStackUptoSaid : Prop := vmBranchStackUptoRow.holds Try.pinned (OpenSpec.upto vmBranchStackSpec)

/-- 'busbarlaw06.VmConditionalJump', WHERE WHAT IT READS IS OF BULK AT MOST 1048576: true; the input reads as it did. -/
def vmConditionalJumpUptoRow : OpenClaim := { program := "ytjohdkbciafpfaa", sum := "7793dfb5de3b01a5a422ada1584b5662d0fbbbb6330c251d7981133e74ceafaa", func := "busbar/busbarlaw06.VmConditionalJump", spec := "vmConditionalJump", unfollowed := true, recurses := true, plainKeys := false, apart := false, narrowed := true }
def VmConditionalJumpUptoSaid : Prop := vmConditionalJumpUptoRow.holds Try.pinned (OpenSpec.upto vmConditionalJumpSpec)

/-- 'busbarlaw06.VmFrame', WHERE WHAT IT READS IS OF BULK AT MOST 1048576: true; the input reads as it did. -/
def vmFrameUptoRow : OpenClaim := { program := "ytjohdkbciafpfaa", sum := "7793dfb5de3b01a5a422ada1584b5662d0fbbbb6330c251d7981133e74ceafaa", func := "busbar/busbarlaw06.VmFrame", spec := "vmFrame", unfollowed := true, recurses := true, plainKeys := false, apart := false, narrowed := true }
def VmFrameUptoSaid : Prop := vmFrameUptoRow.holds Try.pinned (OpenSpec.upto vmFrameSpec)

/-- 'busbarlaw06.VmTerminates', WHERE WHAT IT READS IS OF BULK AT MOST 1048576: true; the input reads as it did. -/
def vmTerminatesUptoRow : OpenClaim := { program := "ytjohdkbciafpfaa", sum := "7793dfb5de3b01a5a422ada1584b5662d0fbbbb6330c251d7981133e74ceafaa", func := "busbar/busbarlaw06.VmTerminates", spec := "vmTerminates", unfollowed := true, recurses := true, plainKeys := false, apart := false, narrowed := true }
def VmTerminatesUptoSaid : Prop := vmTerminatesUptoRow.holds Try.pinned (OpenSpec.upto vmTerminatesSpec)

/-- 'busbarlaw06.VmIsolated', WHERE WHAT IT READS IS OF BULK AT MOST 1048576: true; the input reads as it did. -/
def vmIsolatedUptoRow : OpenClaim := { program := "ytjohdkbciafpfaa", sum := "7793dfb5de3b01a5a422ada1584b5662d0fbbbb6330c251d7981133e74ceafaa", func := "busbar/busbarlaw06.VmIsolated", spec := "vmIsolated", unfollowed := true, recurses := true, plainKeys := false, apart := false, narrowed := true }
def VmIsolatedUptoSaid : Prop := vmIsolatedUptoRow.holds Try.pinned (OpenSpec.upto vmIsolatedSpec)

/-- 'busbarlaw06.VmStepMatchesReference', WHERE WHAT IT READS IS OF BULK AT MOST 1048576: true; the input reads as it did. -/
def vmStepMatchesReferenceUptoRow : OpenClaim := { program := "ytjohdkbciafpfaa", sum := "7793dfb5de3b01a5a422ada1584b5662d0fbbbb6330c251d7981133e74ceafaa", func := "busbar/busbarlaw06.VmStepMatchesReference", spec := "vmStepMatchesReference", unfollowed := true, recurses := true, plainKeys := false, apart := false, narrowed := true }
def VmStepMatchesReferenceUptoSaid : Prop := vmStepMatchesReferenceUptoRow.holds Try.pinned (OpenSpec.upto vmStepMatchesReferenceSpec)

end Rows
end Go.Proofs.Ytjohdkbciafpfaa
