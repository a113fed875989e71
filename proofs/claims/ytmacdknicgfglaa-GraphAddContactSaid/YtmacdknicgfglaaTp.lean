/- The order of TopoSort as a plain function. -/
import Derived.Test.YtmacdknicgfglaaGp
namespace Go.Proofs.Ytmacdknicgfglaa.Gp
set_option linter.unusedVariables false
/-- Where a contact comes from, by its number. -/
def fromE (l : List Ed) (i : Int) : ByteArray := (l.getD i.toNat zE).1
def toE (l : List Ed) (i : Int) : ByteArray := (l.getD i.toNat zE).2
/-- All from which a contact leads to s are told. -/
def readyG (l : List Ed) (told : List ByteArray) (s : ByteArray) : Bool := !((inL l s).any fun i => !decide (fromE l i ∈ told))
def topoG (l : List Ed) : Nat → List ByteArray → List ByteArray → Option (List ByteArray)
  | 0, _, out => some out
  | k + 1, left, out => match left.findIdx? (readyG l out) with
    | none => none
    | some i => topoG l k (left.eraseIdx i) (out ++ [left.getD i ⟨#[]⟩])
def topo (l : List Ed) : Option (List ByteArray) := topoG l (nodesL l).length (nodesL l) []
/-- TopoSort's second result. -/
def errT (o : Option (List ByteArray)) : Int := if o.isNone then 12 else 0
end Go.Proofs.Ytmacdknicgfglaa.Gp
