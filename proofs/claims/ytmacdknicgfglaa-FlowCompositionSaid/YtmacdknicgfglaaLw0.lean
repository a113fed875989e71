/- Lengths; what is known of a rung that is not too large. -/
import Derived.Test.YtmacdknicgfglaaAl
import Derived.Test.YtmacdknicgfglaaTl
import Derived.Test.YtmacdknicgfglaaGa
import Derived.Test.YtmacdknicgfglaaPq
namespace Go.Proofs.Ytmacdknicgfglaa.Gp
theorem topoR_len {l : List Ed} {all : List ByteArray} : ∀ (k : Nat) (out r : List ByteArray), topoR l all k out = some r → r.length = out.length + k
  | 0, out, r, h => by obtain rfl : out = r := by simpa [topoR] using h
                       rfl
  | k + 1, out, r, h => by
    unfold topoR at h
    split at h
    · cases h
    · rename_i s hs
      have := topoR_len k _ r h
      simp only [List.length_append, List.length_singleton] at this
      omega
theorem topo_len (l : List Ed) : ((topo l).getD []).length ≤ (nodesL l).length := by
  cases h : topo l with
  | none => simp
  | some r =>
    rw [topo_R] at h
    have := topoR_len _ _ _ h
    simp only [List.length_nil, Nat.zero_add] at this
    simp [this]
theorem gath_len (l : List Ed) (q : ByteArray → List ByteArray) (n : ByteArray) : (gathL l q n).length ≤ (nodesL l).length := by
  unfold gathL
  split
  · exact List.length_filter_le _ _
  · simp
end Go.Proofs.Ytmacdknicgfglaa.Gp
namespace Go.Proofs.Ytmacdknicgfglaa.Gw
open Go.RowKit Go.Shelf Go.Proofs.YtmacdknicgfglaaW.PrintWords Go.Proofs.YtmacdknicgfglaaW.PrintMore Go.Proofs.YtmacdknicgfglaaW.PrintLast Go.Proofs.Ytmacdknicgfglaa.Chg Go.Proofs.Ytmacdknicgfglaa.Evt Go.Proofs.Ytmacdknicgfglaa.Impl Go.Proofs.Ytmacdknicgfglaa.Gp Go.Proofs.Ytmacdknicgfglaa.Mp Go.Proofs.Ytmacdknicgfglaa.Open
open Go.Proofs.Ytmacdknicgfglaa.Pe (tl)
set_option linter.unusedVariables false
set_option linter.unusedSimpArgs false
set_option maxRecDepth 100000
section
variable {A1 A2 : Option Addr} {c1 c2 : Nat} {l1 : List S41} {l2 : List S101} {a0 a3 s : ByteArray}
/-- What is known of a rung that is not too large. -/
structure Ok12 (l1 : List S41) : Prop where
  ok : okG (es l1) = true
  ln : l1.length ≤ 60
  nl : (nodesL (es l1)).length ≤ 200
theorem Ok12.of {l1 : List S41} (hb : tl (es l1) ≤ 0) : Ok12 l1 := by
  have h := Pe.tl_ok hb
  have h2 := h.2
  have h3 := nodesL_len (es l1)
  rw [es_len] at h2 h3
  exact ⟨h.1, h2, by omega⟩
theorem tl_0 {l : List Ed} (hb : tl l ≤ 0) : tl l = 0 := by unfold tl at hb ⊢; split at hb; omega; rename_i hh; rw [if_neg hh]
theorem tl_1 {l : List Ed} (hb : ¬ tl l ≤ 0) : tl l = 1 := by unfold tl at hb ⊢; split at hb; rename_i hh; rw [if_pos hh]; omega
end
end Go.Proofs.Ytmacdknicgfglaa.Gw
