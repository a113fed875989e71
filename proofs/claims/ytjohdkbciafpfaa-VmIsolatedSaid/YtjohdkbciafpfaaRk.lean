/- Kinds of rows that are built by appends. -/
import Derived.Test.YtjohdkbciafpfaaRo
import Derived.Test.YtjohdkbciafpfaaProg
namespace Go.Proofs.Ytjohdkbciafpfaa.Evt
open Go.RowKit Go.Proofs.YtjohdkbciafpfaaW.PrintWords Go.Proofs.YtjohdkbciafpfaaW.PrintMore Go.Proofs.YtjohdkbciafpfaaW.PrintLast Go.Proofs.Ytjohdkbciafpfaa.Chg
set_option linter.unusedVariables false
set_option maxRecDepth 100000
/-- A kind of row: its elements' type e, its own type t. -/
structure Rk {α : Type} (d : Kd α) (e t : TypeId) : Prop where
  hE : d.E = []
  ht : Try.prog.underlying t = some (.slice e)
  info : ∃ z bytes, (Try.prog.info? e).map (fun i => (i.zero, i.size, i.bytes)) = some (some z, d.sz, bytes) ∧ z.cells.size = d.sz ∧ 0 < d.sz ∧ 0 < bytes ∧ bytes ≤ 32
  km : ∀ w base ok x cs, d.K w x cs → d.M w base ok x cs
theorem rkB : Rk Kd.bool 4 22 := ⟨rfl, Try.underlying22, ⟨.bool false, 1, by kernel_rfl, rfl, by decide, by decide, by decide⟩, fun _ _ _ _ _ h => h⟩
end Go.Proofs.Ytjohdkbciafpfaa.Evt
