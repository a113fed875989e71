/- Chapter 06: what the arguments read as. -/
import Derived.Test.YtjohdkbciafpfaaOp03
import Derived.Test.YtjohdkbciafpfaaVw
namespace Go.Proofs.Ytjohdkbciafpfaa.Vm6
open Go.RowKit Go.Proofs.YtjohdkbciafpfaaW.PrintWords Go.Proofs.YtjohdkbciafpfaaW.PrintMore Go.Proofs.YtjohdkbciafpfaaW.PrintLast Go.Proofs.Ytjohdkbciafpfaa.Evt Go.Proofs.Ytjohdkbciafpfaa.Open Go.Proofs.Ytjohdkbciafpfaa.Impl
set_option linter.unusedVariables false
abbrev I64 (n : Int) : Prop := (Lit.int .i64 n).wf = true
theorem opens_26 (w : World) : Opens Try.prog w 26 k26 (fun y => I64 y.f0 ∧ I64 y.f1) := (St03.opens_Addr w).iso_ (fun x : S26 => (x.f0, x.f1)) (fun p => ⟨p.1, p.2⟩) (fun _ => rfl)
theorem opens_66 (w : World) : Opens Try.prog w 66 k66 (fun y => I64 y.f0 ∧ (I64 y.f1.f0 ∧ I64 y.f1.f1) ∧ I64 y.f2) :=
  (opens_struct3 Try.underlying66 rfl rfl rfl (by kernel_rfl) (by kernel_rfl) (by kernel_rfl) (by kernel_rfl) (opens_int Try.underlying3) (opens_26 w) (opens_int Try.underlying3)).iso_ (fun x : S66 => (x.f0, x.f1, x.f2)) (fun p => ⟨p.1, p.2.1, p.2.2⟩) (fun _ => rfl)
theorem opens_code (w : World) : Opens Try.prog w 57 (Kd.slice 66 k66) (SlQ fun y => I64 y.f0 ∧ (I64 y.f1.f0 ∧ I64 y.f1.f1) ∧ I64 y.f2) := opens_slice Try.underlying57 (by kernel_rfl) (opens_66 w)
theorem WfC.sl {l : List S66} (h : SlQ (fun y : S66 => I64 y.f0 ∧ (I64 y.f1.f0 ∧ I64 y.f1.f1) ∧ I64 y.f2) l) : WfC l := fun i hi => by
  unfold rd_T66
  rw [Int.toNat_natCast, List.getD_eq_getElem?_getD, List.getElem?_eq_getElem hi]
  exact (h.2 _ (List.getElem_mem hi)).1
end Go.Proofs.Ytjohdkbciafpfaa.Vm6
