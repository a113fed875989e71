/- A rung as an argument. -/
import Derived.Test.YtmacdknicgfglaaOpz
import Derived.Test.YtmacdknicgfglaaGn
namespace Go.Proofs.Ytmacdknicgfglaa.Gw
open Go.RowKit Go.Proofs.YtmacdknicgfglaaW.PrintWords Go.Proofs.YtmacdknicgfglaaW.PrintMore Go.Proofs.Ytmacdknicgfglaa.Evt Go.Proofs.Ytmacdknicgfglaa.Impl Go.Proofs.Ytmacdknicgfglaa.Gp Go.Proofs.Ytmacdknicgfglaa.Open
set_option linter.unusedVariables false
abbrev KRung : Kd (ByteArray × List S41 × List S101 × ByteArray) := Kd.pair Kd.string (Kd.pair (Kd.slice 41 k41) (Kd.pair (Kd.slice 101 k101) Kd.string))
/-- The strings of a rung's contacts are no longer than the statement's reach. -/
def SzR (l : List S41) : Prop := ∀ c ∈ l, c.f2.size ≤ reachBytes ∧ c.f3.size ≤ reachBytes
theorem opens_i (w : World) : OpensZ Try.prog w 3 (Kd.int .i64) (fun _ => True) := ((opens_int Try.underlying3).imp_ (fun _ _ => trivial)).z
theorem opens_A (w : World) : OpensZ Try.prog w 39 k39 (fun _ => True) :=
  (((opens_struct2 Try.underlying39 rfl rfl (by kernel_rfl) (by kernel_rfl) (by kernel_rfl) (opens_int Try.underlying3) (opens_int Try.underlying3)).iso_ (fun x : S39 => (x.f0, x.f1)) (fun y => ⟨y.1, y.2⟩) (fun _ => rfl)).imp_ (fun _ _ => trivial)).z
theorem opens_C (w : World) : OpensZ Try.prog w 41 k41 (fun y => True ∧ True ∧ y.f2.size ≤ reachBytes ∧ y.f3.size ≤ reachBytes) :=
  (opensZ_struct4 Try.underlying41 rfl rfl rfl rfl (by kernel_rfl) (by kernel_rfl) (by kernel_rfl) (by kernel_rfl) (by kernel_rfl) (opens_i w) (opens_A w) (opensZ_string Try.underlying9) (opensZ_string Try.underlying9)).iso_ (fun x : S41 => (x.f0, x.f1, x.f2, x.f3)) (fun y => ⟨y.1, y.2.1, y.2.2.1, y.2.2.2⟩) (fun _ => rfl)
theorem opens_O (w : World) : OpensZ Try.prog w 101 k101 (fun _ => True) :=
  (((opens_struct2 Try.underlying101 rfl rfl (by kernel_rfl) (by kernel_rfl) (by kernel_rfl) (opens_int Try.underlying3) ((opens_struct2 Try.underlying39 rfl rfl (by kernel_rfl) (by kernel_rfl) (by kernel_rfl) (opens_int Try.underlying3) (opens_int Try.underlying3)).iso_ (fun x : S39 => (x.f0, x.f1)) (fun y => ⟨y.1, y.2⟩) (fun _ => rfl))).iso_ (fun x : S101 => (x.f0, x.f1)) (fun y => ⟨y.1, y.2⟩) (fun _ => rfl)).imp_ (fun _ _ => trivial)).z
abbrev QRung (y : ByteArray × List S41 × List S101 × ByteArray) : Prop := y.1.size ≤ reachBytes ∧ SlQ (fun c : S41 => True ∧ True ∧ c.f2.size ≤ reachBytes ∧ c.f3.size ≤ reachBytes) y.2.1 ∧ SlQ (fun _ => True) y.2.2.1 ∧ y.2.2.2.size ≤ reachBytes
theorem opens_Rung (w : World) : OpensZ Try.prog w 25 KRung QRung :=
  opensZ_struct4 Try.underlying25 rfl rfl rfl rfl (by kernel_rfl) (by kernel_rfl) (by kernel_rfl) (by kernel_rfl) (by kernel_rfl) (opensZ_string Try.underlying9)
    (opensZ_slice Try.underlying22 (by kernel_rfl) (opens_C w)) (opensZ_slice Try.underlying23 (by kernel_rfl) (opens_O w)) (opensZ_string Try.underlying9)
/-- A rung's cells, its rows at hand. -/
theorem rung_form {w : World} {y : ByteArray × List S41 × List S101 × ByteArray} {cs : List Value} (h : KRung.K w y cs) (hq : QRung y) : ∃ A1 c1 A2 c2, cs = [.string y.1, .slice A1 y.2.1.length c1, .slice A2 y.2.2.1.length c2, .string y.2.2.2] ∧ Rg w A1 c1 y.2.1 A2 c2 y.2.2.1 ∧ SzR y.2.1 := by
  obtain ⟨u0, u1, rfl, h0, v1, v2, rfl, ⟨A1, c1, rfl, l1, r1⟩, z1, z2, rfl, ⟨A2, c2, rfl, l2, r2⟩, h3⟩ := h
  obtain rfl : u0 = [.string y.1] := h0
  obtain rfl : z2 = [.string y.2.2.2] := h3
  exact ⟨A1, c1, A2, c2, rfl, ⟨r1, l1, r2, l2⟩, fun c hc => (hq.2.1.2 c hc).2.2⟩
end Go.Proofs.Ytmacdknicgfglaa.Gw
