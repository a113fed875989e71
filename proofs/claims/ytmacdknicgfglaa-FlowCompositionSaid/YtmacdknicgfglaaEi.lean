/- slices.Equal at int. -/
import Derived.Test.YtmacdknicgfglaaAl
import Derived.Test.YtmacdknicgfglaaTl
import Derived.Test.YtmacdknicgfglaaIm0
namespace Go.Proofs.Ytmacdknicgfglaa.Gw
open Go.RowKit Go.Shelf Go.Proofs.YtmacdknicgfglaaW.PrintWords Go.Proofs.YtmacdknicgfglaaW.PrintMore Go.Proofs.YtmacdknicgfglaaW.PrintLast Go.Proofs.Ytmacdknicgfglaa.Chg Go.Proofs.Ytmacdknicgfglaa.Evt Go.Proofs.Ytmacdknicgfglaa.Impl Go.Proofs.Ytmacdknicgfglaa.Gp Go.Proofs.Ytmacdknicgfglaa.Mp Go.Proofs.Ytmacdknicgfglaa.Open
open Go.Proofs.Ytmacdknicgfglaa.Pe (tl)
set_option linter.unusedVariables false
set_option linter.unusedSimpArgs false
set_option maxRecDepth 100000
theorem eqI_any (A0 : Option Addr) (c0 : Nat) (l0 : List Int) (A1 : Option Addr) (c1 : Nat) (l1 : List Int) (w : World) (h0 : Rw (Kd.int .i64) w A0 c0 l0) (h1 : Rw (Kd.int .i64) w A1 c1 l1) (hn : l0.length ≤ 1000000) {r : Bool} (hr : decide (l0 = l1) = r) :
    Calls Try.prog 20 #[.slice A0 l0.length c0, .slice A1 l1.length c1] w fun e w' => e = .returned (.bool r) ∧ Below w.heap.size w w' := by
  subst hr
  obtain ⟨k, hk⟩ := (Pe.eqI_ev l0 l1 (by omega)).rounds
  exact (slices_Equal_int_int.calls k A0 c0 l0 A1 c1 l1 _ w h0.row h0.cap h1.row h1.cap hk).mono (by rintro e w' ⟨rfl, ⟨n, rfl⟩⟩; exact ⟨rfl, pw_below_drewN (Below.refl _ _) n⟩)
end Go.Proofs.Ytmacdknicgfglaa.Gw
