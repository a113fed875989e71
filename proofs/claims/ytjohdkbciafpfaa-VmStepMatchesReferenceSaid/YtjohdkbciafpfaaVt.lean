/- Chapter 06: rows whose elements hold no rows: they hang on their own block alone. -/
import Derived.Test.YtjohdkbciafpfaaChg
import Derived.Test.YtjohdkbciafpfaaEv
namespace Go.Proofs.Ytjohdkbciafpfaa.Vm6
open Go.RowKit Go.Proofs.YtjohdkbciafpfaaW.PrintWords Go.Proofs.YtjohdkbciafpfaaW.PrintMore Go.Proofs.YtjohdkbciafpfaaW.PrintLast Go.Proofs.Ytjohdkbciafpfaa.Chg Go.Proofs.Ytjohdkbciafpfaa.Evt
set_option linter.unusedVariables false
section
variable {α : Type} {d : Kd α} {e base : Nat} {w w' : World} {ok S : Nat → Prop} {v : Value} {xs : List α}
theorem tight (hE : d.E = []) (h : d.R e w base ok v xs) : d.R e w base (fun k => some k = v.ownBlock) v xs := by
  obtain ⟨_, inner, ho, hr⟩ := h
  refine ⟨fun k hk => hk.symm, inner, ho, hr.imp_ fun _ _ hp => d.M_mono (fun k hk => ?_) (d.M_bound hp)⟩
  obtain ⟨_, _, _, q, hq, _⟩ := hk
  rw [hE] at hq
  cases hq
/-- Of a row's blocks only its own counts. -/
theorem turned (hE : d.E = []) (h : d.R e w base ok v xs) (hk : ∀ k, v.ownBlock = some k → w'.heap[k]? = w.heap[k]?) : d.R e w' base ok v xs :=
  Kd.R_mono (Kd.R_step (tight hE h) (fun k hk' _ => hk k hk'.symm)) (fun k hk' => h.1 k hk'.symm)
theorem turned_chg (hE : d.E = []) (h : d.R e w base ok v xs) (hc : Chg S w w') (hn : ∀ k, v.ownBlock = some k → ¬ S k) : d.R e w' base ok v xs :=
  turned hE h (fun k hk => hc.block k (Kd.R_lt h k hk) (hn k hk))
theorem reok {ok' : Nat → Prop} (hE : d.E = []) (h : d.R e w base ok v xs) (hk : ∀ k, v.ownBlock = some k → ok' k) : d.R e w base ok' v xs := Kd.R_mono (tight hE h) (fun k hk' => hk k hk'.symm)
end
end Go.Proofs.Ytjohdkbciafpfaa.Vm6
