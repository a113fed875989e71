/- Chapter 03: the reference's Clone. -/
import Derived.Test.YtjohdkbciafpfaaConA
import Derived.Test.YtjohdkbciafpfaaImpl9
namespace Go.Proofs.Ytjohdkbciafpfaa.St03
open Go.RowKit Go.Proofs.YtjohdkbciafpfaaW.PrintWords Go.Proofs.YtjohdkbciafpfaaW.PrintMore Go.Proofs.YtjohdkbciafpfaaW.PrintLast Go.Proofs.Ytjohdkbciafpfaa.Chg Go.Proofs.Ytjohdkbciafpfaa.Evt Go.Proofs.Ytjohdkbciafpfaa.Impl Go.Proofs.Ytjohdkbciafpfaa.Pimg
set_option linter.unusedVariables false
set_option linter.unusedSimpArgs false
theorem cloneR (l0 l1 l2 : List Bool) (h0 : l0.length ≤ 20000) (h1 : l1.length ≤ 20000) (h2 : l2.length ≤ 20000) : busbarref03_Clone.f l0 l1 l2 = some (l0, l1, l2) := by
  unfold busbarref03_Clone.f
  simp only [Option.bind_some, List.length_nil, List.nil_append, Nat.zero_add]
  rw [if_pos (by omega), if_pos (by omega), if_pos (by omega)]
section
variable {A A0 A1 A2 B0 B1 B2 : Option Addr} {c c0 c1 c2 d0 d1 d2 : Nat} {l l0 l1 l2 m0 m1 m2 : List Bool} {w w' : World}
theorem cloneRC (h : Sb w A0 c0 A1 c1 A2 c2 l0 l1 l2) : Calls Try.prog 23 #[.agg #[.slice A0 l0.length c0, .slice A1 l1.length c1, .slice A2 l2.length c2]] w fun x w' => Gives1 w x w' l0 l1 l2 :=
  (busbarref03_Clone.calls _ _ l0 _ _ l1 _ _ l2 _ _ _ w h.sr.r0.row h.sr.r0.cap h.sr.r1.row h.sr.r1.cap h.sr.r2.row h.sr.r2.cap (cloneR l0 l1 l2 h.b0 h.b1 h.b2)).mono fun x w' ⟨v0, v1, v2, hx, q0, q1, q2, hb⟩ => by
    have ho : Own3 w' w.heap.size v0 v1 v2 _ _ _ := ⟨q0, q1, q2⟩
    obtain ⟨X0, x0, X1, x1, X2, x2, rfl, rfl, rfl⟩ := ho.form
    exact ⟨_, _, _, _, _, _, hx, ho, hb⟩
end
end Go.Proofs.Ytjohdkbciafpfaa.St03
