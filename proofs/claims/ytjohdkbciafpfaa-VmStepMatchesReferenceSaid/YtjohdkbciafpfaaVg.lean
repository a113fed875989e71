/- Chapter 06: the reference's Equal of states. -/
import Derived.Test.YtjohdkbciafpfaaVw
import Derived.Test.YtjohdkbciafpfaaImpl12
namespace Go.Proofs.Ytjohdkbciafpfaa.Vm6
open Go.RowKit Go.Proofs.YtjohdkbciafpfaaW.PrintWords Go.Proofs.YtjohdkbciafpfaaW.PrintMore Go.Proofs.YtjohdkbciafpfaaW.PrintLast Go.Proofs.Ytjohdkbciafpfaa.Chg Go.Proofs.Ytjohdkbciafpfaa.Evt Go.Proofs.Ytjohdkbciafpfaa.Impl Go.Proofs.Ytjohdkbciafpfaa.Pimg
set_option linter.unusedVariables false
set_option linter.unusedSimpArgs false
def eqv (l0 l1 l2 m0 m1 m2 : List Bool) : Bool := decide (l0 = m0) && decide (l1 = m1) && decide (l2 = m2)
theorem equalR (l0 l1 l2 m0 m1 m2 : List Bool) (h0 : l0.length ≤ 20000) (h1 : l1.length ≤ 20000) (h2 : l2.length ≤ 20000) : Ev (fun k => busbarref03_Equal.f k l0 l1 l2 m0 m1 m2) (eqv l0 l1 l2 m0 m1 m2) := by
  unfold eqv
  refine Ev.bind (refEqual_ev l0 m0 (by omega)) ?_
  by_cases e0 : l0 = m0
  · refine Ev.congr (fun k => if_pos (by simp [e0])) ?_
    refine Ev.bind (refEqual_ev l1 m1 (by omega)) ?_
    by_cases e1 : l1 = m1
    · refine Ev.congr (fun k => if_pos (by simp [e1])) ?_
      refine Ev.bind (refEqual_ev l2 m2 (by omega)) ?_
      simpa [e0, e1] using Ev.now (decide (l2 = m2))
    · refine Ev.congr (fun k => if_neg (by simp [e1])) ?_
      simpa [e0, e1] using Ev.now false
  · refine Ev.congr (fun k => if_neg (by simp [e0])) ?_
    simpa [e0] using Ev.now false
section
variable {A A0 A1 A2 B0 B1 B2 : Option Addr} {c c0 c1 c2 d0 d1 d2 : Nat} {l l0 l1 l2 m0 m1 m2 : List Bool} {w w' : World}
theorem equalRC (h : Sb w A0 c0 A1 c1 A2 c2 l0 l1 l2) (h' : Sb w B0 d0 B1 d1 B2 d2 m0 m1 m2) :
    Calls Try.prog 22 #[.agg #[.slice A0 l0.length c0, .slice A1 l1.length c1, .slice A2 l2.length c2], .agg #[.slice B0 m0.length d0, .slice B1 m1.length d1, .slice B2 m2.length d2]] w fun e w' => e = .returned (.bool (eqv l0 l1 l2 m0 m1 m2)) ∧ Below w.heap.size w w' := by
  obtain ⟨k, e⟩ := (equalR l0 l1 l2 m0 m1 m2 h.b0 h.b1 h.b2).rounds
  exact busbarref03_Equal.calls k _ _ l0 _ _ l1 _ _ l2 _ _ m0 _ _ m1 _ _ m2 _ w h.sr.r0.row h.sr.r0.cap h.sr.r1.row h.sr.r1.cap h.sr.r2.row h.sr.r2.cap h'.sr.r0.row h'.sr.r0.cap h'.sr.r1.row h'.sr.r1.cap h'.sr.r2.row h'.sr.r2.cap e
theorem eqv_self (l0 l1 l2 : List Bool) : eqv l0 l1 l2 l0 l1 l2 = true := by simp [eqv]
/-- Two states that read alike. -/
theorem equalS (h : Sb w A0 c0 A1 c1 A2 c2 l0 l1 l2) (h' : Sb w B0 d0 B1 d1 B2 d2 l0 l1 l2) : Calls Try.prog 22 #[.agg #[.slice A0 l0.length c0, .slice A1 l1.length c1, .slice A2 l2.length c2], .agg #[.slice B0 l0.length d0, .slice B1 l1.length d1, .slice B2 l2.length d2]] w fun e w' => e = .returned (.bool true) ∧ Below w.heap.size w w' := (eqv_self l0 l1 l2) ▸ equalRC h h'
end
end Go.Proofs.Ytjohdkbciafpfaa.Vm6
