/- Chapter 06, plainly: the machine's state, one instruction, one step, a run. No program in sight. -/
import Derived.Test.YtjohdkbciafpfaaVc
namespace Go.Proofs.Ytjohdkbciafpfaa.Vm6
open Go.RowKit Go.Proofs.YtjohdkbciafpfaaW.PrintWords Go.Proofs.Ytjohdkbciafpfaa.Impl
set_option linter.unusedVariables false
set_option linter.unusedSimpArgs false
/-- A machine's state. -/
structure MS where
  q : List Bool
  m : List Bool
  e : List Bool
  pc : Int
  acc : Bool
  st : List Bool
  ended : Bool
  fault : Int
/-- What a load or combine instruction makes of the accumulator and the bit. -/
def comb (k : Int) (c v : Bool) : Bool := if k = 0 then v else if k = 1 then !v else if k = 2 then c && v else if k = 3 then c && !v else if k = 4 then c || v else c || !v
/-- What a coil writes, and whether it does. -/
def cv (k : Int) (c : Bool) : Bool := if k = 12 then !c else if k = 14 then false else c
def cw (k : Int) (c : Bool) : Bool := if k = 13 then c else if k = 14 then c else true
/-- One instruction: its error, the next program counter, and the state otherwise. -/
def core (n : Nat) (li : List Bool) (k a b j : Int) (s : MS) : Int × Int × MS :=
  if 0 ≤ k ∧ k ≤ 5 then
    if (rdv li s.q s.m a b).2 = 0 then (0, s.pc + 1, { s with acc := comb k s.acc (rdv li s.q s.m a b).1 }) else ((rdv li s.q s.m a b).2, s.pc + 1, s)
  else if k = 6 ∨ k = 7 then
    if (rdv li s.q s.m a b).2 = 0 then
      if 0 ≤ j ∧ j < s.e.length then (0, s.pc + 1, { s with acc := ((rdv li s.q s.m a b).1 != rdOf false s.e j) && ((rdv li s.q s.m a b).1 == (k == 6)), e := s.e.set j.toNat (rdv li s.q s.m a b).1 })
      else (3, s.pc + 1, s)
    else ((rdv li s.q s.m a b).2, s.pc + 1, s)
  else if k = 8 then
    if s.st.length = 64 then (10, 0, s) else (0, s.pc + 1, { s with st := s.st ++ [s.acc] })
  else if k = 9 ∨ k = 10 then
    match s.st.getLast? with
    | none => (18, s.pc + 1, s)
    | some v => (0, s.pc + 1, { s with st := s.st.dropLast, acc := if k = 9 then v && s.acc else v || s.acc })
  else if 11 ≤ k ∧ k ≤ 14 then
    if (wrv s.q s.m s.e a b (cv k s.acc)).2.2.2 = 0 then
      (0, s.pc + 1, if cw k s.acc = true then { s with q := (wrv s.q s.m s.e a b (cv k s.acc)).1, m := (wrv s.q s.m s.e a b (cv k s.acc)).2.1, e := (wrv s.q s.m s.e a b (cv k s.acc)).2.2.1 } else s)
    else ((wrv s.q s.m s.e a b (cv k s.acc)).2.2.2, s.pc + 1, s)
  else if k = 15 then
    if 0 ≤ j ∧ j < n then if s.pc < j then (0, if s.acc = true then j else s.pc + 1, s) else (17, 0, s) else (3, 0, s)
  else if k = 16 then (0, s.pc, { s with ended := true })
  else (8, 0, s)
/-- One step: what it returns, and the state behind it. -/
def stepV (l : List S66) (li : List Bool) (s : MS) : (Bool × Int) × MS :=
  if s.ended = true then ((false, s.fault), s)
  else if (l.length : Int) ≤ s.pc then ((false, 5), { s with ended := true, fault := 5 })
  else
    if (core l.length li (rd_T66 l s.pc).f0 (rd_T66 l s.pc).f1.f0 (rd_T66 l s.pc).f1.f1 (rd_T66 l s.pc).f2 s).1 = 0 then
      ((!(core l.length li (rd_T66 l s.pc).f0 (rd_T66 l s.pc).f1.f0 (rd_T66 l s.pc).f1.f1 (rd_T66 l s.pc).f2 s).2.2.ended, 0),
        { (core l.length li (rd_T66 l s.pc).f0 (rd_T66 l s.pc).f1.f0 (rd_T66 l s.pc).f1.f1 (rd_T66 l s.pc).f2 s).2.2 with pc := (core l.length li (rd_T66 l s.pc).f0 (rd_T66 l s.pc).f1.f0 (rd_T66 l s.pc).f1.f1 (rd_T66 l s.pc).f2 s).2.1 })
    else ((false, (core l.length li (rd_T66 l s.pc).f0 (rd_T66 l s.pc).f1.f0 (rd_T66 l s.pc).f1.f1 (rd_T66 l s.pc).f2 s).1), { s with ended := true, fault := (core l.length li (rd_T66 l s.pc).f0 (rd_T66 l s.pc).f1.f0 (rd_T66 l s.pc).f1.f1 (rd_T66 l s.pc).f2 s).1 })
/-- At most f steps; n have been carried out before. -/
def runV (l : List S66) (li : List Bool) : Nat → MS → Nat → MS × Nat
  | 0, s, n => (s, n)
  | f + 1, s, n => if (stepV l li s).1.1 = true then runV l li f (stepV l li s).2 (if (stepV l li s).1.2 = 0 then n + 1 else n) else ((stepV l li s).2, if (stepV l li s).1.2 = 0 then n + 1 else n)
/-- The state at the start. -/
def ini (q m e : List Bool) : MS := ⟨q, m, e, 0, false, [], false, 0⟩
end Go.Proofs.Ytjohdkbciafpfaa.Vm6
