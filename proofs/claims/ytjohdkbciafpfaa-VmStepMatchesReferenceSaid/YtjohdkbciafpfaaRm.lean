/- Chapter 06: the reference machine in memory: its block, its rows; what stays when one of its cells is written. -/
import Derived.Test.YtjohdkbciafpfaaRe1
namespace Go.Proofs.Ytjohdkbciafpfaa.Vm6
open Go.RowKit Go.Proofs.YtjohdkbciafpfaaW.PrintWords Go.Proofs.YtjohdkbciafpfaaW.PrintMore Go.Proofs.YtjohdkbciafpfaaW.PrintLast Go.Proofs.Ytjohdkbciafpfaa.Chg Go.Proofs.Ytjohdkbciafpfaa.Evt Go.Proofs.Ytjohdkbciafpfaa.Impl
set_option linter.unusedVariables false
set_option linter.unusedSimpArgs false
abbrev rcells (vC vI vQ vM vE vL : Value) (s : MS) : Array Value := #[vC, vI, vQ, vM, vE, .int .i64 s.pc, .bool s.acc, vL, .bool s.ended, .int .i64 s.fault]
/-- Block gm is a reference machine. V: its blocks. -/
structure Rm (w : World) (base : Nat) (V : Nat → Prop) (gm : Nat) (vC vI vQ vM vE vL : Value) (l : List S66) (li : List Bool) (s : MS) : Prop where
  bm : Bk w gm 83 (rcells vC vI vQ vM vE vL s)
  rc : Kd.R k66 66 w base V vC l
  ri : Kd.R Kd.bool 4 w base V vI li
  rq : Kd.R Kd.bool 4 w base V vQ s.q
  rm : Kd.R Kd.bool 4 w base V vM s.m
  re : Kd.R Kd.bool 4 w base V vE s.e
  rl : Kd.R Kd.bool 4 w base V vL s.st
  um : V gm
  ub : ∀ k, V k → base ≤ k ∧ k < w.heap.size
  fit : Fit l li s
  sl : s.st.length ≤ 64
def RmP (w : World) (base : Nat) (V : Nat → Prop) (gm : Nat) (l : List S66) (li : List Bool) (s : MS) : Prop := ∃ vC vI vQ vM vE vL, Rm w base V gm vC vI vQ vM vE vL l li s
section
variable {w w' w1 w2 : World} {base : Nat} {V V1 S : Nat → Prop} {gm : Nat} {vC vI vQ vM vE vL : Value} {l : List S66} {li : List Bool} {s s' s1 s2 : MS}
theorem Rm.hbase (h : Rm w base V gm vC vI vQ vM vE vL l li s) : base ≤ w.heap.size := Nat.le_of_lt (Nat.lt_of_le_of_lt (h.ub gm h.um).1 (h.ub gm h.um).2)
theorem Rm.chg (h : Rm w base V gm vC vI vQ vM vE vL l li s) (hc : Chg S w w') (hn : ∀ k, V k → ¬ S k) : Rm w' base V gm vC vI vQ vM vE vL l li s :=
  { h with
    bm := ⟨h.bm.blk.chg hc (hn _ h.um)⟩
    rc := turned_chg rfl h.rc hc (fun k hk => hn k (h.rc.1 k hk))
    ri := turned_chg rfl h.ri hc (fun k hk => hn k (h.ri.1 k hk))
    rq := turned_chg rfl h.rq hc (fun k hk => hn k (h.rq.1 k hk))
    rm := turned_chg rfl h.rm hc (fun k hk => hn k (h.rm.1 k hk))
    re := turned_chg rfl h.re hc (fun k hk => hn k (h.re.1 k hk))
    rl := turned_chg rfl h.rl hc (fun k hk => hn k (h.rl.1 k hk))
    ub := fun k hk => ⟨(h.ub k hk).1, Nat.lt_of_lt_of_le (h.ub k hk).2 hc.size⟩ }
theorem Rm.below (h : Rm w base V gm vC vI vQ vM vE vL l li s) (hb : Below w.heap.size w w') : Rm w' base V gm vC vI vQ vM vE vL l li s := h.chg (S := fun _ => False) (Chg.of_below hb) (fun _ _ x => x)
theorem RmP.chg (h : RmP w base V gm l li s) (hc : Chg S w w') (hn : ∀ k, V k → ¬ S k) : RmP w' base V gm l li s := by
  obtain ⟨vC, vI, vQ, vM, vE, vL, h⟩ := h
  exact ⟨vC, vI, vQ, vM, vE, vL, h.chg hc hn⟩
theorem RmP.below (h : RmP w base V gm l li s) (hb : Below w.heap.size w w') : RmP w' base V gm l li s := h.chg (S := fun _ => False) (Chg.of_below hb) (fun _ _ x => x)
theorem RmP.lt (h : RmP w base V gm l li s) : ∀ k, V k → base ≤ k ∧ k < w.heap.size := by
  obtain ⟨vC, vI, vQ, vM, vE, vL, h⟩ := h
  exact h.ub
theorem RmP.fit (h : RmP w base V gm l li s) : Fit l li s := by
  obtain ⟨vC, vI, vQ, vM, vE, vL, h⟩ := h
  exact h.fit
/-- What a step of the reference machine leaves. -/
structure Srp (w : World) (base : Nat) (V : Nat → Prop) (gm : Nat) (l : List S66) (li : List Bool) (s : MS) (w' : World) : Prop where
  out : ∃ V', RmP w' base V' gm l li s ∧ Chg V w w' ∧ ∀ k, V' k → V k ∨ w.heap.size ≤ k
theorem Srp.here (h : RmP w base V gm l li s) : Srp w base V gm l li s w := ⟨V, h, Chg.refl _ _, fun _ h => .inl h⟩
theorem Srp.below (h : Srp w base V gm l li s w1) (hb : Below w1.heap.size w1 w2) : Srp w base V gm l li s w2 := by
  obtain ⟨V', h1, h2, h3⟩ := h.out
  exact ⟨V', h1.below hb, h2.trans (Chg.of_below (S := fun _ => False) hb) (fun _ x => x.elim), h3⟩
theorem Srp.from (hb : Below w.heap.size w w1) (h : Srp w1 base V gm l li s w2) : Srp w base V gm l li s w2 := by
  obtain ⟨V', h1, h2, h3⟩ := h.out
  refine ⟨V', h1, (Chg.of_below (S := V) hb).trans h2 (fun i hi => .inl hi), fun k hk => (h3 k hk).imp id (fun h => ?_)⟩
  have := hb.size
  omega
theorem Srp.then (h : Srp w base V gm l li s1 w1) (hn : ∀ V', RmP w1 base V' gm l li s1 → Srp w1 base V' gm l li s2 w2) : Srp w base V gm l li s2 w2 := by
  obtain ⟨V1, h1, h2, h3⟩ := h.out
  obtain ⟨V2, k1, k2, k3⟩ := (hn V1 h1).out
  refine ⟨V2, k1, h2.trans k2 h3, fun k hk => ?_⟩
  have := h2.size
  rcases k3 k hk with hk | hk
  · exact h3 k hk
  · right; omega
/-- A row of the machine's: an old one, or one made since. -/
def RowOk (w w1 : World) (base : Nat) (V : Nat → Prop) (v : Value) (xs : List Bool) : Prop := Kd.R Kd.bool 4 w1 base (fun k => V k ∨ w.heap.size ≤ k) v xs
theorem RowOk.old {v : Value} {xs : List Bool} (h : Kd.R Kd.bool 4 w base V v xs) (hb : Below w.heap.size w w1) : RowOk w w1 base V v xs := Kd.R_mono (Kd.R_below h hb) (fun k hk => .inl hk)
theorem RowOk.new {v : Value} {xs : List Bool} {ok : Nat → Prop} (h : Kd.R Kd.bool 4 w1 w.heap.size ok v xs) (hB : base ≤ w.heap.size) : RowOk w w1 base V v xs := Kd.R_lower (reok rfl h (fun k hk => .inr (Kd.R_base h k hk))) hB
theorem grown_trans {row : Option Nat} (h : w.grownBy w1 row) (k : w1.grownBy w2 row) : w.grownBy w2 row := ⟨k.os.trans h.os, k.tape.trans h.tape, k.output.trans h.output, Nat.le_trans h.size k.size, fun i hi hn => (k.block i (Nat.lt_of_lt_of_le hi h.size) hn).trans (h.block i hi hn)⟩
/-- Cells of the machine's block have been written, rows of it replaced. -/
theorem Rm.turn {vQ' vM' vE' vL' : Value} (h : Rm w base V gm vC vI vQ vM vE vL l li s) (hb : Below w.heap.size w w1) (hg : w1.grownBy w2 (some gm)) (hk : Bk w2 gm 83 (rcells vC vI vQ' vM' vE' vL' s'))
    (hq : RowOk w w1 base V vQ' s'.q) (hm : RowOk w w1 base V vM' s'.m) (he : RowOk w w1 base V vE' s'.e) (hl : RowOk w w1 base V vL' s'.st) (f : Fit l li s') (sl : s'.st.length ≤ 64) : Srp w base V gm l li s' w2 := by
  have b1 : Bk w1 gm 83 (rcells vC vI vQ vM vE vL s) := h.bm.below hb
  have key : ∀ {α : Type} {d : Kd α} {e : TypeId} {v : Value} {xs : List α}, d.E = [] → e ≠ 83 → d.R e w1 base (fun k => V k ∨ w.heap.size ≤ k) v xs → d.R e w2 base (fun k => (V k ∨ w.heap.size ≤ k) ∧ k < w2.heap.size) v xs := fun {α d e v xs} hE hT hr => by
    have hr2 := turned hE hr (fun k hk => hg.block k (Kd.R_lt hr k hk) (fun e_ => Kd.R_ne hr b1.blk hT (by rw [← e_]; exact hk.symm)))
    exact reok hE hr2 (fun k hk => ⟨hr.1 k hk, Kd.R_lt hr2 k hk⟩)
  have old : ∀ {α : Type} {d : Kd α} {e : TypeId} {v : Value} {xs : List α}, d.E = [] → d.R e w base V v xs → d.R e w1 base (fun k => V k ∨ w.heap.size ≤ k) v xs := fun {α d e v xs} hE hr => Kd.R_mono (Kd.R_below hr hb) (fun k hk => .inl hk)
  have hsz : w.heap.size ≤ w2.heap.size := Nat.le_trans hb.size hg.size
  refine ⟨fun k => (V k ∨ w.heap.size ≤ k) ∧ k < w2.heap.size, ⟨vC, vI, vQ', vM', vE', vL', {
    bm := hk
    rc := key rfl (by decide) (old rfl h.rc)
    ri := key rfl (by decide) (old rfl h.ri)
    rq := key rfl (by decide) hq
    rm := key rfl (by decide) hm
    re := key rfl (by decide) he
    rl := key rfl (by decide) hl
    um := ⟨.inl h.um, Nat.lt_of_lt_of_le (h.ub gm h.um).2 hsz⟩
    ub := fun k hk => ⟨hk.1.elim (fun hv => (h.ub k hv).1) (fun hw => Nat.le_trans h.hbase hw), hk.2⟩
    fit := f
    sl := sl }⟩, ?_, fun k hk => hk.1⟩
  exact (Chg.of_below (S := V) hb).trans (Chg.of_grown (S := V) hg (fun k hk => by cases hk; exact .inl h.um)) (fun i hi => .inl hi)
/-- Nothing but plain cells has been written. -/
theorem Rm.plain (h : Rm w base V gm vC vI vQ vM vE vL l li s) (hb : Below w.heap.size w w1) (hg : w1.grownBy w2 (some gm)) (hk : Bk w2 gm 83 (rcells vC vI vQ vM vE vL s')) (hq : s'.q = s.q) (hm : s'.m = s.m) (he : s'.e = s.e) (hl : s'.st = s.st) (p0 : -1 ≤ s'.pc) (p1 : s'.pc ≤ 20000) : Srp w base V gm l li s' w2 :=
  h.turn hb hg hk (by rw [hq]; exact RowOk.old h.rq hb) (by rw [hm]; exact RowOk.old h.rm hb) (by rw [he]; exact RowOk.old h.re hb) (by rw [hl]; exact RowOk.old h.rl hb) (by have f := h.fit; exact ⟨hq ▸ f.q, hm ▸ f.m, he ▸ f.e, f.i, f.c, p0, p1⟩) (by rw [hl]; exact h.sl)
theorem Rm.forms (h : Rm w base V gm vC vI vQ vM vE vL l li s) : ∃ AC cC AI cI AQ cQ AM cM AE cE AL cL, vC = .slice AC l.length cC ∧ vI = .slice AI li.length cI ∧ vQ = .slice AQ s.q.length cQ ∧ vM = .slice AM s.m.length cM ∧ vE = .slice AE s.e.length cE ∧ vL = .slice AL s.st.length cL := by
  obtain ⟨AC, cC, h0⟩ := Kd.R_slice h.rc
  obtain ⟨AI, cI, h1⟩ := Kd.R_slice h.ri
  obtain ⟨AQ, cQ, h2⟩ := Kd.R_slice h.rq
  obtain ⟨AM, cM, h3⟩ := Kd.R_slice h.rm
  obtain ⟨AE, cE, h4⟩ := Kd.R_slice h.re
  obtain ⟨AL, cL, h5⟩ := Kd.R_slice h.rl
  exact ⟨AC, cC, AI, cI, AQ, cQ, AM, cM, AE, cE, AL, cL, h0, h1, h2, h3, h4, h5⟩
theorem Rm.sb {AQ AM AE : Option Addr} {cQ cM cE : Nat} (h : Rm w base V gm vC vI (.slice AQ s.q.length cQ) (.slice AM s.m.length cM) (.slice AE s.e.length cE) vL l li s) : Sb w AQ cQ AM cM AE cE s.q s.m s.e := ⟨⟨Rw.of_R h.rq, Rw.of_R h.rm, Rw.of_R h.re⟩, h.fit.q, h.fit.m, h.fit.e⟩
end
end Go.Proofs.Ytjohdkbciafpfaa.Vm6
