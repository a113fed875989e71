/- Chapter 06: a machine in memory: its block, its stack, its rows, which lie apart; what stays when one of them is written. -/
import Derived.Test.YtjohdkbciafpfaaVp
import Derived.Test.YtjohdkbciafpfaaStkBool
namespace Go.Proofs.Ytjohdkbciafpfaa.Vm6
open Go.RowKit Go.Proofs.YtjohdkbciafpfaaW.PrintWords Go.Proofs.YtjohdkbciafpfaaW.PrintMore Go.Proofs.YtjohdkbciafpfaaW.PrintLast Go.Proofs.Ytjohdkbciafpfaa.Chg Go.Proofs.Ytjohdkbciafpfaa.Evt Go.Proofs.Ytjohdkbciafpfaa.Impl Go.Proofs.Ytjohdkbciafpfaa.StkBool
set_option linter.unusedVariables false
set_option linter.unusedSimpArgs false
theorem typ {e t : Nat} {E : List Nat} (hE : E = []) (h : e ≠ t) : ∀ q, q ∈ e :: E → q ≠ t := by
  intro q hq
  subst hE
  rw [List.mem_singleton.1 hq]
  exact h
abbrev mcells (vC vI vQ vM vE : Value) (gt : Nat) (s : MS) : Array Value := #[vC, vI, vQ, vM, vE, .int .i64 s.pc, .bool s.acc, .pointer (some ⟨gt, 0, none⟩), .bool s.ended, .int .i64 s.fault]
/-- None too long. -/
structure Fit (l : List S66) (li : List Bool) (s : MS) : Prop where
  q : s.q.length ≤ 20000
  m : s.m.length ≤ 20000
  e : s.e.length ≤ 20000
  i : li.length ≤ 20000
  c : l.length ≤ 20000
  p0 : -1 ≤ s.pc
  p1 : s.pc ≤ 20000
/-- Block gm is a machine. U: its blocks. -/
structure Vm (w : World) (base : Nat) (U : Nat → Prop) (gm gt : Nat) (vC vI vQ vM vE vL : Value) (mo : Nat) (l : List S66) (li : List Bool) (s : MS) : Prop where
  bm : Bk w gm 98 (mcells vC vI vQ vM vE gt s)
  st : StkBool.St w base gt vL s.st 64 mo
  rc : Kd.R k66 66 w base U vC l
  ri : Kd.R Kd.bool 4 w base U vI li
  rq : Kd.R Kd.bool 4 w base U vQ s.q
  rm : Kd.R Kd.bool 4 w base U vM s.m
  re : Kd.R Kd.bool 4 w base U vE s.e
  ul : ∀ k, vL.ownBlock = some k → U k
  um : U gm
  ut : U gt
  ub : ∀ k, U k → base ≤ k ∧ k < w.heap.size
  ei : ∀ k, vE.ownBlock = some k → vI.ownBlock ≠ some k
  eq : ∀ k, vE.ownBlock = some k → vQ.ownBlock ≠ some k
  em : ∀ k, vE.ownBlock = some k → vM.ownBlock ≠ some k
  el : ∀ k, vE.ownBlock = some k → vL.ownBlock ≠ some k
  ni : ∀ k, vL.ownBlock = some k → vI.ownBlock ≠ some k
  nq : ∀ k, vL.ownBlock = some k → vQ.ownBlock ≠ some k
  nm : ∀ k, vL.ownBlock = some k → vM.ownBlock ≠ some k
  fit : Fit l li s
def VmP (w : World) (base : Nat) (U : Nat → Prop) (gm : Nat) (l : List S66) (li : List Bool) (s : MS) : Prop := ∃ gt vC vI vQ vM vE vL mo, Vm w base U gm gt vC vI vQ vM vE vL mo l li s
section
variable {w w' w1 w2 : World} {base : Nat} {U U1 S : Nat → Prop} {gm gt mo : Nat} {vC vI vQ vM vE vL : Value} {l : List S66} {li : List Bool} {s s' s1 s2 : MS}
theorem Vm.hbase (h : Vm w base U gm gt vC vI vQ vM vE vL mo l li s) : base ≤ w.heap.size := h.st.hbase
/-- What leaves the machine's blocks alone. -/
theorem Vm.chg (h : Vm w base U gm gt vC vI vQ vM vE vL mo l li s) (hc : Chg S w w') (hn : ∀ k, U k → ¬ S k) : Vm w' base U gm gt vC vI vQ vM vE vL mo l li s :=
  { h with
    bm := ⟨h.bm.blk.chg hc (hn _ h.um)⟩
    st := h.st.chg hc (hn _ h.ut) (fun k hk => hn k (h.ul k hk.symm))
    rc := turned_chg rfl h.rc hc (fun k hk => hn k (h.rc.1 k hk))
    ri := turned_chg rfl h.ri hc (fun k hk => hn k (h.ri.1 k hk))
    rq := turned_chg rfl h.rq hc (fun k hk => hn k (h.rq.1 k hk))
    rm := turned_chg rfl h.rm hc (fun k hk => hn k (h.rm.1 k hk))
    re := turned_chg rfl h.re hc (fun k hk => hn k (h.re.1 k hk))
    ub := fun k hk => ⟨(h.ub k hk).1, Nat.lt_of_lt_of_le (h.ub k hk).2 hc.size⟩ }
theorem Vm.below (h : Vm w base U gm gt vC vI vQ vM vE vL mo l li s) (hb : Below w.heap.size w w') : Vm w' base U gm gt vC vI vQ vM vE vL mo l li s := h.chg (S := fun _ => False) (Chg.of_below hb) (fun _ _ x => x)
theorem VmP.chg (h : VmP w base U gm l li s) (hc : Chg S w w') (hn : ∀ k, U k → ¬ S k) : VmP w' base U gm l li s := by
  obtain ⟨gt, vC, vI, vQ, vM, vE, vL, mo, h⟩ := h
  exact ⟨gt, vC, vI, vQ, vM, vE, vL, mo, h.chg hc hn⟩
theorem VmP.below (h : VmP w base U gm l li s) (hb : Below w.heap.size w w') : VmP w' base U gm l li s := h.chg (S := fun _ => False) (Chg.of_below hb) (fun _ _ x => x)
/-- A cell of the machine's block is written. -/
theorem Vm.cell (h : Vm w base U gm gt vC vI vQ vM vE vL mo l li s) (i : Nat) (u : Value) (hc : (mcells vC vI vQ vM vE gt s).setIfInBounds i u = mcells vC vI vQ vM vE gt s') (hq : s'.q = s.q) (hm : s'.m = s.m) (he : s'.e = s.e) (hs : s'.st = s.st) (p0 : -1 ≤ s'.pc) (p1 : s'.pc ≤ 20000) : Vm (w.setCell ⟨gm, i, none⟩ u) base U gm gt vC vI vQ vM vE vL mo l li s' := by
  have hC : Chg (· = gm) w (w.setCell ⟨gm, i, none⟩ u) := (Chg.refl (fun x => x = gm) w).setCell (p := ⟨gm, i, none⟩) (.inl rfl) u
  refine { h with
    bm := ⟨hc ▸ h.bm.blk.set_ i u⟩
    st := ?_
    rc := Kd.R_set h.rc h.bm.blk (typ rfl (by decide)) i u
    ri := Kd.R_set h.ri h.bm.blk (typ rfl (by decide)) i u
    rq := ?_, rm := ?_, re := ?_
    ub := fun k hk => ⟨(h.ub k hk).1, Nat.lt_of_lt_of_le (h.ub k hk).2 hC.size⟩
    fit := ?_ }
  · rw [hs]
    refine h.st.chg hC ?_ ?_
    · exact fun e => h.st.blk.ne_ h.bm.blk (by decide) e
    · intro k hk e
      exact Kd.R_ne h.st.row h.bm.blk (by decide) (by rw [← e]; exact hk)
  · rw [hq]; exact Kd.R_set h.rq h.bm.blk (typ rfl (by decide)) i u
  · rw [hm]; exact Kd.R_set h.rm h.bm.blk (typ rfl (by decide)) i u
  · rw [he]; exact Kd.R_set h.re h.bm.blk (typ rfl (by decide)) i u
  · have f := h.fit
    exact ⟨hq ▸ f.q, hm ▸ f.m, he ▸ f.e, f.i, f.c, p0, p1⟩
/-- What a step of the machine leaves: the machine, and all that is not its own. -/
structure Stp (w : World) (base : Nat) (U : Nat → Prop) (gm : Nat) (l : List S66) (li : List Bool) (s : MS) (w' : World) : Prop where
  out : ∃ U', VmP w' base U' gm l li s ∧ Chg U w w' ∧ ∀ k, U' k → U k ∨ w.heap.size ≤ k
theorem Stp.here (h : VmP w base U gm l li s) : Stp w base U gm l li s w := ⟨U, h, Chg.refl _ _, fun _ h => .inl h⟩
theorem Stp.below (h : Stp w base U gm l li s w1) (hb : Below w1.heap.size w1 w2) : Stp w base U gm l li s w2 := by
  obtain ⟨U', h1, h2, h3⟩ := h.out
  exact ⟨U', h1.below hb, h2.trans (Chg.of_below (S := fun _ => False) hb) (fun _ x => x.elim), h3⟩
/-- Behind what makes memory alone. -/
theorem Stp.from (hb : Below w.heap.size w w1) (h : Stp w1 base U gm l li s w2) : Stp w base U gm l li s w2 := by
  obtain ⟨U', h1, h2, h3⟩ := h.out
  refine ⟨U', h1, (Chg.of_below (S := U) hb).trans h2 (fun i hi => .inl hi), fun k hk => (h3 k hk).imp id (fun h => ?_)⟩
  have := hb.size
  omega
theorem Stp.then (h : Stp w base U gm l li s1 w1) (hn : ∀ U', VmP w1 base U' gm l li s1 → Stp w1 base U' gm l li s2 w2) : Stp w base U gm l li s2 w2 := by
  obtain ⟨U1, h1, h2, h3⟩ := h.out
  obtain ⟨U2, k1, k2, k3⟩ := (hn U1 h1).out
  refine ⟨U2, k1, h2.trans k2 h3, fun k hk => ?_⟩
  have := h2.size
  rcases k3 k hk with hk | hk
  · exact h3 k hk
  · right; omega
/-- A cell of the machine's block is written. -/
theorem Vm.stp (h : Vm w base U gm gt vC vI vQ vM vE vL mo l li s) (i : Nat) (u : Value) (hc : (mcells vC vI vQ vM vE gt s).setIfInBounds i u = mcells vC vI vQ vM vE gt s') (hq : s'.q = s.q) (hm : s'.m = s.m) (he : s'.e = s.e) (hs : s'.st = s.st) (p0 : -1 ≤ s'.pc) (p1 : s'.pc ≤ 20000) : Stp w base U gm l li s' (w.setCell ⟨gm, i, none⟩ u) :=
  ⟨U, ⟨_, _, _, _, _, _, _, _, h.cell i u hc hq hm he hs p0 p1⟩, (Chg.refl U w).setCell (p := ⟨gm, i, none⟩) (.inl h.um) u, fun _ h => .inl h⟩
theorem Vm.setAcc (h : Vm w base U gm gt vC vI vQ vM vE vL mo l li s) (c : Bool) : Vm (w.setCell ⟨gm, 6, none⟩ (.bool c)) base U gm gt vC vI vQ vM vE vL mo l li { s with acc := c } := h.cell 6 _ rfl rfl rfl rfl rfl h.fit.p0 h.fit.p1
theorem Vm.setPc (h : Vm w base U gm gt vC vI vQ vM vE vL mo l li s) (p : Int) (p0 : -1 ≤ p) (p1 : p ≤ 20000) : Vm (w.setCell ⟨gm, 5, none⟩ (.int .i64 p)) base U gm gt vC vI vQ vM vE vL mo l li { s with pc := p } := h.cell 5 _ rfl rfl rfl rfl rfl p0 p1
theorem Vm.setEnd (h : Vm w base U gm gt vC vI vQ vM vE vL mo l li s) (c : Bool) : Vm (w.setCell ⟨gm, 8, none⟩ (.bool c)) base U gm gt vC vI vQ vM vE vL mo l li { s with ended := c } := h.cell 8 _ rfl rfl rfl rfl rfl h.fit.p0 h.fit.p1
theorem Vm.setFault (h : Vm w base U gm gt vC vI vQ vM vE vL mo l li s) (e : Int) : Vm (w.setCell ⟨gm, 9, none⟩ (.int .i64 e)) base U gm gt vC vI vQ vM vE vL mo l li { s with fault := e } := h.cell 9 _ rfl rfl rfl rfl rfl h.fit.p0 h.fit.p1
theorem Vm.stpc (h : Vm w base U gm gt vC vI vQ vM vE vL mo l li s) (h' : Vm w' base U gm gt vC vI vQ vM vE vL mo l li s') (hc : Chg (· = gm) w w') : Stp w base U gm l li s' w' :=
  ⟨U, ⟨_, _, _, _, _, _, _, _, h'⟩, hc.mono (fun i hi => by subst hi; exact h.um), fun _ h => .inl h⟩
end
end Go.Proofs.Ytjohdkbciafpfaa.Vm6
