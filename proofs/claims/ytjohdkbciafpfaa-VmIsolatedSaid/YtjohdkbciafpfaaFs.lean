/- Chapter 06: bits of a row flipped in place beside a machine. -/
import Derived.Test.YtjohdkbciafpfaaVk
import Derived.Test.YtjohdkbciafpfaaVr
namespace Go.Proofs.Ytjohdkbciafpfaa.Vm6
open Go.RowKit Go.Proofs.YtjohdkbciafpfaaW.PrintWords Go.Proofs.YtjohdkbciafpfaaW.PrintMore Go.Proofs.YtjohdkbciafpfaaW.PrintLast Go.Proofs.Ytjohdkbciafpfaa.Chg Go.Proofs.Ytjohdkbciafpfaa.Evt Go.Proofs.Ytjohdkbciafpfaa.Impl
set_option linter.unusedVariables false
set_option linter.unusedSimpArgs false
/-- X begins n bits of a block that may be written. -/
def Fl (w : World) (ok : Nat → Prop) (X : Option Addr) (n : Nat) : Prop := n = 0 ∨ ∃ g cs, X = some ⟨g, 0, none⟩ ∧ Bk w g 4 cs ∧ ok g ∧ ∀ i, i < n → ∃ b, cs[i]? = some (.bool b)
section
variable {w w' wC wr : World} {ok : Nat → Prop} {X X0 X1 X2 : Option Addr} {n c g gk gm base i : Nat} {cs : Array Value} {l : List Bool} {b : Bool} {U : Nat → Prop} {lc : List S66} {li : List Bool} {s sF : MS}
theorem Fl.of_R {okr : Nat → Prop} (h : Kd.R Kd.bool 4 w base okr (.slice X n c) l) (hk : ∀ k, (Value.slice X n c).ownBlock = some k → ok k) : Fl w ok X n := by
  have ho := Kd.own_of_R (enc := Value.bool) h
  rcases ho.2 with ⟨e, _⟩ | ⟨g, cap, cur, e, hg, hh, hn, hcap, hcs, hcur⟩
  · injection e with _ e _
    exact .inl e
  · injection e with e1 e2 e3
    subst e1
    refine .inr ⟨g, cur, rfl, ⟨hh⟩, hk g rfl, fun i hi => ?_⟩
    have h1 : (cur.toList.take (l.length * 1))[i]? = (encs Value.bool l)[i]? := by rw [hcur]
    rw [List.getElem?_take, if_pos (by omega)] at h1
    have h2 : (encs Value.bool l)[i]? = some (.bool (l.getD i false)) := by
      unfold encs
      rw [List.getElem?_map, List.getD_eq_getElem?_getD, List.getElem?_eq_getElem (by omega)]
      rfl
    exact ⟨_, by rw [← Array.getElem?_toList, h1, h2]⟩
theorem Fl.below (h : Fl w ok X n) (hb : Below w.heap.size w w') : Fl w' ok X n := by
  rcases h with h | ⟨g, cs, e, hk, h⟩
  · exact .inl h
  · exact .inr ⟨g, cs, e, hk.below hb, h⟩
theorem Fl.set (h : Fl w ok X n) (hk : Bk w gk 4 cs) (i : Nat) (b : Bool) : Fl (w.setCell ⟨gk, i, none⟩ (.bool b)) ok X n := by
  rcases h with h | ⟨g, cs', e, hg, h0, h1⟩
  · exact .inl h
  · by_cases hgk : g = gk
    · subst hgk
      have e1 : cs' = cs := by
        have a := hg.blk; have b := hk.blk
        unfold Blk at a b
        rw [a] at b
        injection b with b
        injection b with b
      subst e1
      refine .inr ⟨g, _, e, ⟨hg.blk.set_ i _⟩, h0, fun j hj => ?_⟩
      obtain ⟨b', hb'⟩ := h1 j hj
      rw [Array.getElem?_setIfInBounds]
      split
      · split
        · exact ⟨b, rfl⟩
        · rename_i e1 e2
          subst e1
          rw [Array.getElem?_eq_none (by omega)] at hb'
          cases hb'
      · exact ⟨b', hb'⟩
    · exact .inr ⟨g, cs', e, ⟨hg.blk.far (p := ⟨gk, i, none⟩) hgk _⟩, h0, h1⟩
/-- Block g holds three such rows. -/
def Rows3 (w : World) (g : Nat) (ok : Nat → Prop) : Prop := ∃ X0 n0 x0 X1 n1 x1 X2 n2 x2, Bk w g 22 #[.slice X0 n0 x0, .slice X1 n1 x1, .slice X2 n2 x2] ∧ Fl w ok X0 n0 ∧ Fl w ok X1 n1 ∧ Fl w ok X2 n2 ∧ n0 ≤ 20000 ∧ n1 ≤ 20000 ∧ n2 ≤ 20000
theorem Rows3.at (h : Rows3 w g ok) {j : Nat} (hj : j < 3) : ∃ X n x, w.cell? ⟨g, j, none⟩ = some (.slice X n x) ∧ Fl w ok X n ∧ n ≤ 20000 := by
  obtain ⟨X0, n0, x0, X1, n1, x1, X2, n2, x2, hk, f0, f1, f2, b0, b1, b2⟩ := h
  match j, hj with
  | 0, _ => exact ⟨X0, n0, x0, hk.blk.cell 0 rfl, f0, b0⟩
  | 1, _ => exact ⟨X1, n1, x1, hk.blk.cell 1 rfl, f1, b1⟩
  | 2, _ => exact ⟨X2, n2, x2, hk.blk.cell 2 rfl, f2, b2⟩
theorem Rows3.set (h : Rows3 w g ok) (hk : Bk w gk 4 cs) (i : Nat) (b : Bool) : Rows3 (w.setCell ⟨gk, i, none⟩ (.bool b)) g ok := by
  obtain ⟨X0, n0, x0, X1, n1, x1, X2, n2, x2, h0, f0, f1, f2, b0, b1, b2⟩ := h
  exact ⟨X0, n0, x0, X1, n1, x1, X2, n2, x2, ⟨h0.blk.far (p := ⟨gk, i, none⟩) (h0.blk.ne_ hk.blk (by decide)) _⟩, f0.set hk i b, f1.set hk i b, f2.set hk i b, b0, b1, b2⟩
/-- While bits are flipped: what stood before, the machine, the rows. -/
structure Fx (wC wr : World) (gm : Nat) (U : Nat → Prop) (lc : List S66) (li : List Bool) (s : MS) (g : Nat) : Prop where
  hb : Below wC.heap.size wC wr
  vm : VmP wr wC.heap.size U gm lc li s
  rows : Rows3 wr g (fun k => wC.heap.size ≤ k ∧ ¬ U k)
theorem Fx.set (h : Fx wC wr gm U lc li s g) (hk : Bk wr gk 4 cs) (hok : wC.heap.size ≤ gk ∧ ¬ U gk) (i : Nat) (b : Bool) : Fx wC (wr.setCell ⟨gk, i, none⟩ (.bool b)) gm U lc li s g :=
  ⟨below_set h.hb hok.1, h.vm.chg (S := fun k => k = gk) ((Chg.refl (fun k => k = gk) _).setCell (p := ⟨gk, i, none⟩) (.inl rfl) _) (fun k hu e => hok.2 (e ▸ hu)), h.rows.set hk i b⟩
theorem VmP.lt (h : VmP w base U gm lc li s) : ∀ k, U k → k < w.heap.size := by
  obtain ⟨gt, vC, vI, vQ, vM, vE, vL, mo, V⟩ := h
  exact fun k hk => (V.ub k hk).2
theorem VmP.ft (h : VmP w base U gm lc li s) : Fit lc li s := by
  obtain ⟨gt, vC, vI, vQ, vM, vE, vL, mo, h⟩ := h
  exact h.fit
theorem vm_nx {s' : MS} (hb : Below wC.heap.size wC wr) (hU : VmP wr wC.heap.size U gm lc li s) (hs : Stp wr wC.heap.size U gm lc li s' w') : Below wC.heap.size wC w' ∧ ∃ U', VmP w' wC.heap.size U' gm lc li s' := by
  obtain ⟨U', h1, h2, h3⟩ := hs.out
  obtain ⟨gt, vC, vI, vQ, vM, vE, vL, mo, V⟩ := hU
  exact ⟨h2.below hb (fun i hi => (V.ub i hi).1) hb.size, ⟨U', h1⟩⟩
/-- The rows of a state of one's own, made behind wB, beside a machine that stood there. -/
theorem rows_of {wB : World} {x0 x1 x2 n0 n1 n2 : Nat} {l0 l1 l2 : List Bool} (hk : Bk w g 22 #[.slice X0 n0 x0, .slice X1 n1 x1, .slice X2 n2 x2]) (ho : Own3 w base (.slice X0 n0 x0) (.slice X1 n1 x1) (.slice X2 n2 x2) l0 l1 l2) (hB : Own3 wB base (.slice X0 n0 x0) (.slice X1 n1 x1) (.slice X2 n2 x2) l0 l1 l2) (h : ∀ k, base ≤ k → k < wB.heap.size → ok k) (b0 : n0 ≤ 20000) (b1 : n1 ≤ 20000) (b2 : n2 ≤ 20000) : Rows3 w g ok :=
  ⟨X0, n0, x0, X1, n1, x1, X2, n2, x2, hk, Fl.of_R ho.q0 (fun k hk => h k (Kd.R_base hB.q0 k hk) (Kd.R_lt hB.q0 k hk)), Fl.of_R ho.q1 (fun k hk => h k (Kd.R_base hB.q1 k hk) (Kd.R_lt hB.q1 k hk)), Fl.of_R ho.q2 (fun k hk => h k (Kd.R_base hB.q2 k hk) (Kd.R_lt hB.q2 k hk)), b0, b1, b2⟩
/-- A world behind another. -/
structure Bw (wB w : World) : Prop where
  out : Below wB.heap.size wB w
theorem Bw.below {wB : World} (h : Bw wB w) (hb : Below w.heap.size w w') : Bw wB w' := ⟨below_step h.out hb⟩
/-- At the head of a round. -/
structure IsI (wC wr : World) (gm : Nat) (lc : List S66) (li : List Bool) (kq j n : Nat) (s sF : MS) (nF : Nat) : Prop where
  hb : Below wC.heap.size wC wr
  vm : ∃ U, VmP wr wC.heap.size U gm lc li s
  ok : Ok lc s
  go : s.ended = false
  jk : j + kq = lc.length + 1
  pk : (lc.length : Int) + 1 ≤ s.pc + kq
  run : runV lc li (kq + 1) s n = (sF, nF)
variable {kq j nF : Nat}
theorem IsI.more (h : IsI wC wr gm lc li (kq + 1) j n s sF nF) (hg : (stepV lc li s).1.1 = true) (hb : Below wC.heap.size wC w') (hv : ∃ U, VmP w' wC.heap.size U gm lc li (stepV lc li s).2) : IsI wC w' gm lc li kq (j + 1) (n + 1) (stepV lc li s).2 sF nF := by
  have hs := (h.ok.sf (li := li)).go hg
  have hr := h.run
  unfold runV at hr
  rw [if_pos hg, if_pos hs.2.1] at hr
  have := h.jk; have := h.pk; have := h.ok.p0
  exact ⟨hb, hv, h.ok.step, hs.2.2.1, by omega, by omega, hr⟩
theorem IsI.last (h : IsI wC wr gm lc li (kq + 1) j n s sF nF) (hg : (stepV lc li s).1.1 = false) : (stepV lc li s).2 = sF := by
  have hr := h.run
  unfold runV at hr
  rw [if_neg (by simp [hg])] at hr
  injection hr with h1 h2
end
end Go.Proofs.Ytjohdkbciafpfaa.Vm6
