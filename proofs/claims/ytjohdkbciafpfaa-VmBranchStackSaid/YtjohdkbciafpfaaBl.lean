/- Chapter 06: literals of maps of two entries. -/
import Derived.Test.YtjohdkbciafpfaaBm
namespace Go.Proofs.Ytjohdkbciafpfaa.Bm
open Go.RowKit Go.Maps Go.Proofs.YtjohdkbciafpfaaW.PrintWords Go.Proofs.YtjohdkbciafpfaaW.PrintMore Go.Proofs.YtjohdkbciafpfaaW.PrintLast Go.Proofs.Ytjohdkbciafpfaa.Chg Go.Proofs.Ytjohdkbciafpfaa.Evt
set_option linter.unusedVariables false
set_option maxRecDepth 100000
section
variable {α β : Type} {k : Kq α β} {P : Program} {ops : Array Oper} {rest : List Oper} {o o2 o3 : Oper} {a : Act} {Q : Exit → Act → World → Prop} {W : World} {b n : Nat} {p : α → β}
/-- A literal of two entries. -/
theorem lit2_ev [DecidableEq α] (G : k.Good) (hgd : o.guard = none) {N : Tmp} (hd : o.dst = some N) (hop : o.op = .makeMap k.T none) (hg2 : o2.guard = none) (hd2 : o2.dst = none) (hg3 : o3.guard = none) (hd3 : o3.dst = none) {x y x' y' : Operand} (hop2 : o2.op = .insert k.T (.tmp N) x y) (hop3 : o3.op = .insert k.T (.tmp N) x' y') {s s' : α} {v v' : β}
    (hm : ∀ g, (a.put (some N) (.map (some g))).eval (.tmp N) = .map (some g)) (hx : ∀ g, (a.put (some N) (.map (some g))).eval x = k.kv s) (hy : ∀ g, (a.put (some N) (.map (some g))).eval y = k.ev v) (hx' : ∀ g, (a.put (some N) (.map (some g))).eval x' = k.kv s') (hy' : ∀ g, (a.put (some N) (.map (some g))).eval y' = k.ev v')
    (hs : k.ok s) (hs' : k.ok s') (hv : plainElem (H := Unit) Try.prog k.E (k.ev v) = some (.lit (k.el v), [])) (hv' : plainElem (H := Unit) Try.prog k.E (k.ev v') = some (.lit (k.el v'), []))
    (h : ∀ b w1, Mp k w1 b 2 (fun x => if x = s' then v' else if x = s then v else k.z) → Below W.heap.size W w1 → wpList Try.prog ops Q rest (a.put (some N) (.map (some b))) w1) : wpList Try.prog ops Q (o :: o2 :: o3 :: rest) a W := by
  refine mk_ev (k := k) hgd hd hop ?_
  rintro b rfl w1 hM hb
  rw [hd]
  refine put_ev G hg2 (.inr hop2) (hm _) (hx _) (hy _) hs hv (by unfold maxLen; omega) hM ?_
  intro w2 hM2 hg
  rw [hd2]
  refine put_ev G hg3 (.inr hop3) (hm _) (hx' _) (hy' _) hs' hv' (by unfold maxLen; omega) hM2 ?_
  intro w3 hM3 hg'
  rw [hd3]
  exact h _ w3 hM3 ((hb.grown hg hb.size (fun k hk => by cases hk; exact Nat.le_refl _)).grown hg' (Nat.le_trans hb.size hg.size) (fun k hk => by cases hk; exact Nat.le_refl _))
end
section
variable {α β : Type} {k : Kq α β} {ops : Array Oper} {Q : Exit → Act → World → Prop} {w0 : World} {n m : Nat} {r : List (Nat × Option Tmp)} {a : Act} {w : World} {oi : Oper} {b e : Nat} {p : α → β}
/-- A map of one's own is written, in a drawn region. -/
theorem k_mput [DecidableEq α] {K : Act → World → Prop} (hK : KS Try.prog ops Q w0 n m r K) (HS : Hb w0 w) (hN : oi.dst = none) (hw : Region.wanted oi (yielded ops a.tmps) = true) (G : k.Good) {mo x y : Operand} (hop : oi.op = .mapUpdate k.T mo x y ∨ oi.op = .insert k.T mo x y) {s : α} {v : β} (hm : a.eval mo = .map (some b)) (hx : a.eval x = k.kv s) (hy : a.eval y = k.ev v) (hs : k.ok s) (hv : plainElem (H := Unit) Try.prog k.E (k.ev v) = some (.lit (k.el v), [])) (hn : e < maxLen) (H : Mp k w b e p) (hge : w0.heap.size ≤ b)
    (h : ∀ w1, Mp k w1 b (e + 1) (fun x => if x = s then v else p x) → w.grownBy w1 (some b) → Hb w0 w1 → Ol Try.prog ops Q w0 [] n m r a w1) : if Region.wanted oi (yielded ops a.tmps) = true then Oper.wp Try.prog oi a w K Q else K (a.put none undef) w := by
  obtain ⟨w1, hrun, hb, hg⟩ := put_run G hop hm hx hy hs hv hn H
  have hS' : Hb w0 w1 := ⟨HS.out.grown hg HS.out.size (fun k hk => by cases hk; exact hge)⟩
  rw [if_pos hw]
  unfold Oper.wp
  rw [hrun]
  show K (a.put oi.dst undef) _
  rw [hN]
  exact hK.out _ _ hS' (fun _ => h _ hb hg hS')
end
theorem pI (x : Int) (hx : (Lit.int .i64 x).wf = true) : plainElem (H := Unit) Try.prog 3 (.int .i64 x) = some (.lit (.int .i64 x), []) := plainElem_int Try.underlying3 hx
theorem piI (v : Value) (y : Int) (ps : List MemPlace) (h : plainElem (H := Unit) Try.prog 3 v = some (.lit (.int .i64 y), ps)) : v = .int .i64 y := by
  obtain ⟨x, rfl, hz, _⟩ := plainElem_int_inv Try.underlying3 h
  simp only [Prod.mk.injEq] at hz
  have e := hz.1
  injection e with e
  injection e with _ e
  rw [e]
def kBI : Kq Bool Int := ⟨4, 3, 68, .bool, .bool, fun _ => True, .int .i64, .int .i64, 0⟩
def kBB : Kq Bool Bool := ⟨4, 4, 69, .bool, .bool, fun _ => True, .bool, .bool, false⟩
theorem gBI : kBI.Good := ⟨bool_keyed Try.underlying4, fun x _ => keyOf_bool_mk Try.underlying4 x, fun x y _ _ h => by injection h, Try.underlying68, fun w => by kernel_rfl, pI 0 (by rfl), piI⟩
theorem gBB : kBB.Good := ⟨bool_keyed Try.underlying4, fun x _ => keyOf_bool_mk Try.underlying4 x, fun x y _ _ h => by injection h, Try.underlying69, fun w => by kernel_rfl, pB false, piB⟩
theorem lkBB {w : World} {b n : Nat} {x y z r : Bool} (H : Mp kBB w b n (fun s => if s = true then y else x)) (hr : (if z = true then y else x) = r) : (Instr.lookup 69 (.map (some b)) (.bool z) false).run Try.prog w = .ok (.bool r) w := by
  have h := H.look gBB (s := z) trivial
  rw [hr] at h
  exact h
end Go.Proofs.Ytjohdkbciafpfaa.Bm
