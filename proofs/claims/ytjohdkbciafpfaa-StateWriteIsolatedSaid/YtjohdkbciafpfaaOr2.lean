/- A region of open order that ends in stores to variables of one's own. -/
import Derived.Test.YtjohdkbciafpfaaOr
import Derived.Laws.Tables
import Derived.Laws.Rows
namespace Go.Proofs.Ytjohdkbciafpfaa.Evt
open Go.RowKit Go.Proofs.YtjohdkbciafpfaaW.PrintWords Go.Proofs.YtjohdkbciafpfaaW.PrintMore Go.Proofs.YtjohdkbciafpfaaW.PrintLast Go.Proofs.Ytjohdkbciafpfaa.Chg
set_option linter.unusedVariables false
section
variable {P : Program} {ops : Array Oper} {Q : Exit → Act → World → Prop} {w0 : World} {T : Bool × List (List Nat × List Nat)} {B s : List Nat}
variable {fuel : Nat} {n m i : Nat} {N : Option Tmp} {r : List (Nat × Option Tmp)} {a a' : Act} {w : World} {oi : Oper} {v : Value}
/-- A store of a whole variable of one's own. -/
theorem ow_store (HT : Aside0 (rtab .any ops = T)) (HS : Hb w0 w) (ho : ops[i]? = some oi) (hN : oi.dst = none) (hc : (readyT T.2 (lst n ((i, none) :: r)).toList == [i] && (lst n ((i, none) :: r)).toList.set i true == (lst n r).toList) = true)
    (hw : Region.wanted oi (yielded ops a.tmps) = true) {ty : TypeId} {x y : Operand} (hop : oi.op = .store ty x y) {g : Nat} {cells : Array Value} (hx : a.eval x = .pointer (some ⟨g, 0, none⟩)) (hy : a.eval y = .agg cells) {t : TypeId} {old : Array Value} (hg : w.heap[g]? = some (.cells old t (0, 0))) (hi : (P.info? ty).map (·.size) = some cells.size) (hold : old.size = cells.size) (h1 : cells.all (·.oneCell') = true)
    (hle : w0.heap.size ≤ g) (h : Hb w0 (w.setRow g cells) → Ow P ops Q w0 n m r a (w.setRow g cells)) : Ow P ops Q w0 n (m + 1) ((i, none) :: r) a w := by
  refine one_ (lst n r) ho hN (one_of HT.out hc) (by simp) (fun K hK => ?_)
  rw [if_pos hw]
  have hS' : Hb w0 (w.setRow g cells) := ⟨HS.out.trans ⟨rfl, rfl, rfl, by simp, fun k hk => setRow_other w g k cells (by omega)⟩⟩
  refine wp_store_row ty x y hop g cells hx hy t old hg hi hold h1 ?_
  rw [hN]
  exact hK.out _ _ hS' (fun _ => h hS')
/-- 'x, y := p, q', both in memory: the two variables are made in either order, then filled. -/
theorem ow_xy {i j i' j' Ni Nj : Nat} {oi oj oi' oj' : Oper} {zi zj ci cj : Array Value} {ti tj : TypeId} {yi yj : Operand} (HT : Aside0 (rtab .any ops = T)) (HS : Hb w0 w) (hoi : ops[i]? = some oi) (hoj : ops[j]? = some oj) (hoi' : ops[i']? = some oi') (hoj' : ops[j']? = some oj') (hNi : oi.dst = some Ni) (hNj : oj.dst = some Nj) (hNi' : oi'.dst = none) (hNj' : oj'.dst = none) (hne : Ni ≠ Nj)
    (gi : oi.guard = none) (gj : oj.guard = none) (gi' : oi'.guard = none) (gj' : oj'.guard = none)
    (hc : (readyT T.2 (lst n [(i, some Ni), (j, some Nj), (i', none), (j', none)]).toList == [i, j] && (lst n [(i, some Ni), (j, some Nj), (i', none), (j', none)]).toList.set i true == (lst n [(j, some Nj), (i', none), (j', none)]).toList && (lst n [(i, some Ni), (j, some Nj), (i', none), (j', none)]).toList.set j true == (lst n [(i, some Ni), (i', none), (j', none)]).toList) = true)
    (hci : (readyT T.2 (lst n [(i, some Ni), (i', none), (j', none)]).toList == [i] && (lst n [(i, some Ni), (i', none), (j', none)]).toList.set i true == (lst n [(i', none), (j', none)]).toList) = true)
    (hcj : (readyT T.2 (lst n [(j, some Nj), (i', none), (j', none)]).toList == [j] && (lst n [(j, some Nj), (i', none), (j', none)]).toList.set j true == (lst n [(i', none), (j', none)]).toList) = true)
    (hci' : (readyT T.2 (lst n [(i', none), (j', none)]).toList == [i'] && (lst n [(i', none), (j', none)]).toList.set i' true == (lst n [(j', none)]).toList) = true)
    (hcj' : (readyT T.2 (lst n [(j', none)]).toList == [j'] && (lst n [(j', none)]).toList.set j' true == (lst n []).toList) = true)
    (hcd : (readyT T.2 (lst n []).toList == []) = true)
    (hri : ∀ (a : Act) (W : World), (execOp a.eval oi).run P W = .ok (.value (.pointer (some ⟨W.heap.size, 0, none⟩))) (W.alloc (.cells zi ti (0, 0)))) (hrj : ∀ (a : Act) (W : World), (execOp a.eval oj).run P W = .ok (.value (.pointer (some ⟨W.heap.size, 0, none⟩))) (W.alloc (.cells zj tj (0, 0))))
    (hopi : oi'.op = .store ti (.tmp Ni) yi) (hopj : oj'.op = .store tj (.tmp Nj) yj) (hsi : (P.info? ti).map (·.size) = some ci.size) (hsj : (P.info? tj).map (·.size) = some cj.size) (hzi : zi.size = ci.size) (hzj : zj.size = cj.size) (h1i : ci.all (·.oneCell') = true) (h1j : cj.all (·.oneCell') = true)
    (hev : ∀ p q : Nat, ∀ a', a' = (a.put (some Ni) (.pointer (some ⟨p, 0, none⟩))).put (some Nj) (.pointer (some ⟨q, 0, none⟩)) → a'.eval (.tmp Ni) = .pointer (some ⟨p, 0, none⟩) ∧ a'.eval (.tmp Nj) = .pointer (some ⟨q, 0, none⟩) ∧ a'.eval yi = .agg ci ∧ a'.eval yj = .agg cj)
    (h : ∀ p q W', Bk W' p ti ci → Bk W' q tj cj → Below w.heap.size w W' → Q .normal ((a.put (some Ni) (.pointer (some ⟨p, 0, none⟩))).put (some Nj) (.pointer (some ⟨q, 0, none⟩))) W') :
    Ow P ops Q w0 n (m + 4) [(i, some Ni), (j, some Nj), (i', none), (j', none)] a w := by
  have key : ∀ (p q : Nat) (W' : World), p ≠ q → w.heap.size ≤ p → w.heap.size ≤ q → W'.heap[p]? = some (.cells zi ti (0, 0)) → W'.heap[q]? = some (.cells zj tj (0, 0)) → Below w.heap.size w W' →
      Ow P ops Q w0 n (m + 2) [(i', none), (j', none)] ((a.put (some Ni) (.pointer (some ⟨p, 0, none⟩))).put (some Nj) (.pointer (some ⟨q, 0, none⟩))) W' := by
    intro p q W' hpq hp hq bp bq hb
    obtain ⟨e1, e2, e3, e4⟩ := hev p q _ rfl
    have hw0 : w0.heap.size ≤ w.heap.size := HS.out.size
    refine ow_store HT ⟨below_step HS.out hb⟩ hoi' hNi' hci' (by simp [Region.wanted, gi']) hopi e1 e3 bp hsi hzi h1i (by omega) (fun HS1 => ?_)
    refine ow_store HT HS1 hoj' hNj' hcj' (by simp [Region.wanted, gj']) hopj e2 e4 (g := q) ((setRow_other _ _ _ _ (Ne.symm hpq)).trans bq) hsj hzj h1j (by omega) (fun HS2 => ?_)
    refine ow_done HT hcd ?_
    refine h p q _ ⟨show ((W'.setRow p ci).setRow q cj).heap[p]? = _ from (setRow_other (W'.setRow p ci) q p cj hpq).trans (setRow_heap W' p _ ci _ _ bp)⟩ ⟨setRow_heap _ _ _ _ _ _ ((setRow_other _ _ _ _ (Ne.symm hpq)).trans bq)⟩ ?_
    have t1 : Below w.heap.size W' (W'.setRow p ci) := ⟨rfl, rfl, rfl, by simp, fun k hk => setRow_other _ _ _ _ (by omega)⟩
    have t2 : Below w.heap.size (W'.setRow p ci) ((W'.setRow p ci).setRow q cj) := ⟨rfl, rfl, rfl, by simp, fun k hk => setRow_other _ _ _ _ (by omega)⟩
    exact (hb.trans t1).trans t2
  have bel : Below w.heap.size w ((w.alloc (.cells zi ti (0, 0))).alloc (.cells zj tj (0, 0))) := below_alloc (below_alloc (Below.refl _ _) _) _
  have bel' : Below w.heap.size w ((w.alloc (.cells zj tj (0, 0))).alloc (.cells zi ti (0, 0))) := below_alloc (below_alloc (Below.refl _ _) _) _
  refine two_ (lst n [(j, some Nj), (i', none), (j', none)]) (lst n [(i, some Ni), (i', none), (j', none)]) hoi hoj hNi hNj (two_of HT.out hc) (by simp) (by simp) (fun K hK => ?_) (fun K hK => ?_)
  · refine value_ (by simp [Region.wanted, gi]) hNi (hri a w) (hK.out _ _ ⟨below_step HS.out (below_alloc (Below.refl _ _) _)⟩ (fun _ => ?_))
    refine one_ (lst n [(i', none), (j', none)]) hoj hNj (one_of HT.out hcj) (by simp) (fun K hK => ?_)
    refine value_ (by simp [Region.wanted, gj]) hNj (hrj _ _) (hK.out _ _ ⟨below_step HS.out bel⟩ (fun _ => ?_))
    exact key _ _ _ (by simp) (Nat.le_refl _) (by simp) ((RowKit.Below.heap_alloc _ _ _ (by simp)).trans (heap_alloc_new w _)) (heap_alloc_new _ _) bel
  · refine value_ (by simp [Region.wanted, gj]) hNj (hrj a w) (hK.out _ _ ⟨below_step HS.out (below_alloc (Below.refl _ _) _)⟩ (fun _ => ?_))
    refine one_ (lst n [(i', none), (j', none)]) hoi hNi (one_of HT.out hci) (by simp) (fun K hK => ?_)
    refine value_ (by simp [Region.wanted, gi]) hNi (hri _ _) (hK.out _ _ ⟨below_step HS.out bel'⟩ (fun _ => ?_))
    have hcomm : ∀ u v : Value, (a.put (some Nj) u).put (some Ni) v = (a.put (some Ni) v).put (some Nj) u := by
      intro u v
      simp only [Act.put]
      rw [Array.setIfInBounds_comm _ _ hne.symm]
    rw [hcomm]
    exact key _ _ _ (by simp) (by simp) (Nat.le_refl _) (heap_alloc_new _ _) ((RowKit.Below.heap_alloc _ _ _ (by simp)).trans (heap_alloc_new w _)) bel'
end
end Go.Proofs.Ytjohdkbciafpfaa.Evt
