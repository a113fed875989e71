/- Regions of open order that build a row of contacts by appends: the steps. -/
import Derived.Test.YtmacdknicgfglaaOr3
import Derived.Test.YtmacdknicgfglaaRv
namespace Go.Proofs.Ytmacdknicgfglaa.Evt
open Go.RowKit Go.Proofs.YtmacdknicgfglaaW.PrintWords Go.Proofs.YtmacdknicgfglaaW.PrintMore Go.Proofs.YtmacdknicgfglaaW.PrintLast Go.Proofs.Ytmacdknicgfglaa.Chg Go.Proofs.Ytmacdknicgfglaa.Mp Go.Proofs.Ytmacdknicgfglaa.Impl
set_option linter.unusedVariables false
section
variable {ops : Array Oper} {Q : Exit → Act → World → Prop} {w0 : World} {n m : Nat} {N : Option Tmp} {r : List (Nat × Option Tmp)} {a : Act} {w : World} {oi : Oper}
/-- An empty row is made. -/
theorem k_row0 {K : Act → World → Prop} (hK : KS Try.prog ops Q w0 n m r K) (HS : Hb w0 w) (hw : Region.wanted oi (yielded ops a.tmps) = true) (hN : oi.dst = N) (hrun : (execOp a.eval oi).run Try.prog w = .ok (.value (.slice (some ⟨w.heap.size, 0, none⟩) 0 0)) (w.alloc (.cells #[] 41 (0, 0))))
    (h : ∀ (v : Value) (w1 : World), Ro k41 41 w0 w1 v [] → v.ownBlock = some w.heap.size → Below w.heap.size w w1 → Hb w0 w1 → Ol Try.prog ops Q w0 [] n m r (a.put N v) w1) : if Region.wanted oi (yielded ops a.tmps) = true then Oper.wp Try.prog oi a w K Q else K (a.put N undef) w := by
  have hb : Below w.heap.size w (w.alloc (.cells #[] 41 (0, 0))) := below_alloc (Below.refl _ _) _
  have hS' : Hb w0 (w.alloc (.cells #[] 41 (0, 0))) := ⟨below_step HS.out hb⟩
  refine value_ hw hN hrun (hK.out _ _ hS' (fun _ => h _ _ ⟨?_⟩ rfl hb hS'))
  refine ⟨fun k hk => trivial, [], ?_, by simp, fun j p hj => by simp at hj⟩
  exact World.ownsRow_lit (base := w0.heap.size) (e := 41) (size := k41.sz) w #[] 0 HS.out.size (by simp) (by simp)
/-- An empty row of contacts is made. -/
theorem row0_ev {rest : List Oper} {o : Oper} {W : World} (hgd : o.guard = none) {N : Tmp} (_hd : o.dst = some N) (HB : Below w0.heap.size w0 W) (hrun : (execOp a.eval o).run Try.prog W = .ok (.value (.slice (some ⟨W.heap.size, 0, none⟩) 0 0)) (W.alloc (.cells #[] 41 (0, 0))))
    (h : ∀ (v : Value) (w1 : World), Ro k41 41 w0 w1 v [] → Below w0.heap.size w0 w1 → wpList Try.prog ops Q rest (a.put o.dst v) w1) : wpList Try.prog ops Q (o :: rest) a W := by
  refine Kd.event_run hgd hrun (h _ _ ⟨?_⟩ (below_step HB (below_alloc (Below.refl _ _) _)))
  refine ⟨fun k hk => trivial, [], ?_, by simp, fun j p hj => by simp at hj⟩
  exact World.ownsRow_lit (base := w0.heap.size) (e := 41) (size := k41.sz) W #[] 0 HB.size (by simp) (by simp)
/-- A row at hand is put behind one's own. -/
theorem k_appc {K : Act → World → Prop} (hK : KS Try.prog ops Q w0 n m r K) (HS : Hb w0 w) (hw : Region.wanted oi (yielded ops a.tmps) = true) (hN : oi.dst = N) (s x : Operand) (ho : oi.op = .call { callee := .builtin .append, args := #[s, x], argTypes := #[22, 22] }) (v : Value) (xs ys : List S41) (A : Option Addr) (k c : Nat) (hs : a.eval s = v) (hx : a.eval x = .slice A k c)
    (HO : Ro k41 41 w0 w v xs) (HC : Kd.C k41 w A k ys) (hl : (xs.length + k) * 56 ≤ 140737488355328)
    (h : ∀ v1 w1, Ro k41 41 w0 w1 v1 (xs ++ ys) → w.grownBy w1 v.ownBlock → (v1.ownBlock = v.ownBlock ∨ ∃ b, v1.ownBlock = some b ∧ w.heap.size ≤ b) → Hb w0 w1 → Ol Try.prog ops Q w0 [] n m r (a.put N v1) w1) : if Region.wanted oi (yielded ops a.tmps) = true then Oper.wp Try.prog oi a w K Q else K (a.put N undef) w := by
  subst hN
  refine Kd.R_append_rows_step k41 (Rr := k41.K w) (w0 := w0) w0.heap.size hw s x 22 41 _ 56 ho Try.underlying22 info41 (by rfl) (by decide) (by decide) v xs ys A k c (fun _ => True) (fun _ => False) hs hx HO.row HC (fun _ _ hk => k41_KM hk) (fun _ hk => hk.elim) (fun _ _ => trivial) HS.out HS.out.size hl ?_
  intro v1 w1 ho1 hb1 hg1 hat1
  exact hK.out _ _ ⟨hb1⟩ (fun _ => h v1 w1 ⟨ho1⟩ hg1 hat1 ⟨hb1⟩)
/-- A store of all cells to a variable made behind w0. -/
theorem ol_setrow {T : Bool × List (List Nat × List Nat)} {i : Nat} (ri : List (Nat × Option Tmp)) (HT : Aside0 (rtab .any ops = T)) (HS : Hb w0 w) (ho : ops[i]? = some oi) (hN : oi.dst = none) (hc : (readyT T.2 (lst n r).toList == [i] && (lst n r).toList.set i true == (lst n ri).toList) = true) (hw : Region.wanted oi (yielded ops a.tmps) = true) {g : Nat} {zs cs : Array Value} {t : TypeId} (hb : Bk w g t zs) (hge : w0.heap.size ≤ g)
    (ty : TypeId) (x y : Operand) (hop : oi.op = .store ty x y) (hx : a.eval x = .pointer (some ⟨g, 0, none⟩)) (hy : a.eval y = .agg cs) (hi : (Try.prog.info? ty).map (·.size) = some cs.size) (hold : zs.size = cs.size) (h1 : cs.all (·.oneCell') = true)
    (h : ∀ w1, Bk w1 g t cs → w.grownBy w1 (some g) → Hb w0 w1 → Ol Try.prog ops Q w0 [] n m ri a w1) : Ol Try.prog ops Q w0 [] n (m + 1) r a w := by
  have hg : w.grownBy (w.setRow g cs) (some g) := ⟨rfl, rfl, rfl, by simp, fun k hk hne => setRow_other w g k cs (fun e => hne (by rw [e]))⟩
  have hS' : Hb w0 (w.setRow g cs) := ⟨HS.out.grown hg HS.out.size (fun k hk => by cases hk; exact hge)⟩
  refine one_ (lst n ri) ho hN (one_of HT.out hc) (by simp) (fun K hK => ?_)
  rw [if_pos hw]
  refine wp_store_row ty x y hop g cs hx hy t zs hb.blk hi hold h1 ?_
  rw [hN]
  exact hK.out _ _ hS' (fun _ => h _ ⟨setRow_heap w g zs cs t (0, 0) hb.blk⟩ hg hS')
end
end Go.Proofs.Ytmacdknicgfglaa.Evt
