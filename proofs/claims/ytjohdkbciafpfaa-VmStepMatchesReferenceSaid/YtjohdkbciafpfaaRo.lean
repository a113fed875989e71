/- Rows of plain values that a function makes: a literal; one more behind the others. -/
import Derived.Test.YtjohdkbciafpfaaEv
import Derived.Laws.Tables
import Derived.Deep.WholeRow
namespace Go.Proofs.Ytjohdkbciafpfaa.Evt
open Go.RowKit Go.Proofs.YtjohdkbciafpfaaW.PrintWords Go.Proofs.YtjohdkbciafpfaaW.PrintMore Go.Proofs.YtjohdkbciafpfaaW.PrintLast Go.Proofs.Ytjohdkbciafpfaa.Chg
set_option linter.unusedVariables false
/-- A row of one's own, made behind w0. -/
structure Ro {α : Type} (d : Kd α) (e : TypeId) (w0 w : World) (v : Value) (xs : List α) : Prop where
  row : Kd.R d e w w0.heap.size (fun _ => True) v xs
theorem Ro.below {α : Type} {d : Kd α} {e : TypeId} {w0 w w' : World} {v : Value} {xs : List α} (h : Ro d e w0 w v xs) (hb : Below w.heap.size w w') : Ro d e w0 w' v xs := ⟨Kd.R_below h.row hb⟩
theorem Ro.lower {α : Type} {d : Kd α} {e : TypeId} {w0 w1 w : World} {v : Value} {xs : List α} (h : Ro d e w1 w v xs) (hb : w0.heap.size ≤ w1.heap.size) : Ro d e w0 w v xs := ⟨Kd.R_lower h.row hb⟩
section
variable {P : Program} {ops : Array Oper} {rest : List Oper} {o : Oper} {a : Act} {Q : Exit → Act → World → Prop} {w0 W : World} {α : Type}
theorem ro_lit (enc : α → Value) (h1 : ∀ x, (enc x).oneCell' = true) (e : TypeId) (hgd : o.guard = none) {N : Tmp} (hd : o.dst = some N) {xs : List α}
    (hrun : (execOp a.eval o).run P W = .ok (.value (.slice (some ⟨W.heap.size, 0, none⟩) xs.length xs.length)) (W.alloc (.cells (encs enc xs).toArray e (0, 0))))
    (HB : Below w0.heap.size w0 W) (hm : xs.length ≤ 9223372036854775807)
    (h : ∀ v w1, Ro (Kd.scalar enc h1) e w0 w1 v xs → Below W.heap.size W w1 → (∃ b, v.ownBlock = some b ∧ W.heap.size ≤ b) → wpList P ops Q rest (a.put o.dst v) w1) : wpList P ops Q (o :: rest) a W := by
  refine Kd.R_lit (Kd.scalar enc h1) (w0 := w0) w0.heap.size e hgd hd (xs := xs) (inner := encs enc xs) (ok := fun _ => True) (okp := fun _ => True) hrun (Kd.reps_scalar xs) (fun _ hk => hk) trivial HB HB.size hm ?_
  intro v w1 ho hb hg hnew
  exact h v w1 ⟨ho⟩ (pw_below_grown (Below.refl _ _) none (Nat.le_refl _) hg (fun k hk => by cases hk)) hnew
/-- append(v, x): x lies in a block of its own, which the variadic call has made. -/
theorem ro_app (enc : α → Value) (h1 : ∀ x, (enc x).oneCell' = true) (d : α) (hgd : o.guard = none) (s x : Operand) (t e : TypeId) (z : Value) (bytes : Nat)
    (ho : o.op = .call { callee := .builtin .append, args := #[s, x], argTypes := #[t, t] })
    (ht : P.underlying t = some (.slice e)) (hinfo : (P.info? e).map (fun i => (i.zero, i.size, i.bytes)) = some (some z, 1, bytes)) (hz : z.cells.size = 1) (hb0 : 0 < bytes)
    (v : Value) (xs : List α) (y : α) (g : Nat) (hs : a.eval s = v) (hx : a.eval x = .slice (some ⟨g, 0, none⟩) 1 1)
    (HO : Ro (Kd.scalar enc h1) e w0 W v xs) (HR : Bk W g e #[enc y]) (HB : Below w0.heap.size w0 W) (hl : (xs.length + 1) * bytes ≤ 140737488355328)
    (h : ∀ v1 w1, Ro (Kd.scalar enc h1) e w0 w1 v1 (xs ++ [y]) → Below w0.heap.size w0 w1 → W.grownBy w1 v.ownBlock → (v1.ownBlock = v.ownBlock ∨ ∃ b, v1.ownBlock = some b ∧ W.heap.size ≤ b) → wpList P ops Q rest (a.put o.dst v1) w1) : wpList P ops Q (o :: rest) a W := by
  have hC : (Kd.scalar enc h1).C W (some ⟨g, 0, none⟩) 1 [y] := by
    refine Kd.C_of_reads (d := d) ⟨rfl, by decide, fun _ => ⟨_, rfl, fun j hj => ?_⟩⟩
    obtain rfl : j = 0 := by omega
    exact HR.blk.cell 0 rfl
  refine Kd.R_append_row enc d (w0 := w0) w0.heap.size hgd s x t e z bytes ho ht hinfo hz hb0 v xs [y] _ 1 1 (fun _ => True) hs hx (fun _ _ => trivial) HO.row hC HB HB.size hl ?_
  intro v1 w1 ho1 hb1 hg1 hat1
  exact h v1 w1 ⟨ho1⟩ hb1 hg1 hat1
/-- A variable made, another operation, the variable filled whole. -/
theorem box3 {o1 o2 : Oper} (hgd : o.guard = none) {N : Tmp} (hd : o.dst = some N) {z cs : Array Value} {T : TypeId}
    (hrun : (execOp a.eval o).run P W = .ok (.value (.pointer (some ⟨W.heap.size, 0, none⟩))) (W.alloc (.cells z T (0, 0))))
    (hg1 : o1.guard = none) {v1 : Value} (hr1 : ∀ W', (execOp (a.put (some N) (.pointer (some ⟨W.heap.size, 0, none⟩))).eval o1).run P W' = .ok (.value v1) W')
    (hg2 : o2.guard = none) (y : Operand) (ho2 : o2.op = .store T (.tmp N) y) (hd2 : o2.dst = none)
    (hy : ((a.put (some N) (.pointer (some ⟨W.heap.size, 0, none⟩))).put o1.dst v1).eval y = .agg cs) (hx : ((a.put (some N) (.pointer (some ⟨W.heap.size, 0, none⟩))).put o1.dst v1).eval (.tmp N) = .pointer (some ⟨W.heap.size, 0, none⟩))
    (hi : (P.info? T).map (·.size) = some cs.size) (hz : z.size = cs.size) (h1 : cs.all (·.oneCell') = true)
    (h : ∀ g, g = W.heap.size → ∀ w1, w1.heap[g]? = some (.cells cs T (0, 0)) → Below W.heap.size W w1 → wpList P ops Q rest ((a.put o.dst (.pointer (some ⟨g, 0, none⟩))).put o1.dst v1) w1) : wpList P ops Q (o :: o1 :: o2 :: rest) a W := by
  refine Kd.event_run hgd hrun ?_
  rw [hd]
  refine Kd.event_run hg1 (hr1 _) ?_
  refine wpList_store_row hg2 T (.tmp N) y ho2 W.heap.size cs hx hy T z (heap_alloc_new W _) hi hz h1 ?_
  rw [hd2, World.setRow_alloc_new]
  have hh := h W.heap.size rfl _ (heap_alloc_new W (.cells cs T (0, 0))) (below_alloc (Below.refl _ _) _)
  rw [hd] at hh
  exact hh
end
end Go.Proofs.Ytjohdkbciafpfaa.Evt
