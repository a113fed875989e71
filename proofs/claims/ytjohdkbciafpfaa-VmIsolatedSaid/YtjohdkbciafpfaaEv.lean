/- Blocks that a function makes, seen from later worlds; a variable made and filled at once; three rows at hand. -/
import Derived.Test.YtjohdkbciafpfaaChg
import Derived.Laws.Tables
import Derived.Deep.WholeRow
namespace Go.Proofs.Ytjohdkbciafpfaa.Evt
open Go.RowKit Go.Proofs.YtjohdkbciafpfaaW.PrintWords Go.Proofs.YtjohdkbciafpfaaW.PrintMore Go.Proofs.YtjohdkbciafpfaaW.PrintLast Go.Proofs.Ytjohdkbciafpfaa.Chg
set_option linter.unusedVariables false
/-- A block, as a fact that lasts. -/
structure Bk (w : World) (g : Nat) (T : TypeId) (cs : Array Value) : Prop where
  blk : Blk w g T cs
theorem Bk.below {w w' : World} {g : Nat} {T : TypeId} {cs : Array Value} (h : Bk w g T cs) (hb : Below w.heap.size w w') : Bk w' g T cs := ⟨blk_below h.blk hb⟩
theorem Bk.new_eq {w : World} {g : Nat} {T : TypeId} {cs : Array Value} (h : g = w.heap.size) : Bk (w.alloc (.cells cs T (0, 0))) g T cs := by subst h; exact ⟨heap_alloc_new w _⟩
theorem Bk.alloc {w : World} {g : Nat} {T : TypeId} {cs : Array Value} (h : Bk w g T cs) (o : Obj) : Bk (w.alloc o) g T cs := ⟨h.blk.alloc o⟩
theorem Bk.drew {w : World} {g : Nat} {T : TypeId} {cs : Array Value} (h : Bk w g T cs) : Bk w.drew g T cs := ⟨h.blk⟩
theorem Bk.drewN {w : World} {g : Nat} {T : TypeId} {cs : Array Value} (h : Bk w g T cs) (n : Nat) : Bk (w.drewN n) g T cs := ⟨h.blk⟩
theorem Bk.c2 {w : World} {g : Nat} {T : TypeId} {a0 a1 : Value} (h : Bk w g T #[a0, a1]) : w.cell? ⟨g, 0, none⟩ = some a0 ∧ w.cell? ⟨g, 1, none⟩ = some a1 := ⟨(blk_cell h.blk 0).trans rfl, (blk_cell h.blk 1).trans rfl⟩
theorem Bk.c3 {w : World} {g : Nat} {T : TypeId} {a0 a1 a2 : Value} (h : Bk w g T #[a0, a1, a2]) : w.cell? ⟨g, 0, none⟩ = some a0 ∧ w.cell? ⟨g, 1, none⟩ = some a1 ∧ w.cell? ⟨g, 2, none⟩ = some a2 := ⟨(blk_cell h.blk 0).trans rfl, (blk_cell h.blk 1).trans rfl, (blk_cell h.blk 2).trans rfl⟩
theorem Bk.c4 {w : World} {g : Nat} {T : TypeId} {a0 a1 a2 a3 : Value} (h : Bk w g T #[a0, a1, a2, a3]) : w.cell? ⟨g, 0, none⟩ = some a0 ∧ w.cell? ⟨g, 1, none⟩ = some a1 ∧ w.cell? ⟨g, 2, none⟩ = some a2 ∧ w.cell? ⟨g, 3, none⟩ = some a3 := ⟨(blk_cell h.blk 0).trans rfl, (blk_cell h.blk 1).trans rfl, (blk_cell h.blk 2).trans rfl, (blk_cell h.blk 3).trans rfl⟩
theorem Bk.c6 {w : World} {g : Nat} {T : TypeId} {a0 a1 a2 a3 a4 a5 : Value} (h : Bk w g T #[a0, a1, a2, a3, a4, a5]) : w.cell? ⟨g, 0, none⟩ = some a0 ∧ w.cell? ⟨g, 1, none⟩ = some a1 ∧ w.cell? ⟨g, 2, none⟩ = some a2 ∧ w.cell? ⟨g, 3, none⟩ = some a3 ∧ w.cell? ⟨g, 4, none⟩ = some a4 ∧ w.cell? ⟨g, 5, none⟩ = some a5 := ⟨(blk_cell h.blk 0).trans rfl, (blk_cell h.blk 1).trans rfl, (blk_cell h.blk 2).trans rfl, (blk_cell h.blk 3).trans rfl, (blk_cell h.blk 4).trans rfl, (blk_cell h.blk 5).trans rfl⟩
theorem Bk.c10 {w : World} {g : Nat} {T : TypeId} {a0 a1 a2 a3 a4 a5 a6 a7 a8 a9 : Value} (h : Bk w g T #[a0, a1, a2, a3, a4, a5, a6, a7, a8, a9]) : w.cell? ⟨g, 0, none⟩ = some a0 ∧ w.cell? ⟨g, 1, none⟩ = some a1 ∧ w.cell? ⟨g, 2, none⟩ = some a2 ∧ w.cell? ⟨g, 3, none⟩ = some a3 ∧ w.cell? ⟨g, 4, none⟩ = some a4 ∧ w.cell? ⟨g, 5, none⟩ = some a5 ∧ w.cell? ⟨g, 6, none⟩ = some a6 ∧ w.cell? ⟨g, 7, none⟩ = some a7 ∧ w.cell? ⟨g, 8, none⟩ = some a8 ∧ w.cell? ⟨g, 9, none⟩ = some a9 := ⟨(blk_cell h.blk 0).trans rfl, (blk_cell h.blk 1).trans rfl, (blk_cell h.blk 2).trans rfl, (blk_cell h.blk 3).trans rfl, (blk_cell h.blk 4).trans rfl, (blk_cell h.blk 5).trans rfl, (blk_cell h.blk 6).trans rfl, (blk_cell h.blk 7).trans rfl, (blk_cell h.blk 8).trans rfl, (blk_cell h.blk 9).trans rfl⟩
/-- A row that can be read. -/
structure Rw {α : Type} (d : Kd α) (w : World) (A : Option Addr) (c : Nat) (l : List α) : Prop where
  cap : l.length ≤ c
  row : d.C w A l.length l
theorem Rw.below {α : Type} {d : Kd α} {w w' : World} {A : Option Addr} {c : Nat} {l : List α} (h : Rw d w A c l) (hb : Below w.heap.size w w') : Rw d w' A c l := ⟨h.cap, Kd.C_below h.row hb⟩
theorem Rw.of_R {α : Type} {d : Kd α} {w : World} {e base : Nat} {ok : Nat → Prop} {A : Option Addr} {n c : Nat} {l : List α} (h : d.R e w base ok (.slice A n c) l) : Rw d w A c l := by
  obtain ⟨h1, h2, h3⟩ := Kd.R_reads' h
  exact ⟨h1 ▸ h2, h3⟩
theorem Rw.nil {α : Type} (d : Kd α) (w : World) (c : Nat) : Rw d w none c [] := ⟨Nat.zero_le _, rfl, by simp, fun h => absurd h (by simp)⟩
/-- The world at hand, by a letter. -/
theorem gen_any {G : Act → World → Prop} {a : Act} {w0 W : World} (hb : Below w0.heap.size w0 W) (h : ∀ W', Below w0.heap.size w0 W' → G a W') : G a W := h W hb
/-- Three rows at hand. -/
structure Sr {α : Type} (d : Kd α) (w : World) (A0 : Option Addr) (c0 : Nat) (A1 : Option Addr) (c1 : Nat) (A2 : Option Addr) (c2 : Nat) (l0 l1 l2 : List α) : Prop where
  r0 : Rw d w A0 c0 l0
  r1 : Rw d w A1 c1 l1
  r2 : Rw d w A2 c2 l2
theorem Sr.below {α : Type} {d : Kd α} {w w' : World} {A0 A1 A2 : Option Addr} {c0 c1 c2 : Nat} {l0 l1 l2 : List α} (h : Sr d w A0 c0 A1 c1 A2 c2 l0 l1 l2) (hb : Below w.heap.size w w') : Sr d w' A0 c0 A1 c1 A2 c2 l0 l1 l2 := ⟨h.r0.below hb, h.r1.below hb, h.r2.below hb⟩
section
variable {P : Program} {ops : Array Oper} {rest : List Oper} {o o2 : Oper} {a : Act} {Q : Exit → Act → World → Prop} {W : World}
/-- A variable made, and filled whole at once. -/
theorem box2 (hgd : o.guard = none) {N : Tmp} (hd : o.dst = some N) {z cs : Array Value} {T : TypeId}
    (hrun : (execOp a.eval o).run P W = .ok (.value (.pointer (some ⟨W.heap.size, 0, none⟩))) (W.alloc (.cells z T (0, 0))))
    (hg2 : o2.guard = none) (y : Operand) (ho2 : o2.op = .store T (.tmp N) y) (hd2 : o2.dst = none)
    (hy : (a.put (some N) (.pointer (some ⟨W.heap.size, 0, none⟩))).eval y = .agg cs) (hx : (a.put (some N) (.pointer (some ⟨W.heap.size, 0, none⟩))).eval (.tmp N) = .pointer (some ⟨W.heap.size, 0, none⟩))
    (hi : (P.info? T).map (·.size) = some cs.size) (hz : z.size = cs.size) (h1 : cs.all (·.oneCell') = true)
    (h : ∀ g, g = W.heap.size → ∀ w1, w1.heap[g]? = some (.cells cs T (0, 0)) → Below W.heap.size W w1 → wpList P ops Q rest (a.put o.dst (.pointer (some ⟨g, 0, none⟩))) w1) : wpList P ops Q (o :: o2 :: rest) a W := by
  refine Kd.event_run hgd hrun ?_
  rw [hd]
  refine wpList_store_row hg2 T (.tmp N) y ho2 W.heap.size cs hx hy T z (heap_alloc_new W _) hi hz h1 ?_
  rw [hd2, World.setRow_alloc_new]
  have hh := h W.heap.size rfl _ (heap_alloc_new W (.cells cs T (0, 0))) (below_alloc (Below.refl _ _) _)
  rw [hd] at hh
  exact hh
end
end Go.Proofs.Ytjohdkbciafpfaa.Evt
