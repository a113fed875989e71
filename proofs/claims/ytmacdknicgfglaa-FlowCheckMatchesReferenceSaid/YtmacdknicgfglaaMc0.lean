/- Several texts of this session in one (merge.py): Wm, Chg, Ev, Or, Ro, Mp, Or3, Br, Gp, Ev2, Myw, Impl0, Gn, Go, Gi, Sh, Tp, Ts, Tp2, Su, Vi, Df, Impl1, Impl2. -/
import Derived.Test.YtmacdknicgfglaaWWords
import Derived.Test.YtmacdknicgfglaaWLast
import Derived.Test.YtmacdknicgfglaaWTab
import Derived.Test.YtmacdknicgfglaaWEqStruct
import Derived.Test.YtmacdknicgfglaaWGuard
import Derived.Below
import Derived.Deep.Draws
import Derived.Laws.Tables
import Derived.Deep.WholeRow
import Derived.Test.YtmacdknicgfglaaProg
import Derived.Maps.OwnSet
import Derived.RangeFuncNested
import Derived.RangeFuncBound
import Derived.RangeFuncCalls
import Derived.RangeFuncLeaves
import Derived.RangeFuncBox
import Derived.Shelf.Abstract
import Derived.OwnWalkIn
import Derived.TacticsInMore
import Derived.LoopNIn
import Derived.LoopIn
import Derived.OrdersIn
import Derived.Sort.LoopGhostIn
import Derived.Laws.CopyOwn
import Derived.Deep.AppendLies
import Derived.Maps.AppendAt
import Derived.OwnWalk
import Derived.Laws.BytesArg
import Derived.Laws.MakeOwn
import Derived.Laws.OwnMore
import Derived.Deep.OwnRows
import Derived.Tactics
import Derived.Lib.ConvBytes
import Derived.Laws.Slices
import Derived.WalkKit
import Derived.KernelRfl
import Derived.RowKit3
import Derived.Deep.LoopGhost
import Derived.Deep.QuietTactic
import Derived.BigQuiet
import Derived.WideLaws
import Derived.Deep.DeepCutAuto
import Derived.Deep.CutBlock
import Derived.Deep.RegionHeld3
import Derived.Laws.Rows
import Derived.Lib.AppendStr
import Derived.ArgAppend
import Derived.Laws.IdiomCopy
import Derived.OrdersHeld
import Derived.Laws.BitsLemmas
import Derived.RowKit
import Derived.Lib.SliceRun
import Derived.Shelf.Slices.Delete
import Derived.Shelf.SlicesE.DeleteFunc
section
/- The few laws of the print's last text of words that this seat's texts use (that text itself draws in many that they don't). -/
namespace Go.Proofs.YtmacdknicgfglaaW.PrintMore
theorem max2_int (k k' : IntKind) (x y : Int) : Builtin.max2 (.int k x) (.int k' y) = pure (.int k (if x < y then y else x)) := by simp only [Builtin.max2, gt_iff_lt]
theorem min2_int (k k' : IntKind) (x y : Int) : Builtin.min2 (.int k x) (.int k' y) = pure (.int k (if y < x then y else x)) := by simp only [Builtin.min2]
theorem max_two (ats : Array TypeId) (ty : TypeId) (a b : Value) : Builtin.max_ ats ty #[a, b] = (Builtin.max2 a b >>= fun s => pure s) := by simp only [Builtin.max_, List.foldlM_cons, List.foldlM_nil]
theorem min_two (ats : Array TypeId) (ty : TypeId) (a b : Value) : Builtin.min_ ats ty #[a, b] = (Builtin.min2 a b >>= fun s => pure s) := by simp only [Builtin.min_, List.foldlM_cons, List.foldlM_nil]
end Go.Proofs.YtmacdknicgfglaaW.PrintMore
namespace Go.Proofs.YtmacdknicgfglaaW.PrintWords
section
variable {P : Program} {ops : Array Oper} {rest : List Oper} {o : Oper} {a : Act} {Q : Exit → Act → World → Prop} {W : World}
/-- The operation calls function f. -/
theorem gate_callee {f : FuncId} {as : Array Operand} {ts : Array TypeId} (_ho : o.op = .call { callee := .value (.func f), args := as, argTypes := ts }) (h : wpList P ops Q (o :: rest) a W) : wpList P ops Q (o :: rest) a W := h
/-- The operation is a builtin. -/
theorem gate_builtin {b : Builtin} {xs : Array Operand} {ts : Array TypeId} (_ho : o.op = .call { callee := .builtin b, args := xs, argTypes := ts }) (h : wpList P ops Q (o :: rest) a W) : wpList P ops Q (o :: rest) a W := h
end
end Go.Proofs.YtmacdknicgfglaaW.PrintWords
end
section
/- What a call may have turned: the blocks of a set, and new ones. A struct behind a pointer, known whole. -/
namespace Go.Proofs.Ytmacdknicgfglaa.Chg
open Go.RowKit Go.Proofs.YtmacdknicgfglaaW.PrintWords Go.Proofs.YtmacdknicgfglaaW.PrintMore Go.Proofs.YtmacdknicgfglaaW.PrintLast

/-- w' is w, but for the blocks in S and new ones. -/
structure Chg (S : Nat → Prop) (w w' : World) : Prop where
  os : w'.os = w.os
  tape : w'.tape = w.tape
  output : w'.output = w.output
  size : w.heap.size ≤ w'.heap.size
  block : ∀ k, k < w.heap.size → ¬ S k → w'.heap[k]? = w.heap[k]?

section
variable {S S' : Nat → Prop} {w w' w'' : World}
theorem Chg.refl (S : Nat → Prop) (w : World) : Chg S w w := ⟨rfl, rfl, rfl, Nat.le_refl _, fun _ _ _ => rfl⟩
theorem Chg.trans (h : Chg S w w') (k : Chg S' w' w'') (hS : ∀ i, S' i → S i ∨ w.heap.size ≤ i) : Chg S w w'' :=
  ⟨k.os.trans h.os, k.tape.trans h.tape, k.output.trans h.output, Nat.le_trans h.size k.size, fun i hi hn =>
    (k.block i (Nat.lt_of_lt_of_le hi h.size) (fun hs => by rcases hS i hs with h1 | h1; exact hn h1; omega)).trans (h.block i hi hn)⟩
theorem Chg.mono (h : Chg S w w') (hS : ∀ i, S i → S' i) : Chg S' w w' := ⟨h.os, h.tape, h.output, h.size, fun i hi hn => h.block i hi (fun hs => hn (hS i hs))⟩
theorem Chg.drewN (h : Chg S w w') (n : Nat) : Chg S w (w'.drewN n) := ⟨h.os, h.tape, h.output, h.size, h.block⟩
theorem Chg.drew (h : Chg S w w') : Chg S w w'.drew := ⟨h.os, h.tape, h.output, h.size, h.block⟩
theorem Chg.alloc (h : Chg S w w') (o : Obj) : Chg S w (w'.alloc o) :=
  ⟨h.os, h.tape, h.output, Nat.le_trans h.size (by simp), fun i hi hn => (Below.heap_alloc w' o i (Nat.lt_of_lt_of_le hi h.size)).trans (h.block i hi hn)⟩
theorem Chg.setCell (h : Chg S w w') {p : Addr} (hp : S p.block ∨ w.heap.size ≤ p.block) (u : Value) : Chg S w (w'.setCell p u) :=
  ⟨h.os, h.tape, h.output, by simpa [World.setCell] using h.size, fun i hi hn => (Below.heap_setCell w' p u i (by
    rintro rfl
    rcases hp with hp | hp
    · exact hn hp
    · omega)).trans (h.block i hi hn)⟩
theorem Chg.of_grown {row : Option Nat} (h : w.grownBy w' row) (hr : ∀ k, row = some k → S k ∨ w.heap.size ≤ k) : Chg S w w' :=
  ⟨h.os, h.tape, h.output, h.size, fun i hi hn => h.block i hi (fun e => by rcases hr i e.symm with h1 | h1; exact hn h1; omega)⟩
theorem Chg.of_below (h : Below w.heap.size w w') : Chg S w w' := ⟨h.os, h.tape, h.output, h.size, fun i hi _ => h.block i hi⟩
theorem Chg.of_drawn (h : Drawn0 w w') : Chg S w w' := by
  obtain ⟨n, rfl⟩ := h.out
  exact (Chg.refl S w).drewN n
/-- Seen from an elder world: nothing of it has turned. -/
theorem Chg.below {W : World} {B : Nat} (hb : Below B W w) (h : Chg S w w') (hS : ∀ i, S i → B ≤ i) (hB : B ≤ w.heap.size) : Below B W w' :=
  hb.trans ⟨h.os, h.tape, h.output, h.size, fun i hi => h.block i (Nat.lt_of_lt_of_le hi hB) (fun hs => by have := hS i hs; omega)⟩
theorem Chg.heap (h : Chg S w w') {i : Nat} {o : Obj} (hi : w.heap[i]? = some o) (hn : ¬ S i) : w'.heap[i]? = some o := by
  have hl : i < w.heap.size := by
    rcases Nat.lt_or_ge i w.heap.size with h1 | h1
    · exact h1
    · rw [Array.getElem?_eq_none h1] at hi; cases hi
  exact (h.block i hl hn).trans hi
/-- A row of one's own, none of whose blocks is in S. -/
theorem Chg.row {α : Type} {d : Kd α} {e base : Nat} {ok : Nat → Prop} {v : Value} {xs : List α} (h : Chg S w w') (hr : d.R e w base ok v xs) (hn : ∀ k, ok k → ¬ S k) : d.R e w' base ok v xs :=
  Kd.R_step hr (fun k hk hl => h.block k hl (hn k hk))
theorem Chg.read {α : Type} {d : Kd α} {A : Option Addr} {n : Nat} {xs : List α} {W : World} (hc : d.C W A n xs) (hb : Below W.heap.size W w') : d.C w' A n xs := Kd.C_below hc hb
end

/-- Block g is just these cells, of type T. -/
def Blk (w : World) (g : Nat) (T : TypeId) (cs : Array Value) : Prop := w.heap[g]? = some (.cells cs T (0, 0))
section
variable {S : Nat → Prop} {w w' : World} {g : Nat} {T : TypeId} {cs : Array Value}
theorem Blk.lt (h : Blk w g T cs) : g < w.heap.size := by
  rcases Nat.lt_or_ge g w.heap.size with hlt | hge
  · exact hlt
  · unfold Blk at h; rw [Array.getElem?_eq_none hge] at h; cases h
theorem Blk.cell (h : Blk w g T cs) (i : Nat) {v : Value} (hv : cs[i]? = some v) : w.cell? ⟨g, i, none⟩ = some v := by
  unfold Blk at h
  simp [World.cell?, h, hv]
theorem Blk.frozen (h : Blk w g T cs) (i : Nat) : w.frozen? ⟨g, i, none⟩ = false := by
  unfold Blk at h
  simp [World.frozen?, h]
theorem Blk.new (w : World) (T : TypeId) (cs : Array Value) : Blk (w.alloc (.cells cs T)) w.heap.size T cs := heap_alloc_new w _
theorem Blk.drewN (h : Blk w g T cs) (n : Nat) : Blk (w.drewN n) g T cs := h
theorem Blk.drew (h : Blk w g T cs) : Blk w.drew g T cs := h
theorem Blk.alloc (h : Blk w g T cs) (o : Obj) : Blk (w.alloc o) g T cs := (Below.heap_alloc w o g h.lt).trans h
theorem Blk.set_ (h : Blk w g T cs) (i : Nat) (u : Value) : Blk (w.setCell ⟨g, i, none⟩ u) g T (cs.setIfInBounds i u) := by
  unfold Blk at h ⊢
  simp [World.setCell, Array.getElem?_modify, h]
theorem Blk.far (h : Blk w g T cs) {p : Addr} (hp : g ≠ p.block) (u : Value) : Blk (w.setCell p u) g T cs := (Below.heap_setCell w p u g hp).trans h
theorem Blk.chg (h : Blk w g T cs) (hc : Chg S w w') (hn : ¬ S g) : Blk w' g T cs := hc.heap h hn
theorem Blk.grown {row : Option Nat} (h : Blk w g T cs) (hb : w.grownBy w' row) (hg : some g ≠ row) : Blk w' g T cs := (hb.block g h.lt hg).trans h
theorem Blk.ne_ {g' : Nat} {T' : TypeId} {cs' : Array Value} (h : Blk w g T cs) (h' : Blk w g' T' cs') (hne : T ≠ T') : g ≠ g' := by
  rintro rfl
  unfold Blk at h h'
  rw [h] at h'
  injection h' with h'
  injection h' with _ ht
  exact hne ht
/-- A row of another type lies elsewhere. -/
theorem row_ne {α : Type} {d : Kd α} {e base : Nat} {ok : Nat → Prop} {v : Value} {xs : List α} (hr : d.R e w base ok v xs) (hg : Blk w g T cs) (hne : e ≠ T) : some g ≠ v.ownBlock := Kd.R_ne hr hg hne
end

/-- A slice's own block, as a set. -/
def own (v : Value) : Nat → Prop := fun k => some k = v.ownBlock
end Go.Proofs.Ytmacdknicgfglaa.Chg
end
section
/- Blocks that a function makes, seen from later worlds; a variable made and filled at once; three rows at hand. -/
namespace Go.Proofs.Ytmacdknicgfglaa.Evt
open Go.RowKit Go.Proofs.YtmacdknicgfglaaW.PrintWords Go.Proofs.YtmacdknicgfglaaW.PrintMore Go.Proofs.YtmacdknicgfglaaW.PrintLast Go.Proofs.Ytmacdknicgfglaa.Chg
set_option linter.unusedVariables false
/-- A block, as a fact that lasts. -/
structure Bk (w : World) (g : Nat) (T : TypeId) (cs : Array Value) : Prop where
  blk : Blk w g T cs
theorem Bk.below {w w' : World} {g : Nat} {T : TypeId} {cs : Array Value} (h : Bk w g T cs) (hb : Below w.heap.size w w') : Bk w' g T cs := ⟨blk_below h.blk hb⟩
theorem Bk.new_eq {w : World} {g : Nat} {T : TypeId} {cs : Array Value} (h : g = w.heap.size) : Bk (w.alloc (.cells cs T (0, 0))) g T cs := by subst h; exact ⟨heap_alloc_new w _⟩
theorem Bk.alloc {w : World} {g : Nat} {T : TypeId} {cs : Array Value} (h : Bk w g T cs) (o : Obj) : Bk (w.alloc o) g T cs := ⟨h.blk.alloc o⟩
theorem Bk.drew {w : World} {g : Nat} {T : TypeId} {cs : Array Value} (h : Bk w g T cs) : Bk w.drew g T cs := ⟨h.blk⟩
theorem Bk.drewN {w : World} {g : Nat} {T : TypeId} {cs : Array Value} (h : Bk w g T cs) (n : Nat) : Bk (w.drewN n) g T cs := ⟨h.blk⟩
/-- A row that can be read. -/
structure Rw {α : Type} (d : Kd α) (w : World) (A : Option Addr) (c : Nat) (l : List α) : Prop where
  cap : l.length ≤ c
  row : d.C w A l.length l
theorem Rw.below {α : Type} {d : Kd α} {w w' : World} {A : Option Addr} {c : Nat} {l : List α} (h : Rw d w A c l) (hb : Below w.heap.size w w') : Rw d w' A c l := ⟨h.cap, Kd.C_below h.row hb⟩
theorem Rw.of_R {α : Type} {d : Kd α} {w : World} {e base : Nat} {ok : Nat → Prop} {A : Option Addr} {n c : Nat} {l : List α} (h : d.R e w base ok (.slice A n c) l) : Rw d w A c l := by
  obtain ⟨h1, h2, h3⟩ := Kd.R_reads' h
  exact ⟨h1 ▸ h2, h3⟩
theorem Rw.nil {α : Type} (d : Kd α) (w : World) (c : Nat) : Rw d w none c [] := ⟨Nat.zero_le _, rfl, by simp, fun h => absurd h (by simp)⟩
/-- The world at hand, by a letter. -/
theorem gen_any {G : Act → World → Prop} {a : Act} {w0 W : World} (hb : Below w0.heap.size w0 W) (h : ∀ W', Below w0.heap.size w0 W' → G a W') : G a W := h W hb
/-- Three rows at hand. -/
structure Sr {α : Type} (d : Kd α) (w : World) (A0 : Option Addr) (c0 : Nat) (A1 : Option Addr) (c1 : Nat) (A2 : Option Addr) (c2 : Nat) (l0 l1 l2 : List α) : Prop where
  r0 : Rw d w A0 c0 l0
  r1 : Rw d w A1 c1 l1
  r2 : Rw d w A2 c2 l2
theorem Sr.below {α : Type} {d : Kd α} {w w' : World} {A0 A1 A2 : Option Addr} {c0 c1 c2 : Nat} {l0 l1 l2 : List α} (h : Sr d w A0 c0 A1 c1 A2 c2 l0 l1 l2) (hb : Below w.heap.size w w') : Sr d w' A0 c0 A1 c1 A2 c2 l0 l1 l2 := ⟨h.r0.below hb, h.r1.below hb, h.r2.below hb⟩
section
variable {P : Program} {ops : Array Oper} {rest : List Oper} {o o2 : Oper} {a : Act} {Q : Exit → Act → World → Prop} {W : World}
/-- A variable made, and filled whole at once. -/
theorem box2 (hgd : o.guard = none) {N : Tmp} (hd : o.dst = some N) {z cs : Array Value} {T : TypeId}
    (hrun : (execOp a.eval o).run P W = .ok (.value (.pointer (some ⟨W.heap.size, 0, none⟩))) (W.alloc (.cells z T (0, 0))))
    (hg2 : o2.guard = none) (y : Operand) (ho2 : o2.op = .store T (.tmp N) y) (hd2 : o2.dst = none)
    (hy : (a.put (some N) (.pointer (some ⟨W.heap.size, 0, none⟩))).eval y = .agg cs) (hx : (a.put (some N) (.pointer (some ⟨W.heap.size, 0, none⟩))).eval (.tmp N) = .pointer (some ⟨W.heap.size, 0, none⟩))
    (hi : (P.info? T).map (·.size) = some cs.size) (hz : z.size = cs.size) (h1 : cs.all (·.oneCell') = true)
    (h : ∀ g, g = W.heap.size → ∀ w1, w1.heap[g]? = some (.cells cs T (0, 0)) → Below W.heap.size W w1 → wpList P ops Q rest (a.put o.dst (.pointer (some ⟨g, 0, none⟩))) w1) : wpList P ops Q (o :: o2 :: rest) a W := by
  refine Kd.event_run hgd hrun ?_
  rw [hd]
  refine wpList_store_row hg2 T (.tmp N) y ho2 W.heap.size cs hx hy T z (heap_alloc_new W _) hi hz h1 ?_
  rw [hd2, World.setRow_alloc_new]
  have hh := h W.heap.size rfl _ (heap_alloc_new W (.cells cs T (0, 0))) (below_alloc (Below.refl _ _) _)
  rw [hd] at hh
  exact hh
end
end Go.Proofs.Ytmacdknicgfglaa.Evt
end
section
/- A region whose order is open, walked operation by operation in one order (a list of their numbers): nothing of the world ahead turns meanwhile. -/
namespace Go.Proofs.Ytmacdknicgfglaa.Evt
open Go.RowKit Go.Proofs.YtmacdknicgfglaaW.PrintWords Go.Proofs.YtmacdknicgfglaaW.PrintMore Go.Proofs.YtmacdknicgfglaaW.PrintLast Go.Proofs.Ytmacdknicgfglaa.Chg
set_option linter.unusedVariables false
section
variable {P : Program} {ops : Array Oper} {Q : Exit → Act → World → Prop} {w0 : World} {T : Bool × List (List Nat × List Nat)} {B s : List Nat}
/-- What stays: all of w0. -/
abbrev Hb (w0 : World) : World → Prop := fun w' => Aside0 (Below w0.heap.size w0 w')
/-- All of n operations are listed but those of r. -/
def lst (n : Nat) (r : List (Nat × Option Tmp)) : Array Bool := ((List.range n).map fun j => !(r.any fun e => e.1 == j)).toArray
/-- What holds when the operations of r are still to come (each with its destination). -/
def Ow (P : Program) (ops : Array Oper) (Q : Exit → Act → World → Prop) (w0 : World) (n m : Nat) (r : List (Nat × Option Tmp)) (a : Act) (w : World) : Prop := wpAnyLast P .any ops Q (Hb w0) [] m (lst n r) a w
def pureK : Op → Bool
  | .fieldAddr .. | .move _ | .binOp .. | .unOp .. | .convert .. | .extract .. | .pick .. | .assign _ | .build .. | .index .. | .indexAddr .. | .field .. | .slice .. | .makeFunc .. => true
  | .call { callee := .builtin .len, .. } | .call { callee := .builtin .min, .. } | .call { callee := .builtin .max, .. } => true
  | _ => false
def loadK : Op → Bool
  | .load .. => true
  | _ => false
theorem ow_start {id : Nat} {a : Act} {w : World} (n : Nat) (r : List (Nat × Option Tmp)) (hm : P.follows .mixedOrders = true) (hn : ops.size = n) (hl : Array.replicate n false = lst n r) (hT : rtab .any ops = T) (hB : waitsOk T.2 B = true) (hb : Below w0.heap.size w0 w)
    (h : Aside0 (rtab .any ops = T) → Aside0 (waitsOk T.2 B = true) → ∀ w', Hb w0 w' → Ow P ops Q w0 n n r a w') : (Code.region id ops true).wp P Q a w :=
  start_ (lst n r) hm hn hl ⟨below_drew hb⟩ (fun _ => h ⟨hT⟩ ⟨hB⟩ _ ⟨below_drew hb⟩)
variable {n m i : Nat} {N : Option Tmp} {r : List (Nat × Option Tmp)} {a a' : Act} {w : World} {oi : Oper} {v : Value}
/-- A guarded operation that is not carried out. -/
theorem ow_off (HT : Aside0 (rtab .any ops = T)) (ho : ops[i]? = some oi) (hN : oi.dst = N) (hw : Region.wanted oi (yielded ops a.tmps) = false) (hc : anyT T (lst n ((i, N) :: r)).toList (lst n r).toList i = true)
    (hQ : ∀ c a w, Q (.panic c) (a.put N undef) w → Q (.panic c) a w) (ha : a.put N undef = a') (h : Ow P ops Q w0 n m r a' w) : Ow P ops Q w0 n (m + 1) ((i, N) :: r) a w :=
  by subst hN; exact pure_ (lst n r) ho rfl (any_of HT.out hc) hQ (.inr ⟨hw, rfl⟩) ha h
/-- An operation that does not look at memory. -/
theorem ow_pure (HT : Aside0 (rtab .any ops = T)) (ho : ops[i]? = some oi) (hN : oi.dst = N) (hp : pureK oi.op = true) (hw : Region.wanted oi (yielded ops a.tmps) = true) (hc : anyT T (lst n ((i, N) :: r)).toList (lst n r).toList i = true)
    (hQ : ∀ c a w, Q (.panic c) (a.put N v) w → Q (.panic c) a w) (hr : ∀ w', (execOp a.eval oi).run P w' = .ok (.value v) w') (ha : a.put N v = a') (h : Ow P ops Q w0 n m r a' w) : Ow P ops Q w0 n (m + 1) ((i, N) :: r) a w :=
  by subst hN; exact pure_ (lst n r) ho rfl (any_of HT.out hc) hQ (.inl ⟨hw, hr⟩) ha h
/-- A load of what stays. -/
theorem ow_load (HT : Aside0 (rtab .any ops = T)) (HW : Aside0 (waitsOk T.2 B = true)) (HS : Hb w0 w) (ho : ops[i]? = some oi) (hN : oi.dst = N) (hp : loadK oi.op = true) (hw : Region.wanted oi (yielded ops a.tmps) = true) (hc : takeW T B [] (lst n ((i, N) :: r)).toList (lst n r).toList i = true)
    (hQ : ∀ c a w, Q (.panic c) (a.put N v) w → Q (.panic c) a w) (hr : ∀ w', Hb w0 w' → (execOp a.eval oi).run P w' = .ok (.value v) w') (ha : a.put N v = a') (h : Ow P ops Q w0 n m r a' w) : Ow P ops Q w0 n (m + 1) ((i, N) :: r) a w :=
  by subst hN; exact take_ (lst n r) ho rfl (take_ofW HT.out HW.out hc) hQ (.inl ⟨hw, hr⟩) HS ha h
/-- One operation alone may come up: a call, by its contract. -/
theorem ow_call (HT : Aside0 (rtab .any ops = T)) (HS : Hb w0 w) (ho : ops[i]? = some oi) (hN : oi.dst = N) {f : FuncId} {fn : Func} {as : Array Operand} {ts : Array TypeId} (hop : oi.op = .call { callee := .value (.func f), args := as, argTypes := ts }) (hc : (readyT T.2 (lst n ((i, N) :: r)).toList == [i] && (lst n ((i, N) :: r)).toList.set i true == (lst n r).toList) = true) (hf : P.funcs[f]? = some fn) (hname : (fn.name == "runtime.NumGoroutine") = false) (hb : fn.body.isSome = true) (args : Array Value)
    (hw : Region.wanted oi (yielded ops a.tmps) = true) (hargs : as.map a.eval = args)
    (h : Calls P f args w fun e w' => ∃ v, e = .returned v ∧ Below w.heap.size w w' ∧ (Hb w0 w' → Ow P ops Q w0 n m r (a.put N v) w')) : Ow P ops Q w0 n (m + 1) ((i, N) :: r) a w := by
  refine one_ (lst n r) ho hN (one_of HT.out hc) (by simp) (fun K hK => ?_)
  refine goes_ hf hname hb args hw hN hop hargs ?_
  refine h.mono fun e w' hh => ?_
  obtain ⟨v, rfl, hb, hk⟩ := hh
  have hS' : Hb w0 w' := ⟨below_step HS.out hb⟩
  exact ⟨v, rfl, hK.out _ _ hS' (fun _ => hk hS')⟩
/-- One operation alone may come up: it yields a value, and may make memory. -/
theorem ow_value {w1 : World} (HT : Aside0 (rtab .any ops = T)) (HS : Hb w0 w) (ho : ops[i]? = some oi) (hN : oi.dst = N) (hw : Region.wanted oi (yielded ops a.tmps) = true) (hc : (readyT T.2 (lst n ((i, N) :: r)).toList == [i] && (lst n ((i, N) :: r)).toList.set i true == (lst n r).toList) = true)
    (hrun : (execOp a.eval oi).run P w = .ok (.value v) w1) (hb : Below w.heap.size w w1) (ha : a.put N v = a') (h : Hb w0 w1 → Ow P ops Q w0 n m r a' w1) : Ow P ops Q w0 n (m + 1) ((i, N) :: r) a w := by
  subst ha
  have hS' : Hb w0 w1 := ⟨below_step HS.out hb⟩
  exact one_ (lst n r) ho hN (one_of HT.out hc) (by simp) (fun K hK => value_ hw hN hrun (hK.out _ _ hS' (fun _ => h hS')))
theorem ow_norm (ha : a = a') (h : Ow P ops Q w0 n m r a' w) : Ow P ops Q w0 n m r a w := by subst ha; exact h
theorem ow_done (HT : Aside0 (rtab .any ops = T)) (hc : (readyT T.2 (lst n []).toList == []) = true) (h : Q .normal a w) : Ow P ops Q w0 n m [] a w := done_ (done_of HT.out hc) h
end
end Go.Proofs.Ytmacdknicgfglaa.Evt
end
section
/- Rows of plain values that a function makes: a literal; one more behind the others. -/
namespace Go.Proofs.Ytmacdknicgfglaa.Evt
open Go.RowKit Go.Proofs.YtmacdknicgfglaaW.PrintWords Go.Proofs.YtmacdknicgfglaaW.PrintMore Go.Proofs.YtmacdknicgfglaaW.PrintLast Go.Proofs.Ytmacdknicgfglaa.Chg
set_option linter.unusedVariables false
/-- A row of one's own, made behind w0. -/
structure Ro {α : Type} (d : Kd α) (e : TypeId) (w0 w : World) (v : Value) (xs : List α) : Prop where
  row : Kd.R d e w w0.heap.size (fun _ => True) v xs
theorem Ro.below {α : Type} {d : Kd α} {e : TypeId} {w0 w w' : World} {v : Value} {xs : List α} (h : Ro d e w0 w v xs) (hb : Below w.heap.size w w') : Ro d e w0 w' v xs := ⟨Kd.R_below h.row hb⟩
theorem Ro.lower {α : Type} {d : Kd α} {e : TypeId} {w0 w1 w : World} {v : Value} {xs : List α} (h : Ro d e w1 w v xs) (hb : w0.heap.size ≤ w1.heap.size) : Ro d e w0 w v xs := ⟨Kd.R_lower h.row hb⟩
section
variable {P : Program} {ops : Array Oper} {rest : List Oper} {o : Oper} {a : Act} {Q : Exit → Act → World → Prop} {w0 W : World} {α : Type}
theorem ro_lit (enc : α → Value) (h1 : ∀ x, (enc x).oneCell' = true) (e : TypeId) (hgd : o.guard = none) {N : Tmp} (hd : o.dst = some N) {xs : List α}
    (hrun : (execOp a.eval o).run P W = .ok (.value (.slice (some ⟨W.heap.size, 0, none⟩) xs.length xs.length)) (W.alloc (.cells (encs enc xs).toArray e (0, 0))))
    (HB : Below w0.heap.size w0 W) (hm : xs.length ≤ 9223372036854775807)
    (h : ∀ v w1, Ro (Kd.scalar enc h1) e w0 w1 v xs → Below W.heap.size W w1 → (∃ b, v.ownBlock = some b ∧ W.heap.size ≤ b) → wpList P ops Q rest (a.put o.dst v) w1) : wpList P ops Q (o :: rest) a W := by
  refine Kd.R_lit (Kd.scalar enc h1) (w0 := w0) w0.heap.size e hgd hd (xs := xs) (inner := encs enc xs) (ok := fun _ => True) (okp := fun _ => True) hrun (Kd.reps_scalar xs) (fun _ hk => hk) trivial HB HB.size hm ?_
  intro v w1 ho hb hg hnew
  exact h v w1 ⟨ho⟩ (pw_below_grown (Below.refl _ _) none (Nat.le_refl _) hg (fun k hk => by cases hk)) hnew
/-- append(v, x): x lies in a block of its own, which the variadic call has made. -/
theorem ro_app (enc : α → Value) (h1 : ∀ x, (enc x).oneCell' = true) (d : α) (hgd : o.guard = none) (s x : Operand) (t e : TypeId) (z : Value) (bytes : Nat)
    (ho : o.op = .call { callee := .builtin .append, args := #[s, x], argTypes := #[t, t] })
    (ht : P.underlying t = some (.slice e)) (hinfo : (P.info? e).map (fun i => (i.zero, i.size, i.bytes)) = some (some z, 1, bytes)) (hz : z.cells.size = 1) (hb0 : 0 < bytes)
    (v : Value) (xs : List α) (y : α) (g : Nat) (hs : a.eval s = v) (hx : a.eval x = .slice (some ⟨g, 0, none⟩) 1 1)
    (HO : Ro (Kd.scalar enc h1) e w0 W v xs) (HR : Bk W g e #[enc y]) (HB : Below w0.heap.size w0 W) (hl : (xs.length + 1) * bytes ≤ 140737488355328)
    (h : ∀ v1 w1, Ro (Kd.scalar enc h1) e w0 w1 v1 (xs ++ [y]) → Below w0.heap.size w0 w1 → W.grownBy w1 v.ownBlock → (v1.ownBlock = v.ownBlock ∨ ∃ b, v1.ownBlock = some b ∧ W.heap.size ≤ b) → wpList P ops Q rest (a.put o.dst v1) w1) : wpList P ops Q (o :: rest) a W := by
  have hC : (Kd.scalar enc h1).C W (some ⟨g, 0, none⟩) 1 [y] := by
    refine Kd.C_of_reads (d := d) ⟨rfl, by decide, fun _ => ⟨_, rfl, fun j hj => ?_⟩⟩
    obtain rfl : j = 0 := by omega
    exact HR.blk.cell 0 rfl
  refine Kd.R_append_row enc d (w0 := w0) w0.heap.size hgd s x t e z bytes ho ht hinfo hz hb0 v xs [y] _ 1 1 (fun _ => True) hs hx (fun _ _ => trivial) HO.row hC HB HB.size hl ?_
  intro v1 w1 ho1 hb1 hg1 hat1
  exact h v1 w1 ⟨ho1⟩ hb1 hg1 hat1
/-- A variable made, another operation, the variable filled whole. -/
theorem box3 {o1 o2 : Oper} (hgd : o.guard = none) {N : Tmp} (hd : o.dst = some N) {z cs : Array Value} {T : TypeId}
    (hrun : (execOp a.eval o).run P W = .ok (.value (.pointer (some ⟨W.heap.size, 0, none⟩))) (W.alloc (.cells z T (0, 0))))
    (hg1 : o1.guard = none) {v1 : Value} (hr1 : ∀ W', (execOp (a.put (some N) (.pointer (some ⟨W.heap.size, 0, none⟩))).eval o1).run P W' = .ok (.value v1) W')
    (hg2 : o2.guard = none) (y : Operand) (ho2 : o2.op = .store T (.tmp N) y) (hd2 : o2.dst = none)
    (hy : ((a.put (some N) (.pointer (some ⟨W.heap.size, 0, none⟩))).put o1.dst v1).eval y = .agg cs) (hx : ((a.put (some N) (.pointer (some ⟨W.heap.size, 0, none⟩))).put o1.dst v1).eval (.tmp N) = .pointer (some ⟨W.heap.size, 0, none⟩))
    (hi : (P.info? T).map (·.size) = some cs.size) (hz : z.size = cs.size) (h1 : cs.all (·.oneCell') = true)
    (h : ∀ g, g = W.heap.size → ∀ w1, w1.heap[g]? = some (.cells cs T (0, 0)) → Below W.heap.size W w1 → wpList P ops Q rest ((a.put o.dst (.pointer (some ⟨g, 0, none⟩))).put o1.dst v1) w1) : wpList P ops Q (o :: o1 :: o2 :: rest) a W := by
  refine Kd.event_run hgd hrun ?_
  rw [hd]
  refine Kd.event_run hg1 (hr1 _) ?_
  refine wpList_store_row hg2 T (.tmp N) y ho2 W.heap.size cs hx hy T z (heap_alloc_new W _) hi hz h1 ?_
  rw [hd2, World.setRow_alloc_new]
  have hh := h W.heap.size rfl _ (heap_alloc_new W (.cells cs T (0, 0))) (below_alloc (Below.refl _ _) _)
  rw [hd] at hh
  exact hh
end
end Go.Proofs.Ytmacdknicgfglaa.Evt
end
section
/- Maps from strings to bools and to numbers, told by a function: made, read, written. -/
namespace Go.Proofs.Ytmacdknicgfglaa.Mp
open Go.RowKit Go.Maps Go.Proofs.YtmacdknicgfglaaW.PrintWords Go.Proofs.YtmacdknicgfglaaW.PrintMore Go.Proofs.YtmacdknicgfglaaW.PrintLast Go.Proofs.Ytmacdknicgfglaa.Chg Go.Proofs.Ytmacdknicgfglaa.Evt
set_option linter.unusedVariables false
theorem lawS : Keyed Try.prog 9 := string_keyed Try.underlying9
theorem zeroB (w : World) : (zeroValue 4).run Try.prog w = .ok (.bool false) w := by kernel_rfl
theorem zeroI (w : World) : (zeroValue 3).run Try.prog w = .ok (.int .i64 0) w := by kernel_rfl
def kl (s : ByteArray) : Lit := .string s.data.toList
theorem kl_inj {s t : ByteArray} (h : kl s = kl t) : s = t := by
  unfold kl at h
  injection h with h
  apply ByteArray.ext
  exact Array.ext' h
theorem kl_ne {s t : ByteArray} (h : s ≠ t) : kl s ≠ kl t := fun e => h (kl_inj e)
theorem kl_key {s : ByteArray} (hs : s.size ≤ maxLen) : keyOf Try.prog 9 (.string s) = some (kl s) := WideMaps.keyOf_string_mk Try.underlying9 hs
theorem kl_lit {s : ByteArray} (hs : s.size ≤ maxLen) : WideAt.IsKeyLit (kl s) := lawS.key (kl_key hs)
/-- Block b is a map of at most n entries: at a string s it holds p s. -/
def MB (w : World) (b n : Nat) (p : ByteArray → Bool) : Prop :=
  ∃ D : DataW Unit, w.ownsMap Try.prog 9 (plainElem Try.prog 4) b n D ∧ ∀ s : ByteArray, s.size ≤ maxLen → D.atKey (kl s) (.lit (.bool false)) = .lit (.bool (p s))
/-- The same of numbers; none: no entry. -/
def MI (w : World) (b n : Nat) (p : ByteArray → Option Int) : Prop :=
  ∃ D : DataW Unit, w.ownsMap Try.prog 9 (plainElem Try.prog 3) b n D ∧ ∀ s : ByteArray, s.size ≤ maxLen → D.atKey (kl s) (.lit (.int .i64 0)) = .lit (.int .i64 ((p s).getD 0)) ∧ Maps.has D (kl s) = (p s).isSome
section
variable {w w' : World} {b n : Nat} {p : ByteArray → Bool} {q : ByteArray → Option Int}
theorem MB.lt (h : MB w b n p) : b < w.heap.size := by obtain ⟨D, h, _⟩ := h; exact h.lt
theorem MI.lt (h : MI w b n q) : b < w.heap.size := by obtain ⟨D, h, _⟩ := h; exact h.lt
theorem MB.heap (h : MB w b n p) (e : w'.heap[b]? = w.heap[b]?) : MB w' b n p := by
  obtain ⟨D, ⟨es, clock, hb, r⟩, k⟩ := h
  exact ⟨D, ⟨es, clock, e.trans hb, r⟩, k⟩
theorem MI.heap (h : MI w b n q) (e : w'.heap[b]? = w.heap[b]?) : MI w' b n q := by
  obtain ⟨D, ⟨es, clock, hb, r⟩, k⟩ := h
  exact ⟨D, ⟨es, clock, e.trans hb, r⟩, k⟩
theorem MB.below (h : MB w b n p) (hb : Below w.heap.size w w') : MB w' b n p := h.heap (hb.block b h.lt)
theorem MI.below (h : MI w b n q) (hb : Below w.heap.size w w') : MI w' b n q := h.heap (hb.block b h.lt)
theorem MB.congr (h : MB w b n p) {p' : ByteArray → Bool} (e : ∀ s, p s = p' s) : MB w b n p' := by obtain rfl : p = p' := funext e; exact h
theorem MI.congr (h : MI w b n q) {q' : ByteArray → Option Int} (e : ∀ s, q s = q' s) : MI w b n q' := by obtain rfl : q = q' := funext e; exact h
theorem MB.made (w : World) : MB (w.alloc (.map #[] 0)) w.heap.size 0 (fun _ => false) := ⟨.map [], World.ownsMap_made _ _ _ _, fun s _ => rfl⟩
theorem MI.made (w : World) : MI (w.alloc (.map #[] 0)) w.heap.size 0 (fun _ => none) := ⟨.map [], World.ownsMap_made _ _ _ _, fun s _ => ⟨rfl, rfl⟩⟩
theorem MB.grown {row : Option Nat} (h : MB w b n p) (hg : w.grownBy w' row) (hne : some b ≠ row) : MB w' b n p := h.heap (hg.block b h.lt hne)
theorem MI.grown {row : Option Nat} (h : MI w b n q) (hg : w.grownBy w' row) (hne : some b ≠ row) : MI w' b n q := h.heap (hg.block b h.lt hne)
/-- A map's block and a row of cells are two. -/
theorem MB.ne {g : Nat} {T : TypeId} {cs : Array Value} (h : MB w b n p) (hg : w.heap[g]? = some (.cells cs T (0, 0))) : g ≠ b := by
  obtain ⟨D, ⟨es, clock, hb, _⟩, _⟩ := h
  rintro rfl
  rw [hg] at hb
  injection hb with hb
  cases hb
theorem MI.ne {g : Nat} {T : TypeId} {cs : Array Value} (h : MI w b n q) (hg : w.heap[g]? = some (.cells cs T (0, 0))) : g ≠ b := by
  obtain ⟨D, ⟨es, clock, hb, _⟩, _⟩ := h
  rintro rfl
  rw [hg] at hb
  injection hb with hb
  cases hb
theorem MB.row {α : Type} {d : Kd α} {e base : Nat} {ok : Nat → Prop} {v : Value} {xs : List α} (h : MB w b n p) (hr : Kd.R d e w base ok v xs) : some b ≠ v.ownBlock := by
  intro he
  obtain ⟨inner, ho⟩ := Kd.R_own hr
  obtain ⟨cells, hc⟩ := own_typed ho b he.symm
  exact h.ne hc rfl
theorem MI.row {α : Type} {d : Kd α} {e base : Nat} {ok : Nat → Prop} {v : Value} {xs : List α} (h : MI w b n q) (hr : Kd.R d e w base ok v xs) : some b ≠ v.ownBlock := by
  intro he
  obtain ⟨inner, ho⟩ := Kd.R_own hr
  obtain ⟨cells, hc⟩ := own_typed ho b he.symm
  exact h.ne hc rfl
/-- A row of plain values stays while another block is written. -/
theorem R_other {α : Type} {enc : α → Value} {h1 : ∀ x, (enc x).oneCell' = true} {e base : Nat} {ok : Nat → Prop} {v : Value} {xs : List α} {row : Option Nat} (hr : Kd.R (Kd.scalar enc h1) e w base ok v xs) (hg : w.grownBy w' row) (hne : row ≠ v.ownBlock ∨ row = none) : Kd.R (Kd.scalar enc h1) e w' base ok v xs := by
  refine Kd.R_of_own (own_other (Kd.own_of_R hr) hg ?_) hr.1
  rcases hne with h | rfl
  · exact .inr (Ne.symm h)
  · cases v.ownBlock
    · exact .inl rfl
    · exact .inr (by simp)
theorem plainElem_bool_inv {v : Value} {z : DataW Unit × List MemPlace} (h : plainElem Try.prog 4 v = some z) : ∃ x, v = .bool x ∧ z = (.lit (.bool x), []) := by
  unfold plainElem at h
  rw [Try.underlying4] at h
  cases v <;> simp at h
  exact ⟨_, rfl, h.symm⟩
theorem MB.look (h : MB w b n p) {s : ByteArray} (hs : s.size ≤ maxLen) : (Instr.lookup 65 (.map (some b)) (.string s) false).run Try.prog w = .ok (.bool (p s)) w := by
  obtain ⟨D, ho, hk⟩ := h
  obtain ⟨v, ps, hr, hv⟩ := ho.lookup lawS Try.underlying65 (zeroB w) (plainElem_bool Try.underlying4 false) (kl_key hs)
  obtain ⟨x, rfl, hz⟩ := plainElem_bool_inv hv
  simp only [Prod.mk.injEq] at hz
  rw [hk s hs] at hz
  have e := hz.1
  injection e with e
  injection e with e
  rw [hr, e]
theorem MI.look (h : MI w b n q) {s : ByteArray} (hs : s.size ≤ maxLen) : (Instr.lookup 44 (.map (some b)) (.string s) false).run Try.prog w = .ok (.int .i64 ((q s).getD 0)) w := by
  obtain ⟨D, ho, hk⟩ := h
  obtain ⟨c, hr, hat, _⟩ := ho.lookup_int lawS Try.underlying44 Try.underlying3 (zeroI w) (kl_key hs)
  rw [(hk s hs).1] at hat
  injection hat with hat
  injection hat with _ hat
  rw [hr, hat]
theorem MI.look_ok (h : MI w b n q) {s : ByteArray} (hs : s.size ≤ maxLen) : (Instr.lookup 44 (.map (some b)) (.string s) true).run Try.prog w = .ok (.tuple #[.int .i64 ((q s).getD 0), .bool (q s).isSome]) w := by
  obtain ⟨D, ho, hk⟩ := h
  obtain ⟨v, ps, hr, hv⟩ := ho.look_ok lawS Try.underlying44 (zeroI w) (plainElem_int Try.underlying3 (by decide)) (kl_key hs)
  obtain ⟨x, rfl, hz, _⟩ := plainElem_int_inv Try.underlying3 hv
  simp only [Prod.mk.injEq] at hz
  rw [(hk s hs).1] at hz
  have e := hz.1
  injection e with e
  injection e with _ e
  rw [hr, (hk s hs).2, e]
theorem MB.put (h : MB w b n p) (hn : n < maxLen) {s : ByteArray} (hs : s.size ≤ maxLen) (v : Bool) : ∃ w', (Instr.mapUpdate 65 (.map (some b)) (.string s) (.bool v)).run Try.prog w = .ok () w' ∧ MB w' b (n + 1) (fun x => if x = s then v else p x) ∧ w.grownBy w' (some b) := by
  obtain ⟨D, ho, hk⟩ := h
  obtain ⟨w', hr, ho', hg⟩ := ho.update lawS Try.underlying65 hn (kl_key hs) (plainElem_bool Try.underlying4 v)
  refine ⟨w', hr, ⟨_, ho', fun x hx => ?_⟩, hg⟩
  show _ = DataW.lit (Lit.bool (if x = s then v else p x))
  by_cases e : x = s
  · subst e
    rw [if_pos rfl, Maps.atKey_put_same ho.isMap (kl_lit hs)]
  · rw [if_neg e, Maps.atKey_put_other (kl_ne e), hk x hx]
theorem MI.put (h : MI w b n q) (hn : n < maxLen) {s : ByteArray} (hs : s.size ≤ maxLen) (v : Int) (hv : (Lit.int .i64 v).wf = true) : ∃ w', (Instr.mapUpdate 44 (.map (some b)) (.string s) (.int .i64 v)).run Try.prog w = .ok () w' ∧ MI w' b (n + 1) (fun x => if x = s then some v else q x) ∧ w.grownBy w' (some b) := by
  obtain ⟨D, ho, hk⟩ := h
  obtain ⟨w', hr, ho', hg⟩ := ho.update lawS Try.underlying44 hn (kl_key hs) (plainElem_int Try.underlying3 hv)
  refine ⟨w', hr, ⟨_, ho', fun x hx => ?_⟩, hg⟩
  show _ = DataW.lit (Lit.int .i64 ((if x = s then some v else q x).getD 0)) ∧ _ = (if x = s then some v else q x).isSome
  by_cases e : x = s
  · subst e
    rw [if_pos rfl, Maps.atKey_put_same ho.isMap (kl_lit hs), Maps.has_put_same ho.isMap (kl_lit hs)]
    exact ⟨rfl, rfl⟩
  · rw [if_neg e, Maps.atKey_put_other (kl_ne e), Maps.has_put_other (kl_ne e)]
    exact hk x hx
end
/-! ### At the operation -/
section
variable {ops : Array Oper} {rest : List Oper} {o : Oper} {a : Act} {Q : Exit → Act → World → Prop} {W : World}
theorem mkB_ev (hgd : o.guard = none) {N : Tmp} (_hd : o.dst = some N) (hop : o.op = .makeMap 65 none)
    (h : ∀ b, b = W.heap.size → ∀ w1, MB w1 b 0 (fun _ => false) → Below W.heap.size W w1 → wpList Try.prog ops Q rest (a.put o.dst (.map (some b))) w1) : wpList Try.prog ops Q (o :: rest) a W := by
  have hrun : (execOp a.eval o).run Try.prog W = .ok (.value (.map (some W.heap.size))) (W.alloc (.map #[] 0)) := by
    have := @run_makeMap Try.prog 65 W
    simp [execOp, hop, this, Result.andThen]
  exact Kd.event_run hgd hrun (h _ rfl _ (MB.made W) (below_alloc (Below.refl _ _) _))
theorem mkI_ev (hgd : o.guard = none) {N : Tmp} (_hd : o.dst = some N) (hop : o.op = .makeMap 44 none)
    (h : ∀ b, b = W.heap.size → ∀ w1, MI w1 b 0 (fun _ => none) → Below W.heap.size W w1 → wpList Try.prog ops Q rest (a.put o.dst (.map (some b))) w1) : wpList Try.prog ops Q (o :: rest) a W := by
  have hrun : (execOp a.eval o).run Try.prog W = .ok (.value (.map (some W.heap.size))) (W.alloc (.map #[] 0)) := by
    have := @run_makeMap Try.prog 44 W
    simp [execOp, hop, this, Result.andThen]
  exact Kd.event_run hgd hrun (h _ rfl _ (MI.made W) (below_alloc (Below.refl _ _) _))
theorem getB_ev (hgd : o.guard = none) {m x : Operand} (hop : o.op = .lookup 65 m x false) {b n : Nat} {p : ByteArray → Bool} {s : ByteArray} {v : Bool} (hm : a.eval m = .map (some b)) (hx : a.eval x = .string s) (hs : s.size ≤ maxLen) (H : MB W b n p) (hv : p s = v)
    (h : wpList Try.prog ops Q rest (a.put o.dst (.bool v)) W) : wpList Try.prog ops Q (o :: rest) a W := by
  have hrun : (execOp a.eval o).run Try.prog W = .ok (.value (.bool v)) W := by simp [execOp, hop, hm, hx, H.look hs, hv, Result.andThen]
  exact Kd.event_run hgd hrun h
theorem getI_ev (hgd : o.guard = none) {m x : Operand} (hop : o.op = .lookup 44 m x false) {b n : Nat} {q : ByteArray → Option Int} {s : ByteArray} {v : Int} (hm : a.eval m = .map (some b)) (hx : a.eval x = .string s) (hs : s.size ≤ maxLen) (H : MI W b n q) (hv : (q s).getD 0 = v)
    (h : wpList Try.prog ops Q rest (a.put o.dst (.int .i64 v)) W) : wpList Try.prog ops Q (o :: rest) a W := by
  have hrun : (execOp a.eval o).run Try.prog W = .ok (.value (.int .i64 v)) W := by simp [execOp, hop, hm, hx, H.look hs, hv, Result.andThen]
  exact Kd.event_run hgd hrun h
theorem getI2_ev (hgd : o.guard = none) {m x : Operand} (hop : o.op = .lookup 44 m x true) {b n : Nat} {q : ByteArray → Option Int} {s : ByteArray} {v : Int} {ok : Bool} (hm : a.eval m = .map (some b)) (hx : a.eval x = .string s) (hs : s.size ≤ maxLen) (H : MI W b n q) (hv : (q s).getD 0 = v) (hok : (q s).isSome = ok)
    (h : wpList Try.prog ops Q rest (a.put o.dst (.tuple #[.int .i64 v, .bool ok])) W) : wpList Try.prog ops Q (o :: rest) a W := by
  have hrun : (execOp a.eval o).run Try.prog W = .ok (.value (.tuple #[.int .i64 v, .bool ok])) W := by simp [execOp, hop, hm, hx, H.look_ok hs, hv, hok, Result.andThen]
  exact Kd.event_run hgd hrun h
theorem skip_ev {W1 : World} (hgd : o.guard = none) (hrun : (execOp a.eval o).run Try.prog W = .ok .skip W1) (h : wpList Try.prog ops Q rest (a.put o.dst undef) W1) : wpList Try.prog ops Q (o :: rest) a W := by
  refine wpList_plain hgd fun K hK => ?_
  unfold Oper.wp
  rw [hrun]
  exact hK _ _ h
theorem putB_ev (hgd : o.guard = none) {m x y : Operand} (hop : o.op = .mapUpdate 65 m x y ∨ o.op = .insert 65 m x y) {b n : Nat} {p : ByteArray → Bool} {s : ByteArray} {v : Bool} (hm : a.eval m = .map (some b)) (hx : a.eval x = .string s) (hy : a.eval y = .bool v) (hs : s.size ≤ maxLen) (hn : n < maxLen) (H : MB W b n p)
    (h : ∀ w1, MB w1 b (n + 1) (fun x => if x = s then v else p x) → W.grownBy w1 (some b) → wpList Try.prog ops Q rest (a.put o.dst undef) w1) : wpList Try.prog ops Q (o :: rest) a W := by
  obtain ⟨w1, hr, hb, hg⟩ := H.put hn hs v
  have hrun : (execOp a.eval o).run Try.prog W = .ok .skip w1 := by
    rcases hop with hop | hop <;> simp [execOp, hop, hm, hx, hy, hr, Result.andThen]
  exact skip_ev hgd hrun (h w1 hb hg)
theorem putI_ev (hgd : o.guard = none) {m x y : Operand} (hop : o.op = .mapUpdate 44 m x y ∨ o.op = .insert 44 m x y) {b n : Nat} {q : ByteArray → Option Int} {s : ByteArray} {v : Int} (hm : a.eval m = .map (some b)) (hx : a.eval x = .string s) (hy : a.eval y = .int .i64 v) (hv : (Lit.int .i64 v).wf = true) (hs : s.size ≤ maxLen) (hn : n < maxLen) (H : MI W b n q)
    (h : ∀ w1, MI w1 b (n + 1) (fun x => if x = s then some v else q x) → W.grownBy w1 (some b) → wpList Try.prog ops Q rest (a.put o.dst undef) w1) : wpList Try.prog ops Q (o :: rest) a W := by
  obtain ⟨w1, hr, hb, hg⟩ := H.put hn hs v hv
  have hrun : (execOp a.eval o).run Try.prog W = .ok .skip w1 := by
    rcases hop with hop | hop <;> simp [execOp, hop, hm, hx, hy, hr, Result.andThen]
  exact skip_ev hgd hrun (h w1 hb hg)
end
end Go.Proofs.Ytmacdknicgfglaa.Mp
namespace Go.Proofs.Ytmacdknicgfglaa.Evt
open Go.RowKit Go.Proofs.YtmacdknicgfglaaW.PrintWords Go.Proofs.Ytmacdknicgfglaa.Mp
theorem Bk.grown {w w' : World} {g : Nat} {T : TypeId} {cs : Array Value} {row : Option Nat} (h : Bk w g T cs) (hg : w.grownBy w' row) (hne : some g ≠ row) : Bk w' g T cs := ⟨blk_grown h.blk hg hne⟩
theorem Bk.mput {w w' : World} {g b n : Nat} {T : TypeId} {cs : Array Value} {p : ByteArray → Bool} (h : Bk w g T cs) (hM : MB w b n p) (hg : w.grownBy w' (some b)) : Bk w' g T cs := h.grown hg (fun e => hM.ne h.blk (by injection e))
theorem Bk.mputI {w w' : World} {g b n : Nat} {T : TypeId} {cs : Array Value} {p : ByteArray → Option Int} (h : Bk w g T cs) (hM : MI w b n p) (hg : w.grownBy w' (some b)) : Bk w' g T cs := h.grown hg (fun e => hM.ne h.blk (by injection e))
theorem Ro.mput {α : Type} {enc : α → Value} {h1 : ∀ x, (enc x).oneCell' = true} {e : TypeId} {w0 w w' : World} {b n : Nat} {p : ByteArray → Bool} {v : Value} {xs : List α} (h : Ro (Kd.scalar enc h1) e w0 w v xs) (hM : MB w b n p) (hg : w.grownBy w' (some b)) : Ro (Kd.scalar enc h1) e w0 w' v xs := ⟨R_other h.row hg (.inl (hM.row h.row))⟩
theorem Ro.mputI {α : Type} {enc : α → Value} {h1 : ∀ x, (enc x).oneCell' = true} {e : TypeId} {w0 w w' : World} {b n : Nat} {p : ByteArray → Option Int} {v : Value} {xs : List α} (h : Ro (Kd.scalar enc h1) e w0 w v xs) (hM : MI w b n p) (hg : w.grownBy w' (some b)) : Ro (Kd.scalar enc h1) e w0 w' v xs := ⟨R_other h.row hg (.inl (hM.row h.row))⟩
end Go.Proofs.Ytmacdknicgfglaa.Evt
end
section
/- A region of open order with lookups in one's own map, ended by an assignment to a map. -/
namespace Go.Proofs.Ytmacdknicgfglaa.Evt
open Go.RowKit Go.Proofs.YtmacdknicgfglaaW.PrintWords Go.Proofs.YtmacdknicgfglaaW.PrintMore Go.Proofs.YtmacdknicgfglaaW.PrintLast Go.Proofs.Ytmacdknicgfglaa.Chg Go.Proofs.Ytmacdknicgfglaa.Mp
set_option linter.unusedVariables false
section
variable {P : Program} {ops : Array Oper} {Q : Exit → Act → World → Prop} {w0 : World} {T : Bool × List (List Nat × List Nat)} {B ds : List Nat}
def Ol (P : Program) (ops : Array Oper) (Q : Exit → Act → World → Prop) (w0 : World) (ds : List Nat) (n m : Nat) (r : List (Nat × Option Tmp)) (a : Act) (w : World) : Prop := wpAnyLast P .any ops Q (Hb w0) ds m (lst n r) a w
theorem ol_start {id : Nat} {a : Act} {w : World} (n : Nat) (r : List (Nat × Option Tmp)) (hm : P.follows .mixedOrders = true) (hn : ops.size = n) (hl : Array.replicate n false = lst n r) (hT : rtab .any ops = T) (hB : waitsOk T.2 B = true) (hb : Below w0.heap.size w0 w)
    (h : Aside0 (rtab .any ops = T) → Aside0 (waitsOk T.2 B = true) → ∀ w', Hb w0 w' → Ol P ops Q w0 ds n n r a w') : (Code.region id ops true).wp P Q a w :=
  start_ (lst n r) hm hn hl ⟨below_drew hb⟩ (fun _ => h ⟨hT⟩ ⟨hB⟩ _ ⟨below_drew hb⟩)
variable {n m i : Nat} {N : Option Tmp} {r : List (Nat × Option Tmp)} {a a' : Act} {w : World} {oi : Oper} {v : Value}
theorem ol_off (HT : Aside0 (rtab .any ops = T)) (ho : ops[i]? = some oi) (hN : oi.dst = N) (hw : Region.wanted oi (yielded ops a.tmps) = false) (hc : anyT T (lst n ((i, N) :: r)).toList (lst n r).toList i = true)
    (hQ : ∀ c a w, Q (.panic c) (a.put N undef) w → Q (.panic c) a w) (ha : a.put N undef = a') (h : Ol P ops Q w0 ds n m r a' w) : Ol P ops Q w0 ds n (m + 1) ((i, N) :: r) a w :=
  by subst hN; exact pure_ (lst n r) ho rfl (any_of HT.out hc) hQ (.inr ⟨hw, rfl⟩) ha h
theorem ol_pure (HT : Aside0 (rtab .any ops = T)) (ho : ops[i]? = some oi) (hN : oi.dst = N) (hp : pureK oi.op = true) (hw : Region.wanted oi (yielded ops a.tmps) = true) (hc : anyT T (lst n ((i, N) :: r)).toList (lst n r).toList i = true)
    (hQ : ∀ c a w, Q (.panic c) (a.put N v) w → Q (.panic c) a w) (hr : ∀ w', (execOp a.eval oi).run P w' = .ok (.value v) w') (ha : a.put N v = a') (h : Ol P ops Q w0 ds n m r a' w) : Ol P ops Q w0 ds n (m + 1) ((i, N) :: r) a w :=
  by subst hN; exact pure_ (lst n r) ho rfl (any_of HT.out hc) hQ (.inl ⟨hw, hr⟩) ha h
theorem ol_load (HT : Aside0 (rtab .any ops = T)) (HW : Aside0 (waitsOk T.2 B = true)) (HS : Hb w0 w) (ho : ops[i]? = some oi) (hN : oi.dst = N) (hp : loadK oi.op = true) (hw : Region.wanted oi (yielded ops a.tmps) = true) (hc : takeW T B ds (lst n ((i, N) :: r)).toList (lst n r).toList i = true)
    (hQ : ∀ c a w, Q (.panic c) (a.put N v) w → Q (.panic c) a w) (hr : ∀ w', Hb w0 w' → (execOp a.eval oi).run P w' = .ok (.value v) w') (ha : a.put N v = a') (h : Ol P ops Q w0 ds n m r a' w) : Ol P ops Q w0 ds n (m + 1) ((i, N) :: r) a w :=
  by subst hN; exact take_ (lst n r) ho rfl (take_ofW HT.out HW.out hc) hQ (.inl ⟨hw, hr⟩) HS ha h
theorem ol_norm (ha : a = a') (h : Ol P ops Q w0 ds n m r a' w) : Ol P ops Q w0 ds n m r a w := by subst ha; exact h
theorem ol_done (HT : Aside0 (rtab .any ops = T)) (hc : (readyT T.2 (lst n []).toList == []) = true) (h : Q .normal a w) : Ol P ops Q w0 ds n m [] a w := done_ (done_of HT.out hc) h
end
section
variable {ops : Array Oper} {Q : Exit → Act → World → Prop} {w0 : World} {T : Bool × List (List Nat × List Nat)} {B ds : List Nat}
variable {n m i : Nat} {N : Option Tmp} {r : List (Nat × Option Tmp)} {a a' : Act} {w : World} {oi : Oper} {v : Value}
theorem ol_lookB (HT : Aside0 (rtab .any ops = T)) (HW : Aside0 (waitsOk T.2 B = true)) (HS : Hb w0 w) (ho : ops[i]? = some oi) (hN : oi.dst = N) {mo xo : Operand} (hop : oi.op = .lookup 65 mo xo false) (hw : Region.wanted oi (yielded ops a.tmps) = true) (hc : takeW T B ds (lst n ((i, N) :: r)).toList (lst n r).toList i = true)
    (hQ : ∀ (v : Value) c a w, Q (.panic c) (a.put N v) w → Q (.panic c) a w) {b k : Nat} {p : ByteArray → Bool} {s : ByteArray} {v : Bool} (HM : ∀ w', Hb w0 w' → MB w' b k p) (hs : s.size ≤ maxLen) (hv : p s = v) (hm : a.eval mo = .map (some b)) (hx : a.eval xo = .string s) (ha : a.put N (.bool v) = a') (h : Ol Try.prog ops Q w0 ds n m r a' w) : Ol Try.prog ops Q w0 ds n (m + 1) ((i, N) :: r) a w := by
  subst hN
  exact take_ (lst n r) ho rfl (take_ofW HT.out HW.out hc) (hQ _) (.inl ⟨hw, fun w' hS => by simp [execOp, hop, hm, hx, (HM w' hS).look hs, hv, Result.andThen]⟩) HS ha h
theorem ol_lookI (HT : Aside0 (rtab .any ops = T)) (HW : Aside0 (waitsOk T.2 B = true)) (HS : Hb w0 w) (ho : ops[i]? = some oi) (hN : oi.dst = N) {mo xo : Operand} (hop : oi.op = .lookup 44 mo xo false) (hw : Region.wanted oi (yielded ops a.tmps) = true) (hc : takeW T B ds (lst n ((i, N) :: r)).toList (lst n r).toList i = true)
    (hQ : ∀ (v : Value) c a w, Q (.panic c) (a.put N v) w → Q (.panic c) a w) {b k : Nat} {p : ByteArray → Option Int} {s : ByteArray} {v : Int} (HM : ∀ w', Hb w0 w' → MI w' b k p) (hs : s.size ≤ maxLen) (hv : (p s).getD 0 = v) (hm : a.eval mo = .map (some b)) (hx : a.eval xo = .string s) (ha : a.put N (.int .i64 v) = a') (h : Ol Try.prog ops Q w0 ds n m r a' w) : Ol Try.prog ops Q w0 ds n (m + 1) ((i, N) :: r) a w := by
  subst hN
  exact take_ (lst n r) ho rfl (take_ofW HT.out HW.out hc) (hQ _) (.inl ⟨hw, fun w' hS => by simp [execOp, hop, hm, hx, (HM w' hS).look hs, hv, Result.andThen]⟩) HS ha h
theorem ol_lookI2 (HT : Aside0 (rtab .any ops = T)) (HW : Aside0 (waitsOk T.2 B = true)) (HS : Hb w0 w) (ho : ops[i]? = some oi) (hN : oi.dst = N) {mo xo : Operand} (hop : oi.op = .lookup 44 mo xo true) (hw : Region.wanted oi (yielded ops a.tmps) = true) (hc : takeW T B ds (lst n ((i, N) :: r)).toList (lst n r).toList i = true)
    (hQ : ∀ (v : Value) c a w, Q (.panic c) (a.put N v) w → Q (.panic c) a w) {b k : Nat} {p : ByteArray → Option Int} {s : ByteArray} {v : Int} {ok : Bool} (HM : ∀ w', Hb w0 w' → MI w' b k p) (hs : s.size ≤ maxLen) (hv : (p s).getD 0 = v) (hok : (p s).isSome = ok) (hm : a.eval mo = .map (some b)) (hx : a.eval xo = .string s) (ha : a.put N (.tuple #[.int .i64 v, .bool ok]) = a') (h : Ol Try.prog ops Q w0 ds n m r a' w) : Ol Try.prog ops Q w0 ds n (m + 1) ((i, N) :: r) a w := by
  subst hN
  exact take_ (lst n r) ho rfl (take_ofW HT.out HW.out hc) (hQ _) (.inl ⟨hw, fun w' hS => by simp [execOp, hop, hm, hx, (HM w' hS).look_ok hs, hv, hok, Result.andThen]⟩) HS ha h
theorem ol_putB (HT : Aside0 (rtab .any ops = T)) (ho : ops[i]? = some oi) (hN : oi.dst = none) (hd : i ∈ ds) (hc : (readyT T.2 (lst n ((i, none) :: r)).toList == [i] && (lst n ((i, none) :: r)).toList.set i true == (lst n r).toList) = true) (hw : Region.wanted oi (yielded ops a.tmps) = true)
    {mo xo yo : Operand} (hop : oi.op = .mapUpdate 65 mo xo yo) {b k : Nat} {p : ByteArray → Bool} {s : ByteArray} {v : Bool} (hm : a.eval mo = .map (some b)) (hx : a.eval xo = .string s) (hy : a.eval yo = .bool v) (hs : s.size ≤ maxLen) (hn : k < maxLen) (H : MB w b k p)
    (h : ∀ w1, MB w1 b (k + 1) (fun x => if x = s then v else p x) → w.grownBy w1 (some b) → Ol Try.prog ops Q w0 ds n m r a w1) : Ol Try.prog ops Q w0 ds n (m + 1) ((i, none) :: r) a w := by
  obtain ⟨w1, hr, hb, hg⟩ := H.put hn hs v
  refine last_ (lst n r) ho hN (one_of HT.out hc) hd (fun K hK => ?_)
  rw [if_pos hw]
  unfold Oper.wp
  have hrun : (execOp a.eval oi).run Try.prog w = .ok .skip w1 := by simp [execOp, hop, hm, hx, hy, hr, Result.andThen]
  rw [hrun]
  show K (a.put oi.dst undef) w1
  rw [hN]
  exact hK.out _ _ (h w1 hb hg)
theorem ol_putI (HT : Aside0 (rtab .any ops = T)) (ho : ops[i]? = some oi) (hN : oi.dst = none) (hd : i ∈ ds) (hc : (readyT T.2 (lst n ((i, none) :: r)).toList == [i] && (lst n ((i, none) :: r)).toList.set i true == (lst n r).toList) = true) (hw : Region.wanted oi (yielded ops a.tmps) = true)
    {mo xo yo : Operand} (hop : oi.op = .mapUpdate 44 mo xo yo) {b k : Nat} {p : ByteArray → Option Int} {s : ByteArray} {v : Int} (hm : a.eval mo = .map (some b)) (hx : a.eval xo = .string s) (hy : a.eval yo = .int .i64 v) (hv : (Lit.int .i64 v).wf = true) (hs : s.size ≤ maxLen) (hn : k < maxLen) (H : MI w b k p)
    (h : ∀ w1, MI w1 b (k + 1) (fun x => if x = s then some v else p x) → w.grownBy w1 (some b) → Ol Try.prog ops Q w0 ds n m r a w1) : Ol Try.prog ops Q w0 ds n (m + 1) ((i, none) :: r) a w := by
  obtain ⟨w1, hr, hb, hg⟩ := H.put hn hs v hv
  refine last_ (lst n r) ho hN (one_of HT.out hc) hd (fun K hK => ?_)
  rw [if_pos hw]
  unfold Oper.wp
  have hrun : (execOp a.eval oi).run Try.prog w = .ok .skip w1 := by simp [execOp, hop, hm, hx, hy, hr, Result.andThen]
  rw [hrun]
  show K (a.put oi.dst undef) w1
  rw [hN]
  exact hK.out _ _ (h w1 hb hg)
end
section
variable {ops : Array Oper} {rest : List Oper} {o o2 : Oper} {a : Act} {Q : Exit → Act → World → Prop} {W : World}
/-- A variable of one cell made, and filled at once. -/
theorem box1 (hgd : o.guard = none) {N : Tmp} (hd : o.dst = some N) {z v : Value} {T : TypeId}
    (hrun : (execOp a.eval o).run Try.prog W = .ok (.value (.pointer (some ⟨W.heap.size, 0, none⟩))) (W.alloc (.cells #[z] T (0, 0))))
    (hg2 : o2.guard = none) (hd2 : o2.dst = none)
    (hrun2 : (execOp (a.put (some N) (.pointer (some ⟨W.heap.size, 0, none⟩))).eval o2).run Try.prog (W.alloc (.cells #[z] T (0, 0))) = .ok .skip ((W.alloc (.cells #[z] T (0, 0))).setCell ⟨W.heap.size, 0, none⟩ v))
    (h : ∀ g, g = W.heap.size → ∀ w1, w1.heap[g]? = some (.cells #[v] T (0, 0)) → Below W.heap.size W w1 → wpList Try.prog ops Q rest (a.put o.dst (.pointer (some ⟨g, 0, none⟩))) w1) : wpList Try.prog ops Q (o :: o2 :: rest) a W := by
  refine Kd.event_run hgd hrun ?_
  rw [hd]
  refine skip_ev hg2 hrun2 ?_
  rw [hd2]
  have h1 : Blk ((W.alloc (.cells #[z] T (0, 0))).setCell ⟨W.heap.size, 0, none⟩ v) W.heap.size T #[v] := (Blk.new W T #[z]).set_ 0 v
  have hh := h W.heap.size rfl _ h1 (below_set (below_alloc (Below.refl _ _) _) (Nat.le_refl _))
  rw [hd] at hh
  exact hh
/-- A variable of one cell is written. -/
theorem set1_ev (hgd : o.guard = none) {g : Nat} {z v : Value} {T : TypeId} (hb : Bk W g T #[z])
    (hrun : (execOp a.eval o).run Try.prog W = .ok .skip (W.setCell ⟨g, 0, none⟩ v))
    (h : ∀ w1, Bk w1 g T #[v] → W.grownBy w1 (some g) → wpList Try.prog ops Q rest (a.put o.dst undef) w1) : wpList Try.prog ops Q (o :: rest) a W := by
  refine skip_ev hgd hrun (h _ ⟨Blk.set_ hb.blk 0 v⟩ ⟨rfl, rfl, rfl, by simp [World.setCell], fun k hk hne => ?_⟩)
  exact Below.heap_setCell W ⟨g, 0, none⟩ v k (fun e => hne (by rw [e]))
end
end Go.Proofs.Ytmacdknicgfglaa.Evt
end
section
/- A region in the body of a range over a function: the laws of open regions hold there, too. -/
namespace Go.Proofs.Ytmacdknicgfglaa.Evt
open Go.RowKit Go.Proofs.YtmacdknicgfglaaW.PrintWords Go.Proofs.YtmacdknicgfglaaW.PrintMore Go.Proofs.YtmacdknicgfglaaW.PrintLast Go.Proofs.Ytmacdknicgfglaa.Chg Go.Proofs.Ytmacdknicgfglaa.Mp
set_option linter.unusedVariables false
section
variable {P : Program} {ops : Array Oper} {Q : Exit → Act → World → Prop} {l n : Nat}
theorem upIn {o : Oper} {a : Act} {K : Act → World → Prop} : ∀ {r : Result Next}, o.upon P a K Q r → o.uponIn (Fence.wide.inRound l) n P a K Q r
  | .ok (.value v) w', h => h
  | .ok .skip w', h => h
  | .ok (.defer d) w', h => h
  | .ok (.enter f args) w', h => ⟨fun e => (by cases e), CallsIn.inRound l (callsIn_wide.2 h)⟩
  | .ok (.row row args) w', h => ⟨fun e => (by cases e), fun c cs _ => let ⟨v, w1, r, s⟩ := h c cs; ⟨v, w1, r, stepsIn_wide.2 s⟩⟩
  | .ok (.round ..) w', h => h.elim
  | .halt x w', h => by cases x <;> exact h
theorem wpOp_In {i : Nat} {K : Act → World → Prop} {a : Act} {w : World} (hd : ∀ (j : Nat) (o : Oper), ops[j]? = some o → ∀ c, o.op ≠ .defer c) (hQ : ¬ LetsOut Q) (h : wpOp P ops Q i K a w) : wpOpIn (Fence.wide.inRound l) n P ops Q i K a w := by
  unfold wpOp at h
  unfold wpOpIn
  cases ho : ops[i]? with
  | none => rw [ho] at h; exact h
  | some o =>
    rw [ho] at h
    simp only at h ⊢
    by_cases hw : Region.wanted o (yielded ops a.tmps) = true
    · rw [if_pos hw] at h ⊢
      rcases h with h | h
      · refine ⟨fun f _ => trivial, ?_⟩
        rw [Oper.semAt_eq _ _ _ (hd i o ho)]
        exact upIn h
      · exact (hQ h.2).elim
    · rw [if_neg hw] at h ⊢
      exact ⟨fun f _ => trivial, h⟩
theorem wpAny_In {md : Region.Mode} (hd : ∀ (j : Nat) (o : Oper), ops[j]? = some o → ∀ c, o.op ≠ .defer c) (hQ : ¬ LetsOut Q) : ∀ (fuel : Nat) (listed : Array Bool) (a : Act) (w : World), wpAny P md ops Q fuel listed a w → wpAnyIn (Fence.wide.inRound l) n P md ops Q fuel listed a w
  | 0, _, _, _, h => h
  | fuel + 1, _, _, _, h => ⟨h.1, fun i hi => wpOpIn_mono (fun a w h' => wpAny_In hd hQ fuel _ a w h') (wpOp_In hd hQ (h.2 i hi))⟩
/-- No operation defers a call. -/
def noDefer (ops : Array Oper) : Bool := ops.all fun o => match o.op with | .defer _ => false | _ => true
theorem noDefer_of (h : noDefer ops = true) : ∀ (j : Nat) (o : Oper), ops[j]? = some o → ∀ c, o.op ≠ .defer c := by
  intro j o ho c e
  unfold noDefer at h
  rw [Array.all_eq_true] at h
  obtain ⟨hj, e2⟩ := Array.getElem?_eq_some_iff.1 ho
  have := h j hj
  rw [e2, e] at this
  cases this
variable {w0 : World} {T : Bool × List (List Nat × List Nat)} {B ds : List Nat}
theorem ol_startIn {id : Nat} {a : Act} {w : World} (hnd : noDefer ops = true) (hQ : ¬ LetsOut Q) (m : Nat) (r : List (Nat × Option Tmp)) (hm : P.follows .mixedOrders = true) (hn : ops.size = m) (hl : Array.replicate m false = lst m r) (hT : rtab .any ops = T) (hB : waitsOk T.2 B = true) (hb : Below w0.heap.size w0 w)
    (h : Aside0 (rtab .any ops = T) → Aside0 (waitsOk T.2 B = true) → ∀ w', Hb w0 w' → Ol P ops Q w0 ds m m r a w') : (Code.region id ops true).wpIn (Fence.wide.inRound l) n P Q a w := by
  have h1 := h ⟨hT⟩ ⟨hB⟩ _ ⟨below_drew hb⟩
  subst hn
  unfold Ol at h1
  rw [← hl] at h1
  exact wpIn_region_any hm (wpAny_In (noDefer_of hnd) hQ _ _ _ _ (wpAny_of_last _ _ _ _ h1))
end
end Go.Proofs.Ytmacdknicgfglaa.Evt
end
section
/- Plain functions of the graph package: nodes, contacts' numbers, an order. No program in sight. -/
namespace Go.Proofs.Ytmacdknicgfglaa.Gp
open Go.RowKit Go.Proofs.YtmacdknicgfglaaW.PrintWords Go.Proofs.YtmacdknicgfglaaW.PrintMore
set_option linter.unusedVariables false
set_option linter.unusedSimpArgs false
/-- A contact: from, to. -/
abbrev Ed := ByteArray × ByteArray
def zE : Ed := (⟨#[]⟩, ⟨#[]⟩)
def sL : ByteArray := ⟨#[76]⟩
def sR : ByteArray := ⟨#[82]⟩
instance memDec (s : ByteArray) (acc : List ByteArray) : Decidable (s ∈ acc) := @List.instDecidableMemOfLawfulBEq ByteArray instBEqOfDecidableEq inferInstance s acc
/-- A name behind the others, if it is not among them. -/
def addN (acc : List ByteArray) (s : ByteArray) : List ByteArray := if s ∈ acc then acc else acc ++ [s]
def addC (acc : List ByteArray) (c : Ed) : List ByteArray := addN (addN acc c.1) c.2
def nodesL (l : List Ed) : List ByteArray := l.foldl addC [sL, sR]
/-- The numbers of the contacts of which p holds. -/
def idxs (p : Ed → Bool) (l : List Ed) : List Int := ((List.range l.length).filter fun i => p (l.getD i zE)).map fun (i : Nat) => (i : Int)
def outL (l : List Ed) (s : ByteArray) : List Int := idxs (fun c => decide (c.1 = s)) l
def inL (l : List Ed) (s : ByteArray) : List Int := idxs (fun c => decide (c.2 = s)) l
/-- A rung that is not too large. -/
def okG (l : List Ed) : Bool := decide (l.length ≤ 1000) && l.all fun c => decide (c.1.size ≤ 100000) && decide (c.2.size ≤ 100000)
theorem okG_len {l : List Ed} (h : okG l = true) : l.length ≤ 1000 := by unfold okG at h; rw [Bool.and_eq_true] at h; exact of_decide_eq_true h.1
theorem okG_f2 {l : List Ed} (h : okG l = true) {c : Ed} (hc : c ∈ l) : c.1.size ≤ 100000 := by unfold okG at h; rw [Bool.and_eq_true] at h; have := List.all_eq_true.1 h.2 c hc; simp only [Bool.and_eq_true, decide_eq_true_eq] at this; exact this.1
theorem okG_f3 {l : List Ed} (h : okG l = true) {c : Ed} (hc : c ∈ l) : c.2.size ≤ 100000 := by unfold okG at h; rw [Bool.and_eq_true] at h; have := List.all_eq_true.1 h.2 c hc; simp only [Bool.and_eq_true, decide_eq_true_eq] at this; exact this.2
/-! ### Nodes -/
theorem addN_mem {acc : List ByteArray} {s x : ByteArray} : x ∈ addN acc s ↔ x ∈ acc ∨ x = s := by
  unfold addN
  split
  · constructor
    · exact .inl
    · rintro (h | rfl)
      · exact h
      · assumption
  · simp
theorem addN_in {acc : List ByteArray} {s : ByteArray} (h : s ∈ acc) : addN acc s = acc := if_pos h
theorem addN_out {acc : List ByteArray} {s : ByteArray} (h : s ∉ acc) : addN acc s = acc ++ [s] := if_neg h
theorem addN_len (acc : List ByteArray) (s : ByteArray) : (addN acc s).length ≤ acc.length + 1 := by
  unfold addN
  split <;> simp
theorem addN_ge (acc : List ByteArray) (s : ByteArray) : acc.length ≤ (addN acc s).length := by
  unfold addN
  split <;> simp
theorem addN_nodup {acc : List ByteArray} {s : ByteArray} (h : acc.Nodup) : (addN acc s).Nodup := by
  unfold addN
  split
  · exact h
  · rename_i hs
    rw [List.nodup_append]
    refine ⟨h, by simp, ?_⟩
    intro a ha b hb
    obtain rfl := List.mem_singleton.1 hb
    rintro rfl
    exact hs ha
theorem nodesL_snoc (l : List Ed) (c : Ed) : nodesL (l ++ [c]) = addC (nodesL l) c := by simp [nodesL]
theorem nodesL_take {l : List Ed} {j : Nat} (h : j < l.length) : nodesL (l.take (j + 1)) = addC (nodesL (l.take j)) l[j] := by
  rw [List.take_succ_eq_append_getElem h, nodesL_snoc]
theorem fold_len : ∀ (l : List Ed) (acc : List ByteArray), (l.foldl addC acc).length ≤ acc.length + 2 * l.length
  | [], acc => by simp
  | c :: l, acc => by
    have h1 := fold_len l (addC acc c)
    have h2 := addN_len (addN acc c.1) c.2
    have h3 := addN_len acc c.1
    simp only [List.foldl_cons, List.length_cons]
    unfold addC at h1 ⊢
    omega
theorem nodesL_len (l : List Ed) : (nodesL l).length ≤ 2 + 2 * l.length := fold_len l _
theorem fold_mem : ∀ (l : List Ed) (acc : List ByteArray) (x : ByteArray), x ∈ l.foldl addC acc ↔ x ∈ acc ∨ ∃ c ∈ l, x = c.1 ∨ x = c.2
  | [], acc, x => by simp
  | c :: l, acc, x => by
    rw [List.foldl_cons, fold_mem l]
    unfold addC
    rw [addN_mem, addN_mem]
    simp only [List.mem_cons, exists_eq_or_imp]
    constructor
    · rintro (((h | h) | h) | h)
      · exact .inl h
      · exact .inr (.inl (.inl h))
      · exact .inr (.inl (.inr h))
      · exact .inr (.inr h)
    · rintro (h | (h | h) | h)
      · exact .inl (.inl (.inl h))
      · exact .inl (.inl (.inr h))
      · exact .inl (.inr h)
      · exact .inr h
theorem nodesL_mem {l : List Ed} {x : ByteArray} : x ∈ nodesL l ↔ x = sL ∨ x = sR ∨ ∃ c ∈ l, x = c.1 ∨ x = c.2 := by
  unfold nodesL
  rw [fold_mem]
  simp [or_assoc]
theorem fold_nodup : ∀ (l : List Ed) (acc : List ByteArray), acc.Nodup → (l.foldl addC acc).Nodup
  | [], acc, h => h
  | c :: l, acc, h => fold_nodup l _ (addN_nodup (addN_nodup h))
theorem sL_ne : sL ≠ sR := by decide
theorem nodesL_nodup (l : List Ed) : (nodesL l).Nodup := fold_nodup l _ (by simp [sL_ne])
theorem nodesL_size {l : List Ed} (h : okG l = true) {x : ByteArray} (hx : x ∈ nodesL l) : x.size ≤ 100000 := by
  rcases nodesL_mem.1 hx with rfl | rfl | ⟨c, hc, rfl | rfl⟩
  · decide
  · decide
  · exact okG_f2 h hc
  · exact okG_f3 h hc
/-! ### Contacts' numbers -/
theorem idxs_nil (p : Ed → Bool) : idxs p [] = [] := rfl
theorem idxs_snoc (p : Ed → Bool) (l : List Ed) (c : Ed) : idxs p (l ++ [c]) = if p c = true then idxs p l ++ [(l.length : Int)] else idxs p l := by
  unfold idxs
  rw [List.length_append, List.length_singleton, List.range_succ, List.filter_append, List.map_append]
  have e1 : (List.range l.length).filter (fun i => p ((l ++ [c]).getD i zE)) = (List.range l.length).filter fun i => p (l.getD i zE) := by
    apply List.filter_congr
    intro i hi
    rw [List.mem_range] at hi
    rw [List.getD_eq_getElem?_getD, List.getD_eq_getElem?_getD, List.getElem?_append_left hi]
  have e2 : (l ++ [c]).getD l.length zE = c := by simp [List.getD_eq_getElem?_getD]
  rw [e1]
  by_cases hp : p c = true
  · rw [if_pos hp]; simp [e2, hp]
  · rw [if_neg hp]
    have hp' : p c = false := by simpa using hp
    simp [e2, hp']
theorem idxs_take (p : Ed → Bool) {l : List Ed} {j : Nat} (h : j < l.length) : idxs p (l.take (j + 1)) = if p l[j] = true then idxs p (l.take j) ++ [(j : Int)] else idxs p (l.take j) := by
  rw [List.take_succ_eq_append_getElem h, idxs_snoc, List.length_take, Nat.min_eq_left (by omega)]
theorem idxs_len (p : Ed → Bool) (l : List Ed) : (idxs p l).length ≤ l.length := by
  unfold idxs
  rw [List.length_map]
  refine Nat.le_trans (List.length_filter_le _ _) (by simp)
theorem idxs_mem {p : Ed → Bool} {l : List Ed} {i : Int} : i ∈ idxs p l ↔ ∃ j : Nat, i = j ∧ ∃ h : j < l.length, p l[j] = true := by
  unfold idxs
  simp only [List.mem_map, List.mem_filter, List.mem_range]
  constructor
  · rintro ⟨j, ⟨hj, hp⟩, rfl⟩
    rw [List.getD_eq_getElem?_getD, List.getElem?_eq_getElem hj] at hp
    exact ⟨j, rfl, hj, hp⟩
  · rintro ⟨j, rfl, hj, hp⟩
    exact ⟨j, ⟨hj, by rw [List.getD_eq_getElem?_getD, List.getElem?_eq_getElem hj]; exact hp⟩, rfl⟩
theorem outL_mem {l : List Ed} {s : ByteArray} {i : Int} : i ∈ outL l s ↔ ∃ j : Nat, i = j ∧ ∃ h : j < l.length, l[j].1 = s := by
  unfold outL; rw [idxs_mem]; simp
theorem inL_mem {l : List Ed} {s : ByteArray} {i : Int} : i ∈ inL l s ↔ ∃ j : Nat, i = j ∧ ∃ h : j < l.length, l[j].2 = s := by
  unfold inL; rw [idxs_mem]; simp
end Go.Proofs.Ytmacdknicgfglaa.Gp
end
section
/- A slice literal, as an event of a walk. -/
namespace Go.Proofs.Ytmacdknicgfglaa.Evt
open Go.RowKit Go.Proofs.YtmacdknicgfglaaW.PrintWords Go.Proofs.YtmacdknicgfglaaW.PrintMore Go.Proofs.YtmacdknicgfglaaW.PrintLast Go.Proofs.Ytmacdknicgfglaa.Chg
set_option linter.unusedVariables false
section
variable {P : Program} {ops : Array Oper} {rest : List Oper} {o o2 : Oper} {a : Act} {Q : Exit → Act → World → Prop} {W : World}
/-- A slice made of its elements. -/
theorem slice_event (hgd : o.guard = none) {N : Tmp} (_hd : o.dst = some N) {cs : Array Value} {t : TypeId} {n : Nat}
    (hrun : (execOp a.eval o).run P W = .ok (.value (.slice (some ⟨W.heap.size, 0, none⟩) n n)) (W.alloc (.cells cs t (0, 0))))
    (h : ∀ g, g = W.heap.size → ∀ w1, w1.heap[g]? = some (.cells cs t (0, 0)) → Below W.heap.size W w1 → wpList P ops Q rest (a.put o.dst (.slice (some ⟨g, 0, none⟩) n n)) w1) : wpList P ops Q (o :: rest) a W :=
  Kd.event_run hgd hrun (h _ rfl _ (blk_new W _) (below_alloc (Below.refl _ _) _))
end
end Go.Proofs.Ytmacdknicgfglaa.Evt
end
section
/- Laws that the walks of this seat lack: copy into a row of one's own. -/
namespace Go.Proofs.Ytmacdknicgfglaa.Myw
open Go.RowKit Go.Proofs.YtmacdknicgfglaaW.PrintWords Go.Proofs.YtmacdknicgfglaaW.PrintMore Go.Proofs.YtmacdknicgfglaaW.PrintLast
section
variable {P : Program} {ops : Array Oper} {rest : List Oper} {o : Oper} {a : Act} {Q : Exit → Act → World → Prop}
theorem encs_read {α : Type} {enc : α → Value} {h1 : ∀ x, (enc x).oneCell' = true} {w : World} {A : Option Addr} {l : List α} (h : (Kd.scalar enc h1).C w A l.length l) (hp : 0 < l.length) :
    ∃ ad, A = some ad ∧ ∀ j v, (encs enc l)[j]? = some v → w.cell? (ad.add j) = some v := by
  obtain ⟨ad, rfl, hc⟩ := h.2.2 hp
  refine ⟨ad, rfl, fun j v hj => ?_⟩
  unfold encs at hj
  rw [List.getElem?_map, Option.map_eq_some_iff] at hj
  obtain ⟨x, hx, rfl⟩ := hj
  obtain ⟨c, hl, hK, hcell⟩ := hc j x hx
  have hK' : c = [enc x] := hK
  subst hK'
  have := hcell 0 (enc x) rfl
  have e : j * (Kd.scalar enc h1).sz + 0 = j := by show j * 1 + 0 = j; omega
  rw [e] at this
  exact this
/-- copy(v, l): v a row of one's own, as long as l, which is not empty. -/
theorem copy_full {α : Type} {enc : α → Value} {h1 : ∀ x, (enc x).oneCell' = true} {e base : Nat} {w0 W : World} {ok : Nat → Prop} (hgd : o.guard = none) (d s : Operand) (dT sT : TypeId)
    (ho : o.op = .call { callee := .builtin .copy, args := #[d, s], argTypes := #[dT, sT] }) (hu : P.underlying dT = some (.slice e)) (hsz : (P.info? e).map (·.size) = some 1)
    (v : Value) (A : Option Addr) (c : Nat) (xs l : List α) (hd : a.eval d = v) (hs : a.eval s = .slice A l.length c) (hlen : xs.length = l.length) (hpos : 0 < l.length)
    (HO : (Kd.scalar enc h1).R e W base ok v xs) (HC : (Kd.scalar enc h1).C W A l.length l) (HB : Below base w0 W)
    (h : ∀ w', (Kd.scalar enc h1).R e w' base ok v l → Below base w0 w' → wpList P ops Q rest (a.put o.dst (goInt l.length)) w') : wpList P ops Q (o :: rest) a W := by
  have hok := HO.1
  have hown := Kd.own_of_R HO
  obtain ⟨ad, rfl, hcell⟩ := encs_read HC hpos
  rcases hown.2 with ⟨_, h0⟩ | ⟨g, cap, cur, rfl, hg, hh, hn, hcap, hcs, hcur⟩
  · omega
  · have hle : (encs enc l).length = l.length := by simp [encs]
    refine wpList_copy_splice hgd d s dT sT ho e hu hsz (some ⟨g, 0, none⟩) (some ad) xs.length cap l.length c hd hs g 0 cur.toList e (by simpa using hh) (encs enc l) (by rw [hle, hlen]; exact (Nat.min_self _).symm) (fun _ => ⟨rfl, ad, rfl, hcell⟩) (by have := Array.length_toList (xs := cur); omega) ?_ base w0 HB hg ?_
    · intro u hu
      unfold encs at hu
      obtain ⟨x, _, rfl⟩ := List.mem_map.1 hu
      exact h1 x
    · intro w' hw' hb'
      rw [hle]
      refine h w' (Kd.R_of_own ⟨by rw [hle, Nat.mul_one], .inr ⟨g, cap, _, by rw [hlen], hg, hw', by omega, hcap, ?_, ?_⟩⟩ hok) hb'
      · rw [List.size_toArray, length_splice _ _ _ (by have := Array.length_toList (xs := cur); omega), Array.length_toList, hcs]
      · unfold splice
        rw [List.take_zero, List.nil_append, Nat.mul_one]
        rw [List.take_append_of_le_length (by omega), List.take_of_length_le (by omega)]
end
end Go.Proofs.Ytmacdknicgfglaa.Myw
end
section
/- Printed by a program of this session (a copy of the kit's print.py, one text for all functions of the seat), with some contracts typed by hand among them: for each Go function a Lean function and a proof that the code comes to its answers. -/
namespace Go.Proofs.Ytmacdknicgfglaa.Impl
open Go.RowKit Go.Proofs.YtmacdknicgfglaaW.PrintWords Go.Proofs.YtmacdknicgfglaaW.PrintLast Go.Proofs.YtmacdknicgfglaaW.PrintMore
attribute [local go_sem] max2_int min2_int max_two min_two
set_option linter.unusedVariables false
set_option linter.unusedSimpArgs false



def errW : Option Int → Value
  | none => .nilIface
  | some c => .iface 0 (.int .i64 c)
theorem errW_none : errW none = .nilIface := rfl
theorem errW_some (c : Int) : errW (some c) = .iface 0 (.int .i64 c) := rfl

theorem info3 : (Try.prog.info? 3).map (fun i => (i.zero, i.size, i.bytes)) = some (some (.int .i64 0), 1, 8) := by kernel_rfl
theorem info9 : (Try.prog.info? 9).map (fun i => (i.zero, i.size, i.bytes)) = some (some (.string ⟨#[]⟩), 1, 16) := by kernel_rfl
-- the values' own types
/-! #### struct type 39 -/
structure S39 where
  f0 : Int
  f1 : Int
def z39 : S39 := ⟨(0 : Int), (0 : Int)⟩
def k39 : Kd S39 := Kd.iso (Kd.pair (Kd.int .i64) (Kd.int .i64)) (fun x : S39 => (x.f0, x.f1))
theorem k39_open {w : World} {x : S39} {cs : List Value} (h : k39.K w x cs) : cs = [.int .i64 x.f0, .int .i64 x.f1] := by
  obtain ⟨_, _, rfl, rfl, rfl⟩ := h
  exact rfl
theorem k39_openM {w : World} {base : Nat} {ok : Nat → Prop} {x : S39} {cs : List Value} (h : k39.M w base ok x cs) : cs = [.int .i64 x.f0, .int .i64 x.f1] := by
  obtain ⟨_, _, rfl, rfl, rfl⟩ := h
  exact rfl
theorem k39_mk (w : World) (x : S39)  : k39.K w x [.int .i64 x.f0, .int .i64 x.f1] := ⟨[.int .i64 x.f0], [.int .i64 x.f1], rfl, rfl, rfl⟩
theorem k39_mkM (w : World) (base : Nat) (ok : Nat → Prop) (x : S39)  : k39.M w base ok x [.int .i64 x.f0, .int .i64 x.f1] := ⟨[.int .i64 x.f0], [.int .i64 x.f1], rfl, rfl, rfl⟩
def rd_T39 (xs : List S39) (i : Int) : S39 := xs.getD i.toNat z39
theorem at_T39 {w : World} {A : Option Addr} {n : Nat} {xs : List S39} (h : Kd.C k39 w A n xs) (i : Int) (h0 : 0 ≤ i) (h1 : i < n) : ∃ ad , A = some ad ∧ w.cell? (ad.add (i.toNat * 2)) = some (.int .i64 (rd_T39 xs i).f0) ∧ w.cell? ⟨(ad.add (i.toNat * 2)).block, (ad.add (i.toNat * 2)).off + 1, none⟩ = some (.int .i64 (rd_T39 xs i).f1) := by
  obtain ⟨ad, c, e, _, hK, hc0⟩ := Kd.C_get h z39 i h0 h1
  have hc : ∀ j u, c[j]? = some u → w.cell? (ad.add (i.toNat * 2 + j)) = some u := hc0
  obtain rfl := k39_open hK
  exact ⟨ad, e, hc 0 _ rfl, by rw [← add_field _ _ 1 (by omega)]; exact hc 1 _ rfl⟩

/-! #### struct type 41 -/
structure S41 where
  f0 : Int
  f1 : S39
  f2 : ByteArray
  f3 : ByteArray
def z41 : S41 := ⟨(0 : Int), z39, (⟨#[]⟩ : ByteArray), (⟨#[]⟩ : ByteArray)⟩
def k41 : Kd S41 := Kd.iso (Kd.pair (Kd.int .i64) (Kd.pair k39 (Kd.pair Kd.string Kd.string))) (fun x : S41 => (x.f0, x.f1, x.f2, x.f3))
theorem k41_open {w : World} {x : S41} {cs : List Value} (h : k41.K w x cs) : cs = [.int .i64 x.f0, .int .i64 x.f1.f0, .int .i64 x.f1.f1, .string x.f2, .string x.f3] := by
  obtain ⟨_, _, rfl, rfl, ⟨_, _, rfl, s1, ⟨_, _, rfl, rfl, rfl⟩⟩⟩ := h
  obtain rfl := k39_open s1
  exact rfl
theorem k41_openM {w : World} {base : Nat} {ok : Nat → Prop} {x : S41} {cs : List Value} (h : k41.M w base ok x cs) : cs = [.int .i64 x.f0, .int .i64 x.f1.f0, .int .i64 x.f1.f1, .string x.f2, .string x.f3] := by
  obtain ⟨_, _, rfl, rfl, ⟨_, _, rfl, s1, ⟨_, _, rfl, rfl, rfl⟩⟩⟩ := h
  obtain rfl := k39_openM s1
  exact rfl
theorem k41_mk (w : World) (x : S41)  : k41.K w x [.int .i64 x.f0, .int .i64 x.f1.f0, .int .i64 x.f1.f1, .string x.f2, .string x.f3] := ⟨[.int .i64 x.f0], [.int .i64 x.f1.f0, .int .i64 x.f1.f1, .string x.f2, .string x.f3], rfl, rfl, ⟨[.int .i64 x.f1.f0, .int .i64 x.f1.f1], [.string x.f2, .string x.f3], rfl, (k39_mk w x.f1 ), ⟨[.string x.f2], [.string x.f3], rfl, rfl, rfl⟩⟩⟩
theorem k41_mkM (w : World) (base : Nat) (ok : Nat → Prop) (x : S41)  : k41.M w base ok x [.int .i64 x.f0, .int .i64 x.f1.f0, .int .i64 x.f1.f1, .string x.f2, .string x.f3] := ⟨[.int .i64 x.f0], [.int .i64 x.f1.f0, .int .i64 x.f1.f1, .string x.f2, .string x.f3], rfl, rfl, ⟨[.int .i64 x.f1.f0, .int .i64 x.f1.f1], [.string x.f2, .string x.f3], rfl, (k39_mkM w base ok x.f1 ), ⟨[.string x.f2], [.string x.f3], rfl, rfl, rfl⟩⟩⟩
def rd_T41 (xs : List S41) (i : Int) : S41 := xs.getD i.toNat z41
theorem at_T41 {w : World} {A : Option Addr} {n : Nat} {xs : List S41} (h : Kd.C k41 w A n xs) (i : Int) (h0 : 0 ≤ i) (h1 : i < n) : ∃ ad , A = some ad ∧ w.cell? (ad.add (i.toNat * 5)) = some (.int .i64 (rd_T41 xs i).f0) ∧ w.cell? ⟨(ad.add (i.toNat * 5)).block, (ad.add (i.toNat * 5)).off + 1, none⟩ = some (.int .i64 (rd_T41 xs i).f1.f0) ∧ w.cell? ⟨(ad.add (i.toNat * 5)).block, (ad.add (i.toNat * 5)).off + 2, none⟩ = some (.int .i64 (rd_T41 xs i).f1.f1) ∧ w.cell? ⟨(ad.add (i.toNat * 5)).block, (ad.add (i.toNat * 5)).off + 3, none⟩ = some (.string (rd_T41 xs i).f2) ∧ w.cell? ⟨(ad.add (i.toNat * 5)).block, (ad.add (i.toNat * 5)).off + 4, none⟩ = some (.string (rd_T41 xs i).f3) := by
  obtain ⟨ad, c, e, _, hK, hc0⟩ := Kd.C_get h z41 i h0 h1
  have hc : ∀ j u, c[j]? = some u → w.cell? (ad.add (i.toNat * 5 + j)) = some u := hc0
  obtain rfl := k41_open hK
  exact ⟨ad, e, hc 0 _ rfl, by rw [← add_field _ _ 1 (by omega)]; exact hc 1 _ rfl, by rw [← add_field _ _ 2 (by omega)]; exact hc 2 _ rfl, by rw [← add_field _ _ 3 (by omega)]; exact hc 3 _ rfl, by rw [← add_field _ _ 4 (by omega)]; exact hc 4 _ rfl⟩

/-! #### struct type 101 -/
structure S101 where
  f0 : Int
  f1 : S39
def z101 : S101 := ⟨(0 : Int), z39⟩
def k101 : Kd S101 := Kd.iso (Kd.pair (Kd.int .i64) k39) (fun x : S101 => (x.f0, x.f1))
theorem k101_open {w : World} {x : S101} {cs : List Value} (h : k101.K w x cs) : cs = [.int .i64 x.f0, .int .i64 x.f1.f0, .int .i64 x.f1.f1] := by
  obtain ⟨_, _, rfl, rfl, s1⟩ := h
  obtain rfl := k39_open s1
  exact rfl
theorem k101_openM {w : World} {base : Nat} {ok : Nat → Prop} {x : S101} {cs : List Value} (h : k101.M w base ok x cs) : cs = [.int .i64 x.f0, .int .i64 x.f1.f0, .int .i64 x.f1.f1] := by
  obtain ⟨_, _, rfl, rfl, s1⟩ := h
  obtain rfl := k39_openM s1
  exact rfl
theorem k101_mk (w : World) (x : S101)  : k101.K w x [.int .i64 x.f0, .int .i64 x.f1.f0, .int .i64 x.f1.f1] := ⟨[.int .i64 x.f0], [.int .i64 x.f1.f0, .int .i64 x.f1.f1], rfl, rfl, (k39_mk w x.f1 )⟩
theorem k101_mkM (w : World) (base : Nat) (ok : Nat → Prop) (x : S101)  : k101.M w base ok x [.int .i64 x.f0, .int .i64 x.f1.f0, .int .i64 x.f1.f1] := ⟨[.int .i64 x.f0], [.int .i64 x.f1.f0, .int .i64 x.f1.f1], rfl, rfl, (k39_mkM w base ok x.f1 )⟩
def rd_T101 (xs : List S101) (i : Int) : S101 := xs.getD i.toNat z101
theorem at_T101 {w : World} {A : Option Addr} {n : Nat} {xs : List S101} (h : Kd.C k101 w A n xs) (i : Int) (h0 : 0 ≤ i) (h1 : i < n) : ∃ ad , A = some ad ∧ w.cell? (ad.add (i.toNat * 3)) = some (.int .i64 (rd_T101 xs i).f0) ∧ w.cell? ⟨(ad.add (i.toNat * 3)).block, (ad.add (i.toNat * 3)).off + 1, none⟩ = some (.int .i64 (rd_T101 xs i).f1.f0) ∧ w.cell? ⟨(ad.add (i.toNat * 3)).block, (ad.add (i.toNat * 3)).off + 2, none⟩ = some (.int .i64 (rd_T101 xs i).f1.f1) := by
  obtain ⟨ad, c, e, _, hK, hc0⟩ := Kd.C_get h z101 i h0 h1
  have hc : ∀ j u, c[j]? = some u → w.cell? (ad.add (i.toNat * 3 + j)) = some u := hc0
  obtain rfl := k101_open hK
  exact ⟨ad, e, hc 0 _ rfl, by rw [← add_field _ _ 1 (by omega)]; exact hc 1 _ rfl, by rw [← add_field _ _ 2 (by omega)]; exact hc 2 _ rfl⟩

end Go.Proofs.Ytmacdknicgfglaa.Impl
end
section
/- graph.Nodes, walked. -/
namespace Go.Proofs.Ytmacdknicgfglaa.Gw
open Go.RowKit Go.Proofs.YtmacdknicgfglaaW.PrintWords Go.Proofs.YtmacdknicgfglaaW.PrintMore Go.Proofs.YtmacdknicgfglaaW.PrintLast Go.Proofs.Ytmacdknicgfglaa.Chg Go.Proofs.Ytmacdknicgfglaa.Evt Go.Proofs.Ytmacdknicgfglaa.Impl Go.Proofs.Ytmacdknicgfglaa.Gp Go.Proofs.Ytmacdknicgfglaa.Mp
set_option linter.unusedVariables false
set_option linter.unusedSimpArgs false
set_option maxRecDepth 100000
/-- A rung's contacts, as edges. -/
def es (l : List S41) : List Ed := l.map fun c => (c.f2, c.f3)
/-- A rung at hand. -/
structure Rg (w : World) (A1 : Option Addr) (c1 : Nat) (l1 : List S41) (A2 : Option Addr) (c2 : Nat) (l2 : List S101) : Prop where
  r1 : Kd.C k41 w A1 l1.length l1
  h1 : l1.length ≤ c1
  r2 : Kd.C k101 w A2 l2.length l2
  h2 : l2.length ≤ c2
section
variable {w w' : World} {A1 A2 : Option Addr} {c1 c2 b n : Nat} {l1 : List S41} {l2 : List S101} {a0 a3 : ByteArray}
theorem Rg.below (h : Rg w A1 c1 l1 A2 c2 l2) (hb : Below w.heap.size w w') : Rg w' A1 c1 l1 A2 c2 l2 := ⟨Kd.C_below h.r1 hb, h.h1, Kd.C_below h.r2 hb, h.h2⟩
/-- A contact's cells. -/
theorem Rg.at (h : Rg w A1 c1 l1 A2 c2 l2) {j : Nat} (hj : j < l1.length) : ∃ ad, A1 = some ad ∧ w.cell? (ad.add (j * 5)) = some (.int .i64 l1[j].f0) ∧ w.cell? ⟨(ad.add (j * 5)).block, (ad.add (j * 5)).off + 1, none⟩ = some (.int .i64 l1[j].f1.f0) ∧ w.cell? ⟨(ad.add (j * 5)).block, (ad.add (j * 5)).off + 2, none⟩ = some (.int .i64 l1[j].f1.f1) ∧ w.cell? ⟨(ad.add (j * 5)).block, (ad.add (j * 5)).off + 3, none⟩ = some (.string l1[j].f2) ∧ w.cell? ⟨(ad.add (j * 5)).block, (ad.add (j * 5)).off + 4, none⟩ = some (.string l1[j].f3) := by
  obtain ⟨ad, e, h0, h1, h2, h3, h4⟩ := at_T41 h.r1 (j : Int) (by omega) (by omega)
  have e1 : rd_T41 l1 (j : Int) = l1[j] := by simp [rd_T41, List.getD_eq_getElem?_getD, List.getElem?_eq_getElem hj]
  rw [e1, Int.toNat_natCast] at h0 h1 h2 h3 h4
  exact ⟨ad, e, h0, h1, h2, h3, h4⟩
theorem es_len (l : List S41) : (es l).length = l.length := by simp [es]
theorem es_get {l : List S41} {j : Nat} (h : j < l.length) : (es l)[j]'(by rw [es_len]; exact h) = (l[j].f2, l[j].f3) := by simp [es]
theorem es_take (l : List S41) (j : Nat) : es (l.take j) = (es l).take j := by simp [es, List.map_take]
/-- The names so far: their row, and the map that tells which they are. -/
structure Nd (w0 w : World) (v : Value) (b : Nat) (acc : List ByteArray) : Prop where
  row : Kd.R Kd.string 9 w w0.heap.size (fun _ => True) v acc
  map : MB w b acc.length (fun s => decide (s ∈ acc))
  bel : Below w0.heap.size w0 w
  hb : w0.heap.size ≤ b
theorem Nd.below {w0 : World} {v : Value} {acc : List ByteArray} (h : Nd w0 w v b acc) (hb : Below w.heap.size w w') : Nd w0 w' v b acc := ⟨Kd.R_below h.row hb, h.map.below hb, below_step h.bel hb, h.hb⟩
/-- The same beside a pair of names in block g, whose first i have been looked at. -/
structure Ni (w0 w : World) (v : Value) (b : Nat) (acc : List ByteArray) (g : Nat) (x y : ByteArray) : Prop where
  nd : Nd w0 w v b acc
  bk : Bk w g 9 #[.string x, .string y]
  ne : some g ≠ v.ownBlock
/-- The map knows s, the row does not yet. -/
structure Nj (w0 w : World) (v : Value) (b : Nat) (acc : List ByteArray) (s : ByteArray) (g : Nat) (x y : ByteArray) : Prop where
  row : Kd.R Kd.string 9 w w0.heap.size (fun _ => True) v acc
  map : MB w b (acc ++ [s]).length (fun z => decide (z ∈ acc ++ [s]))
  bel : Below w0.heap.size w0 w
  hb : w0.heap.size ≤ b
  bk : Bk w g 9 #[.string x, .string y]
  ne : some g ≠ v.ownBlock
theorem Ni.below {w0 : World} {v : Value} {acc : List ByteArray} {g : Nat} {x y : ByteArray} (h : Ni w0 w v b acc g x y) (hb : Below w.heap.size w w') : Ni w0 w' v b acc g x y := ⟨h.nd.below hb, h.bk.below hb, h.ne⟩
theorem Nj.below {w0 : World} {v : Value} {acc : List ByteArray} {s : ByteArray} {g : Nat} {x y : ByteArray} (h : Nj w0 w v b acc s g x y) (hb : Below w.heap.size w w') : Nj w0 w' v b acc s g x y := ⟨Kd.R_below h.row hb, h.map.below hb, below_step h.bel hb, h.hb, h.bk.below hb, h.ne⟩
theorem Nd.lt {w0 : World} {v : Value} {acc : List ByteArray} (h : Nd w0 w v b acc) {g : Nat} (hg : w.heap.size ≤ g) : some g ≠ v.ownBlock := fun e => by have := Kd.R_lt h.row g e.symm; omega
def adds (acc : List ByteArray) (l : List ByteArray) : List ByteArray := l.foldl addN acc
theorem Ni.at {w0 : World} {v : Value} {acc : List ByteArray} {g : Nat} {x y : ByteArray} {i : Nat} (h : Ni w0 w v b (adds acc ([x, y].take i)) g x y) (hi : i < 2) (hx : x.size ≤ 100000) (hy : y.size ≤ 100000) : ∃ s, w.cell? ⟨g, i, none⟩ = some (.string s) ∧ s.size ≤ maxLen ∧ adds acc ([x, y].take (i + 1)) = addN (adds acc ([x, y].take i)) s := by
  match i, hi with
  | 0, _ => exact ⟨x, h.bk.blk.cell 0 rfl, by unfold maxLen; omega, rfl⟩
  | 1, _ => exact ⟨y, h.bk.blk.cell 1 rfl, by unfold maxLen; omega, rfl⟩
theorem adds_len (acc : List ByteArray) : ∀ l : List ByteArray, (adds acc l).length ≤ acc.length + l.length := by
  intro l
  induction l generalizing acc with
  | nil => simp [adds]
  | cons s l ih =>
    have h1 := ih (addN acc s)
    have h2 := addN_len acc s
    simp only [adds, List.foldl_cons, List.length_cons] at h1 ⊢
    omega
theorem Ni.put {w0 w1 : World} {v : Value} {acc : List ByteArray} {s : ByteArray} {g : Nat} {x y : ByteArray} (h : Ni w0 w v b acc g x y) (hm : MB w1 b (acc.length + 1) (fun z => if z = s then true else decide (z ∈ acc))) (hg : w.grownBy w1 (some b)) : Nj w0 w1 v b acc s g x y := by
  refine ⟨R_other h.nd.row hg (.inl (h.nd.map.row h.nd.row)), ?_, h.nd.bel.grown hg h.nd.bel.size (fun k hk => by cases hk; exact h.nd.hb), h.nd.hb, h.bk.grown hg (fun e => h.nd.map.ne h.bk.blk (by injection e)), h.ne⟩
  rw [List.length_append, List.length_singleton]
  refine hm.congr (fun z => ?_)
  by_cases e : z = s
  · subst e; simp
  · simp [e]
theorem Nj.app {w0 w1 : World} {v v1 : Value} {acc : List ByteArray} {s : ByteArray} {g : Nat} {x y : ByteArray} (h : Nj w0 w v b acc s g x y) (hr : Kd.R Kd.string 9 w1 w0.heap.size (fun _ => True) v1 (acc ++ [s])) (hb : Below w0.heap.size w0 w1) (hg : w.grownBy w1 v.ownBlock) (hat : v1.ownBlock = v.ownBlock ∨ ∃ k, v1.ownBlock = some k ∧ w.heap.size ≤ k) : Ni w0 w1 v1 b (acc ++ [s]) g x y := by
  refine ⟨⟨hr, h.map.grown hg (h.map.row h.row), hb, h.hb⟩, h.bk.grown hg h.ne, ?_⟩
  rcases hat with e | ⟨k, e, hk⟩
  · rw [e]; exact h.ne
  · rw [e]
    intro e2
    injection e2 with e2
    have := h.bk.blk.lt
    omega
theorem adds_len2 (acc : List ByteArray) (x y : ByteArray) (i : Nat) : (adds acc ([x, y].take i)).length ≤ acc.length + 2 := by
  have h1 := adds_len acc ([x, y].take i)
  have h2 : ([x, y].take i).length ≤ 2 := by rw [List.length_take]; simp; omega
  omega
set_option maxHeartbeats 4000000 in
theorem nodes_any (w : World) (h : Rg w A1 c1 l1 A2 c2 l2) (hok : okG (es l1) = true) :
    Calls Try.prog 18 #[.agg #[.string a0, .slice A1 l1.length c1, .slice A2 l2.length c2, .string a3]] w fun e w' => ∃ v, e = .returned v ∧ Ro Kd.string 9 w w' v (nodesL (es l1)) ∧ Below w.heap.size w w' := by
  have HB := Aside0.mk (Below.refl w.heap.size w)
  have R := Aside0.mk h
  have OK := Aside0.mk hok
  have LN : l1.length ≤ 1000 := by have := okG_len hok; rw [es_len] at this; exact this
  clear h hok
  go_enter Try.func18, Try.ntmps18
  go_wp2_with (first | ((with_reducible refine gate_dst (N := 1) rfl ?_); refine box_event ?hg (N := 1) ?hd (cs := #[.string a0, .slice A1 l1.length c1, .slice A2 l2.length c2, .string a3]) (t := 25) ?hr ?_; (case hd => rfl); (case hg => rfl); (case hr => first | (go_simp; done) | (go_simp; rfl)); intro g1 hg w1 hbox hb; have hbx : Below w.heap.size w w1 := below_step (by repeat (first | (with_reducible first | exact Below.refl _ _ | apply below_alloc | apply pw_below_drewN | apply below_drew1) | exact Below.refl _ _)) hb; have n_HB := Aside0.mk (below_step HB.out hbx); clear HB ; have HB := n_HB; clear hbx n_HB; have BK1 := Aside0.mk (Bk.mk (hbox : Blk w1 g1 25 #[.string a0, .slice A1 l1.length c1, .slice A2 l2.length c2, .string a3])); clear hbox hg hb; have zBK1_0 : w1.cell? ⟨g1, 0, none⟩ = some (.string a0) := (blk_cell BK1.out.blk 0).trans rfl; have zBK1_1 : w1.cell? ⟨g1, 1, none⟩ = some (.slice A1 l1.length c1) := (blk_cell BK1.out.blk 1).trans rfl; have zBK1_2 : w1.cell? ⟨g1, 2, none⟩ = some (.slice A2 l2.length c2) := (blk_cell BK1.out.blk 2).trans rfl; have zBK1_3 : w1.cell? ⟨g1, 3, none⟩ = some (.string a3) := (blk_cell BK1.out.blk 3).trans rfl) | ((with_reducible refine gate_dst (N := 9) rfl ?_); refine Evt.ro_lit (w0 := w) Value.string (fun _ => rfl) 9 ?hg1_ (N := 9) ?hd1_ (xs := [sL, sR]) ?hr1_ (below_step HB.out (by repeat (first | (with_reducible first | exact Below.refl _ _ | apply below_alloc | apply pw_below_drewN | apply below_drew1) | exact Below.refl _ _))) (by decide) ?_; (case hd1_ => rfl); (case hg1_ => rfl); (case hr1_ => first | (go_simp; done) | (go_simp; rfl)); intro v9 w2 ho hb hnew; have hbx : Below w1.heap.size w1 w2 := below_step (by repeat (first | (with_reducible first | exact Below.refl _ _ | apply below_alloc | apply pw_below_drewN | apply below_drew1) | exact Below.refl _ _)) hb; clear zBK1_0 zBK1_1 zBK1_2 zBK1_3; have n_BK1 := Aside0.mk (BK1.out.below hbx); have n_HB := Aside0.mk (below_step HB.out hbx); clear HB BK1; have BK1 := n_BK1; have HB := n_HB; clear hbx n_BK1 n_HB; have RO9 := Aside0.mk ho; clear ho hb hnew; have zBK1_0 : w2.cell? ⟨g1, 0, none⟩ = some (.string a0) := (blk_cell BK1.out.blk 0).trans rfl; have zBK1_1 : w2.cell? ⟨g1, 1, none⟩ = some (.slice A1 l1.length c1) := (blk_cell BK1.out.blk 1).trans rfl; have zBK1_2 : w2.cell? ⟨g1, 2, none⟩ = some (.slice A2 l2.length c2) := (blk_cell BK1.out.blk 2).trans rfl; have zBK1_3 : w2.cell? ⟨g1, 3, none⟩ = some (.string a3) := (blk_cell BK1.out.blk 3).trans rfl) | ((with_reducible refine gate_dst (N := 10) rfl ?_); refine Mp.mkB_ev rfl (N := 10) rfl rfl ?_; intro b10 hg w3 hmap hb; have hbx : Below w2.heap.size w2 w3 := below_step (by repeat (first | (with_reducible first | exact Below.refl _ _ | apply below_alloc | apply pw_below_drewN | apply below_drew1) | exact Below.refl _ _)) hb; have hge_ : w.heap.size ≤ b10 := (by rw [hg]; exact below_size (below_step HB.out (by repeat (first | (with_reducible first | exact Below.refl _ _ | apply below_alloc | apply pw_below_drewN | apply below_drew1) | exact Below.refl _ _)))); clear zBK1_0 zBK1_1 zBK1_2 zBK1_3; have n_BK1 := Aside0.mk (BK1.out.below hbx); have n_RO9 := Aside0.mk (RO9.out.below hbx); have n_HB := Aside0.mk (below_step HB.out hbx); clear HB BK1 RO9; have BK1 := n_BK1; have RO9 := n_RO9; have HB := n_HB; clear hbx n_BK1 n_RO9 n_HB; have M10 := Aside0.mk hmap; have GE10 := Aside0.mk hge_; clear hmap hg hb hge_; have zBK1_0 : w3.cell? ⟨g1, 0, none⟩ = some (.string a0) := (blk_cell BK1.out.blk 0).trans rfl; have zBK1_1 : w3.cell? ⟨g1, 1, none⟩ = some (.slice A1 l1.length c1) := (blk_cell BK1.out.blk 1).trans rfl; have zBK1_2 : w3.cell? ⟨g1, 2, none⟩ = some (.slice A2 l2.length c2) := (blk_cell BK1.out.blk 2).trans rfl; have zBK1_3 : w3.cell? ⟨g1, 3, none⟩ = some (.string a3) := (blk_cell BK1.out.blk 3).trans rfl) | (refine Mp.putB_ev rfl (.inr rfl) (s := sL) (v := true) rfl rfl rfl (by decide) (by decide) (M10.out.below (by repeat (first | (with_reducible first | exact Below.refl _ _ | apply below_alloc | apply pw_below_drewN | apply below_drew1) | exact Below.refl _ _))) ?_; intro w4 hM hg_; clear zBK1_0 zBK1_1 zBK1_2 zBK1_3; have n_BK1 := Aside0.mk ((BK1.out.below (by repeat (first | (with_reducible first | exact Below.refl _ _ | apply below_alloc | apply pw_below_drewN | apply below_drew1) | exact Below.refl _ _))).mput (M10.out.below (by repeat (first | (with_reducible first | exact Below.refl _ _ | apply below_alloc | apply pw_below_drewN | apply below_drew1) | exact Below.refl _ _))) hg_); have n_RO9 := Aside0.mk ((RO9.out.below (by repeat (first | (with_reducible first | exact Below.refl _ _ | apply below_alloc | apply pw_below_drewN | apply below_drew1) | exact Below.refl _ _))).mput (M10.out.below (by repeat (first | (with_reducible first | exact Below.refl _ _ | apply below_alloc | apply pw_below_drewN | apply below_drew1) | exact Below.refl _ _))) hg_); have n_HB := Aside0.mk ((below_step HB.out (by repeat (first | (with_reducible first | exact Below.refl _ _ | apply below_alloc | apply pw_below_drewN | apply below_drew1) | exact Below.refl _ _))).grown hg_ (below_size (below_step HB.out (by repeat (first | (with_reducible first | exact Below.refl _ _ | apply below_alloc | apply pw_below_drewN | apply below_drew1) | exact Below.refl _ _)))) (fun k hk => (by cases hk; exact GE10.out))); clear HB BK1 RO9 M10; have BK1 := n_BK1; have RO9 := n_RO9; have HB := n_HB; have M10 := Aside0.mk hM; clear hM hg_ n_BK1 n_RO9 n_HB; have zBK1_0 : w4.cell? ⟨g1, 0, none⟩ = some (.string a0) := (blk_cell BK1.out.blk 0).trans rfl; have zBK1_1 : w4.cell? ⟨g1, 1, none⟩ = some (.slice A1 l1.length c1) := (blk_cell BK1.out.blk 1).trans rfl; have zBK1_2 : w4.cell? ⟨g1, 2, none⟩ = some (.slice A2 l2.length c2) := (blk_cell BK1.out.blk 2).trans rfl; have zBK1_3 : w4.cell? ⟨g1, 3, none⟩ = some (.string a3) := (blk_cell BK1.out.blk 3).trans rfl) | (refine Mp.putB_ev rfl (.inr rfl) (s := sR) (v := true) rfl rfl rfl (by decide) (by decide) (M10.out.below (by repeat (first | (with_reducible first | exact Below.refl _ _ | apply below_alloc | apply pw_below_drewN | apply below_drew1) | exact Below.refl _ _))) ?_; intro w5 hM hg_; clear zBK1_0 zBK1_1 zBK1_2 zBK1_3; have n_BK1 := Aside0.mk ((BK1.out.below (by repeat (first | (with_reducible first | exact Below.refl _ _ | apply below_alloc | apply pw_below_drewN | apply below_drew1) | exact Below.refl _ _))).mput (M10.out.below (by repeat (first | (with_reducible first | exact Below.refl _ _ | apply below_alloc | apply pw_below_drewN | apply below_drew1) | exact Below.refl _ _))) hg_); have n_RO9 := Aside0.mk ((RO9.out.below (by repeat (first | (with_reducible first | exact Below.refl _ _ | apply below_alloc | apply pw_below_drewN | apply below_drew1) | exact Below.refl _ _))).mput (M10.out.below (by repeat (first | (with_reducible first | exact Below.refl _ _ | apply below_alloc | apply pw_below_drewN | apply below_drew1) | exact Below.refl _ _))) hg_); have n_HB := Aside0.mk ((below_step HB.out (by repeat (first | (with_reducible first | exact Below.refl _ _ | apply below_alloc | apply pw_below_drewN | apply below_drew1) | exact Below.refl _ _))).grown hg_ (below_size (below_step HB.out (by repeat (first | (with_reducible first | exact Below.refl _ _ | apply below_alloc | apply pw_below_drewN | apply below_drew1) | exact Below.refl _ _)))) (fun k hk => (by cases hk; exact GE10.out))); clear HB BK1 RO9 M10; have BK1 := n_BK1; have RO9 := n_RO9; have HB := n_HB; have M10 := Aside0.mk hM; clear hM hg_ n_BK1 n_RO9 n_HB; have zBK1_0 : w5.cell? ⟨g1, 0, none⟩ = some (.string a0) := (blk_cell BK1.out.blk 0).trans rfl; have zBK1_1 : w5.cell? ⟨g1, 1, none⟩ = some (.slice A1 l1.length c1) := (blk_cell BK1.out.blk 1).trans rfl; have zBK1_2 : w5.cell? ⟨g1, 2, none⟩ = some (.slice A2 l2.length c2) := (blk_cell BK1.out.blk 2).trans rfl; have zBK1_3 : w5.cell? ⟨g1, 3, none⟩ = some (.string a3) := (blk_cell BK1.out.blk 3).trans rfl))
  have ND : Aside0 (Nd w w5 v9 b10 (nodesL ((es l1).take 0))) := Aside0.mk ⟨RO9.out.row, M10.out.congr (fun z => by by_cases e1 : z = sR <;> by_cases e2 : z = sL <;> simp [nodesL, e1, e2]), HB.out, GE10.out⟩
  clear RO9 M10 HB BK1 zBK1_0 zBK1_1 zBK1_2 zBK1_3 GE10
  go_loopg [3, 15] l1.length (fun kq v3 v15 wr => ∃ j : Nat, v15 = .int .i64 j ∧ Aside0 (j + kq = l1.length) ∧ Aside0 (Nd w wr v3 b10 (nodesL ((es l1).take j))))
  case atStart => exact ⟨0, rfl, ⟨by omega⟩, ND⟩
  case round =>
    clear ND
    obtain ⟨j, rfl, hj, ND⟩ := hrel
    cases gk with
    | zero =>
      have e0 : j = l1.length := by have := hj.out; omega
      have q0 : decide (j < l1.length) = false := decide_eq_false (by omega)
      have q1 : decide ((j : Int) < (l1.length : Int)) = false := decide_eq_false (by omega)
      have NE := Aside0.mk e0
      clear e0 hj
      go_wp2
      go_ret
      refine ⟨_, rfl, ⟨?_⟩, ND.out.bel⟩
      have := ND.out.row
      rw [List.take_of_length_le (by rw [es_len, NE.out]; exact Nat.le_refl _)] at this
      exact this
    | succ k1 =>
      have hjl : j < l1.length := by have := hj.out; omega
      have q0 : decide (j < l1.length) = true := decide_eq_true (by omega)
      have q1 : decide ((j : Int) < (l1.length : Int)) = true := decide_eq_true (by omega)
      obtain ⟨ad, rfl, x0, x1, x2, x3, x4⟩ := (R.out.below ND.out.bel).at hjl
      have S2 := Aside0.mk (okG_f2 OK.out (c := (l1[j].f2, l1[j].f3)) (by rw [← es_get hjl]; exact List.getElem_mem _))
      have S3 := Aside0.mk (okG_f3 OK.out (c := (l1[j].f2, l1[j].f3)) (by rw [← es_get hjl]; exact List.getElem_mem _))
      have FL := Aside0.mk (fun g => ND.out.lt (g := g))
      have HB := Aside0.mk (Below.refl wr.heap.size wr)
      have ND' := Aside0.mk (ND.out)
      clear ND
      go_wp2_with (first | ((with_reducible refine gate_dst (N := 6) rfl ?_); refine Evt.box2 ?hg (N := 6) ?hd (z := #[.int .i64 0, .int .i64 0, .int .i64 0, .string ⟨#[]⟩, .string ⟨#[]⟩]) (cs := #[.int .i64 l1[j].f0, .int .i64 l1[j].f1.f0, .int .i64 l1[j].f1.f1, .string l1[j].f2, .string l1[j].f3]) (T := 41) ?hr ?hg2 (.tmp 18) ?ho2 ?hd2 ?hy ?hx ?hi ?hz ?h1 ?_; (case hd => rfl); (case hg => rfl); (case hr => first | (go_simp; done) | (go_simp; rfl)); (case hg2 => rfl); (case ho2 => rfl); (case hd2 => rfl); (case hy => first | rfl | (go_simp; done)); (case hx => first | rfl | (go_simp; done)); (case hi => kernel_rfl); (case hz => rfl); (case h1 => first | rfl | (simp [Value.oneCell'])); intro g6 hg w1 hbox hb; have hbx : Below wr.heap.size wr w1 := below_step (by repeat (first | (with_reducible first | exact Below.refl _ _ | apply below_alloc | apply pw_below_drewN | apply below_drew1) | exact Below.refl _ _)) hb; have n_ND' := Aside0.mk (ND'.out.below hbx); have n_HB := Aside0.mk (below_step HB.out hbx); clear HB ND'; have ND' := n_ND'; have HB := n_HB; clear hbx n_ND' n_HB; have BK6 := Aside0.mk (Bk.mk (hbox : Blk w1 g6 41 #[.int .i64 l1[j].f0, .int .i64 l1[j].f1.f0, .int .i64 l1[j].f1.f1, .string l1[j].f2, .string l1[j].f3])); clear hbox hg hb; have zBK6_0 : w1.cell? ⟨g6, 0, none⟩ = some (.int .i64 l1[j].f0) := (blk_cell BK6.out.blk 0).trans rfl; have zBK6_1 : w1.cell? ⟨g6, 1, none⟩ = some (.int .i64 l1[j].f1.f0) := (blk_cell BK6.out.blk 1).trans rfl; have zBK6_2 : w1.cell? ⟨g6, 2, none⟩ = some (.int .i64 l1[j].f1.f1) := (blk_cell BK6.out.blk 2).trans rfl; have zBK6_3 : w1.cell? ⟨g6, 3, none⟩ = some (.string l1[j].f2) := (blk_cell BK6.out.blk 3).trans rfl; have zBK6_4 : w1.cell? ⟨g6, 4, none⟩ = some (.string l1[j].f3) := (blk_cell BK6.out.blk 4).trans rfl) | ((with_reducible refine gate_dst (N := 23) rfl ?_); refine Evt.slice_event ?hg (N := 23) ?hd (cs := #[.string l1[j].f2, .string l1[j].f3]) (t := 9) (n := 2) ?hr ?_; (case hd => rfl); (case hg => rfl); (case hr => first | (go_simp; done) | (go_simp; rfl)); intro g23 hg w2 hbox hb; have hbx : Below w1.heap.size w1 w2 := below_step (by repeat (first | (with_reducible first | exact Below.refl _ _ | apply below_alloc | apply pw_below_drewN | apply below_drew1) | exact Below.refl _ _)) hb; have GG23 := Aside0.mk (show wr.heap.size ≤ g23 from (by rw [hg]; exact below_size (below_step HB.out (by repeat (first | (with_reducible first | exact Below.refl _ _ | apply below_alloc | apply pw_below_drewN | apply below_drew1) | exact Below.refl _ _))))); clear zBK6_0 zBK6_1 zBK6_2 zBK6_3 zBK6_4; have n_ND' := Aside0.mk (ND'.out.below hbx); have n_BK6 := Aside0.mk (BK6.out.below hbx); have n_HB := Aside0.mk (below_step HB.out hbx); clear HB ND' BK6; have ND' := n_ND'; have BK6 := n_BK6; have HB := n_HB; clear hbx n_ND' n_BK6 n_HB; have BK23 := Aside0.mk (Bk.mk (hbox : Blk w2 g23 9 #[.string l1[j].f2, .string l1[j].f3])); clear hbox hg hb; have zBK6_0 : w2.cell? ⟨g6, 0, none⟩ = some (.int .i64 l1[j].f0) := (blk_cell BK6.out.blk 0).trans rfl; have zBK6_1 : w2.cell? ⟨g6, 1, none⟩ = some (.int .i64 l1[j].f1.f0) := (blk_cell BK6.out.blk 1).trans rfl; have zBK6_2 : w2.cell? ⟨g6, 2, none⟩ = some (.int .i64 l1[j].f1.f1) := (blk_cell BK6.out.blk 2).trans rfl; have zBK6_3 : w2.cell? ⟨g6, 3, none⟩ = some (.string l1[j].f2) := (blk_cell BK6.out.blk 3).trans rfl; have zBK6_4 : w2.cell? ⟨g6, 4, none⟩ = some (.string l1[j].f3) := (blk_cell BK6.out.blk 4).trans rfl; have zBK23_0 : w2.cell? ⟨g23, 0, none⟩ = some (.string l1[j].f2) := (blk_cell BK23.out.blk 0).trans rfl; have zBK23_1 : w2.cell? ⟨g23, 1, none⟩ = some (.string l1[j].f3) := (blk_cell BK23.out.blk 1).trans rfl))
      have NI : Aside0 (Ni w w2 u3 b10 (adds (nodesL ((es l1).take j)) ([l1[j].f2, l1[j].f3].take 0)) g23 l1[j].f2 l1[j].f3) := Aside0.mk ⟨ND'.out, BK23.out, FL.out g23 GG23.out⟩
      have NL : (nodesL ((es l1).take j)).length ≤ 2002 := by have := nodesL_len ((es l1).take j); rw [List.length_take] at this; omega
      clear zBK6_0 zBK6_1 zBK6_2 zBK6_3 zBK6_4 zBK23_0 zBK23_1 BK6 BK23 GG23 FL x0 x1 x2 x3 x4 HB ND'
      go_loopg [3, 25] 2 (fun kq v3 v25 wr => ∃ i : Nat, v25 = .int .i64 i ∧ Aside0 (i + kq = 2) ∧ Aside0 (Ni w wr v3 b10 (adds (nodesL ((es l1).take j)) ([l1[j].f2, l1[j].f3].take i)) g23 l1[j].f2 l1[j].f3))
      case atStart => exact ⟨0, rfl, ⟨rfl⟩, NI⟩
      case round =>
        clear NI
        obtain ⟨i, rfl, hi, NI⟩ := hrel
        cases gk with
        | zero =>
          obtain rfl : i = 2 := by have := hi.out; omega
          clear hi
          go_wp2
          go_roundg k1
          case measure => omega
          case rel =>
            refine ⟨j + 1, by go_num, ⟨by have := hj.out; omega⟩, ⟨?_⟩⟩
            have e1 := nodesL_take (l := es l1) (j := j) (by rw [es_len]; exact hjl)
            rw [e1, es_get hjl]
            exact NI.out.nd
        | succ i1 =>
          have hil : i < 2 := by have := hi.out; omega
          have p0 : decide ((i : Int) < 2) = true := decide_eq_true (by omega)
          obtain ⟨s, hc, hs, hadd⟩ := NI.out.at hil S2.out S3.out
          have HS := Aside0.mk hs
          have HA := Aside0.mk hadd
          clear hs hadd
          have AL : (adds (nodesL ((es l1).take j)) ([l1[j].f2, l1[j].f3].take i)).length ≤ 2004 := by have := adds_len2 (nodesL ((es l1).take j)) l1[j].f2 l1[j].f3 i; omega
          generalize hacc : (adds (nodesL ((es l1).take j)) ([l1[j].f2, l1[j].f3].take i)) = acc at NI HA AL
          by_cases hm : s ∈ acc
          · have hv : decide (s ∈ acc) = true := decide_eq_true hm
            have HV := Aside0.mk hv
            clear hv
            go_wp2_with (refine Mp.getB_ev rfl rfl (s := s) (v := true) rfl rfl HS.out NI.out.nd.map HV.out ?_)
            go_roundg i1
            case measure => omega
            case rel => exact ⟨i + 1, by go_num, ⟨by have := hi.out; omega⟩, ⟨by rw [HA.out, addN_in hm]; exact NI.out⟩⟩
          · have hv : decide (s ∈ acc) = false := decide_eq_false hm
            have HV := Aside0.mk hv
            clear hv
            have HB := Aside0.mk (Below.refl wr.heap.size wr)
            have NI := Aside0.mk (NI.out)
            go_wp2_with (first | (refine Mp.getB_ev rfl rfl (s := s) (v := false) rfl rfl HS.out NI.out.nd.map HV.out ?_) | (refine Mp.putB_ev rfl (.inl rfl) (s := s) (v := true) rfl rfl rfl HS.out (by unfold maxLen; omega) NI.out.nd.map ?_; intro wj hM hg_; have NJ := Aside0.mk (NI.out.put hM hg_); clear hM hg_ hc NI HB; have HB := Aside0.mk NJ.out.bel; skip) | ((with_reducible refine gate_dst (N := 37) rfl ?_); refine Evt.slice_event ?hg (N := 37) ?hd (cs := #[.string s]) (t := 9) (n := 1) ?hr ?_; (case hd => rfl); (case hg => rfl); (case hr => first | (go_simp; done) | (go_simp; rfl)); intro g37 hg w1 hbox hb; have hbx : Below wj.heap.size wj w1 := below_step (by repeat (first | (with_reducible first | exact Below.refl _ _ | apply below_alloc | apply pw_below_drewN | apply below_drew1) | exact Below.refl _ _)) hb; have n_NJ := Aside0.mk (NJ.out.below hbx); have n_HB := Aside0.mk (below_step HB.out hbx); clear HB NJ; have NJ := n_NJ; have HB := n_HB; clear hbx n_NJ n_HB; have BK37 := Aside0.mk (Bk.mk (hbox : Blk w1 g37 9 #[.string s])); clear hbox hg hb; have zBK37_0 : w1.cell? ⟨g37, 0, none⟩ = some (.string s) := (blk_cell BK37.out.blk 0).trans rfl) | ((with_reducible refine gate_dst (N := 38) rfl ?_); at_builtin; refine Evt.ro_app Value.string (fun _ => rfl) ByteArray.empty rfl (.tmp 35) (.tmp 37) 29 9 (.string ⟨#[]⟩) 16 rfl Try.underlying29 info9 rfl (by decide) u3 acc s g37 rfl rfl ⟨NJ.out.row⟩ BK37.out HB.out (by omega) ?_; intro v38 wa_ ho hb hg hat; have NF := Aside0.mk (NJ.out.app ho.row hb hg hat); clear ho hb hg hat NJ HB BK37 zBK37_0))
            go_roundg i1
            case measure => omega
            case rel => exact ⟨i + 1, by go_num, ⟨by have := hi.out; omega⟩, ⟨by rw [HA.out, addN_out hm]; exact NF.out⟩⟩
end
end Go.Proofs.Ytmacdknicgfglaa.Gw
end
section
/- graph.numbers, Outgoing, Incoming, walked. -/
namespace Go.Proofs.Ytmacdknicgfglaa.Gw
open Go.RowKit Go.Shelf Go.Proofs.YtmacdknicgfglaaW.PrintWords Go.Proofs.YtmacdknicgfglaaW.PrintMore Go.Proofs.YtmacdknicgfglaaW.PrintLast Go.Proofs.Ytmacdknicgfglaa.Chg Go.Proofs.Ytmacdknicgfglaa.Evt Go.Proofs.Ytmacdknicgfglaa.Impl Go.Proofs.Ytmacdknicgfglaa.Gp Go.Proofs.Ytmacdknicgfglaa.Mp
set_option linter.unusedVariables false
set_option linter.unusedSimpArgs false
set_option maxRecDepth 100000
theorem str_eq {s t : ByteArray} : s.toList = t.toList ↔ s = t := by
  rw [ByteArray.toList_eq, ByteArray.toList_eq]
  constructor
  · intro h; exact ByteArray.ext (Array.ext' h)
  · rintro rfl; rfl
theorem str_beq (s t : ByteArray) : (s.toList == t.toList) = decide (s = t) := by
  by_cases h : s = t
  · subst h; simp
  · rw [decide_eq_false h]; exact beq_eq_false_iff_ne.mpr (fun e => h (str_eq.1 e))
/-- A contact, by value. -/
abbrev cv (c : S41) : Value := .agg #[.int .i64 c.f0, .int .i64 c.f1.f0, .int .i64 c.f1.f1, .string c.f2, .string c.f3]
/-- A predicate on contacts, as a function value. -/
structure PredC (k : Nat) (lb : Array Value) (q : Ed → Bool) (w : World) : Prop where
  out : ∀ (W : World) (c : S41), Below w.heap.size w W → Calls Try.prog k (#[cv c] ++ lb) W fun e W' => e = .returned (.bool (q (c.f2, c.f3))) ∧ Below W.heap.size W W'
theorem PredC.at {k : Nat} {lb : Array Value} {q : Ed → Bool} {w W : World} (h : PredC k lb q w) (c : S41) (hb : Below w.heap.size w W) {r : Bool} (hr : q (c.f2, c.f3) = r) : Calls Try.prog k (#[cv c] ++ lb) W fun e W' => e = .returned (.bool r) ∧ Below W.heap.size W W' := by
  subst hr; exact h.out W c hb
set_option maxHeartbeats 1000000 in
theorem out1_any {w : World} {g : Nat} {s : ByteArray} (h : Bk w g 9 #[.string s]) : PredC 44 #[.pointer (some ⟨g, 0, none⟩)] (fun c => decide (c.1 = s)) w := by
  refine ⟨fun W c hB => ?_⟩
  have KS := Aside0.mk (h.below hB)
  obtain ⟨r, hr⟩ : ∃ r, (c.f2.toList == s.toList) = r := ⟨_, rfl⟩
  have hr2 := Aside0.mk ((str_beq _ _).symm.trans hr)
  clear hB h
  have HB := Aside0.mk (Below.refl W.heap.size W)
  have KT : Aside0 (Bk W g 9 #[.string s]) := Aside0.mk (KS.out)
  clear KS
  have zKT_0 : W.cell? ⟨g, 0, none⟩ = some (.string s) := (blk_cell KT.out.blk 0).trans rfl
  show Calls Try.prog 44 #[.agg #[.int .i64 c.f0, .int .i64 c.f1.f0, .int .i64 c.f1.f1, .string c.f2, .string c.f3], .pointer (some ⟨g, 0, none⟩)] W _
  go_enter Try.func44, Try.ntmps44
  go_wp2_with (((with_reducible refine gate_dst (N := 2) rfl ?_); refine box_event ?hg (N := 2) ?hd (cs := #[.int .i64 c.f0, .int .i64 c.f1.f0, .int .i64 c.f1.f1, .string c.f2, .string c.f3]) (t := 41) ?hr ?_; (case hd => rfl); (case hg => rfl); (case hr => first | (go_simp; done) | (go_simp; rfl)); intro g2 hg w1 hbox hb; have hbx : Below W.heap.size W w1 := below_step (by repeat (first | (with_reducible first | exact Below.refl _ _ | apply below_alloc | apply pw_below_drewN | apply below_drew1) | exact Below.refl _ _)) hb; clear zKT_0; have n_KT := Aside0.mk (KT.out.below hbx); have n_HB := Aside0.mk (below_step HB.out hbx); clear HB KT; have KT := n_KT; have HB := n_HB; clear hbx n_KT n_HB; have BK2 := Aside0.mk (Bk.mk (hbox : Blk w1 g2 41 #[.int .i64 c.f0, .int .i64 c.f1.f0, .int .i64 c.f1.f1, .string c.f2, .string c.f3])); clear hbox hg hb; have zKT_0 : w1.cell? ⟨g, 0, none⟩ = some (.string s) := (blk_cell KT.out.blk 0).trans rfl; have zBK2_0 : w1.cell? ⟨g2, 0, none⟩ = some (.int .i64 c.f0) := (blk_cell BK2.out.blk 0).trans rfl; have zBK2_1 : w1.cell? ⟨g2, 1, none⟩ = some (.int .i64 c.f1.f0) := (blk_cell BK2.out.blk 1).trans rfl; have zBK2_2 : w1.cell? ⟨g2, 2, none⟩ = some (.int .i64 c.f1.f1) := (blk_cell BK2.out.blk 2).trans rfl; have zBK2_3 : w1.cell? ⟨g2, 3, none⟩ = some (.string c.f2) := (blk_cell BK2.out.blk 3).trans rfl; have zBK2_4 : w1.cell? ⟨g2, 4, none⟩ = some (.string c.f3) := (blk_cell BK2.out.blk 4).trans rfl))
  go_ret
  exact ⟨by rw [hr2.out]; rfl, HB.out⟩
set_option maxHeartbeats 1000000 in
theorem in1_any {w : World} {g : Nat} {s : ByteArray} (h : Bk w g 9 #[.string s]) : PredC 45 #[.pointer (some ⟨g, 0, none⟩)] (fun c => decide (c.2 = s)) w := by
  refine ⟨fun W c hB => ?_⟩
  have KS := Aside0.mk (h.below hB)
  obtain ⟨r, hr⟩ : ∃ r, (c.f3.toList == s.toList) = r := ⟨_, rfl⟩
  have hr2 := Aside0.mk ((str_beq _ _).symm.trans hr)
  clear hB h
  have HB := Aside0.mk (Below.refl W.heap.size W)
  have KT : Aside0 (Bk W g 9 #[.string s]) := Aside0.mk (KS.out)
  clear KS
  have zKT_0 : W.cell? ⟨g, 0, none⟩ = some (.string s) := (blk_cell KT.out.blk 0).trans rfl
  show Calls Try.prog 45 #[.agg #[.int .i64 c.f0, .int .i64 c.f1.f0, .int .i64 c.f1.f1, .string c.f2, .string c.f3], .pointer (some ⟨g, 0, none⟩)] W _
  go_enter Try.func45, Try.ntmps45
  go_wp2_with (((with_reducible refine gate_dst (N := 2) rfl ?_); refine box_event ?hg (N := 2) ?hd (cs := #[.int .i64 c.f0, .int .i64 c.f1.f0, .int .i64 c.f1.f1, .string c.f2, .string c.f3]) (t := 41) ?hr ?_; (case hd => rfl); (case hg => rfl); (case hr => first | (go_simp; done) | (go_simp; rfl)); intro g2 hg w1 hbox hb; have hbx : Below W.heap.size W w1 := below_step (by repeat (first | (with_reducible first | exact Below.refl _ _ | apply below_alloc | apply pw_below_drewN | apply below_drew1) | exact Below.refl _ _)) hb; clear zKT_0; have n_KT := Aside0.mk (KT.out.below hbx); have n_HB := Aside0.mk (below_step HB.out hbx); clear HB KT; have KT := n_KT; have HB := n_HB; clear hbx n_KT n_HB; have BK2 := Aside0.mk (Bk.mk (hbox : Blk w1 g2 41 #[.int .i64 c.f0, .int .i64 c.f1.f0, .int .i64 c.f1.f1, .string c.f2, .string c.f3])); clear hbox hg hb; have zKT_0 : w1.cell? ⟨g, 0, none⟩ = some (.string s) := (blk_cell KT.out.blk 0).trans rfl; have zBK2_0 : w1.cell? ⟨g2, 0, none⟩ = some (.int .i64 c.f0) := (blk_cell BK2.out.blk 0).trans rfl; have zBK2_1 : w1.cell? ⟨g2, 1, none⟩ = some (.int .i64 c.f1.f0) := (blk_cell BK2.out.blk 1).trans rfl; have zBK2_2 : w1.cell? ⟨g2, 2, none⟩ = some (.int .i64 c.f1.f1) := (blk_cell BK2.out.blk 2).trans rfl; have zBK2_3 : w1.cell? ⟨g2, 3, none⟩ = some (.string c.f2) := (blk_cell BK2.out.blk 3).trans rfl; have zBK2_4 : w1.cell? ⟨g2, 4, none⟩ = some (.string c.f3) := (blk_cell BK2.out.blk 4).trans rfl))
  go_ret
  exact ⟨by rw [hr2.out]; rfl, HB.out⟩
section
variable {w w' : World} {A1 A2 : Option Addr} {c1 c2 : Nat} {l1 : List S41} {l2 : List S101} {a0 a3 : ByteArray}
structure Nu (w0 w : World) (v : Value) (xs : List Int) : Prop where
  row : Ro (Kd.int .i64) 3 w0 w v xs
  bel : Below w0.heap.size w0 w
theorem Nu.below {w0 : World} {v : Value} {xs : List Int} (h : Nu w0 w v xs) (hb : Below w.heap.size w w') : Nu w0 w' v xs := ⟨h.row.below hb, below_step h.bel hb⟩
set_option maxHeartbeats 4000000 in
theorem numbers_any (k : Nat) (lb : Array Value) (q : Ed → Bool) (eg : ∀ args w, (callFunc k args).run Try.prog w = .ok (.enter k args) w) (w : World) (h : Rg w A1 c1 l1 A2 c2 l2) (hn : l1.length ≤ 1000) (hp : PredC k lb q w) :
    Calls Try.prog 43 #[.agg #[.string a0, .slice A1 l1.length c1, .slice A2 l2.length c2, .string a3], .func (.func k) #[] lb] w fun e w' => ∃ v, e = .returned v ∧ Ro (Kd.int .i64) 3 w w' v (idxs q (es l1)) ∧ Below w.heap.size w w' := by
  have HB := Aside0.mk (Below.refl w.heap.size w)
  have R := Aside0.mk h
  have PQ := Aside0.mk hp
  clear h hp
  go_enter Try.func43, Try.ntmps43
  go_wp2_with (((with_reducible refine gate_dst (N := 2) rfl ?_); refine box_event ?hg (N := 2) ?hd (cs := #[.string a0, .slice A1 l1.length c1, .slice A2 l2.length c2, .string a3]) (t := 25) ?hr ?_; (case hd => rfl); (case hg => rfl); (case hr => first | (go_simp; done) | (go_simp; rfl)); intro g2 hg w1 hbox hb; have hbx : Below w.heap.size w w1 := below_step (by repeat (first | (with_reducible first | exact Below.refl _ _ | apply below_alloc | apply pw_below_drewN | apply below_drew1) | exact Below.refl _ _)) hb; have n_HB := Aside0.mk (below_step HB.out hbx); clear HB ; have HB := n_HB; clear hbx n_HB; have BK2 := Aside0.mk (Bk.mk (hbox : Blk w1 g2 25 #[.string a0, .slice A1 l1.length c1, .slice A2 l2.length c2, .string a3])); clear hbox hg hb; have zBK2_0 : w1.cell? ⟨g2, 0, none⟩ = some (.string a0) := (blk_cell BK2.out.blk 0).trans rfl; have zBK2_1 : w1.cell? ⟨g2, 1, none⟩ = some (.slice A1 l1.length c1) := (blk_cell BK2.out.blk 1).trans rfl; have zBK2_2 : w1.cell? ⟨g2, 2, none⟩ = some (.slice A2 l2.length c2) := (blk_cell BK2.out.blk 2).trans rfl; have zBK2_3 : w1.cell? ⟨g2, 3, none⟩ = some (.string a3) := (blk_cell BK2.out.blk 3).trans rfl))
  have ND : Aside0 (Nu w w1 (.slice none 0 0) (idxs q ((es l1).take 0))) := Aside0.mk ⟨⟨Kd.R_nil _ _ _ _ _⟩, HB.out⟩
  clear HB BK2 zBK2_0 zBK2_1 zBK2_2 zBK2_3
  go_loopg [5, 11] l1.length (fun kq v5 v11 wr => ∃ j : Nat, v11 = .int .i64 j ∧ Aside0 (j + kq = l1.length) ∧ Aside0 (Nu w wr v5 (idxs q ((es l1).take j))))
  case atStart => exact ⟨0, rfl, ⟨by omega⟩, ND⟩
  case round =>
    clear ND
    obtain ⟨j, rfl, hj, ND⟩ := hrel
    cases gk with
    | zero =>
      have e0 : j = l1.length := by have := hj.out; omega
      have q0 : decide (j < l1.length) = false := decide_eq_false (by omega)
      have q1 : decide ((j : Int) < (l1.length : Int)) = false := decide_eq_false (by omega)
      have NE := Aside0.mk e0
      clear e0 hj
      go_wp2
      go_ret
      refine ⟨_, rfl, ?_, ND.out.bel⟩
      have := ND.out.row
      rw [List.take_of_length_le (by rw [es_len, NE.out]; exact Nat.le_refl _)] at this
      exact this
    | succ k1 =>
      have hjl : j < l1.length := by have := hj.out; omega
      have q0 : decide (j < l1.length) = true := decide_eq_true (by omega)
      have q1 : decide ((j : Int) < (l1.length : Int)) = true := decide_eq_true (by omega)
      obtain ⟨ad, rfl, x0, x1, x2, x3, x4⟩ := (R.out.below ND.out.bel).at hjl
      have ST := Aside0.mk (idxs_take q (l := es l1) (j := j) (by rw [es_len]; exact hjl))
      have EG := Aside0.mk (es_get hjl)
      have IL := Aside0.mk (Nat.le_trans (idxs_len q ((es l1).take j)) (by rw [List.length_take]; omega : _ ≤ 1000))
      obtain ⟨r, hr⟩ : ∃ r, Aside0 (q (l1[j].f2, l1[j].f3) = r) := ⟨_, ⟨rfl⟩⟩
      have HB := Aside0.mk (Below.refl wr.heap.size wr)
      have ND' := Aside0.mk (ND.out)
      clear ND
      cases r with
      | false =>
        skip
        go_wp2_with (first | ((with_reducible refine gate_dst (N := 7) rfl ?_); refine Evt.box3 ?hg2_ (N := 7) ?hd2_ (z := #[.int .i64 0, .int .i64 0, .int .i64 0, .string ⟨#[]⟩, .string ⟨#[]⟩]) (cs := #[.int .i64 l1[j].f0, .int .i64 l1[j].f1.f0, .int .i64 l1[j].f1.f1, .string l1[j].f2, .string l1[j].f3]) (T := 41) ?hr2_ ?hg12_ (v1 := .int .i64 j) ?hr12_ ?hg22_ (.tmp 15) ?ho22_ ?hd22_ ?hy2_ ?hx2_ ?hi2_ ?hz2_ ?h12_ ?_; (case hd2_ => rfl); (case hg2_ => rfl); (case hr2_ => first | (go_simp; done) | (go_simp; rfl)); (case hg12_ => rfl); (case hr12_ => (intro W_; first | (go_simp; done) | (go_simp; rfl))); (case hg22_ => rfl); (case ho22_ => rfl); (case hd22_ => rfl); (case hy2_ => first | rfl | (go_simp; done)); (case hx2_ => first | rfl | (go_simp; done)); (case hi2_ => kernel_rfl); (case hz2_ => rfl); (case h12_ => first | rfl | (simp [Value.oneCell'])); intro g7 hg w1 hbox hb; have hbx : Below wr.heap.size wr w1 := below_step (by repeat (first | (with_reducible first | exact Below.refl _ _ | apply below_alloc | apply pw_below_drewN | apply below_drew1) | exact Below.refl _ _)) hb; have n_ND' := Aside0.mk (ND'.out.below hbx); have n_HB := Aside0.mk (below_step HB.out hbx); clear HB ND'; have ND' := n_ND'; have HB := n_HB; clear hbx n_ND' n_HB; have BK7 := Aside0.mk (Bk.mk (hbox : Blk w1 g7 41 #[.int .i64 l1[j].f0, .int .i64 l1[j].f1.f0, .int .i64 l1[j].f1.f1, .string l1[j].f2, .string l1[j].f3])); clear hbox hg hb; have zBK7_0 : w1.cell? ⟨g7, 0, none⟩ = some (.int .i64 l1[j].f0) := (blk_cell BK7.out.blk 0).trans rfl; have zBK7_1 : w1.cell? ⟨g7, 1, none⟩ = some (.int .i64 l1[j].f1.f0) := (blk_cell BK7.out.blk 1).trans rfl; have zBK7_2 : w1.cell? ⟨g7, 2, none⟩ = some (.int .i64 l1[j].f1.f1) := (blk_cell BK7.out.blk 2).trans rfl; have zBK7_3 : w1.cell? ⟨g7, 3, none⟩ = some (.string l1[j].f2) := (blk_cell BK7.out.blk 3).trans rfl; have zBK7_4 : w1.cell? ⟨g7, 4, none⟩ = some (.string l1[j].f3) := (blk_cell BK7.out.blk 4).trans rfl) | (go_at_fn k; (with_reducible refine (PQ.out.at l1[j] (below_step ND'.out.bel (by repeat (first | (with_reducible first | exact Below.refl _ _ | apply below_alloc | apply pw_below_drewN | apply below_drew1) | exact Below.refl _ _))) hr.out).mono ?_); rintro e w2 ⟨rfl, hb⟩; have hbx : Below w1.heap.size w1 w2 := below_step (by repeat (first | (with_reducible first | exact Below.refl _ _ | apply below_alloc | apply pw_below_drewN | apply below_drew1) | exact Below.refl _ _)) hb; clear zBK7_0 zBK7_1 zBK7_2 zBK7_3 zBK7_4; have n_ND' := Aside0.mk (ND'.out.below hbx); have n_BK7 := Aside0.mk (BK7.out.below hbx); have n_HB := Aside0.mk (below_step HB.out hbx); clear HB ND' BK7; have ND' := n_ND'; have BK7 := n_BK7; have HB := n_HB; clear hbx n_ND' n_BK7 n_HB; clear hb; have zBK7_0 : w2.cell? ⟨g7, 0, none⟩ = some (.int .i64 l1[j].f0) := (blk_cell BK7.out.blk 0).trans rfl; have zBK7_1 : w2.cell? ⟨g7, 1, none⟩ = some (.int .i64 l1[j].f1.f0) := (blk_cell BK7.out.blk 1).trans rfl; have zBK7_2 : w2.cell? ⟨g7, 2, none⟩ = some (.int .i64 l1[j].f1.f1) := (blk_cell BK7.out.blk 2).trans rfl; have zBK7_3 : w2.cell? ⟨g7, 3, none⟩ = some (.string l1[j].f2) := (blk_cell BK7.out.blk 3).trans rfl; have zBK7_4 : w2.cell? ⟨g7, 4, none⟩ = some (.string l1[j].f3) := (blk_cell BK7.out.blk 4).trans rfl))
        go_roundg k1
        case measure => omega
        case rel => exact ⟨j + 1, by go_num, ⟨by have := hj.out; omega⟩, ⟨by rw [ST.out, EG.out, if_neg (by rw [hr.out]; simp)]; exact ND'.out⟩⟩
        skip
      | true =>
        go_wp2_with (first | ((with_reducible refine gate_dst (N := 7) rfl ?_); refine Evt.box3 ?hg3_ (N := 7) ?hd3_ (z := #[.int .i64 0, .int .i64 0, .int .i64 0, .string ⟨#[]⟩, .string ⟨#[]⟩]) (cs := #[.int .i64 l1[j].f0, .int .i64 l1[j].f1.f0, .int .i64 l1[j].f1.f1, .string l1[j].f2, .string l1[j].f3]) (T := 41) ?hr3_ ?hg13_ (v1 := .int .i64 j) ?hr13_ ?hg23_ (.tmp 15) ?ho23_ ?hd23_ ?hy3_ ?hx3_ ?hi3_ ?hz3_ ?h13_ ?_; (case hd3_ => rfl); (case hg3_ => rfl); (case hr3_ => first | (go_simp; done) | (go_simp; rfl)); (case hg13_ => rfl); (case hr13_ => (intro W_; first | (go_simp; done) | (go_simp; rfl))); (case hg23_ => rfl); (case ho23_ => rfl); (case hd23_ => rfl); (case hy3_ => first | rfl | (go_simp; done)); (case hx3_ => first | rfl | (go_simp; done)); (case hi3_ => kernel_rfl); (case hz3_ => rfl); (case h13_ => first | rfl | (simp [Value.oneCell'])); intro g7 hg w1 hbox hb; have hbx : Below wr.heap.size wr w1 := below_step (by repeat (first | (with_reducible first | exact Below.refl _ _ | apply below_alloc | apply pw_below_drewN | apply below_drew1) | exact Below.refl _ _)) hb; have n_ND' := Aside0.mk (ND'.out.below hbx); have n_HB := Aside0.mk (below_step HB.out hbx); clear HB ND'; have ND' := n_ND'; have HB := n_HB; clear hbx n_ND' n_HB; have BK7 := Aside0.mk (Bk.mk (hbox : Blk w1 g7 41 #[.int .i64 l1[j].f0, .int .i64 l1[j].f1.f0, .int .i64 l1[j].f1.f1, .string l1[j].f2, .string l1[j].f3])); clear hbox hg hb; have zBK7_0 : w1.cell? ⟨g7, 0, none⟩ = some (.int .i64 l1[j].f0) := (blk_cell BK7.out.blk 0).trans rfl; have zBK7_1 : w1.cell? ⟨g7, 1, none⟩ = some (.int .i64 l1[j].f1.f0) := (blk_cell BK7.out.blk 1).trans rfl; have zBK7_2 : w1.cell? ⟨g7, 2, none⟩ = some (.int .i64 l1[j].f1.f1) := (blk_cell BK7.out.blk 2).trans rfl; have zBK7_3 : w1.cell? ⟨g7, 3, none⟩ = some (.string l1[j].f2) := (blk_cell BK7.out.blk 3).trans rfl; have zBK7_4 : w1.cell? ⟨g7, 4, none⟩ = some (.string l1[j].f3) := (blk_cell BK7.out.blk 4).trans rfl) | (go_at_fn k; (with_reducible refine (PQ.out.at l1[j] (below_step ND'.out.bel (by repeat (first | (with_reducible first | exact Below.refl _ _ | apply below_alloc | apply pw_below_drewN | apply below_drew1) | exact Below.refl _ _))) hr.out).mono ?_); rintro e w2 ⟨rfl, hb⟩; have hbx : Below w1.heap.size w1 w2 := below_step (by repeat (first | (with_reducible first | exact Below.refl _ _ | apply below_alloc | apply pw_below_drewN | apply below_drew1) | exact Below.refl _ _)) hb; clear zBK7_0 zBK7_1 zBK7_2 zBK7_3 zBK7_4; have n_ND' := Aside0.mk (ND'.out.below hbx); have n_BK7 := Aside0.mk (BK7.out.below hbx); have n_HB := Aside0.mk (below_step HB.out hbx); clear HB ND' BK7; have ND' := n_ND'; have BK7 := n_BK7; have HB := n_HB; clear hbx n_ND' n_BK7 n_HB; clear hb; have zBK7_0 : w2.cell? ⟨g7, 0, none⟩ = some (.int .i64 l1[j].f0) := (blk_cell BK7.out.blk 0).trans rfl; have zBK7_1 : w2.cell? ⟨g7, 1, none⟩ = some (.int .i64 l1[j].f1.f0) := (blk_cell BK7.out.blk 1).trans rfl; have zBK7_2 : w2.cell? ⟨g7, 2, none⟩ = some (.int .i64 l1[j].f1.f1) := (blk_cell BK7.out.blk 2).trans rfl; have zBK7_3 : w2.cell? ⟨g7, 3, none⟩ = some (.string l1[j].f2) := (blk_cell BK7.out.blk 3).trans rfl; have zBK7_4 : w2.cell? ⟨g7, 4, none⟩ = some (.string l1[j].f3) := (blk_cell BK7.out.blk 4).trans rfl) | ((with_reducible refine gate_dst (N := 21) rfl ?_); refine Evt.slice_event ?hg (N := 21) ?hd (cs := #[.int .i64 j]) (t := 3) (n := 1) ?hr ?_; (case hd => rfl); (case hg => rfl); (case hr => first | (go_simp; done) | (go_simp; rfl)); intro g21 hg w3 hbox hb; have hbx : Below w2.heap.size w2 w3 := below_step (by repeat (first | (with_reducible first | exact Below.refl _ _ | apply below_alloc | apply pw_below_drewN | apply below_drew1) | exact Below.refl _ _)) hb; clear zBK7_0 zBK7_1 zBK7_2 zBK7_3 zBK7_4; have n_ND' := Aside0.mk (ND'.out.below hbx); have n_BK7 := Aside0.mk (BK7.out.below hbx); have n_HB := Aside0.mk (below_step HB.out hbx); clear HB ND' BK7; have ND' := n_ND'; have BK7 := n_BK7; have HB := n_HB; clear hbx n_ND' n_BK7 n_HB; have BK21 := Aside0.mk (Bk.mk (hbox : Blk w3 g21 3 #[.int .i64 j])); clear hbox hg hb; have zBK7_0 : w3.cell? ⟨g7, 0, none⟩ = some (.int .i64 l1[j].f0) := (blk_cell BK7.out.blk 0).trans rfl; have zBK7_1 : w3.cell? ⟨g7, 1, none⟩ = some (.int .i64 l1[j].f1.f0) := (blk_cell BK7.out.blk 1).trans rfl; have zBK7_2 : w3.cell? ⟨g7, 2, none⟩ = some (.int .i64 l1[j].f1.f1) := (blk_cell BK7.out.blk 2).trans rfl; have zBK7_3 : w3.cell? ⟨g7, 3, none⟩ = some (.string l1[j].f2) := (blk_cell BK7.out.blk 3).trans rfl; have zBK7_4 : w3.cell? ⟨g7, 4, none⟩ = some (.string l1[j].f3) := (blk_cell BK7.out.blk 4).trans rfl; have zBK21_0 : w3.cell? ⟨g21, 0, none⟩ = some (.int .i64 j) := (blk_cell BK21.out.blk 0).trans rfl) | ((with_reducible refine gate_dst (N := 22) rfl ?_); at_builtin; refine Evt.ro_app (Value.int .i64) (fun _ => rfl) (0 : Int) rfl (.tmp 19) (.tmp 21) 32 3 (.int .i64 0) 8 rfl Try.underlying32 info3 rfl (by decide) u5 (idxs q ((es l1).take j)) (j : Int) g21 rfl rfl ND'.out.row BK21.out ND'.out.bel (by have := IL.out; omega) ?_; intro v22 wa_ ho hb hg hat; have NF := Aside0.mk (Nu.mk ho hb); clear ho hb hg hat ND' HB BK7 BK21 zBK7_0 zBK7_1 zBK7_2 zBK7_3 zBK7_4 zBK21_0))
        go_roundg k1
        case measure => omega
        case rel => exact ⟨j + 1, by go_num, ⟨by have := hj.out; omega⟩, ⟨by rw [ST.out, EG.out, if_pos hr.out]; exact NF.out⟩⟩
theorem eg_out : ∀ args w, (callFunc 44 args).run Try.prog w = .ok (.enter 44 args) w := enters_of Try.func44 (by kernel_rfl) rfl
theorem eg_in : ∀ args w, (callFunc 45 args).run Try.prog w = .ok (.enter 45 args) w := enters_of Try.func45 (by kernel_rfl) rfl
theorem outgoing_any (w : World) (h : Rg w A1 c1 l1 A2 c2 l2) (hn : l1.length ≤ 1000) (s : ByteArray) :
    Calls Try.prog 21 #[.agg #[.string a0, .slice A1 l1.length c1, .slice A2 l2.length c2, .string a3], .string s] w fun e w' => ∃ v, e = .returned v ∧ Ro (Kd.int .i64) 3 w w' v (outL (es l1) s) ∧ Below w.heap.size w w' := by
  have hmf : ∀ (fn : Fn) (first cap : Array Value) (w : World), (Instr.makeFunc fn first cap).run Try.prog w = .ok (.func fn first cap) w := fun _ _ _ _ => rfl
  have HB := Aside0.mk (Below.refl w.heap.size w)
  have R := Aside0.mk (h)
  clear h
  go_enter Try.func21, Try.ntmps21
  go_wp2_with (first | ((with_reducible refine gate_dst (N := 2) rfl ?_); refine box_event ?hg (N := 2) ?hd (cs := #[.string a0, .slice A1 l1.length c1, .slice A2 l2.length c2, .string a3]) (t := 25) ?hr ?_; (case hd => rfl); (case hg => rfl); (case hr => first | (go_simp; done) | (go_simp; rfl)); intro g2 hg w1 hbox hb; have hbx : Below w.heap.size w w1 := below_step (by repeat (first | (with_reducible first | exact Below.refl _ _ | apply below_alloc | apply pw_below_drewN | apply below_drew1) | exact Below.refl _ _)) hb; have n_R := Aside0.mk (R.out.below hbx); have n_HB := Aside0.mk (below_step HB.out hbx); clear HB R; have R := n_R; have HB := n_HB; clear hbx n_R n_HB; have BK2 := Aside0.mk (Bk.mk (hbox : Blk w1 g2 25 #[.string a0, .slice A1 l1.length c1, .slice A2 l2.length c2, .string a3])); clear hbox hg hb; have zBK2_0 : w1.cell? ⟨g2, 0, none⟩ = some (.string a0) := (blk_cell BK2.out.blk 0).trans rfl; have zBK2_1 : w1.cell? ⟨g2, 1, none⟩ = some (.slice A1 l1.length c1) := (blk_cell BK2.out.blk 1).trans rfl; have zBK2_2 : w1.cell? ⟨g2, 2, none⟩ = some (.slice A2 l2.length c2) := (blk_cell BK2.out.blk 2).trans rfl; have zBK2_3 : w1.cell? ⟨g2, 3, none⟩ = some (.string a3) := (blk_cell BK2.out.blk 3).trans rfl) | ((with_reducible refine gate_dst (N := 3) rfl ?_); refine box_event ?hg (N := 3) ?hd (cs := #[.string s]) (t := 9) ?hr ?_; (case hd => rfl); (case hg => rfl); (case hr => first | (go_simp; done) | (go_simp; rfl)); intro g3 hg w2 hbox hb; have hbx : Below w1.heap.size w1 w2 := below_step (by repeat (first | (with_reducible first | exact Below.refl _ _ | apply below_alloc | apply pw_below_drewN | apply below_drew1) | exact Below.refl _ _)) hb; clear zBK2_0 zBK2_1 zBK2_2 zBK2_3; have n_R := Aside0.mk (R.out.below hbx); have n_BK2 := Aside0.mk (BK2.out.below hbx); have n_HB := Aside0.mk (below_step HB.out hbx); clear HB R BK2; have R := n_R; have BK2 := n_BK2; have HB := n_HB; clear hbx n_R n_BK2 n_HB; have BK3 := Aside0.mk (Bk.mk (hbox : Blk w2 g3 9 #[.string s])); clear hbox hg hb; have zBK2_0 : w2.cell? ⟨g2, 0, none⟩ = some (.string a0) := (blk_cell BK2.out.blk 0).trans rfl; have zBK2_1 : w2.cell? ⟨g2, 1, none⟩ = some (.slice A1 l1.length c1) := (blk_cell BK2.out.blk 1).trans rfl; have zBK2_2 : w2.cell? ⟨g2, 2, none⟩ = some (.slice A2 l2.length c2) := (blk_cell BK2.out.blk 2).trans rfl; have zBK2_3 : w2.cell? ⟨g2, 3, none⟩ = some (.string a3) := (blk_cell BK2.out.blk 3).trans rfl; have zBK3_0 : w2.cell? ⟨g3, 0, none⟩ = some (.string s) := (blk_cell BK3.out.blk 0).trans rfl) | ((with_reducible refine gate_callee (f := 43) rfl ?_); refine goesL_ (some 7) rfl rfl Try.func43 (by kernel_rfl) rfl #[.agg #[.string a0, .slice A1 l1.length c1, .slice A2 l2.length c2, .string a3], .func (.func 44) #[] #[.pointer (some ⟨g3, 0, none⟩)]] rfl (by (try simp only [List.map_toArray, List.map_cons, List.map_nil]); first | done | rfl | (simp only [List.length_drop, List.length_take]; rfl)) ?_; (with_reducible refine (numbers_any _ _ _ eg_out _ (R.out.below (by repeat (first | (with_reducible first | exact Below.refl _ _ | apply below_alloc | apply pw_below_drewN | apply below_drew1) | exact Below.refl _ _))) hn (out1_any (BK3.out.below (by repeat (first | (with_reducible first | exact Below.refl _ _ | apply below_alloc | apply pw_below_drewN | apply below_drew1) | exact Below.refl _ _))))).mono ?_); rintro e w3 ⟨v, rfl, ho, hb⟩; have hbx : Below w2.heap.size w2 w3 := below_step (by repeat (first | (with_reducible first | exact Below.refl _ _ | apply below_alloc | apply pw_below_drewN | apply below_drew1) | exact Below.refl _ _)) hb; have ho_ := Ro.lower ho (below_size (below_step HB.out (by repeat (first | (with_reducible first | exact Below.refl _ _ | apply below_alloc | apply pw_below_drewN | apply below_drew1) | exact Below.refl _ _)))); clear zBK2_0 zBK2_1 zBK2_2 zBK2_3 zBK3_0; have n_R := Aside0.mk (R.out.below hbx); have n_BK2 := Aside0.mk (BK2.out.below hbx); have n_BK3 := Aside0.mk (BK3.out.below hbx); have n_HB := Aside0.mk (below_step HB.out hbx); clear HB R BK2 BK3; have R := n_R; have BK2 := n_BK2; have BK3 := n_BK3; have HB := n_HB; clear hbx n_R n_BK2 n_BK3 n_HB; have RV := Aside0.mk (ho_); clear hb; clear ho ho_; have zBK2_0 : w3.cell? ⟨g2, 0, none⟩ = some (.string a0) := (blk_cell BK2.out.blk 0).trans rfl; have zBK2_1 : w3.cell? ⟨g2, 1, none⟩ = some (.slice A1 l1.length c1) := (blk_cell BK2.out.blk 1).trans rfl; have zBK2_2 : w3.cell? ⟨g2, 2, none⟩ = some (.slice A2 l2.length c2) := (blk_cell BK2.out.blk 2).trans rfl; have zBK2_3 : w3.cell? ⟨g2, 3, none⟩ = some (.string a3) := (blk_cell BK2.out.blk 3).trans rfl; have zBK3_0 : w3.cell? ⟨g3, 0, none⟩ = some (.string s) := (blk_cell BK3.out.blk 0).trans rfl; refine ⟨_, rfl, ?_⟩))
  go_ret
  exact ⟨_, rfl, RV.out, HB.out⟩
theorem incoming_any (w : World) (h : Rg w A1 c1 l1 A2 c2 l2) (hn : l1.length ≤ 1000) (s : ByteArray) :
    Calls Try.prog 23 #[.agg #[.string a0, .slice A1 l1.length c1, .slice A2 l2.length c2, .string a3], .string s] w fun e w' => ∃ v, e = .returned v ∧ Ro (Kd.int .i64) 3 w w' v (inL (es l1) s) ∧ Below w.heap.size w w' := by
  have hmf : ∀ (fn : Fn) (first cap : Array Value) (w : World), (Instr.makeFunc fn first cap).run Try.prog w = .ok (.func fn first cap) w := fun _ _ _ _ => rfl
  have HB := Aside0.mk (Below.refl w.heap.size w)
  have R := Aside0.mk (h)
  clear h
  go_enter Try.func23, Try.ntmps23
  go_wp2_with (first | ((with_reducible refine gate_dst (N := 2) rfl ?_); refine box_event ?hg (N := 2) ?hd (cs := #[.string a0, .slice A1 l1.length c1, .slice A2 l2.length c2, .string a3]) (t := 25) ?hr ?_; (case hd => rfl); (case hg => rfl); (case hr => first | (go_simp; done) | (go_simp; rfl)); intro g2 hg w1 hbox hb; have hbx : Below w.heap.size w w1 := below_step (by repeat (first | (with_reducible first | exact Below.refl _ _ | apply below_alloc | apply pw_below_drewN | apply below_drew1) | exact Below.refl _ _)) hb; have n_R := Aside0.mk (R.out.below hbx); have n_HB := Aside0.mk (below_step HB.out hbx); clear HB R; have R := n_R; have HB := n_HB; clear hbx n_R n_HB; have BK2 := Aside0.mk (Bk.mk (hbox : Blk w1 g2 25 #[.string a0, .slice A1 l1.length c1, .slice A2 l2.length c2, .string a3])); clear hbox hg hb; have zBK2_0 : w1.cell? ⟨g2, 0, none⟩ = some (.string a0) := (blk_cell BK2.out.blk 0).trans rfl; have zBK2_1 : w1.cell? ⟨g2, 1, none⟩ = some (.slice A1 l1.length c1) := (blk_cell BK2.out.blk 1).trans rfl; have zBK2_2 : w1.cell? ⟨g2, 2, none⟩ = some (.slice A2 l2.length c2) := (blk_cell BK2.out.blk 2).trans rfl; have zBK2_3 : w1.cell? ⟨g2, 3, none⟩ = some (.string a3) := (blk_cell BK2.out.blk 3).trans rfl) | ((with_reducible refine gate_dst (N := 3) rfl ?_); refine box_event ?hg (N := 3) ?hd (cs := #[.string s]) (t := 9) ?hr ?_; (case hd => rfl); (case hg => rfl); (case hr => first | (go_simp; done) | (go_simp; rfl)); intro g3 hg w2 hbox hb; have hbx : Below w1.heap.size w1 w2 := below_step (by repeat (first | (with_reducible first | exact Below.refl _ _ | apply below_alloc | apply pw_below_drewN | apply below_drew1) | exact Below.refl _ _)) hb; clear zBK2_0 zBK2_1 zBK2_2 zBK2_3; have n_R := Aside0.mk (R.out.below hbx); have n_BK2 := Aside0.mk (BK2.out.below hbx); have n_HB := Aside0.mk (below_step HB.out hbx); clear HB R BK2; have R := n_R; have BK2 := n_BK2; have HB := n_HB; clear hbx n_R n_BK2 n_HB; have BK3 := Aside0.mk (Bk.mk (hbox : Blk w2 g3 9 #[.string s])); clear hbox hg hb; have zBK2_0 : w2.cell? ⟨g2, 0, none⟩ = some (.string a0) := (blk_cell BK2.out.blk 0).trans rfl; have zBK2_1 : w2.cell? ⟨g2, 1, none⟩ = some (.slice A1 l1.length c1) := (blk_cell BK2.out.blk 1).trans rfl; have zBK2_2 : w2.cell? ⟨g2, 2, none⟩ = some (.slice A2 l2.length c2) := (blk_cell BK2.out.blk 2).trans rfl; have zBK2_3 : w2.cell? ⟨g2, 3, none⟩ = some (.string a3) := (blk_cell BK2.out.blk 3).trans rfl; have zBK3_0 : w2.cell? ⟨g3, 0, none⟩ = some (.string s) := (blk_cell BK3.out.blk 0).trans rfl) | ((with_reducible refine gate_callee (f := 43) rfl ?_); refine goesL_ (some 7) rfl rfl Try.func43 (by kernel_rfl) rfl #[.agg #[.string a0, .slice A1 l1.length c1, .slice A2 l2.length c2, .string a3], .func (.func 45) #[] #[.pointer (some ⟨g3, 0, none⟩)]] rfl (by (try simp only [List.map_toArray, List.map_cons, List.map_nil]); first | done | rfl | (simp only [List.length_drop, List.length_take]; rfl)) ?_; (with_reducible refine (numbers_any _ _ _ eg_in _ (R.out.below (by repeat (first | (with_reducible first | exact Below.refl _ _ | apply below_alloc | apply pw_below_drewN | apply below_drew1) | exact Below.refl _ _))) hn (in1_any (BK3.out.below (by repeat (first | (with_reducible first | exact Below.refl _ _ | apply below_alloc | apply pw_below_drewN | apply below_drew1) | exact Below.refl _ _))))).mono ?_); rintro e w3 ⟨v, rfl, ho, hb⟩; have hbx : Below w2.heap.size w2 w3 := below_step (by repeat (first | (with_reducible first | exact Below.refl _ _ | apply below_alloc | apply pw_below_drewN | apply below_drew1) | exact Below.refl _ _)) hb; have ho_ := Ro.lower ho (below_size (below_step HB.out (by repeat (first | (with_reducible first | exact Below.refl _ _ | apply below_alloc | apply pw_below_drewN | apply below_drew1) | exact Below.refl _ _)))); clear zBK2_0 zBK2_1 zBK2_2 zBK2_3 zBK3_0; have n_R := Aside0.mk (R.out.below hbx); have n_BK2 := Aside0.mk (BK2.out.below hbx); have n_BK3 := Aside0.mk (BK3.out.below hbx); have n_HB := Aside0.mk (below_step HB.out hbx); clear HB R BK2 BK3; have R := n_R; have BK2 := n_BK2; have BK3 := n_BK3; have HB := n_HB; clear hbx n_R n_BK2 n_BK3 n_HB; have RV := Aside0.mk (ho_); clear hb; clear ho ho_; have zBK2_0 : w3.cell? ⟨g2, 0, none⟩ = some (.string a0) := (blk_cell BK2.out.blk 0).trans rfl; have zBK2_1 : w3.cell? ⟨g2, 1, none⟩ = some (.slice A1 l1.length c1) := (blk_cell BK2.out.blk 1).trans rfl; have zBK2_2 : w3.cell? ⟨g2, 2, none⟩ = some (.slice A2 l2.length c2) := (blk_cell BK2.out.blk 2).trans rfl; have zBK2_3 : w3.cell? ⟨g2, 3, none⟩ = some (.string a3) := (blk_cell BK2.out.blk 3).trans rfl; have zBK3_0 : w3.cell? ⟨g3, 0, none⟩ = some (.string s) := (blk_cell BK3.out.blk 0).trans rfl; refine ⟨_, rfl, ?_⟩))
  go_ret
  exact ⟨_, rfl, RV.out, HB.out⟩
end
end Go.Proofs.Ytmacdknicgfglaa.Gw
end
section
/- slices.IndexFunc, ContainsFunc at strings and at numbers, walked: whatever predicate. -/
namespace Go.Proofs.Ytmacdknicgfglaa.Gw
open Go.RowKit Go.Shelf Go.Proofs.YtmacdknicgfglaaW.PrintWords Go.Proofs.YtmacdknicgfglaaW.PrintMore Go.Proofs.YtmacdknicgfglaaW.PrintLast Go.Proofs.Ytmacdknicgfglaa.Chg Go.Proofs.Ytmacdknicgfglaa.Evt Go.Proofs.Ytmacdknicgfglaa.Impl Go.Proofs.Ytmacdknicgfglaa.Gp Go.Proofs.Ytmacdknicgfglaa.Mp
set_option linter.unusedVariables false
set_option linter.unusedSimpArgs false
set_option maxRecDepth 100000
/-- A predicate as a function value: at each x of S, in every world in which all that lay in w lies. -/
structure PredV {α : Type} (k : Nat) (lb : Array Value) (enc : α → Value) (q : α → Bool) (S : α → Prop) (w : World) : Prop where
  out : ∀ (W : World) (x : α), S x → Below w.heap.size w W → Calls Try.prog k (#[enc x] ++ lb) W fun e W' => e = .returned (.bool (q x)) ∧ Below W.heap.size W W'
theorem PredV.at {α : Type} {k : Nat} {lb : Array Value} {enc : α → Value} {q : α → Bool} {S : α → Prop} {w W : World} (h : PredV k lb enc q S w) (x : α) (hx : S x) (hb : Below w.heap.size w W) {r : Bool} (hr : q x = r) : Calls Try.prog k (#[enc x] ++ lb) W fun e W' => e = .returned (.bool r) ∧ Below W.heap.size W W' := by
  subst hr; exact h.out W x hx hb
theorem PredV.below {α : Type} {k : Nat} {lb : Array Value} {enc : α → Value} {q : α → Bool} {S : α → Prop} {w W : World} (h : PredV k lb enc q S w) (hb : Below w.heap.size w W) : PredV k lb enc q S W := ⟨fun W' x hx hb' => h.out W' x hx (below_step hb hb')⟩
def idxF {α : Type} (q : α → Bool) (l : List α) : Int := match l.findIdx? q with
  | some i => (i : Int)
  | none => -1
theorem idxF_hit {α : Type} {q : α → Bool} {l : List α} {j : Nat} (hj : j < l.length) (h : q l[j] = true) (hl : ∀ i (hi : i < j), q (l[i]'(by omega)) = false) : idxF q l = (j : Int) := by
  have : l.findIdx? q = some j := by
    rw [List.findIdx?_eq_some_iff_getElem]
    exact ⟨hj, h, fun i hi => by simpa using hl i hi⟩
  unfold idxF
  rw [this]
theorem idxF_miss {α : Type} {q : α → Bool} {l : List α} (hl : ∀ i (hi : i < l.length), q l[i] = false) : idxF q l = -1 := by
  have : l.findIdx? q = none := by
    rw [List.findIdx?_eq_none_iff]
    intro x hx
    obtain ⟨i, hi, rfl⟩ := List.mem_iff_getElem.1 hx
    exact hl i hi
  unfold idxF
  rw [this]
theorem idxF_any {α : Type} (q : α → Bool) (l : List α) : decide (0 ≤ idxF q l) = l.any q := by
  unfold idxF
  cases h : l.findIdx? q with
  | none =>
    rw [List.findIdx?_eq_none_iff] at h
    simp only [show decide ((0 : Int) ≤ -1) = false from rfl]
    symm
    rw [List.any_eq_false]
    intro x hx
    simpa using h x hx
  | some i =>
    rw [List.findIdx?_eq_some_iff_getElem] at h
    obtain ⟨hi, hq, _⟩ := h
    rw [decide_eq_true (by omega : (0 : Int) ≤ (i : Int))]
    symm
    exact List.any_eq_true.2 ⟨_, List.getElem_mem hi, hq⟩
theorem at_int0 {w : World} {A : Option Addr} {n : Nat} {xs : List Int} (h : Kd.C (Kd.int .i64) w A n xs) (i : Int) (h0 : 0 ≤ i) (h1 : i < n) : ∃ ad, A = some ad ∧ w.cell? (ad.add i.toNat) = some (.int .i64 (rd xs i)) :=
  ReadsOf.at_ (Kd.reads_of_C (enc := Value.int .i64) (d := (0 : Int)) (h1 := fun _ => rfl) h) i h0 h1
/-- Nothing of w0 has turned. -/
structure Bw0 (w0 w : World) : Prop where
  out : Below w0.heap.size w0 w
theorem Bw0.below {w0 w w' : World} (h : Bw0 w0 w) (hb : Below w.heap.size w w') : Bw0 w0 w' := ⟨below_step h.out hb⟩
set_option maxHeartbeats 1000000 in
theorem idxfS {k : Nat} {lb : Array Value} {q : ByteArray → Bool} (eg : ∀ args w, (callFunc k args).run Try.prog w = .ok (.enter k args) w) {w : World} {A : Option Addr} {c : Nat} {zs : List ByteArray} (h : Rw Kd.string w A c zs) (hn : zs.length ≤ 1000000) (hp : PredV k lb Value.string q (fun x => x ∈ zs) w) :
    Calls Try.prog 46 #[.slice A zs.length c, .func (.func k) #[] lb] w fun e w' => e = .returned (.int .i64 (idxF q zs)) ∧ Below w.heap.size w w' := by
  have R := Aside0.mk h
  have PQ := Aside0.mk hp
  clear h hp
  go_enter Try.func46, Try.ntmps46
  go_wp2
  go_loopg [8] zs.length (fun kq v8 wr => ∃ j : Nat, v8 = .int .i64 j ∧ Aside0 (j + kq = zs.length) ∧ Aside0 (∀ i (hi : i < j) (hl : i < zs.length), q zs[i] = false) ∧ Aside0 (Below w.heap.size w wr))
  case atStart => exact ⟨0, rfl, ⟨by omega⟩, ⟨fun i hi => by omega⟩, ⟨Below.refl _ _⟩⟩
  case round =>
    obtain ⟨j, rfl, hj, HN, HW⟩ := hrel
    cases gk with
    | zero =>
      have e0 : j = zs.length := by have := hj.out; omega
      have q0 : decide (j < zs.length) = false := decide_eq_false (by omega)
      have q1 : decide ((j : Int) < (zs.length : Int)) = false := decide_eq_false (by omega)
      have NE := Aside0.mk e0
      clear e0 hj
      go_wp2
      go_ret
      refine ⟨?_, HW.out⟩
      rw [idxF_miss (fun i hi => HN.out i (by rw [NE.out]; exact hi) hi)]
      rfl
    | succ k1 =>
      have hjl : j < zs.length := by have := hj.out; omega
      have q0 : decide (j < zs.length) = true := decide_eq_true (by omega)
      have q1 : decide ((j : Int) < (zs.length : Int)) = true := decide_eq_true (by omega)
      obtain ⟨ad, rfl, x0⟩ := Kd.at_string (R.out.below HW.out).row (j : Int) (by omega) (by omega)
      rw [Int.toNat_natCast, show rdOf ByteArray.empty zs (j : Int) = zs[j] by simp [rdOf, List.getD_eq_getElem?_getD, List.getElem?_eq_getElem hjl]] at x0
      obtain ⟨r, hr⟩ : ∃ r, Aside0 (q zs[j] = r) := ⟨_, ⟨rfl⟩⟩
      have HB := Aside0.mk (Below.refl wr.heap.size wr)
      have BW := Aside0.mk (Bw0.mk HW.out)
      clear HW
      cases r with
      | true =>
        skip
        go_wp2_with ((go_at_fn k; (with_reducible refine (PQ.out.at zs[j] (List.getElem_mem hjl) (below_step BW.out.out (by repeat (first | (with_reducible first | exact Below.refl _ _ | apply below_alloc | apply pw_below_drewN | apply below_drew1) | exact Below.refl _ _))) hr.out).mono ?_); rintro e w1 ⟨rfl, hb⟩; have hbx : Below wr.heap.size wr w1 := below_step (by repeat (first | (with_reducible first | exact Below.refl _ _ | apply below_alloc | apply pw_below_drewN | apply below_drew1) | exact Below.refl _ _)) hb; have n_BW := Aside0.mk (BW.out.below hbx); have n_HB := Aside0.mk (below_step HB.out hbx); clear HB BW; have BW := n_BW; have HB := n_HB; clear hbx n_BW n_HB; clear hb))
        go_ret
        refine ⟨?_, BW.out.out⟩
        rw [idxF_hit hjl hr.out (fun i hi => HN.out i hi (by omega))]
        rfl
        skip
      | false =>
        go_wp2_with ((go_at_fn k; (with_reducible refine (PQ.out.at zs[j] (List.getElem_mem hjl) (below_step BW.out.out (by repeat (first | (with_reducible first | exact Below.refl _ _ | apply below_alloc | apply pw_below_drewN | apply below_drew1) | exact Below.refl _ _))) hr.out).mono ?_); rintro e w1 ⟨rfl, hb⟩; have hbx : Below wr.heap.size wr w1 := below_step (by repeat (first | (with_reducible first | exact Below.refl _ _ | apply below_alloc | apply pw_below_drewN | apply below_drew1) | exact Below.refl _ _)) hb; have n_BW := Aside0.mk (BW.out.below hbx); have n_HB := Aside0.mk (below_step HB.out hbx); clear HB BW; have BW := n_BW; have HB := n_HB; clear hbx n_BW n_HB; clear hb))
        go_roundg k1
        case measure => omega
        case rel =>
          refine ⟨j + 1, by go_num, ⟨by have := hj.out; omega⟩, ⟨fun i hi hl => ?_⟩, ⟨BW.out.out⟩⟩
          by_cases e : i = j
          · subst e; exact hr.out
          · exact HN.out i (by omega) hl
set_option maxHeartbeats 1000000 in
theorem idxfI {k : Nat} {lb : Array Value} {q : Int → Bool} (eg : ∀ args w, (callFunc k args).run Try.prog w = .ok (.enter k args) w) {w : World} {A : Option Addr} {c : Nat} {zs : List Int} (h : Rw (Kd.int .i64) w A c zs) (hn : zs.length ≤ 1000000) (hp : PredV k lb (Value.int .i64) q (fun x => x ∈ zs) w) :
    Calls Try.prog 60 #[.slice A zs.length c, .func (.func k) #[] lb] w fun e w' => e = .returned (.int .i64 (idxF q zs)) ∧ Below w.heap.size w w' := by
  have R := Aside0.mk h
  have PQ := Aside0.mk hp
  clear h hp
  go_enter Try.func60, Try.ntmps60
  go_wp2
  go_loopg [8] zs.length (fun kq v8 wr => ∃ j : Nat, v8 = .int .i64 j ∧ Aside0 (j + kq = zs.length) ∧ Aside0 (∀ i (hi : i < j) (hl : i < zs.length), q zs[i] = false) ∧ Aside0 (Below w.heap.size w wr))
  case atStart => exact ⟨0, rfl, ⟨by omega⟩, ⟨fun i hi => by omega⟩, ⟨Below.refl _ _⟩⟩
  case round =>
    obtain ⟨j, rfl, hj, HN, HW⟩ := hrel
    cases gk with
    | zero =>
      have e0 : j = zs.length := by have := hj.out; omega
      have q0 : decide (j < zs.length) = false := decide_eq_false (by omega)
      have q1 : decide ((j : Int) < (zs.length : Int)) = false := decide_eq_false (by omega)
      have NE := Aside0.mk e0
      clear e0 hj
      go_wp2
      go_ret
      refine ⟨?_, HW.out⟩
      rw [idxF_miss (fun i hi => HN.out i (by rw [NE.out]; exact hi) hi)]
      rfl
    | succ k1 =>
      have hjl : j < zs.length := by have := hj.out; omega
      have q0 : decide (j < zs.length) = true := decide_eq_true (by omega)
      have q1 : decide ((j : Int) < (zs.length : Int)) = true := decide_eq_true (by omega)
      obtain ⟨ad, rfl, x0⟩ := at_int0 (R.out.below HW.out).row (j : Int) (by omega) (by omega)
      rw [Int.toNat_natCast, show rd zs (j : Int) = zs[j] by simp [rd, List.getD_eq_getElem?_getD, List.getElem?_eq_getElem hjl]] at x0
      obtain ⟨r, hr⟩ : ∃ r, Aside0 (q zs[j] = r) := ⟨_, ⟨rfl⟩⟩
      have HB := Aside0.mk (Below.refl wr.heap.size wr)
      have BW := Aside0.mk (Bw0.mk HW.out)
      clear HW
      cases r with
      | true =>
        skip
        go_wp2_with ((go_at_fn k; (with_reducible refine (PQ.out.at zs[j] (List.getElem_mem hjl) (below_step BW.out.out (by repeat (first | (with_reducible first | exact Below.refl _ _ | apply below_alloc | apply pw_below_drewN | apply below_drew1) | exact Below.refl _ _))) hr.out).mono ?_); rintro e w1 ⟨rfl, hb⟩; have hbx : Below wr.heap.size wr w1 := below_step (by repeat (first | (with_reducible first | exact Below.refl _ _ | apply below_alloc | apply pw_below_drewN | apply below_drew1) | exact Below.refl _ _)) hb; have n_BW := Aside0.mk (BW.out.below hbx); have n_HB := Aside0.mk (below_step HB.out hbx); clear HB BW; have BW := n_BW; have HB := n_HB; clear hbx n_BW n_HB; clear hb))
        go_ret
        refine ⟨?_, BW.out.out⟩
        rw [idxF_hit hjl hr.out (fun i hi => HN.out i hi (by omega))]
        rfl
        skip
      | false =>
        go_wp2_with ((go_at_fn k; (with_reducible refine (PQ.out.at zs[j] (List.getElem_mem hjl) (below_step BW.out.out (by repeat (first | (with_reducible first | exact Below.refl _ _ | apply below_alloc | apply pw_below_drewN | apply below_drew1) | exact Below.refl _ _))) hr.out).mono ?_); rintro e w1 ⟨rfl, hb⟩; have hbx : Below wr.heap.size wr w1 := below_step (by repeat (first | (with_reducible first | exact Below.refl _ _ | apply below_alloc | apply pw_below_drewN | apply below_drew1) | exact Below.refl _ _)) hb; have n_BW := Aside0.mk (BW.out.below hbx); have n_HB := Aside0.mk (below_step HB.out hbx); clear HB BW; have BW := n_BW; have HB := n_HB; clear hbx n_BW n_HB; clear hb))
        go_roundg k1
        case measure => omega
        case rel =>
          refine ⟨j + 1, by go_num, ⟨by have := hj.out; omega⟩, ⟨fun i hi hl => ?_⟩, ⟨BW.out.out⟩⟩
          by_cases e : i = j
          · subst e; exact hr.out
          · exact HN.out i (by omega) hl
theorem idxfI' {k : Nat} {lb : Array Value} {q : Int → Bool} (eg : ∀ args w, (callFunc k args).run Try.prog w = .ok (.enter k args) w) {w : World} {A : Option Addr} {c : Nat} {zs : List Int} (h : Rw (Kd.int .i64) w A c zs) (hn : zs.length ≤ 1000000) (hp : PredV k lb (Value.int .i64) q (fun x => x ∈ zs) w) {r : Int} (hr : idxF q zs = r) :
    Calls Try.prog 60 #[.slice A zs.length c, .func (.func k) #[] lb] w fun e w' => e = .returned (.int .i64 r) ∧ Below w.heap.size w w' := by subst hr; exact idxfI eg h hn hp
theorem idxfS' {k : Nat} {lb : Array Value} {q : ByteArray → Bool} (eg : ∀ args w, (callFunc k args).run Try.prog w = .ok (.enter k args) w) {w : World} {A : Option Addr} {c : Nat} {zs : List ByteArray} (h : Rw Kd.string w A c zs) (hn : zs.length ≤ 1000000) (hp : PredV k lb Value.string q (fun x => x ∈ zs) w) {r : Int} (hr : idxF q zs = r) :
    Calls Try.prog 46 #[.slice A zs.length c, .func (.func k) #[] lb] w fun e w' => e = .returned (.int .i64 r) ∧ Below w.heap.size w w' := by subst hr; exact idxfS eg h hn hp
set_option maxHeartbeats 1000000 in
theorem contfI {k : Nat} {lb : Array Value} {q : Int → Bool} (eg : ∀ args w, (callFunc k args).run Try.prog w = .ok (.enter k args) w) {w : World} {A : Option Addr} {c : Nat} {zs : List Int} (h : Rw (Kd.int .i64) w A c zs) (hn : zs.length ≤ 1000000) (hp : PredV k lb (Value.int .i64) q (fun x => x ∈ zs) w) :
    Calls Try.prog 48 #[.slice A zs.length c, .func (.func k) #[] lb] w fun e w' => e = .returned (.bool (zs.any q)) ∧ Below w.heap.size w w' := by
  obtain ⟨r, hr⟩ : ∃ r, idxF q zs = r := ⟨_, rfl⟩
  have h2 := Aside0.mk (idxF_any q zs)
  rw [hr] at h2
  have HR := Aside0.mk hr
  have R := Aside0.mk h
  have PQ := Aside0.mk hp
  clear h hp hr
  go_enter Try.func48, Try.ntmps48
  go_wp2_with (go_at_call 60; refine (idxfI' eg R.out hn PQ.out HR.out).mono ?_; rintro e w' ⟨rfl, hb⟩)
  go_ret
  exact ⟨by rw [← h2.out]; rfl, hb⟩
theorem contfI' {k : Nat} {lb : Array Value} {q : Int → Bool} (eg : ∀ args w, (callFunc k args).run Try.prog w = .ok (.enter k args) w) {w : World} {A : Option Addr} {c : Nat} {zs : List Int} (h : Rw (Kd.int .i64) w A c zs) (hn : zs.length ≤ 1000000) (hp : PredV k lb (Value.int .i64) q (fun x => x ∈ zs) w) {r : Bool} (hr : zs.any q = r) :
    Calls Try.prog 48 #[.slice A zs.length c, .func (.func k) #[] lb] w fun e w' => e = .returned (.bool r) ∧ Below w.heap.size w w' := by subst hr; exact contfI eg h hn hp
end Go.Proofs.Ytmacdknicgfglaa.Gw
end
section
/- slices.Delete at []string, by the shelf's contract, on a row of one's own. -/
namespace Go.Proofs.Ytmacdknicgfglaa.Sh
open Go.RowKit Go.Shelf Go.Sort Go.Proofs.YtmacdknicgfglaaW.PrintWords Go.Proofs.YtmacdknicgfglaaW.PrintMore Go.Proofs.YtmacdknicgfglaaW.PrintLast Go.Proofs.Ytmacdknicgfglaa.Chg Go.Proofs.Ytmacdknicgfglaa.Evt
set_option linter.unusedVariables false
set_option linter.unusedSimpArgs false
def renD : Go.Shelf.Ren := ⟨fun | 24 => 50 | n => n, fun | 0 => 0 | 3 => 3 | 4 => 4 | 9 => 9 | 24 => 29 | n => n, fun n => n⟩
theorem laysD : Go.Proofs.Lays2.n24 Try.prog renD := {
  mixed := by kernel_rfl
  f24 := Try.func50.trans (congrArg some (by kernel_rfl))
  t0 := Try.underlying0
  a0 := Try.isAgg0
  z0 := Try.sizeOf0
  v0 := Try.zeroValue0
  t3 := Try.underlying3
  a3 := Try.isAgg3
  z3 := Try.sizeOf3
  v3 := Try.zeroValue3
  t4 := Try.underlying4
  a4 := Try.isAgg4
  z4 := Try.sizeOf4
  v4 := Try.zeroValue4
  t9 := Try.underlying9
  a9 := Try.isAgg9
  z9 := Try.sizeOf9
  v9 := Try.zeroValue9
  t24 := Try.underlying29
  a24 := Try.isAgg29
  z24 := Try.sizeOf29
  v24 := Try.zeroValue29
  i9 := by kernel_rfl }
section
variable {α : Type} [Inhabited α] {enc : α → Value} {W : World} {base g cap n : Nat} {e : TypeId}
theorem own_holds {xs : List α} (h : W.ownsRow base e 1 (.slice (some ⟨g, 0, none⟩) n cap) n (encs enc xs)) (hn : n = xs.length) : Holds enc W g 0 xs.toArray := by
  obtain ⟨hl, hc | ⟨g', cap', cur, hv, hb, hh, hnc, hm, hs, ht⟩⟩ := h
  · exact absurd hc.1 (by simp)
  · injection hv with hv h2 h3
    injection hv with hv
    injection hv with hv
    subst hv; subst h3
    intro j hj
    simp only [List.size_toArray] at hj
    have hjc : j < cur.size := by omega
    have e1 : cur[j]? = some (enc xs[j]) := by
      have h5 : (cur.toList.take (n * 1))[j]? = (encs enc xs)[j]? := by rw [ht]
      rw [List.getElem?_take, if_pos (by omega), Array.getElem?_toList] at h5
      rw [h5]
      simp [encs, List.getElem?_eq_getElem hj]
    constructor
    · simp [World.cell?, hh, e1, List.getElem?_eq_getElem hj]
    · simp [World.frozen?, hh]
theorem putRow_own {xs : List Value} (h : W.ownsRow base e 1 (.slice (some ⟨g, 0, none⟩) n cap) n xs) (d : List α) (hd : d.length = n) (q : Nat) : (putRow enc (Sort.ahead W q) g 0 d.toArray).ownsRow base e 1 (.slice (some ⟨g, 0, none⟩) n cap) n (encs enc d) := by
  obtain ⟨hl, hc | ⟨g', cap', cur, hv, hb, hh, hnc, hm, hs, ht⟩⟩ := h
  · exact absurd hc.1 (by simp)
  · injection hv with hv h2 h3
    injection hv with hv
    injection hv with hv
    subst hv; subst h3
    refine ⟨by rw [encs_length, hd]; omega, .inr ⟨g, cap, putCells enc 0 d.toArray cur, rfl, hb, ?_, hnc, hm, by simp [putCells, hs], ?_⟩⟩
    · show (W.heap.modify g (onCells (putCells enc 0 d.toArray)))[g]? = _
      rw [Array.getElem?_modify, if_pos rfl, hh]
      rfl
    · apply List.ext_getElem?
      intro j
      rw [List.getElem?_take]
      by_cases hj : j < n * 1
      · rw [if_pos hj, Array.getElem?_toList]
        have hjc : j < cur.size := by omega
        have hjd : j < d.length := by omega
        simp [putCells, Array.getElem?_mapIdx, Array.getElem?_eq_getElem hjc, encs, List.getElem?_eq_getElem hjd, hjd]
      · rw [if_neg hj]
        simp [encs]
        rw [List.getElem?_eq_none (by omega)]
        rfl
theorem putRow_grown (d : Array α) (q off : Nat) : W.grownBy (putRow enc (Sort.ahead W q) g off d) (some g) := by
  refine ⟨rfl, rfl, rfl, by simp [Sort.ahead], fun k hk hne => ?_⟩
  show (W.heap.modify g _)[k]? = _
  rw [Array.getElem?_modify, if_neg (fun e => hne (by rw [e]))]
end
theorem enc_str (x : ByteArray) : encStr x.data.toList = .string x := by simp [encStr]
theorem encs_str (l : List ByteArray) : encs encStr (l.map fun x => x.data.toList) = encs Value.string l := by simp [encs, Function.comp_def, enc_str]
theorem delete_any {w0 W : World} {v : Value} {xs : List ByteArray} (h : Ro Kd.string 9 w0 W v xs) (k : Nat) (hk : k < xs.length) (hm : xs.length ≤ 1000000) :
    Calls Try.prog 50 #[v, .int .i64 k, .int .i64 (k + 1)] W fun e W' => ∃ v', e = .returned v' ∧ Ro Kd.string 9 w0 W' v' (xs.eraseIdx k) ∧ W.grownBy W' v.ownBlock ∧ v'.ownBlock = v.ownBlock := by
  have ho := Kd.own_of_R h.row
  obtain ⟨hl, hc | ⟨g, cap, cur, rfl, hb, hh, hnc, hm2, hs, ht⟩⟩ := id ho
  · have := hc.2; omega
  · rw [← encs_str] at ho
    have hH := own_holds (xs := xs.map fun x => x.data.toList) ho (by simp)
    have hc := Any.slices_Delete_string laysD g 0 cap k (k + 1) (xs.map fun x => x.data.toList) W hH (by simpa using hnc) hm2 (by omega) (by rw [List.length_map]; omega)
    rw [List.length_map] at hc
    refine hc.mono ?_
    rintro e W' ⟨rfl, q, rfl⟩
    refine ⟨_, rfl, ⟨Kd.R_of_own ?_ (fun _ _ => trivial)⟩, putRow_grown _ _ _, rfl⟩
    have h2 := putRow_own (enc := encStr) ho ((xs.map fun x => x.data.toList).take k ++ (xs.map fun x => x.data.toList).drop (k + 1) ++ List.replicate (k + 1 - k) []) (by simp; omega) q
    have h3 := own_take h2 (m := xs.length - (k + 1 - k)) (by omega)
    have e1 : (xs.eraseIdx k).length = xs.length - (k + 1 - k) := by rw [List.length_eraseIdx_of_lt hk]; omega
    rw [e1]
    have e2 : (encs encStr ((xs.map fun x => x.data.toList).take k ++ (xs.map fun x => x.data.toList).drop (k + 1) ++ List.replicate (k + 1 - k) [])).take ((xs.length - (k + 1 - k)) * 1) = encs Value.string (xs.eraseIdx k) := by
      rw [← encs_str, List.eraseIdx_eq_take_drop_succ]
      simp only [encs, ← List.map_take]
      congr 1
      rw [List.map_append, List.map_take, List.map_drop]
      rw [List.take_left' (by simp; omega)]
    rw [e2] at h3
    exact h3
end Go.Proofs.Ytmacdknicgfglaa.Sh
end
section
/- The order of TopoSort as a plain function. -/
namespace Go.Proofs.Ytmacdknicgfglaa.Gp
set_option linter.unusedVariables false
/-- Where a contact comes from, by its number. -/
def fromE (l : List Ed) (i : Int) : ByteArray := (l.getD i.toNat zE).1
def toE (l : List Ed) (i : Int) : ByteArray := (l.getD i.toNat zE).2
/-- All from which a contact leads to s are told. -/
def readyG (l : List Ed) (told : List ByteArray) (s : ByteArray) : Bool := !((inL l s).any fun i => !decide (fromE l i ∈ told))
def topoG (l : List Ed) : Nat → List ByteArray → List ByteArray → Option (List ByteArray)
  | 0, _, out => some out
  | k + 1, left, out => match left.findIdx? (readyG l out) with
    | none => none
    | some i => topoG l k (left.eraseIdx i) (out ++ [left.getD i ⟨#[]⟩])
def topo (l : List Ed) : Option (List ByteArray) := topoG l (nodesL l).length (nodesL l) []
/-- TopoSort's second result. -/
def errT (o : Option (List ByteArray)) : Int := if o.isNone then 12 else 0
end Go.Proofs.Ytmacdknicgfglaa.Gp
end
section
/- graph.TopoSort, walked. -/
namespace Go.Proofs.Ytmacdknicgfglaa.Gw
open Go.RowKit Go.Shelf Go.Proofs.YtmacdknicgfglaaW.PrintWords Go.Proofs.YtmacdknicgfglaaW.PrintMore Go.Proofs.YtmacdknicgfglaaW.PrintLast Go.Proofs.Ytmacdknicgfglaa.Chg Go.Proofs.Ytmacdknicgfglaa.Evt Go.Proofs.Ytmacdknicgfglaa.Impl Go.Proofs.Ytmacdknicgfglaa.Gp Go.Proofs.Ytmacdknicgfglaa.Mp
set_option linter.unusedVariables false
set_option linter.unusedSimpArgs false
set_option maxRecDepth 100000
theorem PredV.mono {α : Type} {k : Nat} {lb : Array Value} {enc : α → Value} {q : α → Bool} {S S' : α → Prop} {w : World} (h : PredV k lb enc q S w) (hS : ∀ x, S' x → S x) : PredV k lb enc q S' w := ⟨fun W x hx hb => h.out W x (hS x hx) hb⟩
theorem Ro.slice {α : Type} {enc : α → Value} {h1 : ∀ x, (enc x).oneCell' = true} {e : TypeId} {w0 w : World} {v : Value} {xs : List α} (h : Ro (Kd.scalar enc h1) e w0 w v xs) : ∃ A c, v = .slice A xs.length c ∧ Aside0 (Rw (Kd.scalar enc h1) w A c xs) := by
  obtain ⟨A, c, rfl⟩ := Kd.R_slice h.row
  exact ⟨A, c, rfl, ⟨Rw.of_R h.row⟩⟩
theorem Ro.sliceI {e : TypeId} {w0 w : World} {v : Value} {xs : List Int} (h : Ro (Kd.int .i64) e w0 w v xs) : ∃ A c, v = .slice A xs.length c ∧ Aside0 (Rw (Kd.int .i64) w A c xs) := Ro.slice (enc := Value.int .i64) (h1 := fun _ => rfl) h
theorem Ro.sliceS {e : TypeId} {w0 w : World} {v : Value} {xs : List ByteArray} (h : Ro Kd.string e w0 w v xs) : ∃ A c, v = .slice A xs.length c ∧ Aside0 (Rw Kd.string w A c xs) := Ro.slice (enc := Value.string) (h1 := fun _ => rfl) h
section
variable {w w' : World} {A1 A2 : Option Addr} {c1 c2 b n gr gt : Nat} {l1 : List S41} {l2 : List S101} {a0 a3 : ByteArray} {p : ByteArray → Bool}
theorem Rg.c3 {ad : Addr} (h : Rg w (some ad) c1 l1 A2 c2 l2) {j : Nat} (hj : j < l1.length) : w.cell? ⟨(ad.add (j * 5)).block, (ad.add (j * 5)).off + 3, none⟩ = some (.string l1[j].f2) := by
  obtain ⟨ad', e, h0, h1, h2, h3, h4⟩ := h.at hj
  injection e with e
  subst e
  exact h3
theorem Rg.c4 {ad : Addr} (h : Rg w (some ad) c1 l1 A2 c2 l2) {j : Nat} (hj : j < l1.length) : w.cell? ⟨(ad.add (j * 5)).block, (ad.add (j * 5)).off + 4, none⟩ = some (.string l1[j].f3) := by
  obtain ⟨ad', e, h0, h1, h2, h3, h4⟩ := h.at hj
  injection e with e
  subst e
  exact h4
/-- The rung in block gr, a map of what is told behind block gt. -/
structure Tv (w : World) (gr gt b n : Nat) (p : ByteArray → Bool) (a0 : ByteArray) (A1 : Option Addr) (c1 : Nat) (l1 : List S41) (A2 : Option Addr) (c2 : Nat) (l2 : List S101) (a3 : ByteArray) : Prop where
  br : Bk w gr 25 #[.string a0, .slice A1 l1.length c1, .slice A2 l2.length c2, .string a3]
  bt : Bk w gt 65 #[.map (some b)]
  m : MB w b n p
  rg : Rg w A1 c1 l1 A2 c2 l2
theorem Tv.below (h : Tv w gr gt b n p a0 A1 c1 l1 A2 c2 l2 a3) (hb : Below w.heap.size w w') : Tv w' gr gt b n p a0 A1 c1 l1 A2 c2 l2 a3 := ⟨h.br.below hb, h.bt.below hb, h.m.below hb, h.rg.below hb⟩
theorem from_at {j : Nat} (hj : j < l1.length) : fromE (es l1) (j : Int) = l1[j].f2 := by
  unfold fromE
  rw [Int.toNat_natCast, List.getD_eq_getElem?_getD, List.getElem?_eq_getElem (by rw [es_len]; exact hj), Option.getD_some, es_get hj]
theorem to_at {j : Nat} (hj : j < l1.length) : toE (es l1) (j : Int) = l1[j].f3 := by
  unfold toE
  rw [Int.toNat_natCast, List.getD_eq_getElem?_getD, List.getElem?_eq_getElem (by rw [es_len]; exact hj), Option.getD_some, es_get hj]
set_option maxHeartbeats 1000000 in
theorem t11_any (h : Tv w gr gt b n p a0 A1 c1 l1 A2 c2 l2 a3) (hok : okG (es l1) = true) : PredV 49 #[.pointer (some ⟨gt, 0, none⟩), .pointer (some ⟨gr, 0, none⟩)] (Value.int .i64) (fun i => !p (fromE (es l1) i)) (fun i => ∃ j : Nat, i = j ∧ j < l1.length) w := by
  refine ⟨fun W x hx hB => ?_⟩
  obtain ⟨j, rfl, hjl⟩ := hx
  have T := Aside0.mk (h.below hB)
  have S2 := Aside0.mk (okG_f2 hok (c := (l1[j].f2, l1[j].f3)) (by rw [← es_get hjl]; exact List.getElem_mem _))
  have q1 : decide ((j : Int) < (l1.length : Int)) = true := decide_eq_true (by omega)
  have q0 : decide (j < l1.length) = true := decide_eq_true (by omega)
  have FA := Aside0.mk (from_at hjl)
  obtain ⟨r, hr⟩ : ∃ r, Aside0 (p l1[j].f2 = r) := ⟨_, ⟨rfl⟩⟩
  obtain ⟨ad, rfl, x0, x1, x2, x3, x4⟩ := T.out.rg.at hjl
  clear hB h x0 x1 x2 x3 x4
  have HB := Aside0.mk (Below.refl W.heap.size W)
  have KR : Aside0 (Bk W gr 25 #[.string a0, .slice (some ad) l1.length c1, .slice A2 l2.length c2, .string a3]) := Aside0.mk (T.out.br)
  have KT : Aside0 (Bk W gt 65 #[.map (some b)]) := Aside0.mk (T.out.bt)
  have TV := Aside0.mk (T.out)
  have MT := Aside0.mk (T.out.m)
  clear T
  have zKR_0 : W.cell? ⟨gr, 0, none⟩ = some (.string a0) := (blk_cell KR.out.blk 0).trans rfl
  have zKR_1 : W.cell? ⟨gr, 1, none⟩ = some (.slice (some ad) l1.length c1) := (blk_cell KR.out.blk 1).trans rfl
  have zKR_2 : W.cell? ⟨gr, 2, none⟩ = some (.slice A2 l2.length c2) := (blk_cell KR.out.blk 2).trans rfl
  have zKR_3 : W.cell? ⟨gr, 3, none⟩ = some (.string a3) := (blk_cell KR.out.blk 3).trans rfl
  have zKT_0 : W.cell? ⟨gt, 0, none⟩ = some (.map (some b)) := (blk_cell KT.out.blk 0).trans rfl
  show Calls Try.prog 49 #[.int .i64 j, .pointer (some ⟨gt, 0, none⟩), .pointer (some ⟨gr, 0, none⟩)] W _
  go_enter Try.func49, Try.ntmps49
  go_wp2
  have KP : Aside0 (∀ w', Below W.heap.size W w' → (w'.cell? ⟨gr, 0, none⟩ = some (.string a0) ∧ w'.cell? ⟨gr, 1, none⟩ = some (.slice (some ad) l1.length c1) ∧ w'.cell? ⟨gr, 2, none⟩ = some (.slice A2 l2.length c2) ∧ w'.cell? ⟨gr, 3, none⟩ = some (.string a3) ∧ w'.cell? ⟨gt, 0, none⟩ = some (.map (some b)))) := Aside0.mk (fun w' hb => ⟨(blk_cell (KR.out.below hb).blk 0).trans rfl, (blk_cell (KR.out.below hb).blk 1).trans rfl, (blk_cell (KR.out.below hb).blk 2).trans rfl, (blk_cell (KR.out.below hb).blk 3).trans rfl, (blk_cell (KT.out.below hb).blk 0).trans rfl⟩)
  clear zKR_0 zKR_1 zKR_2 zKR_3 zKT_0
  refine Evt.ol_start (ds := []) (w0 := W) (T := (true, [([], []), ([], []), ([1], [1]), ([], []), ([2, 3], [2, 3]), ([4], [4]), ([5], [5]), ([0, 6], [0, 6]), ([7], [7]), ([8, 0, 1, 2, 3, 4, 5, 6, 7, 8], [8])])) (B := [0, 0, 2, 0, 14, 30, 62, 127, 255, 511]) 10 [(1, some 6), (3, some 8), (0, some 5), (2, some 7), (4, some 9), (5, some 10), (6, some 11), (7, some 12), (8, some 13), (9, some 4)] (by kernel_rfl) rfl (by kernel_rfl) (by kernel_rfl) (by kernel_rfl) (by repeat (first | (with_reducible first | exact Below.refl _ _ | apply below_alloc | apply pw_below_drewN | apply below_drew1) | exact Below.refl _ _)) ?_
  intro HT_ HW_ w_ hHeld
  iterate 7 (first | (refine Evt.ol_off (a' := ?_) HT_ rfl rfl (by rfl) (by kernel_rfl) (fun _ _ _ h => h) ?_ ?_; rotate_left; (· (try simp only [Act.put, List.setIfInBounds_toArray, List.set_cons_zero, List.set_cons_succ, i64_w, i32_w]); rfl)) | (refine Evt.ol_pure (a' := ?_) (v := ?_) HT_ rfl rfl rfl (by rfl) (by kernel_rfl) (fun _ _ _ h => h) ?_ ?_ ?_; rotate_left 2; (· intro w'; go_simp; with_reducible rfl); (· (try simp only [Act.put, List.setIfInBounds_toArray, List.set_cons_zero, List.set_cons_succ, i64_w, i32_w]); rfl)) | (refine Evt.ol_load (a' := ?_) (v := ?_) HT_ HW_ hHeld rfl rfl rfl (by rfl) (by kernel_rfl) (fun _ _ _ h => h) ?_ ?_ ?_; rotate_left 2; (· intro w' hS_; obtain ⟨s0, s1, s2, s3, s4⟩ := KP.out w' hS_.out; have y3 := (TV.out.rg.below hS_.out).c3 hjl; go_simp; with_reducible rfl); (· (try simp only [Act.put, List.setIfInBounds_toArray, List.set_cons_zero, List.set_cons_succ, i64_w, i32_w]); rfl)))
  refine Evt.ol_lookB (a' := ?a1_) HT_ HW_ hHeld rfl rfl rfl (by rfl) (by kernel_rfl) (fun _ _ _ _ h => h) (s := l1[j].f2) (v := r) (fun w_' hS_ => MT.out.below hS_.out) (by have := S2.out; unfold maxLen; omega) hr.out rfl rfl ?ha1_ ?h1_
  case ha1_ => (simp only [Act.put, List.setIfInBounds_toArray, List.set_cons_zero, List.set_cons_succ, i64_w, i32_w]; rfl)
  iterate 2 (first | (refine Evt.ol_off (a' := ?_) HT_ rfl rfl (by rfl) (by kernel_rfl) (fun _ _ _ h => h) ?_ ?_; rotate_left; (· (try simp only [Act.put, List.setIfInBounds_toArray, List.set_cons_zero, List.set_cons_succ, i64_w, i32_w]); rfl)) | (refine Evt.ol_pure (a' := ?_) (v := ?_) HT_ rfl rfl rfl (by rfl) (by kernel_rfl) (fun _ _ _ h => h) ?_ ?_ ?_; rotate_left 2; (· intro w'; go_simp; with_reducible rfl); (· (try simp only [Act.put, List.setIfInBounds_toArray, List.set_cons_zero, List.set_cons_succ, i64_w, i32_w]); rfl)) | (refine Evt.ol_load (a' := ?_) (v := ?_) HT_ HW_ hHeld rfl rfl rfl (by rfl) (by kernel_rfl) (fun _ _ _ h => h) ?_ ?_ ?_; rotate_left 2; (· intro w' hS_; obtain ⟨s0, s1, s2, s3, s4⟩ := KP.out w' hS_.out; have y3 := (TV.out.rg.below hS_.out).c3 hjl; go_simp; with_reducible rfl); (· (try simp only [Act.put, List.setIfInBounds_toArray, List.set_cons_zero, List.set_cons_succ, i64_w, i32_w]); rfl)))
  refine Evt.ol_done HT_ (by kernel_rfl) ?_
  refine Evt.gen_any (w0 := W) hHeld.out ?_
  intro w1 hbx
  clear hHeld HT_ HW_ KP
  have n_KR := Aside0.mk (KR.out.below hbx)
  have n_KT := Aside0.mk (KT.out.below hbx)
  have n_TV := Aside0.mk (TV.out.below hbx)
  have n_MT := Aside0.mk (MT.out.below hbx)
  have n_HB := Aside0.mk (below_step HB.out hbx)
  clear HB KR KT TV MT
  have KR := n_KR
  have KT := n_KT
  have TV := n_TV
  have MT := n_MT
  have HB := n_HB
  clear hbx n_KR n_KT n_TV n_MT n_HB
  have zKR_0 : w1.cell? ⟨gr, 0, none⟩ = some (.string a0) := (blk_cell KR.out.blk 0).trans rfl
  have zKR_1 : w1.cell? ⟨gr, 1, none⟩ = some (.slice (some ad) l1.length c1) := (blk_cell KR.out.blk 1).trans rfl
  have zKR_2 : w1.cell? ⟨gr, 2, none⟩ = some (.slice A2 l2.length c2) := (blk_cell KR.out.blk 2).trans rfl
  have zKR_3 : w1.cell? ⟨gr, 3, none⟩ = some (.string a3) := (blk_cell KR.out.blk 3).trans rfl
  have zKT_0 : w1.cell? ⟨gt, 0, none⟩ = some (.map (some b)) := (blk_cell KT.out.blk 0).trans rfl
  go_wp2
  go_ret
  exact ⟨by rw [FA.out, hr.out]; rfl, HB.out⟩
theorem eg_t11 : ∀ args w, (callFunc 49 args).run Try.prog w = .ok (.enter 49 args) w := enters_of Try.func49 (by kernel_rfl) rfl
theorem eg_t1 : ∀ args w, (callFunc 47 args).run Try.prog w = .ok (.enter 47 args) w := enters_of Try.func47 (by kernel_rfl) rfl
theorem in_lt {s : ByteArray} {i : Int} (h : i ∈ inL (es l1) s) : ∃ j : Nat, i = j ∧ j < l1.length := by
  obtain ⟨j, rfl, hj, _⟩ := inL_mem.1 h
  exact ⟨j, rfl, by rw [es_len] at hj; exact hj⟩
set_option maxHeartbeats 1000000 in
theorem t1_any (h : Tv w gr gt b n p a0 A1 c1 l1 A2 c2 l2 a3) (hok : okG (es l1) = true) : PredV 47 #[.pointer (some ⟨gr, 0, none⟩), .pointer (some ⟨gt, 0, none⟩)] Value.string (fun s => !((inL (es l1) s).any fun i => !p (fromE (es l1) i))) (fun _ => True) w := by
  refine ⟨fun W s hx hB => ?_⟩
  have T := Aside0.mk (h.below hB)
  have OK := Aside0.mk hok
  have LN : l1.length ≤ 1000 := by have := okG_len hok; rw [es_len] at this; exact this
  have IL := Aside0.mk (idxs_len (fun c => decide (c.2 = s)) (es l1))
  have hmf : ∀ (fn : Fn) (first cap : Array Value) (w : World), (Instr.makeFunc fn first cap).run Try.prog w = .ok (.func fn first cap) w := fun _ _ _ _ => rfl
  obtain ⟨r, hr⟩ : ∃ r, Aside0 ((inL (es l1) s).any (fun i => !p (fromE (es l1) i)) = r) := ⟨_, ⟨rfl⟩⟩
  clear hB h hok hx
  have HB := Aside0.mk (Below.refl W.heap.size W)
  have KR : Aside0 (Bk W gr 25 #[.string a0, .slice A1 l1.length c1, .slice A2 l2.length c2, .string a3]) := Aside0.mk (T.out.br)
  have TV := Aside0.mk (T.out)
  clear T
  have zKR_0 : W.cell? ⟨gr, 0, none⟩ = some (.string a0) := (blk_cell KR.out.blk 0).trans rfl
  have zKR_1 : W.cell? ⟨gr, 1, none⟩ = some (.slice A1 l1.length c1) := (blk_cell KR.out.blk 1).trans rfl
  have zKR_2 : W.cell? ⟨gr, 2, none⟩ = some (.slice A2 l2.length c2) := (blk_cell KR.out.blk 2).trans rfl
  have zKR_3 : W.cell? ⟨gr, 3, none⟩ = some (.string a3) := (blk_cell KR.out.blk 3).trans rfl
  show Calls Try.prog 47 #[.string s, .pointer (some ⟨gr, 0, none⟩), .pointer (some ⟨gt, 0, none⟩)] W _
  go_enter Try.func47, Try.ntmps47
  go_wp2_with (first | ((with_reducible refine gate_callee (f := 23) rfl ?_); refine goesL_ (some 7) rfl rfl Try.func23 (by kernel_rfl) rfl #[.agg #[.string a0, .slice A1 l1.length c1, .slice A2 l2.length c2, .string a3], .string s] rfl (by (try simp only [List.map_toArray, List.map_cons, List.map_nil]); first | done | rfl | (simp only [List.length_drop, List.length_take]; rfl)) ?_; (with_reducible refine (incoming_any _ (TV.out.below (by repeat (first | (with_reducible first | exact Below.refl _ _ | apply below_alloc | apply pw_below_drewN | apply below_drew1) | exact Below.refl _ _))).rg LN s).mono ?_); rintro e w1 ⟨v, rfl, ho, hb⟩; have hbx : Below W.heap.size W w1 := below_step (by repeat (first | (with_reducible first | exact Below.refl _ _ | apply below_alloc | apply pw_below_drewN | apply below_drew1) | exact Below.refl _ _)) hb; obtain ⟨A_, c_, rfl, hw_⟩ := Ro.sliceI ho; clear zKR_0 zKR_1 zKR_2 zKR_3; have n_KR := Aside0.mk (KR.out.below hbx); have n_TV := Aside0.mk (TV.out.below hbx); have n_HB := Aside0.mk (below_step HB.out hbx); clear HB KR TV; have KR := n_KR; have TV := n_TV; have HB := n_HB; clear hbx n_KR n_TV n_HB; have IW := Aside0.mk (hw_.out); clear hb; clear ho hw_; have zKR_0 : w1.cell? ⟨gr, 0, none⟩ = some (.string a0) := (blk_cell KR.out.blk 0).trans rfl; have zKR_1 : w1.cell? ⟨gr, 1, none⟩ = some (.slice A1 l1.length c1) := (blk_cell KR.out.blk 1).trans rfl; have zKR_2 : w1.cell? ⟨gr, 2, none⟩ = some (.slice A2 l2.length c2) := (blk_cell KR.out.blk 2).trans rfl; have zKR_3 : w1.cell? ⟨gr, 3, none⟩ = some (.string a3) := (blk_cell KR.out.blk 3).trans rfl; refine ⟨_, rfl, ?_⟩) | ((with_reducible refine gate_callee (f := 48) rfl ?_); refine goesL_ (some 9) rfl rfl Try.func48 (by kernel_rfl) rfl #[.slice A_ (inL (es l1) s).length c_, .func (.func 49) #[] #[.pointer (some ⟨gt, 0, none⟩), .pointer (some ⟨gr, 0, none⟩)]] rfl (by (try simp only [List.map_toArray, List.map_cons, List.map_nil]); first | done | rfl | (simp only [List.length_drop, List.length_take]; rfl)) ?_; (with_reducible refine (contfI' eg_t11 (IW.out.below (by repeat (first | (with_reducible first | exact Below.refl _ _ | apply below_alloc | apply pw_below_drewN | apply below_drew1) | exact Below.refl _ _))) (by have := IL.out; rw [es_len] at this; unfold inL; omega) ((t11_any (TV.out.below (by repeat (first | (with_reducible first | exact Below.refl _ _ | apply below_alloc | apply pw_below_drewN | apply below_drew1) | exact Below.refl _ _))) OK.out).mono (fun x hx => in_lt hx)) hr.out).mono ?_); rintro e w2 ⟨rfl, hb⟩; have hbx : Below w1.heap.size w1 w2 := below_step (by repeat (first | (with_reducible first | exact Below.refl _ _ | apply below_alloc | apply pw_below_drewN | apply below_drew1) | exact Below.refl _ _)) hb; clear zKR_0 zKR_1 zKR_2 zKR_3; have n_KR := Aside0.mk (KR.out.below hbx); have n_TV := Aside0.mk (TV.out.below hbx); have n_IW := Aside0.mk (IW.out.below hbx); have n_HB := Aside0.mk (below_step HB.out hbx); clear HB KR TV IW; have KR := n_KR; have TV := n_TV; have IW := n_IW; have HB := n_HB; clear hbx n_KR n_TV n_IW n_HB; clear hb; have zKR_0 : w2.cell? ⟨gr, 0, none⟩ = some (.string a0) := (blk_cell KR.out.blk 0).trans rfl; have zKR_1 : w2.cell? ⟨gr, 1, none⟩ = some (.slice A1 l1.length c1) := (blk_cell KR.out.blk 1).trans rfl; have zKR_2 : w2.cell? ⟨gr, 2, none⟩ = some (.slice A2 l2.length c2) := (blk_cell KR.out.blk 2).trans rfl; have zKR_3 : w2.cell? ⟨gr, 3, none⟩ = some (.string a3) := (blk_cell KR.out.blk 3).trans rfl; refine ⟨_, rfl, ?_⟩))
  go_ret
  exact ⟨by rw [hr.out]; rfl, HB.out⟩
/-- TopoSort's loop at hand: what is told (tl), what is left, what is put out. -/
structure Ts (w0 w : World) (gr gt b : Nat) (a0 : ByteArray) (A1 : Option Addr) (c1 : Nat) (l1 : List S41) (A2 : Option Addr) (c2 : Nat) (l2 : List S101) (a3 : ByteArray) (vl vs : Value) (tl left out : List ByteArray) : Prop where
  tv : Tv w gr gt b tl.length (fun s => decide (s ∈ tl)) a0 A1 c1 l1 A2 c2 l2 a3
  bel : Below w0.heap.size w0 w
  bge : w0.heap.size ≤ b
  rl : Ro Kd.string 9 w0 w vl left
  rs : Ro Kd.string 9 w0 w vs out
  ap : ∀ k, vs.ownBlock = some k → vl.ownBlock ≠ some k
  rg : Rg w0 A1 c1 l1 A2 c2 l2
section
variable {w0 w1 : World} {vl vs : Value} {tl left out : List ByteArray}
theorem Ts.below (h : Ts w0 w gr gt b a0 A1 c1 l1 A2 c2 l2 a3 vl vs tl left out) (hb : Below w.heap.size w w') : Ts w0 w' gr gt b a0 A1 c1 l1 A2 c2 l2 a3 vl vs tl left out := ⟨h.tv.below hb, below_step h.bel hb, h.bge, h.rl.below hb, h.rs.below hb, h.ap, h.rg⟩
theorem Ts.put (h : Ts w0 w gr gt b a0 A1 c1 l1 A2 c2 l2 a3 vl vs tl left out) {s : ByteArray} (hm : MB w1 b (tl.length + 1) (fun z => if z = s then true else decide (z ∈ tl))) (hg : w.grownBy w1 (some b)) : Ts w0 w1 gr gt b a0 A1 c1 l1 A2 c2 l2 a3 vl vs (tl ++ [s]) left out := by
  have hbel : Below w0.heap.size w0 w1 := h.bel.grown hg h.bel.size (fun k hk => by cases hk; exact h.bge)
  refine ⟨⟨h.tv.br.mput h.tv.m hg, h.tv.bt.mput h.tv.m hg, ?_, h.rg.below hbel⟩, hbel, h.bge, ⟨R_other h.rl.row hg (.inl (h.tv.m.row h.rl.row))⟩, ⟨R_other h.rs.row hg (.inl (h.tv.m.row h.rs.row))⟩, h.ap, h.rg⟩
  rw [List.length_append, List.length_singleton]
  refine hm.congr (fun z => ?_)
  by_cases e : z = s
  · subst e; simp
  · simp [e]
theorem Ts.app (h : Ts w0 w gr gt b a0 A1 c1 l1 A2 c2 l2 a3 vl vs tl left out) {v1 : Value} {s : ByteArray} (hr : Ro Kd.string 9 w0 w1 v1 (out ++ [s])) (hb : Below w0.heap.size w0 w1) (hg : w.grownBy w1 vs.ownBlock) (hat : v1.ownBlock = vs.ownBlock ∨ ∃ k, v1.ownBlock = some k ∧ w.heap.size ≤ k) : Ts w0 w1 gr gt b a0 A1 c1 l1 A2 c2 l2 a3 vl v1 tl left (out ++ [s]) := by
  refine ⟨⟨h.tv.br.grown hg (Kd.R_ne h.rs.row h.tv.br.blk (by decide)), h.tv.bt.grown hg (Kd.R_ne h.rs.row h.tv.bt.blk (by decide)), h.tv.m.grown hg (h.tv.m.row h.rs.row), h.rg.below hb⟩, hb, h.bge, ⟨R_other h.rl.row hg ?_⟩, hr, ?_, h.rg⟩
  · cases hv : vs.ownBlock with
    | none => exact .inr rfl
    | some k => exact .inl (Ne.symm (h.ap k hv))
  · intro k hk
    rcases hat with e | ⟨k', e, hk'⟩
    · exact h.ap k (e ▸ hk)
    · rw [e] at hk
      injection hk with hk
      subst hk
      intro e2
      have := Kd.R_lt h.rl.row _ e2
      omega
theorem Ts.del (h : Ts w0 w gr gt b a0 A1 c1 l1 A2 c2 l2 a3 vl vs tl left out) {v1 : Value} {left' : List ByteArray} (hr : Ro Kd.string 9 w0 w1 v1 left') (hg : w.grownBy w1 vl.ownBlock) (hat : v1.ownBlock = vl.ownBlock) : Ts w0 w1 gr gt b a0 A1 c1 l1 A2 c2 l2 a3 v1 vs tl left' out := by
  have hbel : Below w0.heap.size w0 w1 := h.bel.grown hg h.bel.size (fun k hk => by obtain ⟨i, ho⟩ := Kd.R_own h.rl.row; exact own_base ho k hk)
  refine ⟨⟨h.tv.br.grown hg (Kd.R_ne h.rl.row h.tv.br.blk (by decide)), h.tv.bt.grown hg (Kd.R_ne h.rl.row h.tv.bt.blk (by decide)), h.tv.m.grown hg (h.tv.m.row h.rl.row), h.rg.below hbel⟩, hbel, h.bge, hr, ⟨R_other h.rs.row hg ?_⟩, ?_, h.rg⟩
  · cases hv : vl.ownBlock with
    | none => exact .inr rfl
    | some k => exact .inl (fun e => h.ap k e.symm hv)
  · intro k hk
    rw [hat]
    exact h.ap k hk
/-- One of what is left, by its number. -/
theorem Ts.at (h : Ts w0 w gr gt b a0 A1 c1 l1 A2 c2 l2 a3 vl vs tl left out) {A : Option Addr} {c i : Nat} (hv : vl = .slice A left.length c) (hi : i < left.length) : ∃ ad, A = some ad ∧ w.cell? (ad.add i) = some (.string (left.getD i ⟨#[]⟩)) := by
  subst hv
  obtain ⟨ad, e, x0⟩ := Kd.at_string (Rw.of_R h.rl.row).row (i : Int) (by omega) (by omega)
  rw [Int.toNat_natCast, show rdOf ByteArray.empty left (i : Int) = left.getD i ⟨#[]⟩ by simp [rdOf]; rfl] at x0
  exact ⟨ad, e, x0⟩
theorem Ts.at2 {ad : Addr} {c i n : Nat} (h : Ts w0 w gr gt b a0 A1 c1 l1 A2 c2 l2 a3 (.slice (some ad) n c) vs tl left out) (hn : n = left.length) (hi : i < left.length) : w.cell? (ad.add i) = some (.string (left.getD i ⟨#[]⟩)) := by
  subst hn
  obtain ⟨ad', e, x⟩ := h.at rfl hi
  injection e with e
  subst e
  exact x
end
set_option maxHeartbeats 4000000 in
theorem topo_any (w : World) (h : Rg w A1 c1 l1 A2 c2 l2) (hok : okG (es l1) = true) :
    Calls Try.prog 25 #[.agg #[.string a0, .slice A1 l1.length c1, .slice A2 l2.length c2, .string a3]] w fun e w' => ∃ v, e = .returned (.tuple #[v, .int .i64 (errT (topo (es l1)))]) ∧ Ro Kd.string 9 w w' v ((topo (es l1)).getD []) ∧ Below w.heap.size w w' := by
  have hmf : ∀ (fn : Fn) (first cap : Array Value) (w : World), (Instr.makeFunc fn first cap).run Try.prog w = .ok (.func fn first cap) w := fun _ _ _ _ => rfl
  have HB := Aside0.mk (Below.refl w.heap.size w)
  have R := Aside0.mk (h)
  have R0 := Aside0.mk h
  have OK := Aside0.mk hok
  have LN : l1.length ≤ 1000 := by have := okG_len hok; rw [es_len] at this; exact this
  have NL := Aside0.mk (nodesL_len (es l1))
  rw [es_len] at NL
  clear h hok
  go_enter Try.func25, Try.ntmps25
  go_wp2_with (first | ((with_reducible refine gate_dst (N := 1) rfl ?_); refine box_event ?hg (N := 1) ?hd (cs := #[.string a0, .slice A1 l1.length c1, .slice A2 l2.length c2, .string a3]) (t := 25) ?hr ?_; (case hd => rfl); (case hg => rfl); (case hr => first | (go_simp; done) | (go_simp; rfl)); intro g1 hg w1 hbox hb; have hbx : Below w.heap.size w w1 := below_step (by repeat (first | (with_reducible first | exact Below.refl _ _ | apply below_alloc | apply pw_below_drewN | apply below_drew1) | exact Below.refl _ _)) hb; have n_R := Aside0.mk (R.out.below hbx); have n_HB := Aside0.mk (below_step HB.out hbx); clear HB R; have R := n_R; have HB := n_HB; clear hbx n_R n_HB; have BK1 := Aside0.mk (Bk.mk (hbox : Blk w1 g1 25 #[.string a0, .slice A1 l1.length c1, .slice A2 l2.length c2, .string a3])); clear hbox hg hb; have zBK1_0 : w1.cell? ⟨g1, 0, none⟩ = some (.string a0) := (blk_cell BK1.out.blk 0).trans rfl; have zBK1_1 : w1.cell? ⟨g1, 1, none⟩ = some (.slice A1 l1.length c1) := (blk_cell BK1.out.blk 1).trans rfl; have zBK1_2 : w1.cell? ⟨g1, 2, none⟩ = some (.slice A2 l2.length c2) := (blk_cell BK1.out.blk 2).trans rfl; have zBK1_3 : w1.cell? ⟨g1, 3, none⟩ = some (.string a3) := (blk_cell BK1.out.blk 3).trans rfl) | ((with_reducible refine gate_callee (f := 18) rfl ?_); refine goesL_ (some 9) rfl rfl Try.func18 (by kernel_rfl) rfl #[.agg #[.string a0, .slice A1 l1.length c1, .slice A2 l2.length c2, .string a3]] rfl (by (try simp only [List.map_toArray, List.map_cons, List.map_nil]); first | done | rfl | (simp only [List.length_drop, List.length_take]; rfl)) ?_; (with_reducible refine (nodes_any _ (R.out.below (by repeat (first | (with_reducible first | exact Below.refl _ _ | apply below_alloc | apply pw_below_drewN | apply below_drew1) | exact Below.refl _ _))) OK.out).mono ?_); rintro e w2 ⟨v, rfl, ho, hb⟩; have hbx : Below w1.heap.size w1 w2 := below_step (by repeat (first | (with_reducible first | exact Below.refl _ _ | apply below_alloc | apply pw_below_drewN | apply below_drew1) | exact Below.refl _ _)) hb; have ho_ := Ro.lower ho (below_size (below_step HB.out (by repeat (first | (with_reducible first | exact Below.refl _ _ | apply below_alloc | apply pw_below_drewN | apply below_drew1) | exact Below.refl _ _)))); clear zBK1_0 zBK1_1 zBK1_2 zBK1_3; have n_R := Aside0.mk (R.out.below hbx); have n_BK1 := Aside0.mk (BK1.out.below hbx); have n_HB := Aside0.mk (below_step HB.out hbx); clear HB R BK1; have R := n_R; have BK1 := n_BK1; have HB := n_HB; clear hbx n_R n_BK1 n_HB; have NV := Aside0.mk (ho_); clear hb; clear ho ho_; have zBK1_0 : w2.cell? ⟨g1, 0, none⟩ = some (.string a0) := (blk_cell BK1.out.blk 0).trans rfl; have zBK1_1 : w2.cell? ⟨g1, 1, none⟩ = some (.slice A1 l1.length c1) := (blk_cell BK1.out.blk 1).trans rfl; have zBK1_2 : w2.cell? ⟨g1, 2, none⟩ = some (.slice A2 l2.length c2) := (blk_cell BK1.out.blk 2).trans rfl; have zBK1_3 : w2.cell? ⟨g1, 3, none⟩ = some (.string a3) := (blk_cell BK1.out.blk 3).trans rfl; refine ⟨_, rfl, ?_⟩) | ((with_reducible refine gate_dst (N := 10) rfl ?_); refine Mp.mkB_ev rfl (N := 10) rfl rfl ?_; intro b10 hg w3 hmap hb; have hbx : Below w2.heap.size w2 w3 := below_step (by repeat (first | (with_reducible first | exact Below.refl _ _ | apply below_alloc | apply pw_below_drewN | apply below_drew1) | exact Below.refl _ _)) hb; have hge_ : w.heap.size ≤ b10 := (by rw [hg]; exact below_size (below_step HB.out (by repeat (first | (with_reducible first | exact Below.refl _ _ | apply below_alloc | apply pw_below_drewN | apply below_drew1) | exact Below.refl _ _)))); clear zBK1_0 zBK1_1 zBK1_2 zBK1_3; have n_R := Aside0.mk (R.out.below hbx); have n_BK1 := Aside0.mk (BK1.out.below hbx); have n_NV := Aside0.mk (NV.out.below hbx); have n_HB := Aside0.mk (below_step HB.out hbx); clear HB R BK1 NV; have R := n_R; have BK1 := n_BK1; have NV := n_NV; have HB := n_HB; clear hbx n_R n_BK1 n_NV n_HB; have M10 := Aside0.mk hmap; have GE10 := Aside0.mk hge_; clear hmap hg hb hge_; have zBK1_0 : w3.cell? ⟨g1, 0, none⟩ = some (.string a0) := (blk_cell BK1.out.blk 0).trans rfl; have zBK1_1 : w3.cell? ⟨g1, 1, none⟩ = some (.slice A1 l1.length c1) := (blk_cell BK1.out.blk 1).trans rfl; have zBK1_2 : w3.cell? ⟨g1, 2, none⟩ = some (.slice A2 l2.length c2) := (blk_cell BK1.out.blk 2).trans rfl; have zBK1_3 : w3.cell? ⟨g1, 3, none⟩ = some (.string a3) := (blk_cell BK1.out.blk 3).trans rfl) | ((with_reducible refine gate_dst (N := 5) rfl ?_); refine Evt.box1 ?hg2_ (N := 5) ?hd2_ (z := .map none) (v := .map (some b10)) (T := 65) ?hr2_ ?hg22_ ?hd22_ ?hr22_ ?_; (case hd2_ => rfl); (case hg2_ => rfl); (case hr2_ => first | (go_simp; done) | (go_simp; rfl)); (case hg22_ => rfl); (case hd22_ => rfl); (case hr22_ => first | (go_simp; done) | (go_simp; rfl)); intro g5 hg w4 hbox hb; have hbx : Below w3.heap.size w3 w4 := below_step (by repeat (first | (with_reducible first | exact Below.refl _ _ | apply below_alloc | apply pw_below_drewN | apply below_drew1) | exact Below.refl _ _)) hb; clear zBK1_0 zBK1_1 zBK1_2 zBK1_3; have n_R := Aside0.mk (R.out.below hbx); have n_BK1 := Aside0.mk (BK1.out.below hbx); have n_NV := Aside0.mk (NV.out.below hbx); have n_M10 := Aside0.mk (M10.out.below hbx); have n_HB := Aside0.mk (below_step HB.out hbx); clear HB R BK1 NV M10; have R := n_R; have BK1 := n_BK1; have NV := n_NV; have M10 := n_M10; have HB := n_HB; clear hbx n_R n_BK1 n_NV n_M10 n_HB; have BK5 := Aside0.mk (Bk.mk (hbox : Blk w4 g5 65 #[.map (some b10)])); clear hbox hg hb; have zBK1_0 : w4.cell? ⟨g1, 0, none⟩ = some (.string a0) := (blk_cell BK1.out.blk 0).trans rfl; have zBK1_1 : w4.cell? ⟨g1, 1, none⟩ = some (.slice A1 l1.length c1) := (blk_cell BK1.out.blk 1).trans rfl; have zBK1_2 : w4.cell? ⟨g1, 2, none⟩ = some (.slice A2 l2.length c2) := (blk_cell BK1.out.blk 2).trans rfl; have zBK1_3 : w4.cell? ⟨g1, 3, none⟩ = some (.string a3) := (blk_cell BK1.out.blk 3).trans rfl; have zBK5_0 : w4.cell? ⟨g5, 0, none⟩ = some (.map (some b10)) := (blk_cell BK5.out.blk 0).trans rfl))
  have TS : Aside0 (Ts w w4 g1 g5 b10 a0 A1 c1 l1 A2 c2 l2 a3 v (.slice none 0 0) [] (nodesL (es l1)) []) := Aside0.mk ⟨⟨BK1.out, BK5.out, M10.out.congr (fun z => by simp), R.out⟩, HB.out, GE10.out, NV.out, ⟨Kd.R_nil _ _ _ _ _⟩, (fun k hk => by cases hk), R0.out⟩
  clear R BK1 NV M10 BK5 zBK1_0 zBK1_1 zBK1_2 zBK1_3 zBK5_0 HB GE10 R0
  have T0 : Aside0 (topoG (es l1) (nodesL (es l1)).length (nodesL (es l1)) [] = topo (es l1)) := Aside0.mk rfl
  have SZ0 : Aside0 (∀ x ∈ nodesL (es l1), x.size ≤ 100000) := Aside0.mk (fun x hx => nodesL_size OK.out hx)
  go_loopg [4, 6] (nodesL (es l1)).length (fun kq v4 v6 wr => ∃ left out : List ByteArray, Aside0 (left.length = kq) ∧ Aside0 (out.length + kq ≤ 2002) ∧ Aside0 (topoG (es l1) kq left out = topo (es l1)) ∧ Aside0 (∀ x ∈ left, x.size ≤ 100000) ∧ Aside0 (Ts w wr g1 g5 b10 a0 A1 c1 l1 A2 c2 l2 a3 v4 v6 out left out))
  case atStart => exact ⟨_, [], ⟨rfl⟩, ⟨by have := NL.out; simp; omega⟩, T0, SZ0, TS⟩
  case round =>
    clear TS T0 SZ0
    obtain ⟨left, out, LL, OL, TT, SZ, TS⟩ := hrel
    obtain ⟨A, c, rfl, _⟩ := Ro.sliceS TS.out.rl
    cases gk with
    | zero =>
      have e0 : left.length = 0 := LL.out
      have q0 : decide (0 < left.length) = false := decide_eq_false (by omega)
      have q1 : decide ((0 : Int) < (left.length : Int)) = false := decide_eq_false (by omega)
      clear e0
      go_wp2
      go_ret2
      exact ⟨_, by rw [show topo (es l1) = some out from TT.out.symm]; rfl, by rw [show topo (es l1) = some out from TT.out.symm]; exact TS.out.rs, TS.out.bel⟩
    | succ k1 =>
      have q0 : decide (0 < left.length) = true := decide_eq_true (by have := LL.out; omega)
      have q1 : decide ((0 : Int) < (left.length : Int)) = true := decide_eq_true (by have := LL.out; omega)
      have LE : Aside0 (left.length ≤ 2002) := Aside0.mk (by have := LL.out; have := OL.out; omega)
      have PR : Aside0 (PredV 47 #[.pointer (some ⟨g1, 0, none⟩), .pointer (some ⟨g5, 0, none⟩)] Value.string (readyG (es l1) out) (fun x => x ∈ left) wr) := Aside0.mk ((t1_any TS.out.tv OK.out).mono (fun _ _ => trivial))
      have RL : Aside0 (Rw Kd.string wr A c left) := Aside0.mk (Rw.of_R TS.out.rl.row)
      cases hf : left.findIdx? (readyG (es l1) out) with
      | none =>
        have IX : Aside0 (idxF (readyG (es l1) out) left = -1) := Aside0.mk (by unfold idxF; rw [hf])
        have TN : Aside0 (topo (es l1) = none) := Aside0.mk (by rw [← TT.out]; unfold topoG; rw [hf])
        clear hf
        have HB := Aside0.mk (Below.refl wr.heap.size wr)
        have TL := Aside0.mk (TS.out)
        go_wp2_with (first | ((with_reducible refine gate_callee (f := 46) rfl ?_); refine goesL_ (some 16) rfl rfl Try.func46 (by kernel_rfl) rfl #[.slice A left.length c, .func (.func 47) #[] #[.pointer (some ⟨g1, 0, none⟩), .pointer (some ⟨g5, 0, none⟩)]] rfl (by (try simp only [List.map_toArray, List.map_cons, List.map_nil]); first | done | rfl | (simp only [List.length_drop, List.length_take]; rfl)) ?_; (with_reducible refine (idxfS' eg_t1 RL.out (by have := LE.out; omega) PR.out IX.out).mono ?_); rintro e w1 ⟨rfl, hb⟩; have hbx : Below wr.heap.size wr w1 := below_step (by repeat (first | (with_reducible first | exact Below.refl _ _ | apply below_alloc | apply pw_below_drewN | apply below_drew1) | exact Below.refl _ _)) hb; have n_TL := Aside0.mk (TL.out.below hbx); have n_HB := Aside0.mk (below_step HB.out hbx); clear HB TL; have TL := n_TL; have HB := n_HB; clear hbx n_TL n_HB; clear hb; refine ⟨_, rfl, ?_⟩))
        go_ret2
        exact ⟨_, by rw [TN.out]; rfl, by rw [TN.out]; exact ⟨Kd.R_nil _ _ _ _ _⟩, TL.out.bel⟩
      | some i =>
        have IX : Aside0 (idxF (readyG (es l1) out) left = (i : Int)) := Aside0.mk (by unfold idxF; rw [hf])
        have hil : i < left.length := by rw [List.findIdx?_eq_some_iff_getElem] at hf; exact hf.1
        have TN : Aside0 (topoG (es l1) k1 (left.eraseIdx i) (out ++ [left.getD i ⟨#[]⟩]) = topo (es l1)) := Aside0.mk (by rw [← TT.out, show topoG (es l1) (k1 + 1) left out = _ from rfl, topoG, hf])
        have SI : Aside0 ((left.getD i ⟨#[]⟩).size ≤ 100000) := Aside0.mk (SZ.out _ (by rw [List.getD_eq_getElem?_getD, List.getElem?_eq_getElem hil]; exact List.getElem_mem _))
        have p0 : decide ((i : Int) < 0) = false := decide_eq_false (by omega)
        have p1 : decide ((i : Int) < (left.length : Int)) = true := decide_eq_true (by omega)
        have p2 : decide (i < left.length) = true := decide_eq_true hil
        obtain ⟨ad, rfl, _⟩ := TS.out.at rfl hil
        obtain ⟨s, hsv⟩ : ∃ s, Aside0 (left.getD i ⟨#[]⟩ = s) := ⟨_, ⟨rfl⟩⟩
        rw [hsv.out] at TN SI
        clear hf
        have HB := Aside0.mk (Below.refl wr.heap.size wr)
        have TL := Aside0.mk (TS.out)
        have MT := Aside0.mk (TS.out.tv.m)
        clear TS
        go_wp2_with (first | ((with_reducible refine gate_callee (f := 46) rfl ?_); refine goesL_ (some 16) rfl rfl Try.func46 (by kernel_rfl) rfl #[.slice (some ad) left.length c, .func (.func 47) #[] #[.pointer (some ⟨g1, 0, none⟩), .pointer (some ⟨g5, 0, none⟩)]] rfl (by (try simp only [List.map_toArray, List.map_cons, List.map_nil]); first | done | rfl | (simp only [List.length_drop, List.length_take]; rfl)) ?_; (with_reducible refine (idxfS' eg_t1 RL.out (by have := LE.out; omega) PR.out IX.out).mono ?_); rintro e w1 ⟨rfl, hb⟩; have hbx : Below wr.heap.size wr w1 := below_step (by repeat (first | (with_reducible first | exact Below.refl _ _ | apply below_alloc | apply pw_below_drewN | apply below_drew1) | exact Below.refl _ _)) hb; have n_TL := Aside0.mk (TL.out.below hbx); have n_MT := Aside0.mk (MT.out.below hbx); have n_HB := Aside0.mk (below_step HB.out hbx); clear HB TL MT; have TL := n_TL; have MT := n_MT; have HB := n_HB; clear hbx n_TL n_MT n_HB; clear hb; refine ⟨_, rfl, ?_⟩))
        refine Evt.ol_start (ds := [5]) (w0 := w1) (T := (true, [([], []), ([], []), ([], []), ([1, 2], [1, 2]), ([3], [3]), ([0, 4, 0, 1, 2, 3, 4], [0, 4])])) (B := [0, 0, 0, 6, 14, 31]) 6 [(1, some 20), (2, some 21), (3, some 22), (0, some 19), (4, some 23), (5, none)] (by kernel_rfl) rfl (by kernel_rfl) (by kernel_rfl) (by kernel_rfl) (by repeat (first | (with_reducible first | exact Below.refl _ _ | apply below_alloc | apply pw_below_drewN | apply below_drew1) | exact Below.refl _ _)) ?_
        intro HT_ HW_ w_ hHeld
        iterate 5 (first | (refine Evt.ol_off (a' := ?_) HT_ rfl rfl (by rfl) (by kernel_rfl) (fun _ _ _ h => h) ?_ ?_; rotate_left; (· (try simp only [Act.put, List.setIfInBounds_toArray, List.set_cons_zero, List.set_cons_succ, i64_w, i32_w]); rfl)) | (refine Evt.ol_pure (a' := ?_) (v := ?_) HT_ rfl rfl rfl (by rfl) (by kernel_rfl) (fun _ _ _ h => h) ?_ ?_ ?_; rotate_left 2; (· intro w'; go_simp; with_reducible rfl); (· (try simp only [Act.put, List.setIfInBounds_toArray, List.set_cons_zero, List.set_cons_succ, i64_w, i32_w]); rfl)) | (refine Evt.ol_load (a' := ?_) (v := ?_) HT_ HW_ hHeld rfl rfl rfl (by rfl) (by kernel_rfl) (fun _ _ _ h => h) ?_ ?_ ?_; rotate_left 2; (· intro w' hS_; have z1 := TL.out.below hS_.out; have y0 := z1.tv.bt.blk.cell 0 rfl; have y1 := (z1.at2 rfl hil).trans (congrArg (fun t => some (Value.string t)) hsv.out); clear z1; go_simp; with_reducible rfl); (· (try simp only [Act.put, List.setIfInBounds_toArray, List.set_cons_zero, List.set_cons_succ, i64_w, i32_w]); rfl)))
        refine Evt.ol_putB HT_ rfl rfl (by simp) (by kernel_rfl) (by rfl) rfl (s := s) (v := true) rfl rfl rfl  (by have := SI.out; unfold maxLen; omega) (by have := OL.out; unfold maxLen; omega) (MT.out.below hHeld.out) ?_
        intro w2 hM_ hg_
        refine Evt.ol_done HT_ (by kernel_rfl) ?_
        have TU := Aside0.mk ((TL.out.below hHeld.out).put hM_ hg_)
        clear hM_ hg_ hHeld TL MT RL PR
        clear HT_ HW_
        clear HB
        have HB := Aside0.mk TU.out.bel
        skip
        have hw1 : wrap64 ((i : Int) + 1) = (i : Int) + 1 := by have := LE.out; unfold wrap64; omega
        have y2 := (TU.out.at2 rfl hil).trans (congrArg (fun t => some (Value.string t)) hsv.out)
        go_wp2_with (first | ((with_reducible refine gate_dst (N := 29) rfl ?_); refine Evt.slice_event ?hg (N := 29) ?hd (cs := #[.string s]) (t := 9) (n := 1) ?hr ?_; (case hd => rfl); (case hg => rfl); (case hr => first | (go_simp; done) | (go_simp; rfl)); intro g29 hg w3 hbox hb; have hbx : Below w2.heap.size w2 w3 := below_step (by repeat (first | (with_reducible first | exact Below.refl _ _ | apply below_alloc | apply pw_below_drewN | apply below_drew1) | exact Below.refl _ _)) hb; have n_TU := Aside0.mk (TU.out.below hbx); have n_HB := Aside0.mk (below_step HB.out hbx); clear HB TU; have TU := n_TU; have HB := n_HB; clear hbx n_TU n_HB; have BK29 := Aside0.mk (Bk.mk (hbox : Blk w3 g29 9 #[.string s])); clear hbox hg hb; have zBK29_0 : w3.cell? ⟨g29, 0, none⟩ = some (.string s) := (blk_cell BK29.out.blk 0).trans rfl) | ((with_reducible refine gate_dst (N := 30) rfl ?_); at_builtin; refine Evt.ro_app Value.string (fun _ => rfl) ByteArray.empty rfl (.tmp 24) (.tmp 29) 29 9 (.string ⟨#[]⟩) 16 rfl Try.underlying29 info9 rfl (by decide) u6 out s g29 rfl rfl TU.out.rs BK29.out HB.out (by have := OL.out; omega) ?_; intro v30 wa_ ho hb hg hat; have TA := Aside0.mk (TU.out.app ho hb hg hat); clear ho hb hg hat TU HB BK29 zBK29_0) | (go_at_call 50; refine (Sh.delete_any TA.out.rl i hil (by have := LE.out; omega)).mono ?_; rintro e wd ⟨v', rfl, ho, hg, hat⟩; have TD := Aside0.mk (TA.out.del ho hg hat); clear ho hg hat TA))
        go_roundg k1
        case measure => omega
        case rel => exact ⟨left.eraseIdx i, out ++ [s], ⟨by rw [List.length_eraseIdx_of_lt hil]; have := LL.out; omega⟩, ⟨by have := OL.out; simp; omega⟩, TN, ⟨fun x hx => SZ.out x (List.mem_of_mem_eraseIdx hx)⟩, TD⟩
end
end Go.Proofs.Ytmacdknicgfglaa.Gw
end
section
/- Successors, a visit, plainly. -/
namespace Go.Proofs.Ytmacdknicgfglaa.Gp
set_option linter.unusedVariables false
def sucL (l : List Ed) (s : ByteArray) : List ByteArray := (outL l s).map (toE l)
def preL (l : List Ed) (s : ByteArray) : List ByteArray := (inL l s).map (fromE l)
/-- All that is seen behind a visit of n (k: how deep it may go). -/
def visitG (q : ByteArray → List ByteArray) : Nat → List ByteArray → ByteArray → List ByteArray
  | 0, seen, n => seen
  | k + 1, seen, n => if n ∈ seen then seen else (q n).foldl (visitG q k) (seen ++ [n])
/-- How many of all are not yet seen. -/
def unseen (all seen : List ByteArray) : Nat := (all.filter fun s => decide (s ∉ seen)).length
theorem unseen_le {all s1 s2 : List ByteArray} (h : ∀ x, x ∈ s1 → x ∈ s2) : unseen all s2 ≤ unseen all s1 := by
  unfold unseen
  induction all with
  | nil => simp
  | cons a l ih =>
    simp only [List.filter_cons]
    by_cases h2 : a ∈ s2
    · rw [if_neg (by simpa using h2)]
      by_cases h1 : a ∈ s1
      · rw [if_neg (by simpa using h1)]; exact ih
      · rw [if_pos (by simpa using h1)]; exact Nat.le_succ_of_le ih
    · have h1 : a ∉ s1 := fun h1 => h2 (h a h1)
      rw [if_pos (by simpa using h2), if_pos (by simpa using h1)]
      exact Nat.succ_le_succ ih
theorem unseen_lt {all seen : List ByteArray} {n : ByteArray} (hn : n ∈ all) (hs : n ∉ seen) : unseen all (seen ++ [n]) < unseen all seen := by
  unfold unseen
  induction all with
  | nil => cases hn
  | cons a l ih =>
    simp only [List.filter_cons]
    have hle : unseen l (seen ++ [n]) ≤ unseen l seen := unseen_le (fun x hx => List.mem_append_left _ hx)
    unfold unseen at hle
    by_cases ha : a = n
    · subst ha
      rw [if_neg (by simp), if_pos (by simpa using hs)]
      exact Nat.lt_succ_of_le hle
    · have hn' : n ∈ l := (List.mem_cons.1 hn).resolve_left (fun e => ha e.symm)
      have ih' := ih hn'
      by_cases h1 : a ∈ seen
      · rw [if_neg (by simp [h1]), if_neg (by simpa using h1)]; exact ih'
      · rw [if_pos (by simp [h1, ha]), if_pos (by simpa using h1)]; exact Nat.succ_lt_succ ih'
theorem foldl_ge {f : List ByteArray → ByteArray → List ByteArray} (hf : ∀ s n x, x ∈ s → x ∈ f s n) : ∀ (l : List ByteArray) (s : List ByteArray) (x : ByteArray), x ∈ s → x ∈ l.foldl f s
  | [], s, x, h => h
  | n :: l, s, x, h => foldl_ge hf l _ x (hf s n x h)
theorem visitG_ge (q : ByteArray → List ByteArray) : ∀ (k : Nat) (s : List ByteArray) (n x : ByteArray), x ∈ s → x ∈ visitG q k s n
  | 0, s, n, x, h => h
  | k + 1, s, n, x, h => by
    unfold visitG
    split
    · exact h
    · exact foldl_ge (visitG_ge q k) _ _ _ (List.mem_append_left _ h)
theorem foldl_len {f : List ByteArray → ByteArray → List ByteArray} {all : List ByteArray} {Q : List ByteArray → Prop} (hf : ∀ s n, Q s → n ∈ all → Q (f s n)) : ∀ (l : List ByteArray) (s : List ByteArray), Q s → (∀ n ∈ l, n ∈ all) → Q (l.foldl f s)
  | [], s, h, _ => h
  | n :: l, s, h, hl => foldl_len hf l _ (hf s n h (hl n List.mem_cons_self)) (fun m hm => hl m (List.mem_cons_of_mem _ hm))
/-- What is seen stays within all, each once. -/
theorem visitG_in {q : ByteArray → List ByteArray} {all : List ByteArray} (hq : ∀ n ∈ all, ∀ m ∈ q n, m ∈ all) : ∀ (k : Nat) (s : List ByteArray) (n : ByteArray), ((∀ x ∈ s, x ∈ all) ∧ s.Nodup) → n ∈ all → ((∀ x ∈ visitG q k s n, x ∈ all) ∧ (visitG q k s n).Nodup)
  | 0, s, n, h, _ => h
  | k + 1, s, n, h, hn => by
    unfold visitG
    split
    · exact h
    · rename_i hs
      refine foldl_len (Q := fun s => (∀ x ∈ s, x ∈ all) ∧ s.Nodup) (fun s n h hn => visitG_in hq k s n h hn) _ _ ⟨fun x hx => ?_, ?_⟩ (hq n hn)
      · rcases List.mem_append.1 hx with hx | hx
        · exact h.1 x hx
        · rw [List.mem_singleton.1 hx]; exact hn
      · rw [List.nodup_append]
        refine ⟨h.2, by simp, ?_⟩
        intro a ha b hb
        obtain rfl := List.mem_singleton.1 hb
        rintro rfl
        exact hs ha
theorem nodup_len {α : Type} : ∀ {s all : List α}, s.Nodup → (∀ x ∈ s, x ∈ all) → s.length ≤ all.length
  | [], all, _, _ => Nat.zero_le _
  | x :: s, all, h1, h2 => by
    obtain ⟨a, c, rfl⟩ := List.append_of_mem (h2 x List.mem_cons_self)
    have h3 := nodup_len (s := s) (all := a ++ c) (List.nodup_cons.1 h1).2 (fun y hy => by
      have h4 := h2 y (List.mem_cons_of_mem _ hy)
      have h5 : y ≠ x := fun e => (List.nodup_cons.1 h1).1 (e ▸ hy)
      rw [List.mem_append, List.mem_cons] at h4
      rw [List.mem_append]
      rcases h4 with h4 | h4 | h4
      · exact .inl h4
      · exact absurd h4 h5
      · exact .inr h4)
    simp only [List.length_append, List.length_cons] at h3 ⊢
    omega
end Go.Proofs.Ytmacdknicgfglaa.Gp
end
section
/- The successor functions of Reachable and Ancestors, walked. -/
namespace Go.Proofs.Ytmacdknicgfglaa.Gw
open Go.RowKit Go.Shelf Go.Proofs.YtmacdknicgfglaaW.PrintWords Go.Proofs.YtmacdknicgfglaaW.PrintMore Go.Proofs.YtmacdknicgfglaaW.PrintLast Go.Proofs.Ytmacdknicgfglaa.Chg Go.Proofs.Ytmacdknicgfglaa.Evt Go.Proofs.Ytmacdknicgfglaa.Impl Go.Proofs.Ytmacdknicgfglaa.Gp Go.Proofs.Ytmacdknicgfglaa.Mp
set_option linter.unusedVariables false
set_option linter.unusedSimpArgs false
set_option maxRecDepth 100000
/-- A function from a name to names, in every world of which Ok. -/
structure StepsV (k : Nat) (lb : Array Value) (q : ByteArray → List ByteArray) (Ok : World → Prop) : Prop where
  out : ∀ (W : World) (x : ByteArray), Ok W → Calls Try.prog k (#[.string x] ++ lb) W fun e W' => ∃ v, e = .returned v ∧ Ro Kd.string 9 W W' v (q x) ∧ Below W.heap.size W W'
/-- A rung of an elder world's rows in block gr. -/
structure OkR (w0 : World) (gr : Nat) (a0 : ByteArray) (A1 : Option Addr) (c1 : Nat) (l1 : List S41) (A2 : Option Addr) (c2 : Nat) (l2 : List S101) (a3 : ByteArray) (w : World) : Prop where
  br : Bk w gr 25 #[.string a0, .slice A1 l1.length c1, .slice A2 l2.length c2, .string a3]
  bel : Below w0.heap.size w0 w
  rg : Rg w0 A1 c1 l1 A2 c2 l2
section
variable {w w' w0 : World} {A1 A2 : Option Addr} {c1 c2 b n gr gt : Nat} {l1 : List S41} {l2 : List S101} {a0 a3 : ByteArray}
theorem OkR.below (h : OkR w0 gr a0 A1 c1 l1 A2 c2 l2 a3 w) (hb : Below w.heap.size w w') : OkR w0 gr a0 A1 c1 l1 A2 c2 l2 a3 w' := ⟨h.br.below hb, below_step h.bel hb, h.rg⟩
theorem OkR.rg' (h : OkR w0 gr a0 A1 c1 l1 A2 c2 l2 a3 w) : Rg w A1 c1 l1 A2 c2 l2 := h.rg.below h.bel
/-- The names so far. -/
structure Nt (w1 w : World) (v : Value) (xs : List ByteArray) : Prop where
  row : Ro Kd.string 9 w1 w v xs
  bel : Below w1.heap.size w1 w
theorem Nt.below {w1 : World} {v : Value} {xs : List ByteArray} (h : Nt w1 w v xs) (hb : Below w.heap.size w w') : Nt w1 w' v xs := ⟨h.row.below hb, below_step h.bel hb⟩
set_option maxHeartbeats 4000000 in
theorem suc_any (hok : okG (es l1) = true) : StepsV 53 #[.pointer (some ⟨gr, 0, none⟩)] (sucL (es l1)) (OkR w0 gr a0 A1 c1 l1 A2 c2 l2 a3) := by
  refine ⟨fun W s hO => ?_⟩
  have LN : l1.length ≤ 1000 := by have := okG_len hok; rw [es_len] at this; exact this
  have OK := Aside0.mk hok
  have NN : Aside0 ((outL (es l1) s).length ≤ 1000) := Aside0.mk (by have := idxs_len (fun c => decide (c.1 = s)) (es l1); rw [es_len] at this; unfold outL; omega)
  have T := Aside0.mk hO
  clear hO hok
  have HB := Aside0.mk (Below.refl W.heap.size W)
  have KR : Aside0 (Bk W gr 25 #[.string a0, .slice A1 l1.length c1, .slice A2 l2.length c2, .string a3]) := Aside0.mk (T.out.br)
  have RG := Aside0.mk (T.out.rg')
  clear T
  have zKR_0 : W.cell? ⟨gr, 0, none⟩ = some (.string a0) := (blk_cell KR.out.blk 0).trans rfl
  have zKR_1 : W.cell? ⟨gr, 1, none⟩ = some (.slice A1 l1.length c1) := (blk_cell KR.out.blk 1).trans rfl
  have zKR_2 : W.cell? ⟨gr, 2, none⟩ = some (.slice A2 l2.length c2) := (blk_cell KR.out.blk 2).trans rfl
  have zKR_3 : W.cell? ⟨gr, 3, none⟩ = some (.string a3) := (blk_cell KR.out.blk 3).trans rfl
  show Calls Try.prog 53 #[.string s, .pointer (some ⟨gr, 0, none⟩)] W _
  go_enter Try.func53, Try.ntmps53
  go_wp2_with (first | ((with_reducible refine gate_callee (f := 21) rfl ?_); refine goesL_ (some 9) rfl rfl Try.func21 (by kernel_rfl) rfl #[.agg #[.string a0, .slice A1 l1.length c1, .slice A2 l2.length c2, .string a3], .string s] rfl (by (try simp only [List.map_toArray, List.map_cons, List.map_nil]); first | done | rfl | (simp only [List.length_drop, List.length_take]; rfl)) ?_; (with_reducible refine (outgoing_any _ (RG.out.below (by repeat (first | (with_reducible first | exact Below.refl _ _ | apply below_alloc | apply pw_below_drewN | apply below_drew1) | exact Below.refl _ _))) LN s).mono ?_); rintro e w1 ⟨v, rfl, ho, hb⟩; have hbx : Below W.heap.size W w1 := below_step (by repeat (first | (with_reducible first | exact Below.refl _ _ | apply below_alloc | apply pw_below_drewN | apply below_drew1) | exact Below.refl _ _)) hb; obtain ⟨A_, c_, rfl, hw_⟩ := Ro.sliceI ho; clear zKR_0 zKR_1 zKR_2 zKR_3; have n_KR := Aside0.mk (KR.out.below hbx); have n_RG := Aside0.mk (RG.out.below hbx); have n_HB := Aside0.mk (below_step HB.out hbx); clear HB KR RG; have KR := n_KR; have RG := n_RG; have HB := n_HB; clear hbx n_KR n_RG n_HB; have IW := Aside0.mk (hw_.out); clear hb; clear ho hw_; have zKR_0 : w1.cell? ⟨gr, 0, none⟩ = some (.string a0) := (blk_cell KR.out.blk 0).trans rfl; have zKR_1 : w1.cell? ⟨gr, 1, none⟩ = some (.slice A1 l1.length c1) := (blk_cell KR.out.blk 1).trans rfl; have zKR_2 : w1.cell? ⟨gr, 2, none⟩ = some (.slice A2 l2.length c2) := (blk_cell KR.out.blk 2).trans rfl; have zKR_3 : w1.cell? ⟨gr, 3, none⟩ = some (.string a3) := (blk_cell KR.out.blk 3).trans rfl; refine ⟨_, rfl, ?_⟩))
  have ND : Aside0 (Nt w1 w1 (.slice none 0 0) (((outL (es l1) s).take 0).map (toE (es l1)))) := Aside0.mk ⟨⟨Kd.R_nil _ _ _ _ _⟩, Below.refl _ _⟩
  have B1 := HB
  clear HB zKR_0 zKR_1 zKR_2 zKR_3
  go_loopg [4, 11] (outL (es l1) s).length (fun kq v4 v11 wr => ∃ j : Nat, v11 = .int .i64 j ∧ Aside0 (j + kq = (outL (es l1) s).length) ∧ Aside0 (Nt w1 wr v4 (((outL (es l1) s).take j).map (toE (es l1)))))
  case atStart => exact ⟨0, rfl, ⟨by omega⟩, ND⟩
  case round =>
    clear ND
    obtain ⟨j, rfl, hj, ND⟩ := hrel
    cases gk with
    | zero =>
      have e0 : j = (outL (es l1) s).length := by have := hj.out; omega
      have q0 : decide (j < (outL (es l1) s).length) = false := decide_eq_false (by omega)
      have q1 : decide ((j : Int) < ((outL (es l1) s).length : Int)) = false := decide_eq_false (by omega)
      have NE := Aside0.mk e0
      clear e0 hj
      go_wp2
      go_ret
      refine ⟨_, rfl, ?_, below_step B1.out ND.out.bel⟩
      have := Ro.lower ND.out.row B1.out.size
      rw [List.take_of_length_le (by rw [NE.out]; exact Nat.le_refl _)] at this
      exact this
    | succ k1 =>
      have hjl : j < (outL (es l1) s).length := by have := hj.out; omega
      have q0 : decide (j < (outL (es l1) s).length) = true := decide_eq_true (by omega)
      have q1 : decide ((j : Int) < ((outL (es l1) s).length : Int)) = true := decide_eq_true (by omega)
      obtain ⟨m, hm, hml⟩ : ∃ m : Nat, (outL (es l1) s)[j] = (m : Int) ∧ m < l1.length := by
        obtain ⟨m, hm, hl, _⟩ := outL_mem.1 (List.getElem_mem hjl)
        exact ⟨m, hm, by rw [es_len] at hl; exact hl⟩
      have p0 : decide (m < l1.length) = true := decide_eq_true hml
      have p1 : decide ((m : Int) < (l1.length : Int)) = true := decide_eq_true (by omega)
      obtain ⟨ad, rfl, x0⟩ := at_int0 (IW.out.below ND.out.bel).row (j : Int) (by omega) (by omega)
      rw [Int.toNat_natCast, show rd (outL (es l1) s) (j : Int) = (m : Int) by rw [← hm]; simp [rd, List.getD_eq_getElem?_getD, List.getElem?_eq_getElem hjl]] at x0
      have ST := Aside0.mk (show ((outL (es l1) s).take (j + 1)).map (toE (es l1)) = ((outL (es l1) s).take j).map (toE (es l1)) ++ [l1[m].f3] by rw [List.take_succ_eq_append_getElem hjl, List.map_append, hm]; simp [to_at hml])
      have LX := Aside0.mk (show (((outL (es l1) s).take j).map (toE (es l1))).length ≤ 1000 by rw [List.length_map, List.length_take]; have := NN.out; omega)
      clear hm
      obtain ⟨ad2, rfl, _⟩ := RG.out.at hml
      have y3 := ((RG.out.below ND.out.bel).c4 hml)
      have HB := Aside0.mk (Below.refl wr.heap.size wr)
      have NL := Aside0.mk (ND.out)
      have KS : Aside0 (Bk wr gr 25 #[.string a0, .slice (some ad2) l1.length c1, .slice A2 l2.length c2, .string a3]) := Aside0.mk (KR.out.below ND.out.bel)
      clear ND
      have zKS_0 : wr.cell? ⟨gr, 0, none⟩ = some (.string a0) := (blk_cell KS.out.blk 0).trans rfl
      have zKS_1 : wr.cell? ⟨gr, 1, none⟩ = some (.slice (some ad2) l1.length c1) := (blk_cell KS.out.blk 1).trans rfl
      have zKS_2 : wr.cell? ⟨gr, 2, none⟩ = some (.slice A2 l2.length c2) := (blk_cell KS.out.blk 2).trans rfl
      have zKS_3 : wr.cell? ⟨gr, 3, none⟩ = some (.string a3) := (blk_cell KS.out.blk 3).trans rfl
      go_wp2_with (first | ((with_reducible refine gate_dst (N := 22) rfl ?_); refine Evt.slice_event ?hg (N := 22) ?hd (cs := #[.string l1[m].f3]) (t := 9) (n := 1) ?hr ?_; (case hd => rfl); (case hg => rfl); (case hr => first | (go_simp; done) | (go_simp; rfl)); intro g22 hg w1 hbox hb; have hbx : Below wr.heap.size wr w1 := below_step (by repeat (first | (with_reducible first | exact Below.refl _ _ | apply below_alloc | apply pw_below_drewN | apply below_drew1) | exact Below.refl _ _)) hb; clear zKS_0 zKS_1 zKS_2 zKS_3; have n_NL := Aside0.mk (NL.out.below hbx); have n_KS := Aside0.mk (KS.out.below hbx); have n_HB := Aside0.mk (below_step HB.out hbx); clear HB NL KS; have NL := n_NL; have KS := n_KS; have HB := n_HB; clear hbx n_NL n_KS n_HB; have BK22 := Aside0.mk (Bk.mk (hbox : Blk w1 g22 9 #[.string l1[m].f3])); clear hbox hg hb; have zKS_0 : w1.cell? ⟨gr, 0, none⟩ = some (.string a0) := (blk_cell KS.out.blk 0).trans rfl; have zKS_1 : w1.cell? ⟨gr, 1, none⟩ = some (.slice (some ad2) l1.length c1) := (blk_cell KS.out.blk 1).trans rfl; have zKS_2 : w1.cell? ⟨gr, 2, none⟩ = some (.slice A2 l2.length c2) := (blk_cell KS.out.blk 2).trans rfl; have zKS_3 : w1.cell? ⟨gr, 3, none⟩ = some (.string a3) := (blk_cell KS.out.blk 3).trans rfl; have zBK22_0 : w1.cell? ⟨g22, 0, none⟩ = some (.string l1[m].f3) := (blk_cell BK22.out.blk 0).trans rfl) | ((with_reducible refine gate_dst (N := 23) rfl ?_); at_builtin; refine Evt.ro_app Value.string (fun _ => rfl) ByteArray.empty rfl (.tmp 15) (.tmp 22) 29 9 (.string ⟨#[]⟩) 16 rfl Try.underlying29 info9 rfl (by decide) u4 (((outL (es l1) s).take j).map (toE (es l1))) l1[m].f3 g22 rfl rfl NL.out.row BK22.out NL.out.bel (by have := LX.out; omega) ?_; intro v23 wa_ ho hb hg hat; have NF := Aside0.mk (Nt.mk ho hb); clear ho hb hg hat NL HB BK22 zBK22_0))
      go_roundg k1
      case measure => omega
      case rel => exact ⟨j + 1, (by have := NN.out; have hw : wrap64 ((j : Int) + 1) = ((j + 1 : Nat) : Int) := (by unfold wrap64; omega); show Value.int .i64 (wrap64 ((j : Int) + 1)) = _; rw [hw]), ⟨by have := hj.out; omega⟩, ⟨by rw [ST.out]; exact NF.out⟩⟩
set_option maxHeartbeats 4000000 in
theorem pre_any (hok : okG (es l1) = true) : StepsV 55 #[.pointer (some ⟨gr, 0, none⟩)] (preL (es l1)) (OkR w0 gr a0 A1 c1 l1 A2 c2 l2 a3) := by
  refine ⟨fun W s hO => ?_⟩
  have LN : l1.length ≤ 1000 := by have := okG_len hok; rw [es_len] at this; exact this
  have OK := Aside0.mk hok
  have NN : Aside0 ((inL (es l1) s).length ≤ 1000) := Aside0.mk (by have := idxs_len (fun c => decide (c.2 = s)) (es l1); rw [es_len] at this; unfold inL; omega)
  have T := Aside0.mk hO
  clear hO hok
  have HB := Aside0.mk (Below.refl W.heap.size W)
  have KR : Aside0 (Bk W gr 25 #[.string a0, .slice A1 l1.length c1, .slice A2 l2.length c2, .string a3]) := Aside0.mk (T.out.br)
  have RG := Aside0.mk (T.out.rg')
  clear T
  have zKR_0 : W.cell? ⟨gr, 0, none⟩ = some (.string a0) := (blk_cell KR.out.blk 0).trans rfl
  have zKR_1 : W.cell? ⟨gr, 1, none⟩ = some (.slice A1 l1.length c1) := (blk_cell KR.out.blk 1).trans rfl
  have zKR_2 : W.cell? ⟨gr, 2, none⟩ = some (.slice A2 l2.length c2) := (blk_cell KR.out.blk 2).trans rfl
  have zKR_3 : W.cell? ⟨gr, 3, none⟩ = some (.string a3) := (blk_cell KR.out.blk 3).trans rfl
  show Calls Try.prog 55 #[.string s, .pointer (some ⟨gr, 0, none⟩)] W _
  go_enter Try.func55, Try.ntmps55
  go_wp2_with (first | ((with_reducible refine gate_callee (f := 23) rfl ?_); refine goesL_ (some 9) rfl rfl Try.func23 (by kernel_rfl) rfl #[.agg #[.string a0, .slice A1 l1.length c1, .slice A2 l2.length c2, .string a3], .string s] rfl (by (try simp only [List.map_toArray, List.map_cons, List.map_nil]); first | done | rfl | (simp only [List.length_drop, List.length_take]; rfl)) ?_; (with_reducible refine (incoming_any _ (RG.out.below (by repeat (first | (with_reducible first | exact Below.refl _ _ | apply below_alloc | apply pw_below_drewN | apply below_drew1) | exact Below.refl _ _))) LN s).mono ?_); rintro e w1 ⟨v, rfl, ho, hb⟩; have hbx : Below W.heap.size W w1 := below_step (by repeat (first | (with_reducible first | exact Below.refl _ _ | apply below_alloc | apply pw_below_drewN | apply below_drew1) | exact Below.refl _ _)) hb; obtain ⟨A_, c_, rfl, hw_⟩ := Ro.sliceI ho; clear zKR_0 zKR_1 zKR_2 zKR_3; have n_KR := Aside0.mk (KR.out.below hbx); have n_RG := Aside0.mk (RG.out.below hbx); have n_HB := Aside0.mk (below_step HB.out hbx); clear HB KR RG; have KR := n_KR; have RG := n_RG; have HB := n_HB; clear hbx n_KR n_RG n_HB; have IW := Aside0.mk (hw_.out); clear hb; clear ho hw_; have zKR_0 : w1.cell? ⟨gr, 0, none⟩ = some (.string a0) := (blk_cell KR.out.blk 0).trans rfl; have zKR_1 : w1.cell? ⟨gr, 1, none⟩ = some (.slice A1 l1.length c1) := (blk_cell KR.out.blk 1).trans rfl; have zKR_2 : w1.cell? ⟨gr, 2, none⟩ = some (.slice A2 l2.length c2) := (blk_cell KR.out.blk 2).trans rfl; have zKR_3 : w1.cell? ⟨gr, 3, none⟩ = some (.string a3) := (blk_cell KR.out.blk 3).trans rfl; refine ⟨_, rfl, ?_⟩))
  have ND : Aside0 (Nt w1 w1 (.slice none 0 0) (((inL (es l1) s).take 0).map (fromE (es l1)))) := Aside0.mk ⟨⟨Kd.R_nil _ _ _ _ _⟩, Below.refl _ _⟩
  have B1 := HB
  clear HB zKR_0 zKR_1 zKR_2 zKR_3
  go_loopg [4, 11] (inL (es l1) s).length (fun kq v4 v11 wr => ∃ j : Nat, v11 = .int .i64 j ∧ Aside0 (j + kq = (inL (es l1) s).length) ∧ Aside0 (Nt w1 wr v4 (((inL (es l1) s).take j).map (fromE (es l1)))))
  case atStart => exact ⟨0, rfl, ⟨by omega⟩, ND⟩
  case round =>
    clear ND
    obtain ⟨j, rfl, hj, ND⟩ := hrel
    cases gk with
    | zero =>
      have e0 : j = (inL (es l1) s).length := by have := hj.out; omega
      have q0 : decide (j < (inL (es l1) s).length) = false := decide_eq_false (by omega)
      have q1 : decide ((j : Int) < ((inL (es l1) s).length : Int)) = false := decide_eq_false (by omega)
      have NE := Aside0.mk e0
      clear e0 hj
      go_wp2
      go_ret
      refine ⟨_, rfl, ?_, below_step B1.out ND.out.bel⟩
      have := Ro.lower ND.out.row B1.out.size
      rw [List.take_of_length_le (by rw [NE.out]; exact Nat.le_refl _)] at this
      exact this
    | succ k1 =>
      have hjl : j < (inL (es l1) s).length := by have := hj.out; omega
      have q0 : decide (j < (inL (es l1) s).length) = true := decide_eq_true (by omega)
      have q1 : decide ((j : Int) < ((inL (es l1) s).length : Int)) = true := decide_eq_true (by omega)
      obtain ⟨m, hm, hml⟩ : ∃ m : Nat, (inL (es l1) s)[j] = (m : Int) ∧ m < l1.length := by
        obtain ⟨m, hm, hl, _⟩ := inL_mem.1 (List.getElem_mem hjl)
        exact ⟨m, hm, by rw [es_len] at hl; exact hl⟩
      have p0 : decide (m < l1.length) = true := decide_eq_true hml
      have p1 : decide ((m : Int) < (l1.length : Int)) = true := decide_eq_true (by omega)
      obtain ⟨ad, rfl, x0⟩ := at_int0 (IW.out.below ND.out.bel).row (j : Int) (by omega) (by omega)
      rw [Int.toNat_natCast, show rd (inL (es l1) s) (j : Int) = (m : Int) by rw [← hm]; simp [rd, List.getD_eq_getElem?_getD, List.getElem?_eq_getElem hjl]] at x0
      have ST := Aside0.mk (show ((inL (es l1) s).take (j + 1)).map (fromE (es l1)) = ((inL (es l1) s).take j).map (fromE (es l1)) ++ [l1[m].f2] by rw [List.take_succ_eq_append_getElem hjl, List.map_append, hm]; simp [from_at hml])
      have LX := Aside0.mk (show (((inL (es l1) s).take j).map (fromE (es l1))).length ≤ 1000 by rw [List.length_map, List.length_take]; have := NN.out; omega)
      clear hm
      obtain ⟨ad2, rfl, _⟩ := RG.out.at hml
      have y3 := ((RG.out.below ND.out.bel).c3 hml)
      have HB := Aside0.mk (Below.refl wr.heap.size wr)
      have NL := Aside0.mk (ND.out)
      have KS : Aside0 (Bk wr gr 25 #[.string a0, .slice (some ad2) l1.length c1, .slice A2 l2.length c2, .string a3]) := Aside0.mk (KR.out.below ND.out.bel)
      clear ND
      have zKS_0 : wr.cell? ⟨gr, 0, none⟩ = some (.string a0) := (blk_cell KS.out.blk 0).trans rfl
      have zKS_1 : wr.cell? ⟨gr, 1, none⟩ = some (.slice (some ad2) l1.length c1) := (blk_cell KS.out.blk 1).trans rfl
      have zKS_2 : wr.cell? ⟨gr, 2, none⟩ = some (.slice A2 l2.length c2) := (blk_cell KS.out.blk 2).trans rfl
      have zKS_3 : wr.cell? ⟨gr, 3, none⟩ = some (.string a3) := (blk_cell KS.out.blk 3).trans rfl
      go_wp2_with (first | ((with_reducible refine gate_dst (N := 22) rfl ?_); refine Evt.slice_event ?hg (N := 22) ?hd (cs := #[.string l1[m].f2]) (t := 9) (n := 1) ?hr ?_; (case hd => rfl); (case hg => rfl); (case hr => first | (go_simp; done) | (go_simp; rfl)); intro g22 hg w1 hbox hb; have hbx : Below wr.heap.size wr w1 := below_step (by repeat (first | (with_reducible first | exact Below.refl _ _ | apply below_alloc | apply pw_below_drewN | apply below_drew1) | exact Below.refl _ _)) hb; clear zKS_0 zKS_1 zKS_2 zKS_3; have n_NL := Aside0.mk (NL.out.below hbx); have n_KS := Aside0.mk (KS.out.below hbx); have n_HB := Aside0.mk (below_step HB.out hbx); clear HB NL KS; have NL := n_NL; have KS := n_KS; have HB := n_HB; clear hbx n_NL n_KS n_HB; have BK22 := Aside0.mk (Bk.mk (hbox : Blk w1 g22 9 #[.string l1[m].f2])); clear hbox hg hb; have zKS_0 : w1.cell? ⟨gr, 0, none⟩ = some (.string a0) := (blk_cell KS.out.blk 0).trans rfl; have zKS_1 : w1.cell? ⟨gr, 1, none⟩ = some (.slice (some ad2) l1.length c1) := (blk_cell KS.out.blk 1).trans rfl; have zKS_2 : w1.cell? ⟨gr, 2, none⟩ = some (.slice A2 l2.length c2) := (blk_cell KS.out.blk 2).trans rfl; have zKS_3 : w1.cell? ⟨gr, 3, none⟩ = some (.string a3) := (blk_cell KS.out.blk 3).trans rfl; have zBK22_0 : w1.cell? ⟨g22, 0, none⟩ = some (.string l1[m].f2) := (blk_cell BK22.out.blk 0).trans rfl) | ((with_reducible refine gate_dst (N := 23) rfl ?_); at_builtin; refine Evt.ro_app Value.string (fun _ => rfl) ByteArray.empty rfl (.tmp 15) (.tmp 22) 29 9 (.string ⟨#[]⟩) 16 rfl Try.underlying29 info9 rfl (by decide) u4 (((inL (es l1) s).take j).map (fromE (es l1))) l1[m].f2 g22 rfl rfl NL.out.row BK22.out NL.out.bel (by have := LX.out; omega) ?_; intro v23 wa_ ho hb hg hat; have NF := Aside0.mk (Nt.mk ho hb); clear ho hb hg hat NL HB BK22 zBK22_0))
      go_roundg k1
      case measure => omega
      case rel => exact ⟨j + 1, (by have := NN.out; have hw : wrap64 ((j : Int) + 1) = ((j + 1 : Nat) : Int) := (by unfold wrap64; omega); show Value.int .i64 (wrap64 ((j : Int) + 1)) = _; rw [hw]), ⟨by have := hj.out; omega⟩, ⟨by rw [ST.out]; exact NF.out⟩⟩
end
end Go.Proofs.Ytmacdknicgfglaa.Gw
end
section
/- graph.gather's visit, walked. -/
namespace Go.Proofs.Ytmacdknicgfglaa.Gw
open Go.RowKit Go.Shelf Go.Proofs.YtmacdknicgfglaaW.PrintWords Go.Proofs.YtmacdknicgfglaaW.PrintMore Go.Proofs.YtmacdknicgfglaaW.PrintLast Go.Proofs.Ytmacdknicgfglaa.Chg Go.Proofs.Ytmacdknicgfglaa.Evt Go.Proofs.Ytmacdknicgfglaa.Impl Go.Proofs.Ytmacdknicgfglaa.Gp Go.Proofs.Ytmacdknicgfglaa.Mp
set_option linter.unusedVariables false
set_option linter.unusedSimpArgs false
set_option maxRecDepth 100000
/-- A visit at hand: what is seen (behind gt), the steps (gs), itself (gv). -/
structure Vs (Ok : World → Prop) (gt gs gv b : Nat) (kf : Nat) (lb : Array Value) (seen : List ByteArray) (w : World) : Prop where
  bt : Bk w gt 65 #[.map (some b)]
  bs : Bk w gs 75 #[.func (.func kf) #[] lb]
  bv : Bk w gv 82 #[.func (.func 63) #[] #[.pointer (some ⟨gt, 0, none⟩), .pointer (some ⟨gs, 0, none⟩), .pointer (some ⟨gv, 0, none⟩)]]
  m : MB w b seen.length (fun s => decide (s ∈ seen))
  ok : Ok w
/-- What the visit leans on. -/
structure Vh (Ok : World → Prop) (b : Nat) (kf : Nat) (lb : Array Value) (q : ByteArray → List ByteArray) (all : List ByteArray) : Prop where
  st : StepsV kf lb q Ok
  eg : ∀ args w, (callFunc kf args).run Try.prog w = .ok (.enter kf args) w
  okc : ∀ w w', Ok w → Chg (fun i => i = b) w w' → Ok w'
  al : ∀ x ∈ all, x.size ≤ 100000
  an : all.length ≤ 3000
  qn : ∀ n ∈ all, ∀ m ∈ q n, m ∈ all
  ql : ∀ n, (q n).length ≤ 1000
section
variable {Ok : World → Prop} {gt gs gv b kf : Nat} {lb : Array Value} {seen : List ByteArray} {w w' : World} {q : ByteArray → List ByteArray} {all : List ByteArray}
abbrev CB (b : Nat) (w w' : World) : Prop := Chg (fun i => i = b) w w'
theorem CB.trans {w'' : World} (h : CB b w w') (k : CB b w' w'') : CB b w w'' := Chg.trans h k (fun i hi => .inl hi)
theorem CB.below (h : Below w.heap.size w w') : CB b w w' := Chg.of_below h
theorem CB.grown (h : w.grownBy w' (some b)) : CB b w w' := Chg.of_grown h (fun k hk => .inl (by cases hk; rfl))
theorem CB.to (h : CB b w w') : w.grownBy w' (some b) := ⟨h.os, h.tape, h.output, h.size, fun k hk hne => h.block k hk (fun e => hne (by rw [e]))⟩
theorem Vs.turn (h : Vs Ok gt gs gv b kf lb seen w) (hh : Vh Ok b kf lb q all) (hc : CB b w w') {seen' : List ByteArray} (hm : MB w' b seen'.length (fun s => decide (s ∈ seen'))) : Vs Ok gt gs gv b kf lb seen' w' :=
  ⟨h.bt.mput h.m hc.to, h.bs.mput h.m hc.to, h.bv.mput h.m hc.to, hm, hh.okc _ _ h.ok hc⟩
theorem Vs.below (h : Vs Ok gt gs gv b kf lb seen w) (hh : Vh Ok b kf lb q all) (hb : Below w.heap.size w w') : Vs Ok gt gs gv b kf lb seen w' := h.turn hh (CB.below hb) (h.m.below hb)
theorem Vs.put {w1 : World} (h : Vs Ok gt gs gv b kf lb seen w) (hh : Vh Ok b kf lb q all) {s : ByteArray} (hm : MB w1 b (seen.length + 1) (fun z => if z = s then true else decide (z ∈ seen))) (hg : w.grownBy w1 (some b)) : Vs Ok gt gs gv b kf lb (seen ++ [s]) w1 := by
  refine h.turn hh (CB.grown hg) ?_
  rw [List.length_append, List.length_singleton]
  refine hm.congr (fun z => ?_)
  by_cases e : z = s
  · subst e; simp
  · simp [e]
/-- A row that is not the map stays. -/
theorem Ro.cb {w0 : World} {v : Value} {xs : List ByteArray} {n : Nat} {p : ByteArray → Bool} (h : Ro Kd.string 9 w0 w v xs) (hm : MB w b n p) (hc : CB b w w') : Ro Kd.string 9 w0 w' v xs := ⟨R_other h.row hc.to (.inl (hm.row h.row))⟩
/-- One visit, its depth told. -/
def VisitOk (Ok : World → Prop) (gt gs gv b kf : Nat) (lb : Array Value) (q : ByteArray → List ByteArray) (all : List ByteArray) (k : Nat) : Prop :=
  ∀ (seen : List ByteArray) (W : World) (n : ByteArray), n ∈ all → unseen all seen ≤ k → (∀ x ∈ seen, x ∈ all) → seen.Nodup → Vs Ok gt gs gv b kf lb seen W →
    Calls Try.prog 63 #[.string n, .pointer (some ⟨gt, 0, none⟩), .pointer (some ⟨gs, 0, none⟩), .pointer (some ⟨gv, 0, none⟩)] W fun e W' => e = .returned (.tuple #[]) ∧ Vs Ok gt gs gv b kf lb (visitG q k seen n) W' ∧ CB b W W'
set_option maxHeartbeats 1000000 in
theorem visit_old (hh : Vh Ok b kf lb q all) (n : ByteArray) (hn : n ∈ all) (hs : n ∈ seen) (h : Vs Ok gt gs gv b kf lb seen w) :
    Calls Try.prog 63 #[.string n, .pointer (some ⟨gt, 0, none⟩), .pointer (some ⟨gs, 0, none⟩), .pointer (some ⟨gv, 0, none⟩)] w fun e W' => e = .returned (.tuple #[]) ∧ Vs Ok gt gs gv b kf lb seen W' ∧ CB b w W' := by
  have V := Aside0.mk h
  have x0 := h.bt.blk.cell 0 rfl
  have SZ := Aside0.mk (hh.al n hn)
  have HS := Aside0.mk (decide_eq_true hs)
  clear h
  go_enter Try.func63, Try.ntmps63
  go_wp2_with (refine Mp.getB_ev rfl rfl (s := n) (v := true) rfl rfl (by have := SZ.out; unfold maxLen; omega) V.out.m HS.out ?_)
  refine bodyPost_ret (results_none rfl _ _ _) rfl ?_
  exact ⟨rfl, V.out, Chg.refl _ _⟩
theorem eg_v : ∀ args w, (callFunc 63 args).run Try.prog w = .ok (.enter 63 args) w := enters_of Try.func63 (by kernel_rfl) rfl
set_option maxHeartbeats 4000000 in
theorem visit_new (hh : Vh Ok b kf lb q all) (k : Nat) (ih : VisitOk Ok gt gs gv b kf lb q all k) (n : ByteArray) (hn : n ∈ all) (hs : n ∉ seen) (hu : unseen all seen ≤ k + 1) (hi : ∀ x ∈ seen, x ∈ all) (hd : seen.Nodup) (h : Vs Ok gt gs gv b kf lb seen w) :
    Calls Try.prog 63 #[.string n, .pointer (some ⟨gt, 0, none⟩), .pointer (some ⟨gs, 0, none⟩), .pointer (some ⟨gv, 0, none⟩)] w fun e W' => e = .returned (.tuple #[]) ∧ Vs Ok gt gs gv b kf lb ((q n).foldl (visitG q k) (seen ++ [n])) W' ∧ CB b w W' := by
  have HH := Aside0.mk hh
  have IH := Aside0.mk ih
  have V := Aside0.mk h
  have x0 := h.bt.blk.cell 0 rfl
  have SZ := Aside0.mk (hh.al n hn)
  have HS := Aside0.mk (decide_eq_false hs)
  have QL := Aside0.mk (hh.ql n)
  have QN := Aside0.mk (hh.qn n hn)
  have SL : Aside0 (seen.length ≤ 3000) := Aside0.mk (Nat.le_trans (nodup_len hd hi) hh.an)
  have I0 : Aside0 ((∀ x ∈ seen ++ [n], x ∈ all) ∧ (seen ++ [n]).Nodup) := Aside0.mk (by
    have := visitG_in (q := fun _ => []) (all := all) (fun _ _ m hm => by cases hm) 1 seen n ⟨hi, hd⟩ hn
    unfold visitG at this
    rw [if_neg hs] at this
    exact this)
  have U0 : Aside0 (unseen all (seen ++ [n]) ≤ k) := Aside0.mk (by have := unseen_lt hn hs; omega)
  clear h hh ih hs hu hi hd hn
  have HB := Aside0.mk (Below.refl w.heap.size w)
  go_enter Try.func63, Try.ntmps63
  go_wp2_with (first | (refine Mp.getB_ev rfl rfl (s := n) (v := false) rfl rfl (by have := SZ.out; unfold maxLen; omega) V.out.m HS.out ?_) | (refine Mp.putB_ev rfl (.inl rfl) (s := n) (v := true) rfl rfl rfl (by have := SZ.out; unfold maxLen; omega) (by have := SL.out; unfold maxLen; omega) V.out.m ?_; intro wj hM hg_; have V1 := Aside0.mk (V.out.put HH.out hM hg_); have C1 := Aside0.mk (CB.grown hg_); clear hM hg_; have y0 := V1.out.bs.blk.cell 0 rfl; have eg := HH.out.eg) | (go_at_fn kf; refine (HH.out.st.out wj n V1.out.ok).mono ?_; rintro e W2 ⟨v, rfl, ho, hb⟩; obtain ⟨A_, c_, rfl, RW⟩ := Ro.sliceS ho; have V2 := Aside0.mk (V1.out.below HH.out hb); have C2 := Aside0.mk (C1.out.trans (CB.below hb)); have RO := Aside0.mk ho; clear ho hb))
  have LP : Aside0 (Vs Ok gt gs gv b kf lb (((q n).take 0).foldl (visitG q k) (seen ++ [n])) W2 ∧ CB b w W2 ∧ Ro Kd.string 9 wj W2 (.slice A_ (q n).length c_) (q n)) := Aside0.mk ⟨V2.out, C2.out, RO.out⟩
  clear V V1 V2 C1 C2 RO RW y0 x0 HB
  go_loopg [16] (q n).length (fun kq v16 wr => ∃ j : Nat, v16 = .int .i64 j ∧ Aside0 (j + kq = (q n).length) ∧ Aside0 (Vs Ok gt gs gv b kf lb (((q n).take j).foldl (visitG q k) (seen ++ [n])) wr ∧ CB b w wr ∧ Ro Kd.string 9 wj wr (.slice A_ (q n).length c_) (q n)))
  case atStart => exact ⟨0, rfl, ⟨by omega⟩, LP⟩
  case round =>
    clear LP
    obtain ⟨j, rfl, hj, LP⟩ := hrel
    cases gk with
    | zero =>
      have e0 : j = (q n).length := by have := hj.out; omega
      have q0 : decide (j < (q n).length) = false := decide_eq_false (by omega)
      have q1 : decide ((j : Int) < ((q n).length : Int)) = false := decide_eq_false (by omega)
      have NE := Aside0.mk e0
      clear e0 hj
      go_wp2
      (try simp only [Exit.inBlock, Exit.then])
      refine bodyPost_end (results_none rfl _ _ _) rfl ?_
      have h1 := LP.out.1
      rw [List.take_of_length_le (by rw [NE.out]; exact Nat.le_refl _)] at h1
      exact ⟨rfl, h1, LP.out.2.1⟩
    | succ k1 =>
      have hjl : j < (q n).length := by have := hj.out; omega
      have q0 : decide (j < (q n).length) = true := decide_eq_true (by omega)
      have q1 : decide ((j : Int) < ((q n).length : Int)) = true := decide_eq_true (by omega)
      obtain ⟨x, hx⟩ : ∃ x, Aside0 ((q n)[j] = x) := ⟨_, ⟨rfl⟩⟩
      have ST := Aside0.mk (show ((q n).take (j + 1)).foldl (visitG q k) (seen ++ [n]) = visitG q k (((q n).take j).foldl (visitG q k) (seen ++ [n])) x by rw [List.take_succ_eq_append_getElem hjl, List.foldl_append, hx.out]; rfl)
      obtain ⟨ad, rfl, x0⟩ := Kd.at_string (Rw.of_R LP.out.2.2.row).row (j : Int) (by omega) (by omega)
      rw [Int.toNat_natCast, show rdOf ByteArray.empty (q n) (j : Int) = x by rw [← hx.out]; simp [rdOf, List.getD_eq_getElem?_getD, List.getElem?_eq_getElem hjl]] at x0
      have XA := Aside0.mk (QN.out x (by rw [← hx.out]; exact List.getElem_mem hjl))
      have IN := Aside0.mk (foldl_len (all := all) (Q := fun s => (∀ y ∈ s, y ∈ all) ∧ s.Nodup) (fun s m hQ hm => visitG_in HH.out.qn k s m hQ hm) ((q n).take j) (seen ++ [n]) I0.out (fun m hm => QN.out m (List.mem_of_mem_take hm)))
      have UN := Aside0.mk (Nat.le_trans (unseen_le (all := all) (fun y hy => foldl_ge (visitG_ge q k) ((q n).take j) (seen ++ [n]) y hy)) U0.out)
      have z0 := LP.out.1.bv.blk.cell 0 rfl
      have ev := eg_v
      generalize hse : ((q n).take j).foldl (visitG q k) (seen ++ [n]) = se at LP ST IN UN
      clear hse
      go_wp2_with (go_at_call 63; (refine (IH.out se wr x XA.out UN.out IN.out.1 IN.out.2 LP.out.1).mono ?_; rintro e W3 ⟨rfl, hv, hc⟩; have LQ := Aside0.mk (And.intro hv (And.intro (LP.out.2.1.trans hc) (Ro.cb LP.out.2.2 LP.out.1.m hc))); clear hv hc LP))
      go_roundg k1
      case measure => omega
      case rel => exact ⟨j + 1, (by have := QL.out; have hw : wrap64 ((j : Int) + 1) = ((j + 1 : Nat) : Int) := (by unfold wrap64; omega); show Value.int .i64 (wrap64 ((j : Int) + 1)) = _; rw [hw]), ⟨by have := hj.out; omega⟩, ⟨by rw [ST.out]; exact LQ.out⟩⟩
theorem visit_any (hh : Vh Ok b kf lb q all) : ∀ k, VisitOk Ok gt gs gv b kf lb q all k
  | 0 => fun seen W n hn hu hi hd hv => by
    have hs : n ∈ seen := by
      refine Decidable.byContradiction fun hs => ?_
      have := unseen_lt hn hs
      omega
    exact visit_old hh n hn hs hv
  | k + 1 => fun seen W n hn hu hi hd hv => by
    unfold visitG
    by_cases hs : n ∈ seen
    · rw [if_pos hs]; exact visit_old hh n hn hs hv
    · rw [if_neg hs]; exact visit_new hh k (visit_any hh k) n hn hs hu hi hd hv
theorem visit_go (hh : Vh Ok b kf lb q all) (k : Nat) (seen : List ByteArray) (W : World) (n : ByteArray) (hn : n ∈ all) (hu : unseen all seen ≤ k) (hi : ∀ x ∈ seen, x ∈ all) (hd : seen.Nodup) (hv : Vs Ok gt gs gv b kf lb seen W) :
    Calls Try.prog 63 #[.string n, .pointer (some ⟨gt, 0, none⟩), .pointer (some ⟨gs, 0, none⟩), .pointer (some ⟨gv, 0, none⟩)] W fun e W' => e = .returned (.tuple #[]) ∧ Vs Ok gt gs gv b kf lb (visitG q k seen n) W' ∧ CB b W W' := visit_any hh k seen W n hn hu hi hd hv
end
end Go.Proofs.Ytmacdknicgfglaa.Gw
end
section
/- slices.DeleteFunc at []string, by the shelf's contract, with gather's second closure. -/
namespace Go.Proofs.Ytmacdknicgfglaa.Sh
open Go.RowKit Go.Shelf Go.Sort Go.Proofs.YtmacdknicgfglaaW.PrintWords Go.Proofs.YtmacdknicgfglaaW.PrintMore Go.Proofs.YtmacdknicgfglaaW.PrintLast Go.Proofs.Ytmacdknicgfglaa.Chg Go.Proofs.Ytmacdknicgfglaa.Evt Go.Proofs.Ytmacdknicgfglaa.Mp
set_option linter.unusedVariables false
set_option linter.unusedSimpArgs false
def renF : Go.Shelf.Ren := ⟨fun | 6 => 46 | 10 => 56 | n => n, fun | 0 => 0 | 3 => 3 | 4 => 4 | 22 => 29 | 23 => 9 | 25 => 71 | n => n, fun n => n⟩
theorem laysF : Go.Proofs.SlLaysH.n10 Try.prog renF := {
  mixed := by kernel_rfl
  f6 := ⟨"slices.IndexFunc[[]string,string]", by decide, Try.func46.trans (congrArg some (by kernel_rfl))⟩
  f10 := ⟨"slices.DeleteFunc[[]string,string]", by decide, Try.func56.trans (congrArg some (by kernel_rfl))⟩
  t0 := Try.underlying0
  a0 := Try.isAgg0
  z0 := Try.sizeOf0
  v0 := Try.zeroValue0
  t3 := Try.underlying3
  a3 := Try.isAgg3
  z3 := Try.sizeOf3
  v3 := Try.zeroValue3
  t4 := Try.underlying4
  a4 := Try.isAgg4
  z4 := Try.sizeOf4
  v4 := Try.zeroValue4
  t22 := Try.underlying29
  a22 := Try.isAgg29
  z22 := Try.sizeOf29
  v22 := Try.zeroValue29
  a23 := Try.isAgg9
  z23 := Try.sizeOf9
  t25 := Try.underlying71
  a25 := Try.isAgg71
  z25 := Try.sizeOf71
  v25 := Try.zeroValue71 }
/-- A name that is not too long. -/
abbrev Nm := {s : ByteArray // s.size ≤ 100000}
instance : Inhabited Nm := ⟨⟨⟨#[]⟩, by decide⟩⟩
def encN (x : Nm) : Value := .string x.val
theorem encN_1 : OneCell encN := fun _ => rfl
def nms : (xs : List ByteArray) → (∀ x ∈ xs, x.size ≤ 100000) → List Nm
  | [], _ => []
  | x :: xs, h => ⟨x, h x List.mem_cons_self⟩ :: nms xs (fun y hy => h y (List.mem_cons_of_mem _ hy))
theorem nms_val : ∀ (xs : List ByteArray) (h : ∀ x ∈ xs, x.size ≤ 100000), (nms xs h).map (·.val) = xs
  | [], _ => rfl
  | x :: xs, h => by simp only [nms, List.map_cons]; rw [nms_val xs]
theorem nms_len (xs : List ByteArray) (h : ∀ x ∈ xs, x.size ≤ 100000) : (nms xs h).length = xs.length := by have := congrArg List.length (nms_val xs h); simpa using this
theorem encs_nm (l : List Nm) : encs encN l = encs Value.string (l.map (·.val)) := by simp [encs, encN, Function.comp_def]
theorem filter_val (p : ByteArray → Bool) : ∀ l : List Nm, (l.filter fun x => p x.val).map (·.val) = (l.map (·.val)).filter p
  | [] => rfl
  | x :: l => by
    simp only [List.map_cons, List.filter_cons]
    by_cases h : p x.val = true
    · rw [if_pos h, if_pos h, List.map_cons, filter_val p l]
    · rw [if_neg h, if_neg h, filter_val p l]
theorem filter_len_le (p : ByteArray → Bool) (l : List Nm) : (l.filter fun x => p x.val).length ≤ l.length := List.length_filter_le _ _
theorem grown_then {W W1 W2 : World} {row : Option Nat} (h : W.grownBy W1 row) (hb : Below W1.heap.size W1 W2) : W.grownBy W2 row :=
  ⟨hb.os.trans h.os, hb.tape.trans h.tape, hb.output.trans h.output, Nat.le_trans h.size hb.size, fun k hk hne => (hb.block k (Nat.lt_of_lt_of_le hk h.size)).trans (h.block k hk hne)⟩
/-- The contract, on a row of one's own, for whatever predicate that only reads. -/
theorem deletefunc_any {w0 W : World} {v : Value} {xs : List ByteArray} (h : Ro Kd.string 9 w0 W v xs) (h0 : 0 < xs.length) (hm : xs.length ≤ 1000000) (hz : ∀ x ∈ xs, x.size ≤ 100000) (p : ByteArray → Bool) (g : Nat) (lb : Array Value) (eg : ∀ args w, (callFunc g args).run Try.prog w = .ok (.enter g args) w)
    (hp : ∀ (W' : World) (x : ByteArray), x.size ≤ 100000 → W.grownBy W' v.ownBlock → Calls Try.prog g (#[.string x] ++ lb) W' fun e w' => e = .returned (.bool (!p x)) ∧ ∃ q, w' = W'.drewN q) :
    Calls Try.prog 56 #[v, .func (.func g) #[] lb] W fun e W' => ∃ v', e = .returned v' ∧ Ro Kd.string 9 w0 W' v' (xs.filter p) ∧ W.grownBy W' v.ownBlock := by
  have ho := Kd.own_of_R h.row
  obtain ⟨hl, hc | ⟨gb, cap, cur, rfl, hb, hh, hnc, hm2, hs, ht⟩⟩ := id ho
  · have := hc.2; omega
  · have hln := nms_len xs hz
    have ho2 : W.ownsRow w0.heap.size 9 1 (.slice (some ⟨gb, 0, none⟩) xs.length cap) xs.length (encs encN (nms xs hz)) := by rw [encs_nm, nms_val]; exact ho
    have hH := own_holds (xs := nms xs hz) ho2 hln.symm
    have hc := AnyE.slices_DeleteFunc laysF encN encN_1 (fun x => !p x.val) g lb eg default Try.zeroValue9 gb 0 cap (nms xs hz).toArray W
      (fun W' x hb' => hp W' x.val x.property ⟨hb'.os, hb'.tape, hb'.output, hb'.size, fun k hk _ => hb'.block k hk⟩)
      (fun n os dk x _ => hp _ x.val x.property (grown_then (putRow_grown (W := W) dk n 0) (below_grown _ 0 os))) hH (by simp [hln]; omega) (by simp [hln]; omega)
    simp only [List.size_toArray, Bool.not_not] at hc
    rw [hln] at hc
    refine hc.mono ?_
    rintro e W' ⟨rfl, q, rfl⟩
    have hle := filter_len_le p (nms xs hz)
    refine ⟨_, rfl, ⟨Kd.R_of_own ?_ (fun _ _ => trivial)⟩, putRow_grown _ _ _⟩
    have h2 := putRow_own (enc := encN) ho2 (((nms xs hz).filter fun x => p x.val) ++ List.replicate (xs.length - ((nms xs hz).filter fun x => p x.val).length) default) (by rw [List.length_append, List.length_replicate]; omega) q
    have h3 := own_take h2 (m := ((nms xs hz).filter fun x => p x.val).length) (by omega)
    have e1 : (encs encN (((nms xs hz).filter fun x => p x.val) ++ List.replicate (xs.length - ((nms xs hz).filter fun x => p x.val).length) default)).take (((nms xs hz).filter fun x => p x.val).length * 1) = encs Value.string (xs.filter p) := by
      have e2 : xs.filter p = ((nms xs hz).filter fun x => p x.val).map (·.val) := by rw [filter_val, nms_val]
      rw [e2, ← encs_nm, Nat.mul_one]
      simp only [encs, List.map_append]
      rw [List.take_left' (by simp)]
    have e3 : (xs.filter p).length = ((nms xs hz).filter fun x => p x.val).length := by
      have h4 := congrArg List.length (filter_val p (nms xs hz))
      rw [nms_val, List.length_map] at h4
      exact h4.symm
    rw [e1] at h3
    rw [e3]
    exact h3
set_option maxRecDepth 100000
set_option maxHeartbeats 1000000 in
/-- gather's second closure: not seen. -/
theorem unseen_any {W : World} {gt b n : Nat} {p : ByteArray → Bool} (hb : Bk W gt 65 #[.map (some b)]) (hm : MB W b n p) (x : ByteArray) (hx : x.size ≤ 100000) : Calls Try.prog 64 #[.string x, .pointer (some ⟨gt, 0, none⟩)] W fun e w' => e = .returned (.bool (!p x)) ∧ ∃ q, w' = W.drewN q := by
  have M := Aside0.mk hm
  have x0 := hb.blk.cell 0 rfl
  have SZ : x.size ≤ maxLen := by unfold maxLen; omega
  obtain ⟨r, hr⟩ : ∃ r, Aside0 (p x = r) := ⟨_, ⟨rfl⟩⟩
  clear hm hb
  go_enter Try.func64, Try.ntmps64
  go_wp2_with (refine Mp.getB_ev rfl rfl (s := x) (v := r) rfl rfl SZ M.out hr.out ?_)
  go_ret
  exact ⟨by rw [hr.out]; rfl, 0, rfl⟩
theorem eg_un : ∀ args w, (callFunc 64 args).run Try.prog w = .ok (.enter 64 args) w := enters_of Try.func64 (by kernel_rfl) rfl
end Go.Proofs.Ytmacdknicgfglaa.Sh
end
section
/- Printed by a program of this session (a copy of the kit's print.py, one text for all functions of the seat), with some contracts typed by hand among them: for each Go function a Lean function and a proof that the code comes to its answers. -/
namespace Go.Proofs.Ytmacdknicgfglaa.Impl
open Go.RowKit Go.Proofs.YtmacdknicgfglaaW.PrintWords Go.Proofs.YtmacdknicgfglaaW.PrintLast Go.Proofs.YtmacdknicgfglaaW.PrintMore
attribute [local go_sem] max2_int min2_int max_two min_two
set_option linter.unusedVariables false
set_option linter.unusedSimpArgs false

/-! ### busbarlaw12_TooLarge: function 15 -/
def busbarlaw12_TooLarge.l0 : Nat → Int → List (S41) → Int → Int → ByteArray → List (S41) → List (S101) → ByteArray → Option (Int)
  | 0, _, _, _, _, _, _, _, _ => none
  | k + 1, x3, x7, x8, x9, x102000, x102001, x102002, x102003 => if x9 < x8 then (if 0 ≤ x9 then (if x9 < (x7.length : Int) then (busbarlaw12_TooLarge.l0 k (wrap64 (x3 + (wrap64 ((wrap64 (1 + (((rd_T41 x7 x9).f2).size : Int))) + (((rd_T41 x7 x9).f3).size : Int))))) x7 x8 (wrap64 (x9 + 1)) x102000 x102001 x102002 x102003) else (none)) else (none)) else (if x3 > 2000 then (some 1) else (if (x102001.length : Int) > 60 then (some 1) else (some 0)))
def busbarlaw12_TooLarge.f (k : Nat) (a0_0 : ByteArray) (l0_1 : List (S41)) (l0_2 : List (S101)) (a0_3 : ByteArray) : Option (Int) := busbarlaw12_TooLarge.l0 k 0 l0_1 (l0_1.length : Int) 0 a0_0 l0_1 l0_2 a0_3
theorem busbarlaw12_TooLarge.mono_l : ∀ k, (∀ y0 y1 y2 y3 y4 y5 y6 y7, LeO (busbarlaw12_TooLarge.l0 k y0 y1 y2 y3 y4 y5 y6 y7) (busbarlaw12_TooLarge.l0 (k + 1) y0 y1 y2 y3 y4 y5 y6 y7))
  | 0 => fun _ _ _ _ _ _ _ _ r h => by simp [busbarlaw12_TooLarge.l0] at h
  | k + 1 => by
    have ih0 := busbarlaw12_TooLarge.mono_l k
    · intro y0 y1 y2 y3 y4 y5 y6 y7
      unfold busbarlaw12_TooLarge.l0
      repeat' first
      | (with_reducible exact ih0 _ _ _ _ _ _ _ _)
      | (with_reducible exact LeO.refl _)
      | (with_reducible exact LeO.none _)
      | (with_reducible refine LeO.ite ?_ ?_)
      | (with_reducible refine LeO.bind ?_ (fun _ => ?_))
      | exact ih0 _ _ _ _ _ _ _ _
      | exact LeO.none _
      | refine LeO.ite ?_ ?_
      | refine LeO.bind ?_ (fun _ => ?_)
theorem busbarlaw12_TooLarge.mono : ∀ a0 a1 a2 a3 k, LeO (busbarlaw12_TooLarge.f k a0 a1 a2 a3) (busbarlaw12_TooLarge.f (k + 1) a0 a1 a2 a3) := by
  intro a0 a1 a2 a3 k
  have ih0 := busbarlaw12_TooLarge.mono_l k
  unfold busbarlaw12_TooLarge.f
  repeat' first
      | (with_reducible exact ih0 _ _ _ _ _ _ _ _)
      | (with_reducible exact LeO.refl _)
      | (with_reducible exact LeO.none _)
      | (with_reducible refine LeO.ite ?_ ?_)
      | (with_reducible refine LeO.bind ?_ (fun _ => ?_))
      | exact ih0 _ _ _ _ _ _ _ _
      | exact LeO.none _
      | refine LeO.ite ?_ ?_
      | refine LeO.bind ?_ (fun _ => ?_)
set_option maxHeartbeats 8000000 in
set_option maxRecDepth 100000 in
theorem busbarlaw12_TooLarge.calls (k : Nat) (a0_0 : ByteArray) (A0_1 : Option Addr) (c0_1 : Nat) (l0_1 : List (S41)) (A0_2 : Option Addr) (c0_2 : Nat) (l0_2 : List (S101)) (a0_3 : ByteArray) (r : Int) (w : World) (hr0_1 : Kd.C k41 w A0_1 l0_1.length l0_1) (hc0_1 : l0_1.length ≤ c0_1) (hr0_2 : Kd.C k101 w A0_2 l0_2.length l0_2) (hc0_2 : l0_2.length ≤ c0_2) (h : busbarlaw12_TooLarge.f k a0_0 l0_1 l0_2 a0_3 = some r) :
    Calls Try.prog 15 #[.agg #[.string a0_0, .slice A0_1 l0_1.length c0_1, .slice A0_2 l0_2.length c0_2, .string a0_3]] w fun e w' => e = .returned (.int .i64 r) ∧ Below w.heap.size w w' := by
  have hu25 := Try.underlying25
  have hu41 := Try.underlying41
  have HR0_1 := Aside0.mk hr0_1
  have HC0_1 := Aside0.mk hc0_1
  clear hr0_1 hc0_1
  have HR0_2 := Aside0.mk hr0_2
  have HC0_2 := Aside0.mk hc0_2
  clear hr0_2 hc0_2
  have HB := Aside0.mk (Below.refl w.heap.size w)
  have H : (busbarlaw12_TooLarge.l0 k 0 l0_1 (l0_1.length : Int) 0 a0_0 l0_1 l0_2 a0_3) = some r := h
  clear h
  have H' := Aside0.mk H
  clear H
  go_enter Try.func15, Try.ntmps15
  go_wp2_with (first | ((with_reducible refine gate_dst (N := 1) rfl ?_); (try (refine gate_guard (by rfl) ?_; dsimp only)); refine box_event ?hg (N := 1) ?hd (cs := #[.string a0_0, .slice A0_1 l0_1.length c0_1, .slice A0_2 l0_2.length c0_2, .string a0_3]) (t := 25) ?hr ?_; (case hd => rfl); (case hg => rfl); (case hr => first | (go_simp; done) | (go_simp; rfl)); intro gb101 hg w2 hbox hb; have n0_ := Aside0.mk (below_step (by repeat (first | (with_reducible first | exact HB.out | apply below_alloc | apply pw_below_drewN | apply below_drew1) | exact HB.out)) hb); have n1_ := Aside0.mk (hbox); have n2_ := Aside0.mk ((by rw [hg]; exact (below_size (by repeat (first | (with_reducible first | exact HB.out | apply below_alloc | apply pw_below_drewN | apply below_drew1) | exact HB.out))) : w.heap.size ≤ gb101)); have n3_ := Aside0.mk ((by rw [hg]; exact (below_size (by repeat (first | (with_reducible first | exact HB.out | apply below_alloc | apply pw_below_drewN | apply below_drew1) | exact HB.out))) : w.heap.size ≤ gb101)); clear HB; have HB := n0_; have BK101 := n1_; have GW101 := n2_; have GE101 := n3_; clear n0_ n1_ n2_ n3_; clear hb hbox hg; have hcz3_0 : w2.cell? ⟨gb101, 0, none⟩ = some (.string a0_0) := (blk_cell BK101.out 0).trans rfl; have hcz3_1 : w2.cell? ⟨gb101, 1, none⟩ = some (.slice A0_1 l0_1.length c0_1) := (blk_cell BK101.out 1).trans rfl; have hcz3_2 : w2.cell? ⟨gb101, 2, none⟩ = some (.slice A0_2 l0_2.length c0_2) := (blk_cell BK101.out 2).trans rfl; have hcz3_3 : w2.cell? ⟨gb101, 3, none⟩ = some (.string a0_3) := (blk_cell BK101.out 3).trans rfl; have hfz3_0 := blk_frozen BK101.out 0; have hfz3_1 := blk_frozen BK101.out 1; have hfz3_2 := blk_frozen BK101.out 2; have hfz3_3 := blk_frozen BK101.out 3))
  go_loopg [3, 9] k (fun kq v3 v9 w' => ∃ (x3_1 : Int) (x9_1 : Int), v3 = .int .i64 x3_1 ∧ v9 = .int .i64 x9_1 ∧ Aside0 (busbarlaw12_TooLarge.l0 kq x3_1 l0_1 (l0_1.length : Int) x9_1 a0_0 l0_1 l0_2 a0_3 = some r) ∧ Aside0 (kq ≤ k) ∧ Aside0 (w'.heap[gb101]? = some (.cells #[.string a0_0, (.slice A0_1 l0_1.length c0_1), (.slice A0_2 l0_2.length c0_2), .string a0_3] 25 (0, 0))) ∧ Aside0 (Below w.heap.size w w'))
  case atStart => exact ⟨(0), (0), (by first | rfl | (simp; done) | (simp [*]; done)), (by first | rfl | (simp; done) | (simp [*]; done)), H', ⟨Nat.le_refl _⟩, ⟨by (with_reducible repeat (first | refine blk_drewN ?_ _ | refine blk_drew ?_ | refine blk_alloc ?_ _)); exact BK101.out⟩, ⟨by repeat (first | (with_reducible first | exact HB.out | apply below_alloc | apply pw_below_drewN | apply below_drew1 | refine below_set ?_ GE101.out) | exact HB.out)⟩⟩
  case round =>
    clear H'
    try clear c1
    try clear p2
    try clear hcz3_0
    try clear hcz3_1
    try clear hcz3_2
    try clear hcz3_3
    try clear hfz3_0
    try clear hfz3_1
    try clear hfz3_2
    try clear hfz3_3
    obtain ⟨x3_1, x9_1, rfl, rfl, HA, HK1, BK101, HB⟩ := hrel
    cases gk with
    | zero => exact absurd HA.out (by simp [busbarlaw12_TooLarge.l0])
    | succ k1 =>
      have H := HA.out
      clear HA
      simp only [busbarlaw12_TooLarge.l0] at H
      by_cases c4 : x9_1 < (l0_1.length : Int)
      · rw [if_pos c4] at H
        have c4b0 : decide (x9_1 < (l0_1.length : Int)) = true := decide_eq_true c4
        clear c4
        by_cases c5 : 0 ≤ x9_1
        · rw [if_pos c5] at H
          have c5b0 : decide (0 ≤ x9_1) = true := decide_eq_true c5
          clear c5
          by_cases c6 : x9_1 < (l0_1.length : Int)
          · rw [if_pos c6] at H
            have c6b0 : decide (x9_1 < (l0_1.length : Int)) = true := decide_eq_true c6
            clear c6
            have H' := Aside0.mk H
            clear H
            have p102 : 0 ≤ (x9_1 : Int) := of_decide_eq_true (by first | (with_reducible assumption) | assumption)
            have q102 : x9_1 < (l0_1.length : Int) := of_decide_eq_true (by first | (with_reducible assumption) | assumption)
            obtain ⟨ad102, e102, hx102_0, hx102_1, hx102_2, hx102_3, hx102_4⟩ := at_T41 HR0_1.out x9_1 p102 q102
            cases e102
            replace hx102_0 := (HB.out.cell (World.block_lt_of_cell? w _ hx102_0)).trans hx102_0
            replace hx102_1 := (HB.out.cell (World.block_lt_of_cell? w _ hx102_1)).trans hx102_1
            replace hx102_2 := (HB.out.cell (World.block_lt_of_cell? w _ hx102_2)).trans hx102_2
            replace hx102_3 := (HB.out.cell (World.block_lt_of_cell? w _ hx102_3)).trans hx102_3
            replace hx102_4 := (HB.out.cell (World.block_lt_of_cell? w _ hx102_4)).trans hx102_4
            replace p102 := eq_true p102
            replace q102 := eq_true q102
            go_wp2_with (first | ((with_reducible refine gate_dst (N := 5) rfl ?_); (try (refine gate_guard (by rfl) ?_; dsimp only)); refine box_event ?hg (N := 5) ?hd (cs := #[.int .i64 0, .int .i64 0, .int .i64 0, .string (⟨#[]⟩ : ByteArray), .string (⟨#[]⟩ : ByteArray)]) (t := 41) ?hr ?_; (case hd => rfl); (case hg => rfl); (case hr => first | (go_simp; done) | (go_simp; rfl)); intro gb103 hg w7 hbox hb; have n0_ := Aside0.mk (blk_below (g := gb101) (o := .cells #[.string a0_0, .slice (some ad102) l0_1.length c0_1, .slice A0_2 l0_2.length c0_2, .string a0_3] 25 (0, 0)) (by (with_reducible repeat (first | refine blk_drewN ?_ _ | refine blk_drew ?_ | refine blk_alloc ?_ _)); exact BK101.out) hb); have n1_ := Aside0.mk (below_step (by repeat (first | (with_reducible first | exact HB.out | apply below_alloc | apply pw_below_drewN | apply below_drew1 | refine below_set ?_ GE101.out) | exact HB.out)) hb); have n2_ := Aside0.mk (hbox); have n3_ := Aside0.mk ((by rw [hg]; exact (below_size (by repeat (first | (with_reducible first | exact HB.out | apply below_alloc | apply pw_below_drewN | apply below_drew1 | refine below_set ?_ GE101.out) | exact HB.out))) : w.heap.size ≤ gb103)); have n4_ := Aside0.mk ((by rw [hg]; exact (below_size (by repeat (first | (with_reducible first | exact HB.out | apply below_alloc | apply pw_below_drewN | apply below_drew1 | refine below_set ?_ GE101.out) | exact HB.out))) : w.heap.size ≤ gb103)); have n5_ := Aside0.mk ((by rw [hg]; exact Nat.ne_of_lt (blk_lt (g := gb101) (o := .cells #[.string a0_0, .slice (some ad102) l0_1.length c0_1, .slice A0_2 l0_2.length c0_2, .string a0_3] 25 (0, 0)) (by (with_reducible repeat (first | refine blk_drewN ?_ _ | refine blk_drew ?_ | refine blk_alloc ?_ _)); exact BK101.out)) : gb101 ≠ gb103)); have n6_ := Aside0.mk ((by rw [hg]; exact Nat.ne_of_gt (blk_lt (g := gb101) (o := .cells #[.string a0_0, .slice (some ad102) l0_1.length c0_1, .slice A0_2 l0_2.length c0_2, .string a0_3] 25 (0, 0)) (by (with_reducible repeat (first | refine blk_drewN ?_ _ | refine blk_drew ?_ | refine blk_alloc ?_ _)); exact BK101.out)) : gb103 ≠ gb101)); clear BK101; clear HB; have BK101 := n0_; have HB := n1_; have BK103 := n2_; have GW103 := n3_; have GE103 := n4_; have NB101_103 := n5_; have NB103_101 := n6_; clear n0_ n1_ n2_ n3_ n4_ n5_ n6_; clear hb hbox hg; have hnb8 := NB103_101.out; have hnc8 := NB101_103.out; have hcz9_0 : w7.cell? ⟨gb103, 0, none⟩ = some (.int .i64 0) := (blk_cell BK103.out 0).trans rfl; have hcz9_1 : w7.cell? ⟨gb103, 1, none⟩ = some (.int .i64 0) := (blk_cell BK103.out 1).trans rfl; have hcz9_2 : w7.cell? ⟨gb103, 2, none⟩ = some (.int .i64 0) := (blk_cell BK103.out 2).trans rfl; have hcz9_3 : w7.cell? ⟨gb103, 3, none⟩ = some (.string (⟨#[]⟩ : ByteArray)) := (blk_cell BK103.out 3).trans rfl; have hcz9_4 : w7.cell? ⟨gb103, 4, none⟩ = some (.string (⟨#[]⟩ : ByteArray)) := (blk_cell BK103.out 4).trans rfl; have hfz9_0 := blk_frozen BK103.out 0; have hfz9_1 := blk_frozen BK103.out 1; have hfz9_2 := blk_frozen BK103.out 2; have hfz9_3 := blk_frozen BK103.out 3; have hfz9_4 := blk_frozen BK103.out 4))
            go_roundg k1
            case measure => have := HK1.out; omega
            case rel => exact ⟨(wrap64 (x3_1 + (wrap64 ((wrap64 (1 + (((rd_T41 l0_1 x9_1).f2).size : Int))) + (((rd_T41 l0_1 x9_1).f3).size : Int))))), (wrap64 (x9_1 + 1)), (by first | rfl | (simp; done) | (simp [*]; done)), (by first | rfl | (simp; done) | (simp [*]; done)), H', ⟨by have := HK1.out; omega⟩, ⟨by (with_reducible repeat (first | refine blk_drewN ?_ _ | refine blk_drew ?_ | refine blk_alloc ?_ _)); refine blk_far ?_ NB101_103.out _; (with_reducible repeat (first | refine blk_drewN ?_ _ | refine blk_drew ?_ | refine blk_alloc ?_ _)); refine blk_far ?_ NB101_103.out _; (with_reducible repeat (first | refine blk_drewN ?_ _ | refine blk_drew ?_ | refine blk_alloc ?_ _)); refine blk_far ?_ NB101_103.out _; (with_reducible repeat (first | refine blk_drewN ?_ _ | refine blk_drew ?_ | refine blk_alloc ?_ _)); refine blk_far ?_ NB101_103.out _; (with_reducible repeat (first | refine blk_drewN ?_ _ | refine blk_drew ?_ | refine blk_alloc ?_ _)); refine blk_far ?_ NB101_103.out _; (with_reducible repeat (first | refine blk_drewN ?_ _ | refine blk_drew ?_ | refine blk_alloc ?_ _)); exact BK101.out⟩, ⟨by repeat (first | (with_reducible first | exact HB.out | apply below_alloc | apply pw_below_drewN | apply below_drew1 | refine below_set ?_ GE101.out | refine below_set ?_ GE103.out) | exact HB.out)⟩⟩
          · rw [if_neg c6] at H
            exact absurd H (by simp)
        · rw [if_neg c5] at H
          exact absurd H (by simp)
      · rw [if_neg c4] at H
        have c4b0 : decide (x9_1 < (l0_1.length : Int)) = false := decide_eq_false c4
        clear c4
        by_cases c10 : x3_1 > 2000
        · rw [if_pos c10] at H
          have c10b0 : decide (2000 < x3_1) = true := decide_eq_true c10
          clear c10
          obtain rfl := Option.some.inj H
          go_wp2
          go_ret
          exact ⟨by first | rfl | (simp [errW_none, errW_some] <;> rfl) | (simp [*, errW_none, errW_some] <;> rfl), by repeat (first | (with_reducible first | exact HB.out | apply below_alloc | apply pw_below_drewN | apply below_drew1 | refine below_set ?_ GE101.out) | exact HB.out)⟩
        · rw [if_neg c10] at H
          have c10b0 : decide (2000 < x3_1) = false := decide_eq_false c10
          clear c10
          by_cases c11 : (l0_1.length : Int) > 60
          · rw [if_pos c11] at H
            have c11b0 : decide (60 < (l0_1.length : Int)) = true := decide_eq_true c11
            have c11b1 : decide (60 < l0_1.length) = true := decide_eq_true (by omega)
            clear c11
            obtain rfl := Option.some.inj H
            have hcz12_0 : wr.cell? ⟨gb101, 0, none⟩ = some (.string a0_0) := (blk_cell BK101.out 0).trans rfl
            have hcz12_1 : wr.cell? ⟨gb101, 1, none⟩ = some (.slice A0_1 l0_1.length c0_1) := (blk_cell BK101.out 1).trans rfl
            have hcz12_2 : wr.cell? ⟨gb101, 2, none⟩ = some (.slice A0_2 l0_2.length c0_2) := (blk_cell BK101.out 2).trans rfl
            have hcz12_3 : wr.cell? ⟨gb101, 3, none⟩ = some (.string a0_3) := (blk_cell BK101.out 3).trans rfl
            have hfz12_0 := blk_frozen BK101.out 0
            have hfz12_1 := blk_frozen BK101.out 1
            have hfz12_2 := blk_frozen BK101.out 2
            have hfz12_3 := blk_frozen BK101.out 3
            go_wp2
            go_ret
            exact ⟨by first | rfl | (simp [errW_none, errW_some] <;> rfl) | (simp [*, errW_none, errW_some] <;> rfl), by repeat (first | (with_reducible first | exact HB.out | apply below_alloc | apply pw_below_drewN | apply below_drew1 | refine below_set ?_ GE101.out) | exact HB.out)⟩
          · rw [if_neg c11] at H
            have c11b0 : decide (60 < (l0_1.length : Int)) = false := decide_eq_false c11
            have c11b1 : decide (60 < l0_1.length) = false := decide_eq_false (by omega)
            clear c11
            obtain rfl := Option.some.inj H
            have hcz13_0 : wr.cell? ⟨gb101, 0, none⟩ = some (.string a0_0) := (blk_cell BK101.out 0).trans rfl
            have hcz13_1 : wr.cell? ⟨gb101, 1, none⟩ = some (.slice A0_1 l0_1.length c0_1) := (blk_cell BK101.out 1).trans rfl
            have hcz13_2 : wr.cell? ⟨gb101, 2, none⟩ = some (.slice A0_2 l0_2.length c0_2) := (blk_cell BK101.out 2).trans rfl
            have hcz13_3 : wr.cell? ⟨gb101, 3, none⟩ = some (.string a0_3) := (blk_cell BK101.out 3).trans rfl
            have hfz13_0 := blk_frozen BK101.out 0
            have hfz13_1 := blk_frozen BK101.out 1
            have hfz13_2 := blk_frozen BK101.out 2
            have hfz13_3 := blk_frozen BK101.out 3
            go_wp2
            go_ret
            exact ⟨by first | rfl | (simp [errW_none, errW_some] <;> rfl) | (simp [*, errW_none, errW_some] <;> rfl), by repeat (first | (with_reducible first | exact HB.out | apply below_alloc | apply pw_below_drewN | apply below_drew1 | refine below_set ?_ GE101.out) | exact HB.out)⟩

/-! ### slices_Equal_string_string: function 17 -/
def slices_Equal_string_string.l0 : Nat → List ByteArray → List ByteArray → Int → Int → Option (Bool)
  | 0, _, _, _, _ => none
  | k + 1, x0, x1, x12, x13 => if x13 < x12 then (if 0 ≤ x13 then (if x13 < (x0.length : Int) then (if x13 < (x1.length : Int) then (if (rdOf ByteArray.empty x0 x13).toList = (rdOf ByteArray.empty x1 x13).toList then (slices_Equal_string_string.l0 k x0 x1 x12 (wrap64 (x13 + 1))) else (some false)) else (none)) else (none)) else (none)) else (some true)
def slices_Equal_string_string.f (k : Nat) (l0 : List ByteArray) (l1 : List ByteArray) : Option (Bool) := if (l0.length : Int) = (l1.length : Int) then (slices_Equal_string_string.l0 k l0 l1 (l0.length : Int) 0) else (some false)
theorem slices_Equal_string_string.mono_l : ∀ k, (∀ y0 y1 y2 y3, LeO (slices_Equal_string_string.l0 k y0 y1 y2 y3) (slices_Equal_string_string.l0 (k + 1) y0 y1 y2 y3))
  | 0 => fun _ _ _ _ r h => by simp [slices_Equal_string_string.l0] at h
  | k + 1 => by
    have ih0 := slices_Equal_string_string.mono_l k
    · intro y0 y1 y2 y3
      unfold slices_Equal_string_string.l0
      repeat' first
      | (with_reducible exact ih0 _ _ _ _)
      | (with_reducible exact LeO.refl _)
      | (with_reducible exact LeO.none _)
      | (with_reducible refine LeO.ite ?_ ?_)
      | (with_reducible refine LeO.bind ?_ (fun _ => ?_))
      | exact ih0 _ _ _ _
      | exact LeO.none _
      | refine LeO.ite ?_ ?_
      | refine LeO.bind ?_ (fun _ => ?_)
theorem slices_Equal_string_string.mono : ∀ a0 a1 k, LeO (slices_Equal_string_string.f k a0 a1) (slices_Equal_string_string.f (k + 1) a0 a1) := by
  intro a0 a1 k
  have ih0 := slices_Equal_string_string.mono_l k
  unfold slices_Equal_string_string.f
  repeat' first
      | (with_reducible exact ih0 _ _ _ _)
      | (with_reducible exact LeO.refl _)
      | (with_reducible exact LeO.none _)
      | (with_reducible refine LeO.ite ?_ ?_)
      | (with_reducible refine LeO.bind ?_ (fun _ => ?_))
      | exact ih0 _ _ _ _
      | exact LeO.none _
      | refine LeO.ite ?_ ?_
      | refine LeO.bind ?_ (fun _ => ?_)
set_option maxHeartbeats 8000000 in
set_option maxRecDepth 100000 in
theorem slices_Equal_string_string.calls (k : Nat) (A0 : Option Addr) (c0 : Nat) (l0 : List ByteArray) (A1 : Option Addr) (c1 : Nat) (l1 : List ByteArray) (r : Bool) (w : World) (hr0 : Kd.C Kd.string w A0 l0.length l0) (hc0 : l0.length ≤ c0) (hr1 : Kd.C Kd.string w A1 l1.length l1) (hc1 : l1.length ≤ c1) (h : slices_Equal_string_string.f k l0 l1 = some r) :
    Calls Try.prog 17 #[.slice A0 l0.length c0, .slice A1 l1.length c1] w fun e w' => e = .returned (.bool r) ∧ Drawn0 w w' := by
  have HR0 := Aside0.mk hr0
  have HC0 := Aside0.mk hc0
  clear hr0 hc0
  have HR1 := Aside0.mk hr1
  have HC1 := Aside0.mk hc1
  clear hr1 hc1
  have H : (if (l0.length : Int) = (l1.length : Int) then (slices_Equal_string_string.l0 k l0 l1 (l0.length : Int) 0) else (some false)) = some r := h
  clear h
  by_cases c3 : (l0.length : Int) = (l1.length : Int)
  · rw [if_pos c3] at H
    have c3b0 : ((l0.length : Int) == (l1.length : Int)) = true := beq_iff_eq.mpr c3
    have c3b1 : ((l0.length : Int) != (l1.length : Int)) = false := bne_eq_false_iff_eq.mpr c3
    have c3b2 : (l0.length == l1.length) = true := by first | simpa using c3 | (simp at c3 ⊢; omega)
    clear c3
    have H' := Aside0.mk H
    clear H
    go_enter Try.func17, Try.ntmps17
    go_wp2
    repeat (go_quiet (fail); try go_wp2)
    go_loopg [13] k (fun kq v13 w' => ∃ (x13_1 : Int), v13 = .int .i64 x13_1 ∧ Aside0 (slices_Equal_string_string.l0 kq l0 l1 (l0.length : Int) x13_1 = some r) ∧ Aside0 (kq ≤ k) ∧ Drawn0 w w')
    case atStart => exact ⟨(0), (by first | rfl | (simp; done) | (simp [*]; done)), H', ⟨Nat.le_refl _⟩, by repeat (first | exact Drawn0.refl _ | apply Drawn0.step)⟩
    case round =>
      clear H'
      try clear c1
      try clear p2
      try clear c3
      try clear c3b0
      try clear c3b1
      try clear c3b2
      obtain ⟨x13_1, rfl, HA, HK1, ⟨m1, rfl⟩⟩ := hrel
      cases gk with
      | zero => exact absurd HA.out (by simp [slices_Equal_string_string.l0])
      | succ k1 =>
        have H := HA.out
        clear HA
        simp only [slices_Equal_string_string.l0] at H
        by_cases c4 : x13_1 < (l0.length : Int)
        · rw [if_pos c4] at H
          have c4b0 : decide (x13_1 < (l0.length : Int)) = true := decide_eq_true c4
          clear c4
          by_cases c5 : 0 ≤ x13_1
          · rw [if_pos c5] at H
            have c5b0 : decide (0 ≤ x13_1) = true := decide_eq_true c5
            clear c5
            by_cases c6 : x13_1 < (l0.length : Int)
            · rw [if_pos c6] at H
              have c6b0 : decide (x13_1 < (l0.length : Int)) = true := decide_eq_true c6
              clear c6
              by_cases c7 : x13_1 < (l1.length : Int)
              · rw [if_pos c7] at H
                have c7b0 : decide (x13_1 < (l1.length : Int)) = true := decide_eq_true c7
                clear c7
                by_cases c8 : (rdOf ByteArray.empty l0 x13_1).toList = (rdOf ByteArray.empty l1 x13_1).toList
                · rw [if_pos c8] at H
                  have c8b0 : ((rdOf ByteArray.empty l0 x13_1).toList == (rdOf ByteArray.empty l1 x13_1).toList) = true := beq_iff_eq.mpr c8
                  have c8b1 : ((rdOf ByteArray.empty l0 x13_1).toList != (rdOf ByteArray.empty l1 x13_1).toList) = false := bne_eq_false_iff_eq.mpr c8
                  clear c8
                  have H' := Aside0.mk H
                  clear H
                  have p104 : 0 ≤ (x13_1 : Int) := of_decide_eq_true (by first | (with_reducible assumption) | assumption)
                  have q104 : x13_1 < (l0.length : Int) := of_decide_eq_true (by first | (with_reducible assumption) | assumption)
                  obtain ⟨ad104, e104, hx104_0⟩ := Kd.at_string HR0.out x13_1 p104 q104
                  cases e104
                  replace p104 := eq_true p104
                  replace q104 := eq_true q104
                  have p105 : 0 ≤ (x13_1 : Int) := of_decide_eq_true (by first | (with_reducible assumption) | assumption)
                  have q105 : x13_1 < (l1.length : Int) := of_decide_eq_true (by first | (with_reducible assumption) | assumption)
                  obtain ⟨ad105, e105, hx105_0⟩ := Kd.at_string HR1.out x13_1 p105 q105
                  cases e105
                  replace p105 := eq_true p105
                  replace q105 := eq_true q105
                  go_wp2
                  repeat (go_quiet (fail); try go_wp2)
                  go_roundg k1
                  case measure => have := HK1.out; omega
                  case rel => exact ⟨(wrap64 (x13_1 + 1)), (by first | rfl | (simp; done) | (simp [*]; done)), H', ⟨by have := HK1.out; omega⟩, by repeat (first | exact Drawn0.refl _ | apply Drawn0.step)⟩
                · rw [if_neg c8] at H
                  have c8b0 : ((rdOf ByteArray.empty l0 x13_1).toList == (rdOf ByteArray.empty l1 x13_1).toList) = false := beq_eq_false_iff_ne.mpr c8
                  have c8b1 : ((rdOf ByteArray.empty l0 x13_1).toList != (rdOf ByteArray.empty l1 x13_1).toList) = true := bne_iff_ne.mpr c8
                  obtain rfl := Option.some.inj H
                  have p104 : 0 ≤ (x13_1 : Int) := of_decide_eq_true (by first | (with_reducible assumption) | assumption)
                  have q104 : x13_1 < (l0.length : Int) := of_decide_eq_true (by first | (with_reducible assumption) | assumption)
                  obtain ⟨ad104, e104, hx104_0⟩ := Kd.at_string HR0.out x13_1 p104 q104
                  cases e104
                  replace p104 := eq_true p104
                  replace q104 := eq_true q104
                  have p105 : 0 ≤ (x13_1 : Int) := of_decide_eq_true (by first | (with_reducible assumption) | assumption)
                  have q105 : x13_1 < (l1.length : Int) := of_decide_eq_true (by first | (with_reducible assumption) | assumption)
                  obtain ⟨ad105, e105, hx105_0⟩ := Kd.at_string HR1.out x13_1 p105 q105
                  cases e105
                  replace p105 := eq_true p105
                  replace q105 := eq_true q105
                  go_wp2
                  repeat (go_quiet (fail); try go_wp2)
                  go_ret
                  exact ⟨by first | rfl | (simp; done) | (simp [*]; done), by repeat (first | exact Drawn0.refl _ | apply Drawn0.step)⟩
              · rw [if_neg c7] at H
                exact absurd H (by simp)
            · rw [if_neg c6] at H
              exact absurd H (by simp)
          · rw [if_neg c5] at H
            exact absurd H (by simp)
        · rw [if_neg c4] at H
          have c4b0 : decide (x13_1 < (l0.length : Int)) = false := decide_eq_false c4
          clear c4
          obtain rfl := Option.some.inj H
          go_wp2
          repeat (go_quiet (fail); try go_wp2)
          go_ret
          exact ⟨by first | rfl | (simp; done) | (simp [*]; done), by repeat (first | exact Drawn0.refl _ | apply Drawn0.step)⟩
  · rw [if_neg c3] at H
    have c3b0 : ((l0.length : Int) == (l1.length : Int)) = false := beq_eq_false_iff_ne.mpr c3
    have c3b1 : ((l0.length : Int) != (l1.length : Int)) = true := bne_iff_ne.mpr c3
    have c3b2 : (l0.length == l1.length) = false := by first | simpa using c3 | (simp at c3 ⊢; omega)
    obtain rfl := Option.some.inj H
    go_enter Try.func17, Try.ntmps17
    go_wp2
    repeat (go_quiet (fail); try go_wp2)
    go_ret
    exact ⟨by first | rfl | (simp; done) | (simp [*]; done), by repeat (first | exact Drawn0.refl _ | apply Drawn0.step)⟩

-- NOT PRINTED: function 18 (graph_Nodes)

-- NOT PRINTED: function 46 (slices_IndexFunc_string_string)

-- NOT PRINTED: function 50 (slices_Delete_string_string)

-- NOT PRINTED: function 25 (graph_TopoSort)

-- NOT PRINTED: function 16 (busbarlaw12_alive)

end Go.Proofs.Ytmacdknicgfglaa.Impl
end
section
/- Printed by a program of this session (a copy of the kit's print.py, one text for all functions of the seat), with some contracts typed by hand among them: for each Go function a Lean function and a proof that the code comes to its answers. -/
namespace Go.Proofs.Ytmacdknicgfglaa.Impl
open Go.RowKit Go.Proofs.YtmacdknicgfglaaW.PrintWords Go.Proofs.YtmacdknicgfglaaW.PrintLast Go.Proofs.YtmacdknicgfglaaW.PrintMore
attribute [local go_sem] max2_int min2_int max_two min_two
set_option linter.unusedVariables false
set_option linter.unusedSimpArgs false

/-! ### busbarref12_has: function 42 -/
def busbarref12_has.l0 : Nat → List ByteArray → ByteArray → Int → Option (Bool)
  | 0, _, _, _ => none
  | k + 1, x0, x1, x5 => if x5 < (x0.length : Int) then (if 0 ≤ x5 then (if (rdOf ByteArray.empty x0 x5).toList = x1.toList then (some true) else (busbarref12_has.l0 k x0 x1 (wrap64 (x5 + 1)))) else (none)) else (some false)
def busbarref12_has.f (k : Nat) (l0 : List ByteArray) (a1 : ByteArray) : Option (Bool) := busbarref12_has.l0 k l0 a1 0
theorem busbarref12_has.mono_l : ∀ k, (∀ y0 y1 y2, LeO (busbarref12_has.l0 k y0 y1 y2) (busbarref12_has.l0 (k + 1) y0 y1 y2))
  | 0 => fun _ _ _ r h => by simp [busbarref12_has.l0] at h
  | k + 1 => by
    have ih0 := busbarref12_has.mono_l k
    · intro y0 y1 y2
      unfold busbarref12_has.l0
      repeat' first
      | (with_reducible exact ih0 _ _ _)
      | (with_reducible exact LeO.refl _)
      | (with_reducible exact LeO.none _)
      | (with_reducible refine LeO.ite ?_ ?_)
      | (with_reducible refine LeO.bind ?_ (fun _ => ?_))
      | exact ih0 _ _ _
      | exact LeO.none _
      | refine LeO.ite ?_ ?_
      | refine LeO.bind ?_ (fun _ => ?_)
theorem busbarref12_has.mono : ∀ a0 a1 k, LeO (busbarref12_has.f k a0 a1) (busbarref12_has.f (k + 1) a0 a1) := by
  intro a0 a1 k
  have ih0 := busbarref12_has.mono_l k
  unfold busbarref12_has.f
  repeat' first
      | (with_reducible exact ih0 _ _ _)
      | (with_reducible exact LeO.refl _)
      | (with_reducible exact LeO.none _)
      | (with_reducible refine LeO.ite ?_ ?_)
      | (with_reducible refine LeO.bind ?_ (fun _ => ?_))
      | exact ih0 _ _ _
      | exact LeO.none _
      | refine LeO.ite ?_ ?_
      | refine LeO.bind ?_ (fun _ => ?_)
set_option maxHeartbeats 8000000 in
set_option maxRecDepth 100000 in
theorem busbarref12_has.calls (k : Nat) (A0 : Option Addr) (c0 : Nat) (l0 : List ByteArray) (a1 : ByteArray) (r : Bool) (w : World) (hr0 : Kd.C Kd.string w A0 l0.length l0) (hc0 : l0.length ≤ c0) (h : busbarref12_has.f k l0 a1 = some r) :
    Calls Try.prog 42 #[.slice A0 l0.length c0, .string a1] w fun e w' => e = .returned (.bool r) ∧ Drawn0 w w' := by
  have HR0 := Aside0.mk hr0
  have HC0 := Aside0.mk hc0
  clear hr0 hc0
  have H : (busbarref12_has.l0 k l0 a1 0) = some r := h
  clear h
  have H' := Aside0.mk H
  clear H
  go_enter Try.func42, Try.ntmps42
  go_wp2
  go_loopg [5] k (fun kq v5 w' => ∃ (x5_1 : Int), v5 = .int .i64 x5_1 ∧ Aside0 (busbarref12_has.l0 kq l0 a1 x5_1 = some r) ∧ Aside0 (kq ≤ k) ∧ Drawn0 w w')
  case atStart => exact ⟨(0), (by first | rfl | (simp; done) | (simp [*]; done)), H', ⟨Nat.le_refl _⟩, by repeat (first | exact Drawn0.refl _ | apply Drawn0.step)⟩
  case round =>
    clear H'
    try clear p2
    obtain ⟨x5_1, rfl, HA, HK1, ⟨m1, rfl⟩⟩ := hrel
    cases gk with
    | zero => exact absurd HA.out (by simp [busbarref12_has.l0])
    | succ k1 =>
      have H := HA.out
      clear HA
      simp only [busbarref12_has.l0] at H
      by_cases c3 : x5_1 < (l0.length : Int)
      · rw [if_pos c3] at H
        have c3b0 : decide (x5_1 < (l0.length : Int)) = true := decide_eq_true c3
        clear c3
        by_cases c4 : 0 ≤ x5_1
        · rw [if_pos c4] at H
          have c4b0 : decide (0 ≤ x5_1) = true := decide_eq_true c4
          clear c4
          by_cases c5 : (rdOf ByteArray.empty l0 x5_1).toList = a1.toList
          · rw [if_pos c5] at H
            have c5b0 : ((rdOf ByteArray.empty l0 x5_1).toList == a1.toList) = true := beq_iff_eq.mpr c5
            have c5b1 : ((rdOf ByteArray.empty l0 x5_1).toList != a1.toList) = false := bne_eq_false_iff_eq.mpr c5
            clear c5
            obtain rfl := Option.some.inj H
            have p115 : 0 ≤ (x5_1 : Int) := of_decide_eq_true (by first | (with_reducible assumption) | assumption)
            have q115 : x5_1 < (l0.length : Int) := of_decide_eq_true (by first | (with_reducible assumption) | assumption)
            obtain ⟨ad115, e115, hx115_0⟩ := Kd.at_string HR0.out x5_1 p115 q115
            cases e115
            replace p115 := eq_true p115
            replace q115 := eq_true q115
            go_wp2
            go_ret
            exact ⟨by first | rfl | (simp; done) | (simp [*]; done), by repeat (first | exact Drawn0.refl _ | apply Drawn0.step)⟩
          · rw [if_neg c5] at H
            have c5b0 : ((rdOf ByteArray.empty l0 x5_1).toList == a1.toList) = false := beq_eq_false_iff_ne.mpr c5
            have c5b1 : ((rdOf ByteArray.empty l0 x5_1).toList != a1.toList) = true := bne_iff_ne.mpr c5
            have H' := Aside0.mk H
            clear H
            have p115 : 0 ≤ (x5_1 : Int) := of_decide_eq_true (by first | (with_reducible assumption) | assumption)
            have q115 : x5_1 < (l0.length : Int) := of_decide_eq_true (by first | (with_reducible assumption) | assumption)
            obtain ⟨ad115, e115, hx115_0⟩ := Kd.at_string HR0.out x5_1 p115 q115
            cases e115
            replace p115 := eq_true p115
            replace q115 := eq_true q115
            go_wp2
            go_roundg k1
            case measure => have := HK1.out; omega
            case rel => exact ⟨(wrap64 (x5_1 + 1)), (by first | rfl | (simp; done) | (simp [*]; done)), H', ⟨by have := HK1.out; omega⟩, by repeat (first | exact Drawn0.refl _ | apply Drawn0.step)⟩
        · rw [if_neg c4] at H
          exact absurd H (by simp)
      · rw [if_neg c3] at H
        have c3b0 : decide (x5_1 < (l0.length : Int)) = false := decide_eq_false c3
        clear c3
        obtain rfl := Option.some.inj H
        go_wp2
        go_ret
        exact ⟨by first | rfl | (simp; done) | (simp [*]; done), by repeat (first | exact Drawn0.refl _ | apply Drawn0.step)⟩

end Go.Proofs.Ytmacdknicgfglaa.Impl
end
