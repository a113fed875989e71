/- What a call may have turned: the blocks of a set, and new ones. A struct behind a pointer, known whole. -/
import Derived.Test.YtjohdkbciafpfaaWm
import Derived.Below
import Derived.Deep.Draws
namespace Go.Proofs.Ytjohdkbciafpfaa.Chg
open Go.RowKit Go.Proofs.YtjohdkbciafpfaaW.PrintWords Go.Proofs.YtjohdkbciafpfaaW.PrintMore Go.Proofs.YtjohdkbciafpfaaW.PrintLast

/-- w' is w, but for the blocks in S and new ones. -/
structure Chg (S : Nat → Prop) (w w' : World) : Prop where
  os : w'.os = w.os
  tape : w'.tape = w.tape
  output : w'.output = w.output
  size : w.heap.size ≤ w'.heap.size
  block : ∀ k, k < w.heap.size → ¬ S k → w'.heap[k]? = w.heap[k]?

section
variable {S S' : Nat → Prop} {w w' w'' : World}
theorem Chg.refl (S : Nat → Prop) (w : World) : Chg S w w := ⟨rfl, rfl, rfl, Nat.le_refl _, fun _ _ _ => rfl⟩
theorem Chg.trans (h : Chg S w w') (k : Chg S' w' w'') (hS : ∀ i, S' i → S i ∨ w.heap.size ≤ i) : Chg S w w'' :=
  ⟨k.os.trans h.os, k.tape.trans h.tape, k.output.trans h.output, Nat.le_trans h.size k.size, fun i hi hn =>
    (k.block i (Nat.lt_of_lt_of_le hi h.size) (fun hs => by rcases hS i hs with h1 | h1; exact hn h1; omega)).trans (h.block i hi hn)⟩
theorem Chg.mono (h : Chg S w w') (hS : ∀ i, S i → S' i) : Chg S' w w' := ⟨h.os, h.tape, h.output, h.size, fun i hi hn => h.block i hi (fun hs => hn (hS i hs))⟩
theorem Chg.drewN (h : Chg S w w') (n : Nat) : Chg S w (w'.drewN n) := ⟨h.os, h.tape, h.output, h.size, h.block⟩
theorem Chg.drew (h : Chg S w w') : Chg S w w'.drew := ⟨h.os, h.tape, h.output, h.size, h.block⟩
theorem Chg.alloc (h : Chg S w w') (o : Obj) : Chg S w (w'.alloc o) :=
  ⟨h.os, h.tape, h.output, Nat.le_trans h.size (by simp), fun i hi hn => (Below.heap_alloc w' o i (Nat.lt_of_lt_of_le hi h.size)).trans (h.block i hi hn)⟩
theorem Chg.setCell (h : Chg S w w') {p : Addr} (hp : S p.block ∨ w.heap.size ≤ p.block) (u : Value) : Chg S w (w'.setCell p u) :=
  ⟨h.os, h.tape, h.output, by simpa [World.setCell] using h.size, fun i hi hn => (Below.heap_setCell w' p u i (by
    rintro rfl
    rcases hp with hp | hp
    · exact hn hp
    · omega)).trans (h.block i hi hn)⟩
theorem Chg.of_grown {row : Option Nat} (h : w.grownBy w' row) (hr : ∀ k, row = some k → S k ∨ w.heap.size ≤ k) : Chg S w w' :=
  ⟨h.os, h.tape, h.output, h.size, fun i hi hn => h.block i hi (fun e => by rcases hr i e.symm with h1 | h1; exact hn h1; omega)⟩
theorem Chg.of_below (h : Below w.heap.size w w') : Chg S w w' := ⟨h.os, h.tape, h.output, h.size, fun i hi _ => h.block i hi⟩
theorem Chg.of_drawn (h : Drawn0 w w') : Chg S w w' := by
  obtain ⟨n, rfl⟩ := h.out
  exact (Chg.refl S w).drewN n
/-- Seen from an elder world: nothing of it has turned. -/
theorem Chg.below {W : World} {B : Nat} (hb : Below B W w) (h : Chg S w w') (hS : ∀ i, S i → B ≤ i) (hB : B ≤ w.heap.size) : Below B W w' :=
  hb.trans ⟨h.os, h.tape, h.output, h.size, fun i hi => h.block i (Nat.lt_of_lt_of_le hi hB) (fun hs => by have := hS i hs; omega)⟩
theorem Chg.heap (h : Chg S w w') {i : Nat} {o : Obj} (hi : w.heap[i]? = some o) (hn : ¬ S i) : w'.heap[i]? = some o := by
  have hl : i < w.heap.size := by
    rcases Nat.lt_or_ge i w.heap.size with h1 | h1
    · exact h1
    · rw [Array.getElem?_eq_none h1] at hi; cases hi
  exact (h.block i hl hn).trans hi
/-- A row of one's own, none of whose blocks is in S. -/
theorem Chg.row {α : Type} {d : Kd α} {e base : Nat} {ok : Nat → Prop} {v : Value} {xs : List α} (h : Chg S w w') (hr : d.R e w base ok v xs) (hn : ∀ k, ok k → ¬ S k) : d.R e w' base ok v xs :=
  Kd.R_step hr (fun k hk hl => h.block k hl (hn k hk))
theorem Chg.read {α : Type} {d : Kd α} {A : Option Addr} {n : Nat} {xs : List α} {W : World} (hc : d.C W A n xs) (hb : Below W.heap.size W w') : d.C w' A n xs := Kd.C_below hc hb
end

/-- Block g is just these cells, of type T. -/
def Blk (w : World) (g : Nat) (T : TypeId) (cs : Array Value) : Prop := w.heap[g]? = some (.cells cs T (0, 0))
section
variable {S : Nat → Prop} {w w' : World} {g : Nat} {T : TypeId} {cs : Array Value}
theorem Blk.lt (h : Blk w g T cs) : g < w.heap.size := by
  rcases Nat.lt_or_ge g w.heap.size with hlt | hge
  · exact hlt
  · unfold Blk at h; rw [Array.getElem?_eq_none hge] at h; cases h
theorem Blk.cell (h : Blk w g T cs) (i : Nat) {v : Value} (hv : cs[i]? = some v) : w.cell? ⟨g, i, none⟩ = some v := by
  unfold Blk at h
  simp [World.cell?, h, hv]
theorem Blk.frozen (h : Blk w g T cs) (i : Nat) : w.frozen? ⟨g, i, none⟩ = false := by
  unfold Blk at h
  simp [World.frozen?, h]
theorem Blk.new (w : World) (T : TypeId) (cs : Array Value) : Blk (w.alloc (.cells cs T)) w.heap.size T cs := heap_alloc_new w _
theorem Blk.drewN (h : Blk w g T cs) (n : Nat) : Blk (w.drewN n) g T cs := h
theorem Blk.drew (h : Blk w g T cs) : Blk w.drew g T cs := h
theorem Blk.alloc (h : Blk w g T cs) (o : Obj) : Blk (w.alloc o) g T cs := (Below.heap_alloc w o g h.lt).trans h
theorem Blk.set_ (h : Blk w g T cs) (i : Nat) (u : Value) : Blk (w.setCell ⟨g, i, none⟩ u) g T (cs.setIfInBounds i u) := by
  unfold Blk at h ⊢
  simp [World.setCell, Array.getElem?_modify, h]
theorem Blk.far (h : Blk w g T cs) {p : Addr} (hp : g ≠ p.block) (u : Value) : Blk (w.setCell p u) g T cs := (Below.heap_setCell w p u g hp).trans h
theorem Blk.chg (h : Blk w g T cs) (hc : Chg S w w') (hn : ¬ S g) : Blk w' g T cs := hc.heap h hn
theorem Blk.grown {row : Option Nat} (h : Blk w g T cs) (hb : w.grownBy w' row) (hg : some g ≠ row) : Blk w' g T cs := (hb.block g h.lt hg).trans h
theorem Blk.ne_ {g' : Nat} {T' : TypeId} {cs' : Array Value} (h : Blk w g T cs) (h' : Blk w g' T' cs') (hne : T ≠ T') : g ≠ g' := by
  rintro rfl
  unfold Blk at h h'
  rw [h] at h'
  injection h' with h'
  injection h' with _ ht
  exact hne ht
/-- A row of another type lies elsewhere. -/
theorem row_ne {α : Type} {d : Kd α} {e base : Nat} {ok : Nat → Prop} {v : Value} {xs : List α} (hr : d.R e w base ok v xs) (hg : Blk w g T cs) (hne : e ≠ T) : some g ≠ v.ownBlock := Kd.R_ne hr hg hne
end

/-- A slice's own block, as a set. -/
def own (v : Value) : Nat → Prop := fun k => some k = v.ownBlock
end Go.Proofs.Ytjohdkbciafpfaa.Chg
