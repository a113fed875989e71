/- Rows of contacts that a function makes: one more behind the others; a rung of one's own. -/
import Derived.Test.YtmacdknicgfglaaAl
import Derived.Test.YtmacdknicgfglaaOr3
namespace Go.Proofs.Ytmacdknicgfglaa.Evt
open Go.RowKit Go.Proofs.YtmacdknicgfglaaW.PrintWords Go.Proofs.YtmacdknicgfglaaW.PrintMore Go.Proofs.YtmacdknicgfglaaW.PrintLast Go.Proofs.Ytmacdknicgfglaa.Chg Go.Proofs.Ytmacdknicgfglaa.Mp Go.Proofs.Ytmacdknicgfglaa.Impl
set_option linter.unusedVariables false
section
variable {ops : Array Oper} {rest : List Oper} {o : Oper} {a : Act} {Q : Exit → Act → World → Prop} {W : World}
/-- A cell of a variable is written. -/
theorem setc_ev (hgd : o.guard = none) {g : Nat} (i : Nat) {cs : Array Value} {v : Value} {T : TypeId} (hb : Bk W g T cs)
    (hrun : (execOp a.eval o).run Try.prog W = .ok .skip (W.setCell ⟨g, i, none⟩ v))
    (h : ∀ w1, Bk w1 g T (cs.setIfInBounds i v) → W.grownBy w1 (some g) → wpList Try.prog ops Q rest (a.put o.dst undef) w1) : wpList Try.prog ops Q (o :: rest) a W := by
  refine skip_ev hgd hrun (h _ ⟨Blk.set_ hb.blk i v⟩ ⟨rfl, rfl, rfl, by simp [World.setCell], fun k hk hne => ?_⟩)
  exact Below.heap_setCell W ⟨g, i, none⟩ v k (fun e => hne (by rw [e]))
end
theorem k41_KM {w : World} {base : Nat} {ok : Nat → Prop} {x : S41} {cs : List Value} (h : k41.K w x cs) : k41.M w base ok x cs := by
  rw [k41_open h]
  exact k41_mkM w base ok x
theorem info41 : (Try.prog.info? 41).map (fun i => (i.zero, i.size, i.bytes)) = some (some (.agg #[.int .i64 0, .int .i64 0, .int .i64 0, .string ⟨#[]⟩, .string ⟨#[]⟩]), 5, 56) := by kernel_rfl
section
variable {ops : Array Oper} {rest : List Oper} {o : Oper} {a : Act} {Q : Exit → Act → World → Prop} {w0 W : World}
theorem app41 (hgd : o.guard = none) (s x : Operand) (ho : o.op = .call { callee := .builtin .append, args := #[s, x], argTypes := #[22, 22] }) (v : Value) (xs ys : List S41) (A : Option Addr) (m c : Nat) (hs : a.eval s = v) (hx : a.eval x = .slice A m c)
    (HO : Kd.R k41 41 W w0.heap.size (fun _ => True) v xs) (HC : Kd.C k41 W A m ys) (HB : Below w0.heap.size w0 W) (hl : (xs.length + m) * 56 ≤ 140737488355328)
    (h : ∀ v1 w1, Kd.R k41 41 w1 w0.heap.size (fun _ => True) v1 (xs ++ ys) → Below w0.heap.size w0 w1 → W.grownBy w1 v.ownBlock → (v1.ownBlock = v.ownBlock ∨ ∃ b, v1.ownBlock = some b ∧ W.heap.size ≤ b) → wpList Try.prog ops Q rest (a.put o.dst v1) w1) : wpList Try.prog ops Q (o :: rest) a W :=
  Kd.R_append_rows k41 (Rr := k41.K W) (w0 := w0) w0.heap.size hgd s x 22 41 _ 56 ho Try.underlying22 info41 (by rfl) (by decide) (by decide) v xs ys A m c (fun _ => True) (fun _ => False) hs hx HO HC (fun _ _ hk => k41_KM hk) (fun _ hk => hk.elim) (fun _ _ => trivial) HB HB.size hl h
end
/-- A row of contacts stays while another block is written. -/
theorem row41_other {w w1 : World} {base : Nat} {v : Value} {xs : List S41} {g : Nat} (h : Kd.R k41 41 w base (fun _ => True) v xs) (hg : w.grownBy w1 (some g)) (hne : some g ≠ v.ownBlock) : Kd.R k41 41 w1 base (fun _ => True) v xs := by
  obtain ⟨h1, inner, ho, hr⟩ := h
  refine ⟨h1, inner, own_move ho (fun k hk => hg.block k (own_lt ho k hk) (fun e => hne (by rw [hk, ← e]))), hr.1, fun j p hj => ?_⟩
  have h2 := hr.2 j p hj
  rw [k41_openM h2]
  exact k41_mkM _ _ _ p
/-- A rung that is being made: its contacts so far. -/
structure Rv (w0 w : World) (g : Nat) (v : Value) (xs : List S41) : Prop where
  bel : Below w0.heap.size w0 w
  ge : w0.heap.size ≤ g
  br : Bk w g 25 #[.string ⟨#[]⟩, v, .slice none 0 0, .string ⟨#[]⟩]
  row : Kd.R k41 41 w w0.heap.size (fun _ => True) v xs
theorem Rv.below {w0 w w' : World} {g : Nat} {v : Value} {xs : List S41} (h : Rv w0 w g v xs) (hb : Below w.heap.size w w') : Rv w0 w' g v xs := ⟨below_step h.bel hb, h.ge, h.br.below hb, Kd.R_below h.row hb⟩
/-- The row has grown; the rung does not know of it yet. -/
structure Rn (w0 w : World) (g : Nat) (v v1 : Value) (xs : List S41) : Prop where
  bel : Below w0.heap.size w0 w
  ge : w0.heap.size ≤ g
  br : Bk w g 25 #[.string ⟨#[]⟩, v, .slice none 0 0, .string ⟨#[]⟩]
  row : Kd.R k41 41 w w0.heap.size (fun _ => True) v1 xs
theorem Rv.app {w0 w w1 : World} {g : Nat} {v v1 : Value} {xs ys : List S41} (h : Rv w0 w g v xs) (hr : Kd.R k41 41 w1 w0.heap.size (fun _ => True) v1 ys) (hb : Below w0.heap.size w0 w1) (hg : w.grownBy w1 v.ownBlock) : Rn w0 w1 g v v1 ys := ⟨hb, h.ge, h.br.grown hg (row_ne h.row h.br.blk (by decide)), hr⟩
theorem Rn.set {w0 w w1 : World} {g : Nat} {v v1 : Value} {xs : List S41} (h : Rn w0 w g v v1 xs) (hb : Bk w1 g 25 (#[.string ⟨#[]⟩, v, .slice none 0 0, .string ⟨#[]⟩].setIfInBounds 1 v1)) (hg : w.grownBy w1 (some g)) : Rv w0 w1 g v1 xs := by
  refine ⟨h.bel.grown hg h.bel.size (fun k hk => by cases hk; exact h.ge), h.ge, hb, ?_⟩
  exact row41_other h.row hg (row_ne h.row h.br.blk (by decide))
theorem Rv.at {w0 w : World} {g : Nat} {v : Value} {xs : List S41} (h : Rv w0 w g v xs) : ∃ A c, v = .slice A xs.length c ∧ Aside0 (Gw.Rg w A c xs none 0 []) := by
  obtain ⟨A, c, rfl⟩ := Kd.R_slice h.row
  obtain ⟨h1, h2, h3⟩ := Kd.R_reads' h.row
  exact ⟨A, c, rfl, ⟨h3, h2, Kd.C_nil _ _, Nat.le_refl _⟩⟩
end Go.Proofs.Ytmacdknicgfglaa.Evt
