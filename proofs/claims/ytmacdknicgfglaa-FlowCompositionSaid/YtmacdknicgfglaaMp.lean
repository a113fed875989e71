/- Maps from strings to bools and to numbers, told by a function: made, read, written. -/
import Derived.Test.YtmacdknicgfglaaRo
import Derived.Test.YtmacdknicgfglaaProg
import Derived.Maps.OwnSet
namespace Go.Proofs.Ytmacdknicgfglaa.Mp
open Go.RowKit Go.Maps Go.Proofs.YtmacdknicgfglaaW.PrintWords Go.Proofs.YtmacdknicgfglaaW.PrintMore Go.Proofs.YtmacdknicgfglaaW.PrintLast Go.Proofs.Ytmacdknicgfglaa.Chg Go.Proofs.Ytmacdknicgfglaa.Evt
set_option linter.unusedVariables false
theorem lawS : Keyed Try.prog 9 := string_keyed Try.underlying9
theorem zeroB (w : World) : (zeroValue 4).run Try.prog w = .ok (.bool false) w := by kernel_rfl
theorem zeroI (w : World) : (zeroValue 3).run Try.prog w = .ok (.int .i64 0) w := by kernel_rfl
def kl (s : ByteArray) : Lit := .string s.data.toList
theorem kl_inj {s t : ByteArray} (h : kl s = kl t) : s = t := by
  unfold kl at h
  injection h with h
  apply ByteArray.ext
  exact Array.ext' h
theorem kl_ne {s t : ByteArray} (h : s ≠ t) : kl s ≠ kl t := fun e => h (kl_inj e)
theorem kl_key {s : ByteArray} (hs : s.size ≤ maxLen) : keyOf Try.prog 9 (.string s) = some (kl s) := WideMaps.keyOf_string_mk Try.underlying9 hs
theorem kl_lit {s : ByteArray} (hs : s.size ≤ maxLen) : WideAt.IsKeyLit (kl s) := lawS.key (kl_key hs)
/-- Block b is a map of at most n entries: at a string s it holds p s. -/
def MB (w : World) (b n : Nat) (p : ByteArray → Bool) : Prop :=
  ∃ D : DataW Unit, w.ownsMap Try.prog 9 (plainElem Try.prog 4) b n D ∧ ∀ s : ByteArray, s.size ≤ maxLen → D.atKey (kl s) (.lit (.bool false)) = .lit (.bool (p s))
/-- The same of numbers; none: no entry. -/
def MI (w : World) (b n : Nat) (p : ByteArray → Option Int) : Prop :=
  ∃ D : DataW Unit, w.ownsMap Try.prog 9 (plainElem Try.prog 3) b n D ∧ ∀ s : ByteArray, s.size ≤ maxLen → D.atKey (kl s) (.lit (.int .i64 0)) = .lit (.int .i64 ((p s).getD 0)) ∧ Maps.has D (kl s) = (p s).isSome
section
variable {w w' : World} {b n : Nat} {p : ByteArray → Bool} {q : ByteArray → Option Int}
theorem MB.lt (h : MB w b n p) : b < w.heap.size := by obtain ⟨D, h, _⟩ := h; exact h.lt
theorem MI.lt (h : MI w b n q) : b < w.heap.size := by obtain ⟨D, h, _⟩ := h; exact h.lt
theorem MB.heap (h : MB w b n p) (e : w'.heap[b]? = w.heap[b]?) : MB w' b n p := by
  obtain ⟨D, ⟨es, clock, hb, r⟩, k⟩ := h
  exact ⟨D, ⟨es, clock, e.trans hb, r⟩, k⟩
theorem MI.heap (h : MI w b n q) (e : w'.heap[b]? = w.heap[b]?) : MI w' b n q := by
  obtain ⟨D, ⟨es, clock, hb, r⟩, k⟩ := h
  exact ⟨D, ⟨es, clock, e.trans hb, r⟩, k⟩
theorem MB.below (h : MB w b n p) (hb : Below w.heap.size w w') : MB w' b n p := h.heap (hb.block b h.lt)
theorem MI.below (h : MI w b n q) (hb : Below w.heap.size w w') : MI w' b n q := h.heap (hb.block b h.lt)
theorem MB.congr (h : MB w b n p) {p' : ByteArray → Bool} (e : ∀ s, p s = p' s) : MB w b n p' := by obtain rfl : p = p' := funext e; exact h
theorem MI.congr (h : MI w b n q) {q' : ByteArray → Option Int} (e : ∀ s, q s = q' s) : MI w b n q' := by obtain rfl : q = q' := funext e; exact h
theorem MB.made (w : World) : MB (w.alloc (.map #[] 0)) w.heap.size 0 (fun _ => false) := ⟨.map [], World.ownsMap_made _ _ _ _, fun s _ => rfl⟩
theorem MI.made (w : World) : MI (w.alloc (.map #[] 0)) w.heap.size 0 (fun _ => none) := ⟨.map [], World.ownsMap_made _ _ _ _, fun s _ => ⟨rfl, rfl⟩⟩
theorem MB.grown {row : Option Nat} (h : MB w b n p) (hg : w.grownBy w' row) (hne : some b ≠ row) : MB w' b n p := h.heap (hg.block b h.lt hne)
theorem MI.grown {row : Option Nat} (h : MI w b n q) (hg : w.grownBy w' row) (hne : some b ≠ row) : MI w' b n q := h.heap (hg.block b h.lt hne)
/-- A map's block and a row of cells are two. -/
theorem MB.ne {g : Nat} {T : TypeId} {cs : Array Value} (h : MB w b n p) (hg : w.heap[g]? = some (.cells cs T (0, 0))) : g ≠ b := by
  obtain ⟨D, ⟨es, clock, hb, _⟩, _⟩ := h
  rintro rfl
  rw [hg] at hb
  injection hb with hb
  cases hb
theorem MI.ne {g : Nat} {T : TypeId} {cs : Array Value} (h : MI w b n q) (hg : w.heap[g]? = some (.cells cs T (0, 0))) : g ≠ b := by
  obtain ⟨D, ⟨es, clock, hb, _⟩, _⟩ := h
  rintro rfl
  rw [hg] at hb
  injection hb with hb
  cases hb
theorem MB.row {α : Type} {d : Kd α} {e base : Nat} {ok : Nat → Prop} {v : Value} {xs : List α} (h : MB w b n p) (hr : Kd.R d e w base ok v xs) : some b ≠ v.ownBlock := by
  intro he
  obtain ⟨inner, ho⟩ := Kd.R_own hr
  obtain ⟨cells, hc⟩ := own_typed ho b he.symm
  exact h.ne hc rfl
theorem MI.row {α : Type} {d : Kd α} {e base : Nat} {ok : Nat → Prop} {v : Value} {xs : List α} (h : MI w b n q) (hr : Kd.R d e w base ok v xs) : some b ≠ v.ownBlock := by
  intro he
  obtain ⟨inner, ho⟩ := Kd.R_own hr
  obtain ⟨cells, hc⟩ := own_typed ho b he.symm
  exact h.ne hc rfl
/-- A row of plain values stays while another block is written. -/
theorem R_other {α : Type} {enc : α → Value} {h1 : ∀ x, (enc x).oneCell' = true} {e base : Nat} {ok : Nat → Prop} {v : Value} {xs : List α} {row : Option Nat} (hr : Kd.R (Kd.scalar enc h1) e w base ok v xs) (hg : w.grownBy w' row) (hne : row ≠ v.ownBlock ∨ row = none) : Kd.R (Kd.scalar enc h1) e w' base ok v xs := by
  refine Kd.R_of_own (own_other (Kd.own_of_R hr) hg ?_) hr.1
  rcases hne with h | rfl
  · exact .inr (Ne.symm h)
  · cases v.ownBlock
    · exact .inl rfl
    · exact .inr (by simp)
theorem plainElem_bool_inv {v : Value} {z : DataW Unit × List MemPlace} (h : plainElem Try.prog 4 v = some z) : ∃ x, v = .bool x ∧ z = (.lit (.bool x), []) := by
  unfold plainElem at h
  rw [Try.underlying4] at h
  cases v <;> simp at h
  exact ⟨_, rfl, h.symm⟩
theorem MB.look (h : MB w b n p) {s : ByteArray} (hs : s.size ≤ maxLen) : (Instr.lookup 65 (.map (some b)) (.string s) false).run Try.prog w = .ok (.bool (p s)) w := by
  obtain ⟨D, ho, hk⟩ := h
  obtain ⟨v, ps, hr, hv⟩ := ho.lookup lawS Try.underlying65 (zeroB w) (plainElem_bool Try.underlying4 false) (kl_key hs)
  obtain ⟨x, rfl, hz⟩ := plainElem_bool_inv hv
  simp only [Prod.mk.injEq] at hz
  rw [hk s hs] at hz
  have e := hz.1
  injection e with e
  injection e with e
  rw [hr, e]
theorem MI.look (h : MI w b n q) {s : ByteArray} (hs : s.size ≤ maxLen) : (Instr.lookup 44 (.map (some b)) (.string s) false).run Try.prog w = .ok (.int .i64 ((q s).getD 0)) w := by
  obtain ⟨D, ho, hk⟩ := h
  obtain ⟨c, hr, hat, _⟩ := ho.lookup_int lawS Try.underlying44 Try.underlying3 (zeroI w) (kl_key hs)
  rw [(hk s hs).1] at hat
  injection hat with hat
  injection hat with _ hat
  rw [hr, hat]
theorem MI.look_ok (h : MI w b n q) {s : ByteArray} (hs : s.size ≤ maxLen) : (Instr.lookup 44 (.map (some b)) (.string s) true).run Try.prog w = .ok (.tuple #[.int .i64 ((q s).getD 0), .bool (q s).isSome]) w := by
  obtain ⟨D, ho, hk⟩ := h
  obtain ⟨v, ps, hr, hv⟩ := ho.look_ok lawS Try.underlying44 (zeroI w) (plainElem_int Try.underlying3 (by decide)) (kl_key hs)
  obtain ⟨x, rfl, hz, _⟩ := plainElem_int_inv Try.underlying3 hv
  simp only [Prod.mk.injEq] at hz
  rw [(hk s hs).1] at hz
  have e := hz.1
  injection e with e
  injection e with _ e
  rw [hr, (hk s hs).2, e]
theorem MB.put (h : MB w b n p) (hn : n < maxLen) {s : ByteArray} (hs : s.size ≤ maxLen) (v : Bool) : ∃ w', (Instr.mapUpdate 65 (.map (some b)) (.string s) (.bool v)).run Try.prog w = .ok () w' ∧ MB w' b (n + 1) (fun x => if x = s then v else p x) ∧ w.grownBy w' (some b) := by
  obtain ⟨D, ho, hk⟩ := h
  obtain ⟨w', hr, ho', hg⟩ := ho.update lawS Try.underlying65 hn (kl_key hs) (plainElem_bool Try.underlying4 v)
  refine ⟨w', hr, ⟨_, ho', fun x hx => ?_⟩, hg⟩
  show _ = DataW.lit (Lit.bool (if x = s then v else p x))
  by_cases e : x = s
  · subst e
    rw [if_pos rfl, Maps.atKey_put_same ho.isMap (kl_lit hs)]
  · rw [if_neg e, Maps.atKey_put_other (kl_ne e), hk x hx]
theorem MI.put (h : MI w b n q) (hn : n < maxLen) {s : ByteArray} (hs : s.size ≤ maxLen) (v : Int) (hv : (Lit.int .i64 v).wf = true) : ∃ w', (Instr.mapUpdate 44 (.map (some b)) (.string s) (.int .i64 v)).run Try.prog w = .ok () w' ∧ MI w' b (n + 1) (fun x => if x = s then some v else q x) ∧ w.grownBy w' (some b) := by
  obtain ⟨D, ho, hk⟩ := h
  obtain ⟨w', hr, ho', hg⟩ := ho.update lawS Try.underlying44 hn (kl_key hs) (plainElem_int Try.underlying3 hv)
  refine ⟨w', hr, ⟨_, ho', fun x hx => ?_⟩, hg⟩
  show _ = DataW.lit (Lit.int .i64 ((if x = s then some v else q x).getD 0)) ∧ _ = (if x = s then some v else q x).isSome
  by_cases e : x = s
  · subst e
    rw [if_pos rfl, Maps.atKey_put_same ho.isMap (kl_lit hs), Maps.has_put_same ho.isMap (kl_lit hs)]
    exact ⟨rfl, rfl⟩
  · rw [if_neg e, Maps.atKey_put_other (kl_ne e), Maps.has_put_other (kl_ne e)]
    exact hk x hx
end
/-! ### At the operation -/
section
variable {ops : Array Oper} {rest : List Oper} {o : Oper} {a : Act} {Q : Exit → Act → World → Prop} {W : World}
theorem mkB_ev (hgd : o.guard = none) {N : Tmp} (_hd : o.dst = some N) (hop : o.op = .makeMap 65 none)
    (h : ∀ b, b = W.heap.size → ∀ w1, MB w1 b 0 (fun _ => false) → Below W.heap.size W w1 → wpList Try.prog ops Q rest (a.put o.dst (.map (some b))) w1) : wpList Try.prog ops Q (o :: rest) a W := by
  have hrun : (execOp a.eval o).run Try.prog W = .ok (.value (.map (some W.heap.size))) (W.alloc (.map #[] 0)) := by
    have := @run_makeMap Try.prog 65 W
    simp [execOp, hop, this, Result.andThen]
  exact Kd.event_run hgd hrun (h _ rfl _ (MB.made W) (below_alloc (Below.refl _ _) _))
theorem mkI_ev (hgd : o.guard = none) {N : Tmp} (_hd : o.dst = some N) (hop : o.op = .makeMap 44 none)
    (h : ∀ b, b = W.heap.size → ∀ w1, MI w1 b 0 (fun _ => none) → Below W.heap.size W w1 → wpList Try.prog ops Q rest (a.put o.dst (.map (some b))) w1) : wpList Try.prog ops Q (o :: rest) a W := by
  have hrun : (execOp a.eval o).run Try.prog W = .ok (.value (.map (some W.heap.size))) (W.alloc (.map #[] 0)) := by
    have := @run_makeMap Try.prog 44 W
    simp [execOp, hop, this, Result.andThen]
  exact Kd.event_run hgd hrun (h _ rfl _ (MI.made W) (below_alloc (Below.refl _ _) _))
theorem getB_ev (hgd : o.guard = none) {m x : Operand} (hop : o.op = .lookup 65 m x false) {b n : Nat} {p : ByteArray → Bool} {s : ByteArray} {v : Bool} (hm : a.eval m = .map (some b)) (hx : a.eval x = .string s) (hs : s.size ≤ maxLen) (H : MB W b n p) (hv : p s = v)
    (h : wpList Try.prog ops Q rest (a.put o.dst (.bool v)) W) : wpList Try.prog ops Q (o :: rest) a W := by
  have hrun : (execOp a.eval o).run Try.prog W = .ok (.value (.bool v)) W := by simp [execOp, hop, hm, hx, H.look hs, hv, Result.andThen]
  exact Kd.event_run hgd hrun h
theorem getI_ev (hgd : o.guard = none) {m x : Operand} (hop : o.op = .lookup 44 m x false) {b n : Nat} {q : ByteArray → Option Int} {s : ByteArray} {v : Int} (hm : a.eval m = .map (some b)) (hx : a.eval x = .string s) (hs : s.size ≤ maxLen) (H : MI W b n q) (hv : (q s).getD 0 = v)
    (h : wpList Try.prog ops Q rest (a.put o.dst (.int .i64 v)) W) : wpList Try.prog ops Q (o :: rest) a W := by
  have hrun : (execOp a.eval o).run Try.prog W = .ok (.value (.int .i64 v)) W := by simp [execOp, hop, hm, hx, H.look hs, hv, Result.andThen]
  exact Kd.event_run hgd hrun h
theorem getI2_ev (hgd : o.guard = none) {m x : Operand} (hop : o.op = .lookup 44 m x true) {b n : Nat} {q : ByteArray → Option Int} {s : ByteArray} {v : Int} {ok : Bool} (hm : a.eval m = .map (some b)) (hx : a.eval x = .string s) (hs : s.size ≤ maxLen) (H : MI W b n q) (hv : (q s).getD 0 = v) (hok : (q s).isSome = ok)
    (h : wpList Try.prog ops Q rest (a.put o.dst (.tuple #[.int .i64 v, .bool ok])) W) : wpList Try.prog ops Q (o :: rest) a W := by
  have hrun : (execOp a.eval o).run Try.prog W = .ok (.value (.tuple #[.int .i64 v, .bool ok])) W := by simp [execOp, hop, hm, hx, H.look_ok hs, hv, hok, Result.andThen]
  exact Kd.event_run hgd hrun h
theorem skip_ev {W1 : World} (hgd : o.guard = none) (hrun : (execOp a.eval o).run Try.prog W = .ok .skip W1) (h : wpList Try.prog ops Q rest (a.put o.dst undef) W1) : wpList Try.prog ops Q (o :: rest) a W := by
  refine wpList_plain hgd fun K hK => ?_
  unfold Oper.wp
  rw [hrun]
  exact hK _ _ h
theorem putB_ev (hgd : o.guard = none) {m x y : Operand} (hop : o.op = .mapUpdate 65 m x y ∨ o.op = .insert 65 m x y) {b n : Nat} {p : ByteArray → Bool} {s : ByteArray} {v : Bool} (hm : a.eval m = .map (some b)) (hx : a.eval x = .string s) (hy : a.eval y = .bool v) (hs : s.size ≤ maxLen) (hn : n < maxLen) (H : MB W b n p)
    (h : ∀ w1, MB w1 b (n + 1) (fun x => if x = s then v else p x) → W.grownBy w1 (some b) → wpList Try.prog ops Q rest (a.put o.dst undef) w1) : wpList Try.prog ops Q (o :: rest) a W := by
  obtain ⟨w1, hr, hb, hg⟩ := H.put hn hs v
  have hrun : (execOp a.eval o).run Try.prog W = .ok .skip w1 := by
    rcases hop with hop | hop <;> simp [execOp, hop, hm, hx, hy, hr, Result.andThen]
  exact skip_ev hgd hrun (h w1 hb hg)
theorem putI_ev (hgd : o.guard = none) {m x y : Operand} (hop : o.op = .mapUpdate 44 m x y ∨ o.op = .insert 44 m x y) {b n : Nat} {q : ByteArray → Option Int} {s : ByteArray} {v : Int} (hm : a.eval m = .map (some b)) (hx : a.eval x = .string s) (hy : a.eval y = .int .i64 v) (hv : (Lit.int .i64 v).wf = true) (hs : s.size ≤ maxLen) (hn : n < maxLen) (H : MI W b n q)
    (h : ∀ w1, MI w1 b (n + 1) (fun x => if x = s then some v else q x) → W.grownBy w1 (some b) → wpList Try.prog ops Q rest (a.put o.dst undef) w1) : wpList Try.prog ops Q (o :: rest) a W := by
  obtain ⟨w1, hr, hb, hg⟩ := H.put hn hs v hv
  have hrun : (execOp a.eval o).run Try.prog W = .ok .skip w1 := by
    rcases hop with hop | hop <;> simp [execOp, hop, hm, hx, hy, hr, Result.andThen]
  exact skip_ev hgd hrun (h w1 hb hg)
end
end Go.Proofs.Ytmacdknicgfglaa.Mp
namespace Go.Proofs.Ytmacdknicgfglaa.Evt
open Go.RowKit Go.Proofs.YtmacdknicgfglaaW.PrintWords Go.Proofs.Ytmacdknicgfglaa.Mp
theorem Bk.grown {w w' : World} {g : Nat} {T : TypeId} {cs : Array Value} {row : Option Nat} (h : Bk w g T cs) (hg : w.grownBy w' row) (hne : some g ≠ row) : Bk w' g T cs := ⟨blk_grown h.blk hg hne⟩
theorem Bk.mput {w w' : World} {g b n : Nat} {T : TypeId} {cs : Array Value} {p : ByteArray → Bool} (h : Bk w g T cs) (hM : MB w b n p) (hg : w.grownBy w' (some b)) : Bk w' g T cs := h.grown hg (fun e => hM.ne h.blk (by injection e))
theorem Bk.mputI {w w' : World} {g b n : Nat} {T : TypeId} {cs : Array Value} {p : ByteArray → Option Int} (h : Bk w g T cs) (hM : MI w b n p) (hg : w.grownBy w' (some b)) : Bk w' g T cs := h.grown hg (fun e => hM.ne h.blk (by injection e))
theorem Ro.mput {α : Type} {enc : α → Value} {h1 : ∀ x, (enc x).oneCell' = true} {e : TypeId} {w0 w w' : World} {b n : Nat} {p : ByteArray → Bool} {v : Value} {xs : List α} (h : Ro (Kd.scalar enc h1) e w0 w v xs) (hM : MB w b n p) (hg : w.grownBy w' (some b)) : Ro (Kd.scalar enc h1) e w0 w' v xs := ⟨R_other h.row hg (.inl (hM.row h.row))⟩
theorem Ro.mputI {α : Type} {enc : α → Value} {h1 : ∀ x, (enc x).oneCell' = true} {e : TypeId} {w0 w w' : World} {b n : Nat} {p : ByteArray → Option Int} {v : Value} {xs : List α} (h : Ro (Kd.scalar enc h1) e w0 w v xs) (hM : MI w b n p) (hg : w.grownBy w' (some b)) : Ro (Kd.scalar enc h1) e w0 w' v xs := ⟨R_other h.row hg (.inl (hM.row h.row))⟩
end Go.Proofs.Ytmacdknicgfglaa.Evt
