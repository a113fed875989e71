/- Chapter 06: maps told by a function, whatever their keys and elements: made, read, written. -/
import Derived.Test.YtjohdkbciafpfaaOl
import Derived.Maps.OwnSet
namespace Go.Proofs.Ytjohdkbciafpfaa.Bm
open Go.RowKit Go.Maps Go.Proofs.YtjohdkbciafpfaaW.PrintWords Go.Proofs.YtjohdkbciafpfaaW.PrintMore Go.Proofs.YtjohdkbciafpfaaW.PrintLast Go.Proofs.Ytjohdkbciafpfaa.Chg Go.Proofs.Ytjohdkbciafpfaa.Evt
set_option linter.unusedVariables false
set_option maxRecDepth 100000
/-- A map's type: its keys, its elements. -/
structure Kq (α β : Type) where
  K : TypeId
  E : TypeId
  T : TypeId
  kv : α → Value
  kl : α → Lit
  ok : α → Prop
  ev : β → Value
  el : β → Lit
  z : β
structure Kq.Good {α β : Type} (k : Kq α β) : Prop where
  keyed : Keyed Try.prog k.K
  key : ∀ x, k.ok x → keyOf Try.prog k.K (k.kv x) = some (k.kl x)
  vinj : ∀ x y, k.ok x → k.ok y → k.kl x = k.kl y → x = y
  ut : Try.prog.underlying k.T = some (.map k.K k.E)
  zero : ∀ w, (zeroValue k.E).run Try.prog w = .ok (k.ev k.z) w
  pz : plainElem (H := Unit) Try.prog k.E (k.ev k.z) = some (.lit (k.el k.z), [])
  pi : ∀ v y ps, plainElem (H := Unit) Try.prog k.E v = some (.lit (k.el y), ps) → v = k.ev y
/-- Block b is a map of at most n entries: at a key s it holds p s. -/
def Mp {α β : Type} (k : Kq α β) (w : World) (b n : Nat) (p : α → β) : Prop :=
  ∃ D : DataW Unit, w.ownsMap Try.prog k.K (plainElem Try.prog k.E) b n D ∧ ∀ s, k.ok s → D.atKey (k.kl s) (.lit (k.el k.z)) = .lit (k.el (p s))
section
variable {α β : Type} {k : Kq α β} {w w' : World} {b n : Nat} {p : α → β}
theorem Mp.lt (h : Mp k w b n p) : b < w.heap.size := by obtain ⟨D, h, _⟩ := h; exact h.lt
theorem Mp.heap (h : Mp k w b n p) (e : w'.heap[b]? = w.heap[b]?) : Mp k w' b n p := by
  obtain ⟨D, ⟨es, clock, hb, r⟩, h2⟩ := h
  exact ⟨D, ⟨es, clock, e.trans hb, r⟩, h2⟩
theorem Mp.below (h : Mp k w b n p) (hb : Below w.heap.size w w') : Mp k w' b n p := h.heap (hb.block b h.lt)
theorem Mp.grown {row : Option Nat} (h : Mp k w b n p) (hg : w.grownBy w' row) (hne : some b ≠ row) : Mp k w' b n p := h.heap (hg.block b h.lt hne)
theorem Mp.congr (h : Mp k w b n p) {p' : α → β} (e : ∀ s, p s = p' s) : Mp k w b n p' := by obtain rfl : p = p' := funext e; exact h
theorem Mp.ne {g : Nat} {T : TypeId} {cs : Array Value} (h : Mp k w b n p) (hg : w.heap[g]? = some (.cells cs T (0, 0))) : g ≠ b := by
  obtain ⟨D, ⟨es, clock, hb, _⟩, _⟩ := h
  rintro rfl
  rw [hg] at hb
  injection hb with hb
  cases hb
theorem Mp.made (w : World) : Mp k (w.alloc (.map #[] 0)) w.heap.size 0 (fun _ => k.z) := ⟨.map [], World.ownsMap_made _ _ _ _, fun s _ => rfl⟩
theorem Mp.look (G : k.Good) (h : Mp k w b n p) {s : α} (hs : k.ok s) : (Instr.lookup k.T (.map (some b)) (k.kv s) false).run Try.prog w = .ok (k.ev (p s)) w := by
  obtain ⟨D, ho, hk⟩ := h
  obtain ⟨v, ps, hr, hv⟩ := ho.lookup G.keyed G.ut (G.zero w) G.pz (G.key s hs)
  rw [hk s hs] at hv
  rw [hr, G.pi _ _ _ hv]
theorem Mp.put [DecidableEq α] (G : k.Good) (h : Mp k w b n p) (hn : n < maxLen) {s : α} (hs : k.ok s) (v : β) (hv : plainElem (H := Unit) Try.prog k.E (k.ev v) = some (.lit (k.el v), [])) : ∃ w', (Instr.mapUpdate k.T (.map (some b)) (k.kv s) (k.ev v)).run Try.prog w = .ok () w' ∧ Mp k w' b (n + 1) (fun x => if x = s then v else p x) ∧ w.grownBy w' (some b) := by
  obtain ⟨D, ho, hk⟩ := h
  obtain ⟨w', hr, ho', hg⟩ := ho.update G.keyed G.ut hn (G.key s hs) hv
  refine ⟨w', hr, ⟨_, ho', fun x hx => ?_⟩, hg⟩
  dsimp only
  by_cases e : x = s
  · subst e
    rw [if_pos rfl, Maps.atKey_put_same ho.isMap (G.keyed.key (G.key x hs))]
  · rw [if_neg e, Maps.atKey_put_other (fun e_ => e (G.vinj x s hx hs e_)), hk x hx]
end
/-! ### At the operation -/
section
variable {α β : Type} {k : Kq α β} {P : Program} {ops : Array Oper} {rest : List Oper} {o o2 o3 : Oper} {a : Act} {Q : Exit → Act → World → Prop} {W : World} {b n : Nat} {p : α → β}
theorem mk_ev (hgd : o.guard = none) {N : Tmp} (_hd : o.dst = some N) (hop : o.op = .makeMap k.T none)
    (h : ∀ b, b = W.heap.size → ∀ w1, Mp k w1 b 0 (fun _ => k.z) → Below W.heap.size W w1 → wpList Try.prog ops Q rest (a.put o.dst (.map (some b))) w1) : wpList Try.prog ops Q (o :: rest) a W := by
  have hrun : (execOp a.eval o).run Try.prog W = .ok (.value (.map (some W.heap.size))) (W.alloc (.map #[] 0)) := by
    have := @run_makeMap Try.prog k.T W
    simp [execOp, hop, this, Result.andThen]
  exact Kd.event_run hgd hrun (h _ rfl _ (Mp.made W) (below_alloc (Below.refl _ _) _))
theorem put_run [DecidableEq α] (G : k.Good) {m x y : Operand} (hop : o.op = .mapUpdate k.T m x y ∨ o.op = .insert k.T m x y) {s : α} {v : β} (hm : a.eval m = .map (some b)) (hx : a.eval x = k.kv s) (hy : a.eval y = k.ev v) (hs : k.ok s) (hv : plainElem (H := Unit) Try.prog k.E (k.ev v) = some (.lit (k.el v), [])) (hn : n < maxLen) (H : Mp k W b n p) :
    ∃ w1, (execOp a.eval o).run Try.prog W = .ok .skip w1 ∧ Mp k w1 b (n + 1) (fun x => if x = s then v else p x) ∧ W.grownBy w1 (some b) := by
  obtain ⟨w1, hr, hb, hg⟩ := H.put G hn hs v hv
  refine ⟨w1, ?_, hb, hg⟩
  rcases hop with hop | hop <;> simp [execOp, hop, hm, hx, hy, hr, Result.andThen]
theorem put_ev [DecidableEq α] (G : k.Good) (hgd : o.guard = none) {m x y : Operand} (hop : o.op = .mapUpdate k.T m x y ∨ o.op = .insert k.T m x y) {s : α} {v : β} (hm : a.eval m = .map (some b)) (hx : a.eval x = k.kv s) (hy : a.eval y = k.ev v) (hs : k.ok s) (hv : plainElem (H := Unit) Try.prog k.E (k.ev v) = some (.lit (k.el v), [])) (hn : n < maxLen) (H : Mp k W b n p)
    (h : ∀ w1, Mp k w1 b (n + 1) (fun x => if x = s then v else p x) → W.grownBy w1 (some b) → wpList Try.prog ops Q rest (a.put o.dst undef) w1) : wpList Try.prog ops Q (o :: rest) a W := by
  obtain ⟨w1, hrun, hb, hg⟩ := put_run G hop hm hx hy hs hv hn H
  exact skip_ev hgd hrun (h w1 hb hg)
theorem get_ev (G : k.Good) (hgd : o.guard = none) {m x : Operand} (hop : o.op = .lookup k.T m x false) {s : α} {v : β} (hm : a.eval m = .map (some b)) (hx : a.eval x = k.kv s) (hs : k.ok s) (H : Mp k W b n p) (hv : p s = v) {u : Value} (hu : k.ev v = u)
    (h : wpList Try.prog ops Q rest (a.put o.dst u) W) : wpList Try.prog ops Q (o :: rest) a W := by
  subst hu
  have hrun : (execOp a.eval o).run Try.prog W = .ok (.value (k.ev v)) W := by simp [execOp, hop, hm, hx, H.look G hs, hv, Result.andThen]
  exact Kd.event_run hgd hrun h
end
/-! ### The types -/
theorem pB (x : Bool) : plainElem (H := Unit) Try.prog 4 (.bool x) = some (.lit (.bool x), []) := plainElem_bool Try.underlying4 x
theorem piB (v : Value) (y : Bool) (ps : List MemPlace) (h : plainElem (H := Unit) Try.prog 4 v = some (.lit (.bool y), ps)) : v = .bool y := by
  unfold plainElem at h
  rw [Try.underlying4] at h
  cases v <;> simp at h
  rw [h.1]
def kIB : Kq Int Bool := ⟨3, 4, 73, .int .i64, .int .i64, fun n => (Lit.int .i64 n).wf = true, .bool, .bool, false⟩
theorem gIB : kIB.Good := ⟨int_keyed Try.underlying3, fun x hx => keyOf_int_mk Try.underlying3 hx, fun x y _ _ h => by injection h, Try.underlying73, fun w => by kernel_rfl, pB false, piB⟩
end Go.Proofs.Ytjohdkbciafpfaa.Bm
