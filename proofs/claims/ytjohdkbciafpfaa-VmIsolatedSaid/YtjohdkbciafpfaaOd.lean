/- Regions of open order that build rows by appends: every order, walked as a graph of what is done. -/
import Derived.Test.YtjohdkbciafpfaaVt
import Derived.Test.YtjohdkbciafpfaaRk
import Derived.Test.YtjohdkbciafpfaaOl
import Derived.Test.YtjohdkbciafpfaaRo
namespace Go.Proofs.Ytjohdkbciafpfaa.Evt
open Go.RowKit Go.Proofs.YtjohdkbciafpfaaW.PrintWords Go.Proofs.YtjohdkbciafpfaaW.PrintMore Go.Proofs.YtjohdkbciafpfaaW.PrintLast Go.Proofs.Ytjohdkbciafpfaa.Chg Go.Proofs.Ytjohdkbciafpfaa.Vm6
set_option linter.unusedVariables false
set_option maxRecDepth 100000
/-- Two values have no block of their own in common. -/
def Apart (v v' : Value) : Prop := ∀ k, v.ownBlock = some k → v'.ownBlock ≠ some k
/-- All blocks of one's own stand in w. -/
def Lt (w : World) (v : Value) : Prop := ∀ k, v.ownBlock = some k → k < w.heap.size
section
variable {α : Type} {d : Kd α} {e t g : Nat} {T : TypeId} {cs : Array Value} {w0 w w1 : World} {v v' v1 : Value} {xs ys : List α}
theorem Apart.symm (h : Apart v v') : Apart v' v := fun k hk e => h k e hk
theorem Apart.fresh (hl : Lt w v') (hn : ∃ b, v.ownBlock = some b ∧ w.heap.size ≤ b) : Apart v v' := fun k hk e => by
  obtain ⟨b, h1, h2⟩ := hn
  rw [h1] at hk
  injection hk with hk
  have := hl k e
  omega
theorem Apart.moved (h : Apart v v') (hl : Lt w v') (ha : v1.ownBlock = v.ownBlock ∨ ∃ b, v1.ownBlock = some b ∧ w.heap.size ≤ b) : Apart v1 v' := by
  rcases ha with ha | ha
  · intro k hk
    exact h k (by rw [← ha]; exact hk)
  · exact Apart.fresh hl ha
theorem Ro.lt (h : Ro d e w0 w v xs) : Lt w v := fun k hk => Kd.R_lt h.row k hk
theorem Bk.slt {c k : Nat} (h : Bk w g T cs) : Lt w (.slice (some ⟨g, 0, none⟩) c k) := fun j hj => by
  injection hj with hj
  subst hj
  exact h.blk.lt
theorem Ro.other (hE : d.E = []) (h : Ro d e w0 w v' xs) (hg : w.grownBy w1 v.ownBlock) (ha : Apart v v') : Ro d e w0 w1 v' xs :=
  ⟨turned_chg hE h.row (Chg.of_grown (S := fun k => v.ownBlock = some k) hg (fun k hk => .inl hk)) (fun k hk hs => ha k hs hk)⟩
theorem Bk.other {c k : Nat} (h : Bk w g T cs) (hg : w.grownBy w1 v.ownBlock) (ha : Apart v (.slice (some ⟨g, 0, none⟩) c k)) : Bk w1 g T cs := ⟨h.blk.grown hg (fun hs => ha g hs.symm rfl)⟩
end
section
variable {ops : Array Oper} {Q : Exit → Act → World → Prop} {w0 : World} {T : Bool × List (List Nat × List Nat)} {B ds : List Nat}
variable {n m i j k : Nat} {N Ni Nj Nk : Option Tmp} {r : List (Nat × Option Tmp)} {a a' : Act} {w w1 : World} {oi oj ok_ : Oper} {v : Value}
/-- What follows on an operation that is taken. -/
abbrev Kd' (ops : Array Oper) (Q : Exit → Act → World → Prop) (w0 : World) (ds : List Nat) (n m : Nat) (r : List (Nat × Option Tmp)) (K : Act → World → Prop) : Prop := Shut (∀ a' w', Hb w0 w' → (Hb w0 w' → wpAnyLast Try.prog .any ops Q (Hb w0) ds m (lst n r) a' w') → K a' w')
theorem od_join {σ : Type} (m' : Nat) (r' : List (Nat × Option Tmp)) (ns : σ → List (Tmp × Value)) (F : σ → World → Prop)
    (h : (∀ s w', Hb w0 w' → F s w' → Ol Try.prog ops Q w0 ds n m' r' (putAll a (ns s)) w') → Ol Try.prog ops Q w0 ds n m r a w) (hc : ∀ s w', Hb w0 w' → F s w' → Ol Try.prog ops Q w0 ds n m' r' (putAll a (ns s)) w') : Ol Try.prog ops Q w0 ds n m r a w := h hc
theorem od_one (ri : List (Nat × Option Tmp)) (HT : Aside0 (rtab .any ops = T)) (hoi : ops[i]? = some oi) (hNi : oi.dst = Ni) (hd : i ∉ ds) (hc : (readyT T.2 (lst n r).toList == [i] && (lst n r).toList.set i true == (lst n ri).toList) = true)
    (h1 : ∀ K : Act → World → Prop, Kd' ops Q w0 ds n m ri K → if Region.wanted oi (yielded ops a.tmps) = true then Oper.wp Try.prog oi a w K Q else K (a.put Ni undef) w) : Ol Try.prog ops Q w0 ds n (m + 1) r a w :=
  one_ (lst n ri) hoi hNi (one_of HT.out hc) hd h1
theorem od_two (ri rj : List (Nat × Option Tmp)) (HT : Aside0 (rtab .any ops = T)) (hoi : ops[i]? = some oi) (hoj : ops[j]? = some oj) (hNi : oi.dst = Ni) (hNj : oj.dst = Nj) (hd : i ∉ ds ∧ j ∉ ds) (hc : (readyT T.2 (lst n r).toList == [i, j] && (lst n r).toList.set i true == (lst n ri).toList && (lst n r).toList.set j true == (lst n rj).toList) = true)
    (h1 : ∀ K : Act → World → Prop, Kd' ops Q w0 ds n m ri K → if Region.wanted oi (yielded ops a.tmps) = true then Oper.wp Try.prog oi a w K Q else K (a.put Ni undef) w)
    (h2 : ∀ K : Act → World → Prop, Kd' ops Q w0 ds n m rj K → if Region.wanted oj (yielded ops a.tmps) = true then Oper.wp Try.prog oj a w K Q else K (a.put Nj undef) w) : Ol Try.prog ops Q w0 ds n (m + 1) r a w :=
  two_ (lst n ri) (lst n rj) hoi hoj hNi hNj (two_of HT.out hc) hd.1 hd.2 h1 h2
theorem od_three (ri rj rk : List (Nat × Option Tmp)) (HT : Aside0 (rtab .any ops = T)) (hoi : ops[i]? = some oi) (hoj : ops[j]? = some oj) (hok : ops[k]? = some ok_) (hNi : oi.dst = Ni) (hNj : oj.dst = Nj) (hNk : ok_.dst = Nk) (hd : i ∉ ds ∧ j ∉ ds ∧ k ∉ ds)
    (hc : (readyT T.2 (lst n r).toList == [i, j, k] && (lst n r).toList.set i true == (lst n ri).toList && (lst n r).toList.set j true == (lst n rj).toList && (lst n r).toList.set k true == (lst n rk).toList) = true)
    (h1 : ∀ K : Act → World → Prop, Kd' ops Q w0 ds n m ri K → if Region.wanted oi (yielded ops a.tmps) = true then Oper.wp Try.prog oi a w K Q else K (a.put Ni undef) w)
    (h2 : ∀ K : Act → World → Prop, Kd' ops Q w0 ds n m rj K → if Region.wanted oj (yielded ops a.tmps) = true then Oper.wp Try.prog oj a w K Q else K (a.put Nj undef) w)
    (h3 : ∀ K : Act → World → Prop, Kd' ops Q w0 ds n m rk K → if Region.wanted ok_ (yielded ops a.tmps) = true then Oper.wp Try.prog ok_ a w K Q else K (a.put Nk undef) w) : Ol Try.prog ops Q w0 ds n (m + 1) r a w :=
  three_ (lst n ri) (lst n rj) (lst n rk) hoi hoj hok hNi hNj hNk (three_of HT.out hc) hd.1 hd.2.1 hd.2.2 h1 h2 h3
theorem d_slice {K : Act → World → Prop} (hK : Kd' ops Q w0 ds n m r K) (HS : Hb w0 w) (hw : Region.wanted oi (yielded ops a.tmps) = true) (hN : oi.dst = N) {cs : Array Value} {t : TypeId} {ln : Nat} (hrun : (execOp a.eval oi).run Try.prog w = .ok (.value (.slice (some ⟨w.heap.size, 0, none⟩) ln ln)) (w.alloc (.cells cs t (0, 0))))
    (h : ∀ (g : Nat) (w1 : World), g = w.heap.size → Bk w1 g t cs → Below w.heap.size w w1 → Hb w0 w1 → Ol Try.prog ops Q w0 ds n m r (a.put N (.slice (some ⟨g, 0, none⟩) ln ln)) w1) : if Region.wanted oi (yielded ops a.tmps) = true then Oper.wp Try.prog oi a w K Q else K (a.put N undef) w := by
  have hb : Below w.heap.size w (w.alloc (.cells cs t (0, 0))) := below_alloc (Below.refl _ _) _
  have hS' : Hb w0 (w.alloc (.cells cs t (0, 0))) := ⟨below_step HS.out hb⟩
  exact value_ hw hN hrun (hK.out _ _ hS' (fun _ => h w.heap.size _ rfl ⟨heap_alloc_new w _⟩ hb hS'))
variable {α : Type} {d : Kd α} {e t : TypeId}
/-- An empty row is made. -/
theorem d_row0 {K : Act → World → Prop} (hK : Kd' ops Q w0 ds n m r K) (HS : Hb w0 w) (hw : Region.wanted oi (yielded ops a.tmps) = true) (hN : oi.dst = N) (hrun : (execOp a.eval oi).run Try.prog w = .ok (.value (.slice (some ⟨w.heap.size, 0, none⟩) 0 0)) (w.alloc (.cells #[] e (0, 0))))
    (h : ∀ (v : Value) (w1 : World), Ro d e w0 w1 v [] → (∃ b, v.ownBlock = some b ∧ w.heap.size ≤ b) → Below w.heap.size w w1 → Hb w0 w1 → Ol Try.prog ops Q w0 ds n m r (a.put N v) w1) : if Region.wanted oi (yielded ops a.tmps) = true then Oper.wp Try.prog oi a w K Q else K (a.put N undef) w := by
  have hb : Below w.heap.size w (w.alloc (.cells #[] e (0, 0))) := below_alloc (Below.refl _ _) _
  have hS' : Hb w0 (w.alloc (.cells #[] e (0, 0))) := ⟨below_step HS.out hb⟩
  refine value_ hw hN hrun (hK.out _ _ hS' (fun _ => h _ _ ⟨?_⟩ ⟨_, rfl, Nat.le_refl _⟩ hb hS'))
  refine ⟨fun k hk => trivial, [], ?_, by simp, fun j p hj => by simp at hj⟩
  exact World.ownsRow_lit (base := w0.heap.size) (e := e) (size := d.sz) w #[] 0 HS.out.size (by simp) (by simp)
/-- A row at hand is put behind one's own. -/
theorem d_app (R : Rk d e t) {K : Act → World → Prop} (hK : Kd' ops Q w0 ds n m r K) (HS : Hb w0 w) (hw : Region.wanted oi (yielded ops a.tmps) = true) (hN : oi.dst = N) (s x : Operand) (ho : oi.op = .call { callee := .builtin .append, args := #[s, x], argTypes := #[t, t] }) (v : Value) (xs ys : List α) (A : Option Addr) (k c : Nat) (hs : a.eval s = v) (hx : a.eval x = .slice A k c)
    (HO : Ro d e w0 w v xs) (HC : Kd.C d w A k ys) (hl : xs.length + k ≤ 4000000000000)
    (h : ∀ v1 w1, Ro d e w0 w1 v1 (xs ++ ys) → w.grownBy w1 v.ownBlock → (v1.ownBlock = v.ownBlock ∨ ∃ b, v1.ownBlock = some b ∧ w.heap.size ≤ b) → Hb w0 w1 → Ol Try.prog ops Q w0 ds n m r (a.put N v1) w1) : if Region.wanted oi (yielded ops a.tmps) = true then Oper.wp Try.prog oi a w K Q else K (a.put N undef) w := by
  subst hN
  obtain ⟨z, by_, hi, hz, hs0, hb0, hb1⟩ := R.info
  refine Kd.R_append_rows_step d (Rr := d.K w) (w0 := w0) w0.heap.size hw s x t e z by_ ho R.ht hi hz hs0 hb0 v xs ys A k c (fun _ => True) (fun _ => False) hs hx HO.row HC (fun _ _ hk => R.km _ _ _ _ _ hk) (fun _ hk => hk.elim) (fun _ _ => trivial) HS.out HS.out.size (Nat.le_trans (Nat.mul_le_mul hl hb1) (by decide)) ?_
  intro v1 w1 ho1 hb1 hg1 hat1
  exact hK.out _ _ ⟨hb1⟩ (fun _ => h v1 w1 ⟨ho1⟩ hg1 hat1 ⟨hb1⟩)
end
end Go.Proofs.Ytjohdkbciafpfaa.Evt
