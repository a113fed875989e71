/- A region of open order in which several operations make memory: each order is walked, what follows is shown once. -/
import Derived.Test.YtmacdknicgfglaaOr3
namespace Go.Proofs.Ytmacdknicgfglaa.Evt
open Go.RowKit Go.Proofs.YtmacdknicgfglaaW.PrintWords Go.Proofs.YtmacdknicgfglaaW.PrintMore Go.Proofs.YtmacdknicgfglaaW.PrintLast Go.Proofs.Ytmacdknicgfglaa.Chg Go.Proofs.Ytmacdknicgfglaa.Mp
set_option linter.unusedVariables false
section
variable {P : Program} {ops : Array Oper} {Q : Exit → Act → World → Prop} {w0 : World} {T : Bool × List (List Nat × List Nat)} {B : List Nat}
variable {n m i j k : Nat} {N Ni Nj Nk : Option Tmp} {r : List (Nat × Option Tmp)} {a a' : Act} {w w1 : World} {oi oj ok_ : Oper} {v : Value}
/-- What follows on an operation that is taken. -/
abbrev KS (P : Program) (ops : Array Oper) (Q : Exit → Act → World → Prop) (w0 : World) (n m : Nat) (r : List (Nat × Option Tmp)) (K : Act → World → Prop) : Prop := Shut (∀ a' w', Hb w0 w' → (Hb w0 w' → wpAnyLast P .any ops Q (Hb w0) [] m (lst n r) a' w') → K a' w')
theorem ol_join {σ : Type} (m' : Nat) (r' : List (Nat × Option Tmp)) (ns : σ → List (Tmp × Value)) (F : σ → World → Prop)
    (h : (∀ s w', Hb w0 w' → F s w' → Ol P ops Q w0 [] n m' r' (putAll a (ns s)) w') → Ol P ops Q w0 [] n m r a w) (hc : ∀ s w', Hb w0 w' → F s w' → Ol P ops Q w0 [] n m' r' (putAll a (ns s)) w') : Ol P ops Q w0 [] n m r a w := h hc
theorem ol_one (ri : List (Nat × Option Tmp)) (HT : Aside0 (rtab .any ops = T)) (hoi : ops[i]? = some oi) (hNi : oi.dst = Ni) (hc : (readyT T.2 (lst n r).toList == [i] && (lst n r).toList.set i true == (lst n ri).toList) = true)
    (h1 : ∀ K : Act → World → Prop, KS P ops Q w0 n m ri K → if Region.wanted oi (yielded ops a.tmps) = true then Oper.wp P oi a w K Q else K (a.put Ni undef) w) : Ol P ops Q w0 [] n (m + 1) r a w :=
  one_ (lst n ri) hoi hNi (one_of HT.out hc) (by simp) h1
theorem ol_two (ri rj : List (Nat × Option Tmp)) (HT : Aside0 (rtab .any ops = T)) (hoi : ops[i]? = some oi) (hoj : ops[j]? = some oj) (hNi : oi.dst = Ni) (hNj : oj.dst = Nj) (hc : (readyT T.2 (lst n r).toList == [i, j] && (lst n r).toList.set i true == (lst n ri).toList && (lst n r).toList.set j true == (lst n rj).toList) = true)
    (h1 : ∀ K : Act → World → Prop, KS P ops Q w0 n m ri K → if Region.wanted oi (yielded ops a.tmps) = true then Oper.wp P oi a w K Q else K (a.put Ni undef) w)
    (h2 : ∀ K : Act → World → Prop, KS P ops Q w0 n m rj K → if Region.wanted oj (yielded ops a.tmps) = true then Oper.wp P oj a w K Q else K (a.put Nj undef) w) : Ol P ops Q w0 [] n (m + 1) r a w :=
  two_ (lst n ri) (lst n rj) hoi hoj hNi hNj (two_of HT.out hc) (by simp) (by simp) h1 h2
theorem ol_three (ri rj rk : List (Nat × Option Tmp)) (HT : Aside0 (rtab .any ops = T)) (hoi : ops[i]? = some oi) (hoj : ops[j]? = some oj) (hok : ops[k]? = some ok_) (hNi : oi.dst = Ni) (hNj : oj.dst = Nj) (hNk : ok_.dst = Nk)
    (hc : (readyT T.2 (lst n r).toList == [i, j, k] && (lst n r).toList.set i true == (lst n ri).toList && (lst n r).toList.set j true == (lst n rj).toList && (lst n r).toList.set k true == (lst n rk).toList) = true)
    (h1 : ∀ K : Act → World → Prop, KS P ops Q w0 n m ri K → if Region.wanted oi (yielded ops a.tmps) = true then Oper.wp P oi a w K Q else K (a.put Ni undef) w)
    (h2 : ∀ K : Act → World → Prop, KS P ops Q w0 n m rj K → if Region.wanted oj (yielded ops a.tmps) = true then Oper.wp P oj a w K Q else K (a.put Nj undef) w)
    (h3 : ∀ K : Act → World → Prop, KS P ops Q w0 n m rk K → if Region.wanted ok_ (yielded ops a.tmps) = true then Oper.wp P ok_ a w K Q else K (a.put Nk undef) w) : Ol P ops Q w0 [] n (m + 1) r a w :=
  three_ (lst n ri) (lst n rj) (lst n rk) hoi hoj hok hNi hNj hNk (three_of HT.out hc) (by simp) (by simp) (by simp) h1 h2 h3
theorem k_call {K : Act → World → Prop} (hK : KS P ops Q w0 n m r K) (HS : Hb w0 w) {f : FuncId} {fn : Func} {aS : Array Operand} {ts : Array TypeId} (hop : oi.op = .call { callee := .value (.func f), args := aS, argTypes := ts }) (hf : P.funcs[f]? = some fn) (hname : (fn.name == "runtime.NumGoroutine") = false) (hb : fn.body.isSome = true) (args : Array Value) (hw : Region.wanted oi (yielded ops a.tmps) = true) (hN : oi.dst = N) (hargs : aS.map a.eval = args)
    (h : Calls P f args w fun e w' => ∃ v, e = .returned v ∧ Below w.heap.size w w' ∧ (Hb w0 w' → Ol P ops Q w0 [] n m r (a.put N v) w')) : if Region.wanted oi (yielded ops a.tmps) = true then Oper.wp P oi a w K Q else K (a.put N undef) w := by
  refine goes_ hf hname hb args hw hN hop hargs ?_
  refine h.mono fun e w' hh => ?_
  obtain ⟨v, rfl, hb, hk⟩ := hh
  have hS' : Hb w0 w' := ⟨below_step HS.out hb⟩
  exact ⟨v, rfl, hK.out _ _ hS' (fun _ => hk hS')⟩
theorem k_alloc {K : Act → World → Prop} (hK : KS P ops Q w0 n m r K) (HS : Hb w0 w) (hw : Region.wanted oi (yielded ops a.tmps) = true) (hN : oi.dst = N) {cs : Array Value} {t : TypeId} (hrun : (execOp a.eval oi).run P w = .ok (.value (.pointer (some ⟨w.heap.size, 0, none⟩))) (w.alloc (.cells cs t (0, 0))))
    (h : ∀ (g : Nat) (w1 : World), g = w.heap.size → Bk w1 g t cs → Below w.heap.size w w1 → Hb w0 w1 → Ol P ops Q w0 [] n m r (a.put N (.pointer (some ⟨g, 0, none⟩))) w1) : if Region.wanted oi (yielded ops a.tmps) = true then Oper.wp P oi a w K Q else K (a.put N undef) w := by
  have hb : Below w.heap.size w (w.alloc (.cells cs t (0, 0))) := below_alloc (Below.refl _ _) _
  have hS' : Hb w0 (w.alloc (.cells cs t (0, 0))) := ⟨below_step HS.out hb⟩
  exact value_ hw hN hrun (hK.out _ _ hS' (fun _ => h w.heap.size _ rfl ⟨heap_alloc_new w _⟩ hb hS'))
theorem k_slice {K : Act → World → Prop} (hK : KS P ops Q w0 n m r K) (HS : Hb w0 w) (hw : Region.wanted oi (yielded ops a.tmps) = true) (hN : oi.dst = N) {cs : Array Value} {t : TypeId} {ln : Nat} (hrun : (execOp a.eval oi).run P w = .ok (.value (.slice (some ⟨w.heap.size, 0, none⟩) ln ln)) (w.alloc (.cells cs t (0, 0))))
    (h : ∀ (g : Nat) (w1 : World), g = w.heap.size → Bk w1 g t cs → Below w.heap.size w w1 → Hb w0 w1 → Ol P ops Q w0 [] n m r (a.put N (.slice (some ⟨g, 0, none⟩) ln ln)) w1) : if Region.wanted oi (yielded ops a.tmps) = true then Oper.wp P oi a w K Q else K (a.put N undef) w := by
  have hb : Below w.heap.size w (w.alloc (.cells cs t (0, 0))) := below_alloc (Below.refl _ _) _
  have hS' : Hb w0 (w.alloc (.cells cs t (0, 0))) := ⟨below_step HS.out hb⟩
  exact value_ hw hN hrun (hK.out _ _ hS' (fun _ => h w.heap.size _ rfl ⟨heap_alloc_new w _⟩ hb hS'))
end
section
variable {ops : Array Oper} {Q : Exit → Act → World → Prop} {w0 : World} {T : Bool × List (List Nat × List Nat)} {n m i : Nat} {r : List (Nat × Option Tmp)} {a : Act} {w : World} {oi : Oper}
/-- A store of one cell to a variable made behind w0. -/
theorem ol_set (ri : List (Nat × Option Tmp)) (HT : Aside0 (rtab .any ops = T)) (HS : Hb w0 w) (ho : ops[i]? = some oi) (hN : oi.dst = none) (hc : (readyT T.2 (lst n r).toList == [i] && (lst n r).toList.set i true == (lst n ri).toList) = true) (hw : Region.wanted oi (yielded ops a.tmps) = true) {g : Nat} {z v : Value} {t : TypeId} (hb : Bk w g t #[z]) (hge : w0.heap.size ≤ g)
    (hrun : (execOp a.eval oi).run Try.prog w = .ok .skip (w.setCell ⟨g, 0, none⟩ v)) (h : ∀ w1, Bk w1 g t #[v] → w.grownBy w1 (some g) → Hb w0 w1 → Ol Try.prog ops Q w0 [] n m ri a w1) : Ol Try.prog ops Q w0 [] n (m + 1) r a w := by
  have hg : w.grownBy (w.setCell ⟨g, 0, none⟩ v) (some g) := ⟨rfl, rfl, rfl, by simp [World.setCell], fun k hk hne => Below.heap_setCell w ⟨g, 0, none⟩ v k (fun e => hne (by rw [e]))⟩
  have hS' : Hb w0 (w.setCell ⟨g, 0, none⟩ v) := ⟨HS.out.grown hg HS.out.size (fun k hk => by cases hk; exact hge)⟩
  refine one_ (lst n ri) ho hN (one_of HT.out hc) (by simp) (fun K hK => ?_)
  rw [if_pos hw]
  unfold Oper.wp
  rw [hrun]
  show K (a.put oi.dst undef) _
  rw [hN]
  exact hK.out _ _ hS' (fun _ => h _ ⟨Blk.set_ hb.blk 0 v⟩ hg hS')
end
end Go.Proofs.Ytmacdknicgfglaa.Evt
