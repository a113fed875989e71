/- Regions of open order, operation by operation: the steps (some operations, those of ds, need not keep what stands). -/
import Derived.Test.YtjohdkbciafpfaaOr
import Derived.Test.YtjohdkbciafpfaaProg
import Derived.Laws.Tables
import Derived.Laws.Rows
namespace Go.Proofs.Ytjohdkbciafpfaa.Evt
open Go.RowKit Go.Proofs.YtjohdkbciafpfaaW.PrintWords Go.Proofs.YtjohdkbciafpfaaW.PrintMore Go.Proofs.YtjohdkbciafpfaaW.PrintLast Go.Proofs.Ytjohdkbciafpfaa.Chg
set_option linter.unusedVariables false
section
variable {P : Program} {ops : Array Oper} {Q : Exit → Act → World → Prop} {w0 : World} {T : Bool × List (List Nat × List Nat)} {B ds : List Nat}
def Ol (P : Program) (ops : Array Oper) (Q : Exit → Act → World → Prop) (w0 : World) (ds : List Nat) (n m : Nat) (r : List (Nat × Option Tmp)) (a : Act) (w : World) : Prop := wpAnyLast P .any ops Q (Hb w0) ds m (lst n r) a w
theorem ol_start {id : Nat} {a : Act} {w : World} (n : Nat) (r : List (Nat × Option Tmp)) (hm : P.follows .mixedOrders = true) (hn : ops.size = n) (hl : Array.replicate n false = lst n r) (hT : rtab .any ops = T) (hB : waitsOk T.2 B = true) (hb : Below w0.heap.size w0 w)
    (h : Aside0 (rtab .any ops = T) → Aside0 (waitsOk T.2 B = true) → ∀ w', Hb w0 w' → Ol P ops Q w0 ds n n r a w') : (Code.region id ops true).wp P Q a w :=
  start_ (lst n r) hm hn hl ⟨below_drew hb⟩ (fun _ => h ⟨hT⟩ ⟨hB⟩ _ ⟨below_drew hb⟩)
variable {n m i : Nat} {N : Option Tmp} {r : List (Nat × Option Tmp)} {a a' : Act} {w : World} {oi : Oper} {v : Value}
theorem ol_off (HT : Aside0 (rtab .any ops = T)) (ho : ops[i]? = some oi) (hN : oi.dst = N) (hw : Region.wanted oi (yielded ops a.tmps) = false) (hc : anyT T (lst n ((i, N) :: r)).toList (lst n r).toList i = true)
    (hQ : ∀ c a w, Q (.panic c) (a.put N undef) w → Q (.panic c) a w) (ha : a.put N undef = a') (h : Ol P ops Q w0 ds n m r a' w) : Ol P ops Q w0 ds n (m + 1) ((i, N) :: r) a w :=
  by subst hN; exact pure_ (lst n r) ho rfl (any_of HT.out hc) hQ (.inr ⟨hw, rfl⟩) ha h
theorem ol_pure (HT : Aside0 (rtab .any ops = T)) (ho : ops[i]? = some oi) (hN : oi.dst = N) (hp : pureK oi.op = true) (hw : Region.wanted oi (yielded ops a.tmps) = true) (hc : anyT T (lst n ((i, N) :: r)).toList (lst n r).toList i = true)
    (hQ : ∀ c a w, Q (.panic c) (a.put N v) w → Q (.panic c) a w) (hr : ∀ w', (execOp a.eval oi).run P w' = .ok (.value v) w') (ha : a.put N v = a') (h : Ol P ops Q w0 ds n m r a' w) : Ol P ops Q w0 ds n (m + 1) ((i, N) :: r) a w :=
  by subst hN; exact pure_ (lst n r) ho rfl (any_of HT.out hc) hQ (.inl ⟨hw, hr⟩) ha h
theorem ol_load (HT : Aside0 (rtab .any ops = T)) (HW : Aside0 (waitsOk T.2 B = true)) (HS : Hb w0 w) (ho : ops[i]? = some oi) (hN : oi.dst = N) (hp : loadK oi.op = true) (hw : Region.wanted oi (yielded ops a.tmps) = true) (hc : takeW T B ds (lst n ((i, N) :: r)).toList (lst n r).toList i = true)
    (hQ : ∀ c a w, Q (.panic c) (a.put N v) w → Q (.panic c) a w) (hr : ∀ w', Hb w0 w' → (execOp a.eval oi).run P w' = .ok (.value v) w') (ha : a.put N v = a') (h : Ol P ops Q w0 ds n m r a' w) : Ol P ops Q w0 ds n (m + 1) ((i, N) :: r) a w :=
  by subst hN; exact take_ (lst n r) ho rfl (take_ofW HT.out HW.out hc) hQ (.inl ⟨hw, hr⟩) HS ha h
theorem ol_norm (ha : a = a') (h : Ol P ops Q w0 ds n m r a' w) : Ol P ops Q w0 ds n m r a w := by subst ha; exact h
theorem ol_done (HT : Aside0 (rtab .any ops = T)) (hc : (readyT T.2 (lst n []).toList == []) = true) (h : Q .normal a w) : Ol P ops Q w0 ds n m [] a w := done_ (done_of HT.out hc) h
end
section
variable {P : Program} {ops : Array Oper} {rest : List Oper} {o : Oper} {a : Act} {Q : Exit → Act → World → Prop} {W : World}
theorem skip_ev {W1 : World} (hgd : o.guard = none) (hrun : (execOp a.eval o).run P W = .ok .skip W1) (h : wpList P ops Q rest (a.put o.dst undef) W1) : wpList P ops Q (o :: rest) a W := by
  refine wpList_plain hgd fun K hK => ?_
  unfold Oper.wp
  rw [hrun]
  exact hK _ _ h
end
section
variable {ops : Array Oper} {rest : List Oper} {o o2 : Oper} {a : Act} {Q : Exit → Act → World → Prop} {W : World}
/-- A variable of one cell made, and filled at once. -/
theorem box1 (hgd : o.guard = none) {N : Tmp} (hd : o.dst = some N) {z v : Value} {T : TypeId}
    (hrun : (execOp a.eval o).run Try.prog W = .ok (.value (.pointer (some ⟨W.heap.size, 0, none⟩))) (W.alloc (.cells #[z] T (0, 0))))
    (hg2 : o2.guard = none) (hd2 : o2.dst = none)
    (hrun2 : (execOp (a.put (some N) (.pointer (some ⟨W.heap.size, 0, none⟩))).eval o2).run Try.prog (W.alloc (.cells #[z] T (0, 0))) = .ok .skip ((W.alloc (.cells #[z] T (0, 0))).setCell ⟨W.heap.size, 0, none⟩ v))
    (h : ∀ g, g = W.heap.size → ∀ w1, w1.heap[g]? = some (.cells #[v] T (0, 0)) → Below W.heap.size W w1 → wpList Try.prog ops Q rest (a.put o.dst (.pointer (some ⟨g, 0, none⟩))) w1) : wpList Try.prog ops Q (o :: o2 :: rest) a W := by
  refine Kd.event_run hgd hrun ?_
  rw [hd]
  refine skip_ev hg2 hrun2 ?_
  rw [hd2]
  have h1 : Blk ((W.alloc (.cells #[z] T (0, 0))).setCell ⟨W.heap.size, 0, none⟩ v) W.heap.size T #[v] := (Blk.new W T #[z]).set_ 0 v
  have hh := h W.heap.size rfl _ h1 (below_set (below_alloc (Below.refl _ _) _) (Nat.le_refl _))
  rw [hd] at hh
  exact hh
/-- A variable of one cell is written. -/
theorem set1_ev (hgd : o.guard = none) {g : Nat} {z v : Value} {T : TypeId} (hb : Bk W g T #[z])
    (hrun : (execOp a.eval o).run Try.prog W = .ok .skip (W.setCell ⟨g, 0, none⟩ v))
    (h : ∀ w1, Bk w1 g T #[v] → W.grownBy w1 (some g) → wpList Try.prog ops Q rest (a.put o.dst undef) w1) : wpList Try.prog ops Q (o :: rest) a W := by
  refine skip_ev hgd hrun (h _ ⟨Blk.set_ hb.blk 0 v⟩ ⟨rfl, rfl, rfl, by simp [World.setCell], fun k hk hne => ?_⟩)
  exact Below.heap_setCell W ⟨g, 0, none⟩ v k (fun e => hne (by rw [e]))
end
section
variable {P : Program} {ops : Array Oper} {Q : Exit → Act → World → Prop} {w0 : World} {T : Bool × List (List Nat × List Nat)} {B : List Nat}
variable {n m i j k : Nat} {N Ni Nj Nk : Option Tmp} {r : List (Nat × Option Tmp)} {a a' : Act} {w w1 : World} {oi oj ok_ : Oper} {v : Value}
/-- What follows on an operation that is taken. -/
abbrev KS (P : Program) (ops : Array Oper) (Q : Exit → Act → World → Prop) (w0 : World) (n m : Nat) (r : List (Nat × Option Tmp)) (K : Act → World → Prop) : Prop := Shut (∀ a' w', Hb w0 w' → (Hb w0 w' → wpAnyLast P .any ops Q (Hb w0) [] m (lst n r) a' w') → K a' w')
theorem ol_join {σ : Type} (m' : Nat) (r' : List (Nat × Option Tmp)) (ns : σ → List (Tmp × Value)) (F : σ → World → Prop)
    (h : (∀ s w', Hb w0 w' → F s w' → Ol P ops Q w0 [] n m' r' (putAll a (ns s)) w') → Ol P ops Q w0 [] n m r a w) (hc : ∀ s w', Hb w0 w' → F s w' → Ol P ops Q w0 [] n m' r' (putAll a (ns s)) w') : Ol P ops Q w0 [] n m r a w := h hc
theorem ol_one (ri : List (Nat × Option Tmp)) (HT : Aside0 (rtab .any ops = T)) (hoi : ops[i]? = some oi) (hNi : oi.dst = Ni) (hc : (readyT T.2 (lst n r).toList == [i] && (lst n r).toList.set i true == (lst n ri).toList) = true)
    (h1 : ∀ K : Act → World → Prop, KS P ops Q w0 n m ri K → if Region.wanted oi (yielded ops a.tmps) = true then Oper.wp P oi a w K Q else K (a.put Ni undef) w) : Ol P ops Q w0 [] n (m + 1) r a w :=
  one_ (lst n ri) hoi hNi (one_of HT.out hc) (by simp) h1
theorem ol_two (ri rj : List (Nat × Option Tmp)) (HT : Aside0 (rtab .any ops = T)) (hoi : ops[i]? = some oi) (hoj : ops[j]? = some oj) (hNi : oi.dst = Ni) (hNj : oj.dst = Nj) (hc : (readyT T.2 (lst n r).toList == [i, j] && (lst n r).toList.set i true == (lst n ri).toList && (lst n r).toList.set j true == (lst n rj).toList) = true)
    (h1 : ∀ K : Act → World → Prop, KS P ops Q w0 n m ri K → if Region.wanted oi (yielded ops a.tmps) = true then Oper.wp P oi a w K Q else K (a.put Ni undef) w)
    (h2 : ∀ K : Act → World → Prop, KS P ops Q w0 n m rj K → if Region.wanted oj (yielded ops a.tmps) = true then Oper.wp P oj a w K Q else K (a.put Nj undef) w) : Ol P ops Q w0 [] n (m + 1) r a w :=
  two_ (lst n ri) (lst n rj) hoi hoj hNi hNj (two_of HT.out hc) (by simp) (by simp) h1 h2
theorem ol_three (ri rj rk : List (Nat × Option Tmp)) (HT : Aside0 (rtab .any ops = T)) (hoi : ops[i]? = some oi) (hoj : ops[j]? = some oj) (hok : ops[k]? = some ok_) (hNi : oi.dst = Ni) (hNj : oj.dst = Nj) (hNk : ok_.dst = Nk)
    (hc : (readyT T.2 (lst n r).toList == [i, j, k] && (lst n r).toList.set i true == (lst n ri).toList && (lst n r).toList.set j true == (lst n rj).toList && (lst n r).toList.set k true == (lst n rk).toList) = true)
    (h1 : ∀ K : Act → World → Prop, KS P ops Q w0 n m ri K → if Region.wanted oi (yielded ops a.tmps) = true then Oper.wp P oi a w K Q else K (a.put Ni undef) w)
    (h2 : ∀ K : Act → World → Prop, KS P ops Q w0 n m rj K → if Region.wanted oj (yielded ops a.tmps) = true then Oper.wp P oj a w K Q else K (a.put Nj undef) w)
    (h3 : ∀ K : Act → World → Prop, KS P ops Q w0 n m rk K → if Region.wanted ok_ (yielded ops a.tmps) = true then Oper.wp P ok_ a w K Q else K (a.put Nk undef) w) : Ol P ops Q w0 [] n (m + 1) r a w :=
  three_ (lst n ri) (lst n rj) (lst n rk) hoi hoj hok hNi hNj hNk (three_of HT.out hc) (by simp) (by simp) (by simp) h1 h2 h3
theorem k_call {K : Act → World → Prop} (hK : KS P ops Q w0 n m r K) (HS : Hb w0 w) {f : FuncId} {fn : Func} {aS : Array Operand} {ts : Array TypeId} (hop : oi.op = .call { callee := .value (.func f), args := aS, argTypes := ts }) (hf : P.funcs[f]? = some fn) (hname : (fn.name == "runtime.NumGoroutine") = false) (hb : fn.body.isSome = true) (args : Array Value) (hw : Region.wanted oi (yielded ops a.tmps) = true) (hN : oi.dst = N) (hargs : aS.map a.eval = args)
    (h : Calls P f args w fun e w' => ∃ v, e = .returned v ∧ Below w.heap.size w w' ∧ (Hb w0 w' → Ol P ops Q w0 [] n m r (a.put N v) w')) : if Region.wanted oi (yielded ops a.tmps) = true then Oper.wp P oi a w K Q else K (a.put N undef) w := by
  refine goes_ hf hname hb args hw hN hop hargs ?_
  refine h.mono fun e w' hh => ?_
  obtain ⟨v, rfl, hb, hk⟩ := hh
  have hS' : Hb w0 w' := ⟨below_step HS.out hb⟩
  exact ⟨v, rfl, hK.out _ _ hS' (fun _ => hk hS')⟩
theorem k_alloc {K : Act → World → Prop} (hK : KS P ops Q w0 n m r K) (HS : Hb w0 w) (hw : Region.wanted oi (yielded ops a.tmps) = true) (hN : oi.dst = N) {cs : Array Value} {t : TypeId} (hrun : (execOp a.eval oi).run P w = .ok (.value (.pointer (some ⟨w.heap.size, 0, none⟩))) (w.alloc (.cells cs t (0, 0))))
    (h : ∀ (g : Nat) (w1 : World), g = w.heap.size → Bk w1 g t cs → Below w.heap.size w w1 → Hb w0 w1 → Ol P ops Q w0 [] n m r (a.put N (.pointer (some ⟨g, 0, none⟩))) w1) : if Region.wanted oi (yielded ops a.tmps) = true then Oper.wp P oi a w K Q else K (a.put N undef) w := by
  have hb : Below w.heap.size w (w.alloc (.cells cs t (0, 0))) := below_alloc (Below.refl _ _) _
  have hS' : Hb w0 (w.alloc (.cells cs t (0, 0))) := ⟨below_step HS.out hb⟩
  exact value_ hw hN hrun (hK.out _ _ hS' (fun _ => h w.heap.size _ rfl ⟨heap_alloc_new w _⟩ hb hS'))
theorem k_slice {K : Act → World → Prop} (hK : KS P ops Q w0 n m r K) (HS : Hb w0 w) (hw : Region.wanted oi (yielded ops a.tmps) = true) (hN : oi.dst = N) {cs : Array Value} {t : TypeId} {ln : Nat} (hrun : (execOp a.eval oi).run P w = .ok (.value (.slice (some ⟨w.heap.size, 0, none⟩) ln ln)) (w.alloc (.cells cs t (0, 0))))
    (h : ∀ (g : Nat) (w1 : World), g = w.heap.size → Bk w1 g t cs → Below w.heap.size w w1 → Hb w0 w1 → Ol P ops Q w0 [] n m r (a.put N (.slice (some ⟨g, 0, none⟩) ln ln)) w1) : if Region.wanted oi (yielded ops a.tmps) = true then Oper.wp P oi a w K Q else K (a.put N undef) w := by
  have hb : Below w.heap.size w (w.alloc (.cells cs t (0, 0))) := below_alloc (Below.refl _ _) _
  have hS' : Hb w0 (w.alloc (.cells cs t (0, 0))) := ⟨below_step HS.out hb⟩
  exact value_ hw hN hrun (hK.out _ _ hS' (fun _ => h w.heap.size _ rfl ⟨heap_alloc_new w _⟩ hb hS'))
end
section
variable {ops : Array Oper} {Q : Exit → Act → World → Prop} {w0 : World} {T : Bool × List (List Nat × List Nat)} {n m i : Nat} {r : List (Nat × Option Tmp)} {a : Act} {w : World} {oi : Oper}
/-- A store of one cell to a variable made behind w0. -/
theorem ol_set (ri : List (Nat × Option Tmp)) (HT : Aside0 (rtab .any ops = T)) (HS : Hb w0 w) (ho : ops[i]? = some oi) (hN : oi.dst = none) (hc : (readyT T.2 (lst n r).toList == [i] && (lst n r).toList.set i true == (lst n ri).toList) = true) (hw : Region.wanted oi (yielded ops a.tmps) = true) {g : Nat} {z v : Value} {t : TypeId} (hb : Bk w g t #[z]) (hge : w0.heap.size ≤ g)
    (hrun : (execOp a.eval oi).run Try.prog w = .ok .skip (w.setCell ⟨g, 0, none⟩ v)) (h : ∀ w1, Bk w1 g t #[v] → w.grownBy w1 (some g) → Hb w0 w1 → Ol Try.prog ops Q w0 [] n m ri a w1) : Ol Try.prog ops Q w0 [] n (m + 1) r a w := by
  have hg : w.grownBy (w.setCell ⟨g, 0, none⟩ v) (some g) := ⟨rfl, rfl, rfl, by simp [World.setCell], fun k hk hne => Below.heap_setCell w ⟨g, 0, none⟩ v k (fun e => hne (by rw [e]))⟩
  have hS' : Hb w0 (w.setCell ⟨g, 0, none⟩ v) := ⟨HS.out.grown hg HS.out.size (fun k hk => by cases hk; exact hge)⟩
  refine one_ (lst n ri) ho hN (one_of HT.out hc) (by simp) (fun K hK => ?_)
  rw [if_pos hw]
  unfold Oper.wp
  rw [hrun]
  show K (a.put oi.dst undef) _
  rw [hN]
  exact hK.out _ _ hS' (fun _ => h _ ⟨Blk.set_ hb.blk 0 v⟩ hg hS')
end
section
variable {ops : Array Oper} {Q : Exit → Act → World → Prop} {w0 : World} {n m : Nat} {N : Option Tmp} {r : List (Nat × Option Tmp)} {a a' : Act} {w : World} {oi : Oper} {T : Bool × List (List Nat × List Nat)} {ds : List Nat} {i : Nat}
/-- A store of all cells to a variable made behind w0. -/
theorem ol_setrow {n m i : Nat} {w : World} (ri : List (Nat × Option Tmp)) (HT : Aside0 (rtab .any ops = T)) (HS : Hb w0 w) (ho : ops[i]? = some oi) (hN : oi.dst = none) (hc : (readyT T.2 (lst n r).toList == [i] && (lst n r).toList.set i true == (lst n ri).toList) = true) (hw : Region.wanted oi (yielded ops a.tmps) = true) {g : Nat} {zs cs : Array Value} {t : TypeId} (hb : Bk w g t zs) (hge : w0.heap.size ≤ g)
    (ty : TypeId) (x y : Operand) (hop : oi.op = .store ty x y) (hx : a.eval x = .pointer (some ⟨g, 0, none⟩)) (hy : a.eval y = .agg cs) (hi : (Try.prog.info? ty).map (·.size) = some cs.size) (hold : zs.size = cs.size) (h1 : cs.all (·.oneCell') = true)
    (h : ∀ w1, Bk w1 g t cs → w.grownBy w1 (some g) → Hb w0 w1 → Ol Try.prog ops Q w0 [] n m ri a w1) : Ol Try.prog ops Q w0 [] n (m + 1) r a w := by
  have hg : w.grownBy (w.setRow g cs) (some g) := ⟨rfl, rfl, rfl, by simp, fun k hk hne => setRow_other w g k cs (fun e => hne (by rw [e]))⟩
  have hS' : Hb w0 (w.setRow g cs) := ⟨HS.out.grown hg HS.out.size (fun k hk => by cases hk; exact hge)⟩
  refine one_ (lst n ri) ho hN (one_of HT.out hc) (by simp) (fun K hK => ?_)
  rw [if_pos hw]
  refine wp_store_row ty x y hop g cs hx hy t zs hb.blk hi hold h1 ?_
  rw [hN]
  exact hK.out _ _ hS' (fun _ => h _ ⟨setRow_heap w g zs cs t (0, 0) hb.blk⟩ hg hS')
/-- A store of all cells to a variable that stood before the region: one of ds. -/
theorem ol_ranrow (HT : Aside0 (rtab .any ops = T)) (ho : ops[i]? = some oi) (hN : oi.dst = none) (hd : i ∈ ds) (hc : (readyT T.2 (lst n ((i, none) :: r)).toList == [i] && (lst n ((i, none) :: r)).toList.set i true == (lst n r).toList) = true) (hw : Region.wanted oi (yielded ops a.tmps) = true) {g : Nat} {zs cs : Array Value} {t : TypeId} (hb : Bk w g t zs)
    (ty : TypeId) (x y : Operand) (hop : oi.op = .store ty x y) (hx : a.eval x = .pointer (some ⟨g, 0, none⟩)) (hy : a.eval y = .agg cs) (hi : (Try.prog.info? ty).map (·.size) = some cs.size) (hold : zs.size = cs.size) (h1 : cs.all (·.oneCell') = true)
    (h : ∀ w1, Bk w1 g t cs → w.grownBy w1 (some g) → Ol Try.prog ops Q w0 ds n m r a w1) : Ol Try.prog ops Q w0 ds n (m + 1) ((i, none) :: r) a w := by
  have hg : w.grownBy (w.setRow g cs) (some g) := ⟨rfl, rfl, rfl, by simp, fun k hk hne => setRow_other w g k cs (fun e => hne (by rw [e]))⟩
  refine last_ (lst n r) ho hN (one_of HT.out hc) hd (fun K hK => ?_)
  rw [if_pos hw]
  refine wp_store_row ty x y hop g cs hx hy t zs hb.blk hi hold h1 ?_
  rw [hN]
  exact hK.out _ _ (h _ ⟨setRow_heap w g zs cs t (0, 0) hb.blk⟩ hg)
/-- An operation, alone ready, that yields a value (and may make memory). -/
theorem ol_value {w1 : World} {v : Value} (HT : Aside0 (rtab .any ops = T)) (HS : Hb w0 w) (ho : ops[i]? = some oi) (hN : oi.dst = N) (hd : i ∉ ds) (hw : Region.wanted oi (yielded ops a.tmps) = true) (hc : (readyT T.2 (lst n ((i, N) :: r)).toList == [i] && (lst n ((i, N) :: r)).toList.set i true == (lst n r).toList) = true)
    (hrun : (execOp a.eval oi).run Try.prog w = .ok (.value v) w1) (hb : Below w.heap.size w w1) (ha : a.put N v = a') (h : Hb w0 w1 → Ol Try.prog ops Q w0 ds n m r a' w1) : Ol Try.prog ops Q w0 ds n (m + 1) ((i, N) :: r) a w := by
  subst ha
  have hS' : Hb w0 w1 := ⟨below_step HS.out hb⟩
  exact one_ (lst n r) ho hN (one_of HT.out hc) hd (fun K hK => value_ hw hN hrun (hK.out _ _ hS' (fun _ => h hS')))
/-- An operation of ds without a destination, run. -/
theorem ol_ran {w1 : World} (HT : Aside0 (rtab .any ops = T)) (ho : ops[i]? = some oi) (hN : oi.dst = none) (hd : i ∈ ds) (hc : (readyT T.2 (lst n ((i, none) :: r)).toList == [i] && (lst n ((i, none) :: r)).toList.set i true == (lst n r).toList) = true) (hw : Region.wanted oi (yielded ops a.tmps) = true)
    (hrun : (execOp a.eval oi).run Try.prog w = .ok .skip w1) (h : Ol Try.prog ops Q w0 ds n m r a w1) : Ol Try.prog ops Q w0 ds n (m + 1) ((i, none) :: r) a w := by
  refine last_ (lst n r) ho hN (one_of HT.out hc) hd (fun K hK => ?_)
  rw [if_pos hw]
  unfold Oper.wp
  rw [hrun]
  show K (a.put oi.dst undef) w1
  rw [hN]
  exact hK.out _ _ h
/-- A store of one cell to a variable that stood before the region: one of ds. -/
theorem ol_rancell (HT : Aside0 (rtab .any ops = T)) (ho : ops[i]? = some oi) (hN : oi.dst = none) (hd : i ∈ ds) (hc : (readyT T.2 (lst n ((i, none) :: r)).toList == [i] && (lst n ((i, none) :: r)).toList.set i true == (lst n r).toList) = true) (hw : Region.wanted oi (yielded ops a.tmps) = true) {g : Nat} {zs : Array Value} {t : TypeId} (hb : Bk w g t zs) (j : Nat) (v : Value)
    (hrun : (execOp a.eval oi).run Try.prog w = .ok .skip (w.setCell ⟨g, j, none⟩ v))
    (h : ∀ w1, Bk w1 g t (zs.setIfInBounds j v) → w.grownBy w1 (some g) → Ol Try.prog ops Q w0 ds n m r a w1) : Ol Try.prog ops Q w0 ds n (m + 1) ((i, none) :: r) a w :=
  ol_ran HT ho hN hd hc hw hrun (h _ ⟨hb.blk.set_ j v⟩ ⟨rfl, rfl, rfl, by simp [World.setCell], fun k hk hne => Below.heap_setCell w ⟨g, j, none⟩ v k (fun e => hne (by rw [e]))⟩)
/-- The call of a function value, alone ready. -/
theorem ol_callf (HT : Aside0 (rtab .any ops = T)) (HS : Hb w0 w) (ho : ops[i]? = some oi) (hN : oi.dst = N) (hd : i ∉ ds) {f : FuncId} {fn : Func} {x : Operand} {aS : Array Operand} {ts : Array TypeId} (hop : oi.op = .call { callee := .value x, args := aS, argTypes := ts }) (hx : a.eval x = .func (.func f) #[] #[]) (hf : Try.prog.funcs[f]? = some fn) (hname : (fn.name == "runtime.NumGoroutine") = false) (hb : fn.body.isSome = true) (args : Array Value)
    (hc : (readyT T.2 (lst n ((i, N) :: r)).toList == [i] && (lst n ((i, N) :: r)).toList.set i true == (lst n r).toList) = true) (hw : Region.wanted oi (yielded ops a.tmps) = true) (hargs : aS.map a.eval = args)
    (h : Calls Try.prog f args w fun e w' => ∃ v, e = .returned v ∧ Below w.heap.size w w' ∧ (Hb w0 w' → Ol Try.prog ops Q w0 ds n m r (a.put N v) w')) : Ol Try.prog ops Q w0 ds n (m + 1) ((i, N) :: r) a w := by
  refine one_ (lst n r) ho hN (one_of HT.out hc) hd (fun K hK => ?_)
  refine call_ f args hw hN ?_ ?_
  · have he := enters_ hf hname hb args w
    unfold execOp
    simp [hop, resolve, Deferred.ofValue, invoke, hx, hargs, he]
  · refine h.mono fun e w' hh => ?_
    obtain ⟨v, rfl, hb, hk⟩ := hh
    have hS' : Hb w0 w' := ⟨below_step HS.out hb⟩
    exact ⟨v, rfl, hK.out _ _ hS' (fun _ => hk hS')⟩
/-- An operation, alone ready, that yields a slice of a new block. -/
theorem ol_sliced (HT : Aside0 (rtab .any ops = T)) (HS : Hb w0 w) (ho : ops[i]? = some oi) (hN : oi.dst = N) (hd : i ∉ ds)
    (hc : (readyT T.2 (lst n ((i, N) :: r)).toList == [i] && (lst n ((i, N) :: r)).toList.set i true == (lst n r).toList) = true) (hw : Region.wanted oi (yielded ops a.tmps) = true) {cs : Array Value} {t : TypeId} {ln : Nat}
    (hrun : (execOp a.eval oi).run Try.prog w = .ok (.value (.slice (some ⟨w.heap.size, 0, none⟩) ln ln)) (w.alloc (.cells cs t (0, 0))))
    (h : ∀ (g : Nat) (w1 : World), g = w.heap.size → Bk w1 g t cs → Below w.heap.size w w1 → Hb w0 w1 → Ol Try.prog ops Q w0 ds n m r (a.put N (.slice (some ⟨g, 0, none⟩) ln ln)) w1) : Ol Try.prog ops Q w0 ds n (m + 1) ((i, N) :: r) a w := by
  refine one_ (lst n r) ho hN (one_of HT.out hc) hd (fun K hK => ?_)
  have hb : Below w.heap.size w (w.alloc (.cells cs t (0, 0))) := below_alloc (Below.refl _ _) _
  have hS' : Hb w0 (w.alloc (.cells cs t (0, 0))) := ⟨below_step HS.out hb⟩
  exact value_ hw hN hrun (hK.out _ _ hS' (fun _ => h w.heap.size _ rfl ⟨heap_alloc_new w _⟩ hb hS'))
/-- The call of a function, alone ready, among operations of ds. -/
theorem ol_callg (HT : Aside0 (rtab .any ops = T)) (HS : Hb w0 w) (ho : ops[i]? = some oi) (hN : oi.dst = N) (hd : i ∉ ds) {f : FuncId} {fn : Func} {aS : Array Operand} {ts : Array TypeId} (hop : oi.op = .call { callee := .value (.func f), args := aS, argTypes := ts }) (hf : Try.prog.funcs[f]? = some fn) (hname : (fn.name == "runtime.NumGoroutine") = false) (hb : fn.body.isSome = true) (args : Array Value)
    (hc : (readyT T.2 (lst n ((i, N) :: r)).toList == [i] && (lst n ((i, N) :: r)).toList.set i true == (lst n r).toList) = true) (hw : Region.wanted oi (yielded ops a.tmps) = true) (hargs : aS.map a.eval = args)
    (h : Calls Try.prog f args w fun e w' => ∃ v, e = .returned v ∧ Below w.heap.size w w' ∧ (Hb w0 w' → Ol Try.prog ops Q w0 ds n m r (a.put N v) w')) : Ol Try.prog ops Q w0 ds n (m + 1) ((i, N) :: r) a w :=
  ol_callf HT HS ho hN hd hop rfl hf hname hb args hc hw hargs h
/-- The call of a function that may change more: the last but pure ones. -/
theorem ol_calld (HT : Aside0 (rtab .any ops = T)) (ho : ops[i]? = some oi) (hN : oi.dst = N) (hd : i ∈ ds) {f : FuncId} {fn : Func} {x : Operand} {aS : Array Operand} {ts : Array TypeId} (hop : oi.op = .call { callee := .value x, args := aS, argTypes := ts }) (hx : a.eval x = .func (.func f) #[] #[]) (hf : Try.prog.funcs[f]? = some fn) (hname : (fn.name == "runtime.NumGoroutine") = false) (hb : fn.body.isSome = true) (args : Array Value)
    (hc : (readyT T.2 (lst n ((i, N) :: r)).toList == [i] && (lst n ((i, N) :: r)).toList.set i true == (lst n r).toList) = true) (hw : Region.wanted oi (yielded ops a.tmps) = true) (hargs : aS.map a.eval = args)
    (h : Calls Try.prog f args w fun e w' => ∃ v, e = .returned v ∧ Ol Try.prog ops Q w0 ds n m r (a.put N v) w') : Ol Try.prog ops Q w0 ds n (m + 1) ((i, N) :: r) a w := by
  refine last_ (lst n r) ho hN (one_of HT.out hc) hd (fun K hK => ?_)
  refine call_ f args hw hN ?_ ?_
  · have he := enters_ hf hname hb args w
    unfold execOp
    simp [hop, resolve, Deferred.ofValue, invoke, hx, hargs, he]
  · refine h.mono fun e w' hh => ?_
    obtain ⟨v, rfl, hk⟩ := hh
    exact ⟨v, rfl, hK.out _ _ hk⟩
end
section
variable {P : Program} {ops : Array Oper} {rest : List Oper} {oi : Oper} {a : Act} {Q : Exit → Act → World → Prop} {w : World}
/-- The call of a bound method, as an arm of a plain region. -/
theorem goesF_ (N : Option Tmp) (hd : oi.dst = N) (hg : oi.guard = none) {f : FuncId} {fn : Func} {x : Operand} {aS : Array Operand} {ts : Array TypeId} {first : Array Value} (hop : oi.op = .call { callee := .value x, args := aS, argTypes := ts }) (hx : a.eval x = .func (.func f) first #[]) (hf : P.funcs[f]? = some fn) (hname : (fn.name == "runtime.NumGoroutine") = false) (hb : fn.body.isSome = true) (args : Array Value) (hargs : first ++ aS.map a.eval = args)
    (h : Calls P f args w fun e w' => ∃ v, e = .returned v ∧ wpList P ops Q rest (a.put N v) w') : wpList P ops Q (oi :: rest) a w := by
  refine wpList_plain hg fun K hK => ?_
  have he := enters_ hf hname hb args w
  have hrun : (execOp a.eval oi).run P w = .ok (.enter f args) w := by
    unfold execOp
    simp [hop, resolve, Deferred.ofValue, invoke, hx, hargs, he]
  unfold Oper.wp
  rw [hrun, Oper.upon_enter]
  refine h.mono fun e w'' hh => ?_
  obtain ⟨v, rfl, hk⟩ := hh
  subst hd
  exact hK _ _ hk
end
section
variable {P : Program} {ops : Array Oper} {rest : List Oper} {o : Oper} {a : Act} {Q : Exit → Act → World → Prop} {W : World}
/-- A variable is written whole. -/
theorem setrow_ev (hgd : o.guard = none) {g : Nat} {zs cs : Array Value} {T : TypeId} (hb : Bk W g T zs) (ty : TypeId) (x y : Operand) (hop : o.op = .store ty x y) (hd : o.dst = none) (hx : a.eval x = .pointer (some ⟨g, 0, none⟩)) (hy : a.eval y = .agg cs) (hi : (P.info? ty).map (·.size) = some cs.size) (hold : zs.size = cs.size) (h1 : cs.all (·.oneCell') = true)
    (h : ∀ w1, Bk w1 g T cs → W.grownBy w1 (some g) → wpList P ops Q rest a w1) : wpList P ops Q (o :: rest) a W := by
  refine wpList_store_row hgd ty x y hop g cs hx hy T zs hb.blk hi hold h1 ?_
  rw [hd]
  exact h _ ⟨setRow_heap W g zs cs T (0, 0) hb.blk⟩ ⟨rfl, rfl, rfl, by simp, fun k hk hne => setRow_other W g k cs (fun e => hne (by rw [e]))⟩
end
end Go.Proofs.Ytjohdkbciafpfaa.Evt
