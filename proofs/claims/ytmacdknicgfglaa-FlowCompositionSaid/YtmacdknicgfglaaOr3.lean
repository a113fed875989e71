/- A region of open order with lookups in one's own map, ended by an assignment to a map. -/
import Derived.Test.YtmacdknicgfglaaOr
import Derived.Test.YtmacdknicgfglaaMp
namespace Go.Proofs.Ytmacdknicgfglaa.Evt
open Go.RowKit Go.Proofs.YtmacdknicgfglaaW.PrintWords Go.Proofs.YtmacdknicgfglaaW.PrintMore Go.Proofs.YtmacdknicgfglaaW.PrintLast Go.Proofs.Ytmacdknicgfglaa.Chg Go.Proofs.Ytmacdknicgfglaa.Mp
set_option linter.unusedVariables false
section
variable {P : Program} {ops : Array Oper} {Q : Exit → Act → World → Prop} {w0 : World} {T : Bool × List (List Nat × List Nat)} {B ds : List Nat}
def Ol (P : Program) (ops : Array Oper) (Q : Exit → Act → World → Prop) (w0 : World) (ds : List Nat) (n m : Nat) (r : List (Nat × Option Tmp)) (a : Act) (w : World) : Prop := wpAnyLast P .any ops Q (Hb w0) ds m (lst n r) a w
theorem ol_start {id : Nat} {a : Act} {w : World} (n : Nat) (r : List (Nat × Option Tmp)) (hm : P.follows .mixedOrders = true) (hn : ops.size = n) (hl : Array.replicate n false = lst n r) (hT : rtab .any ops = T) (hB : waitsOk T.2 B = true) (hb : Below w0.heap.size w0 w)
    (h : Aside0 (rtab .any ops = T) → Aside0 (waitsOk T.2 B = true) → ∀ w', Hb w0 w' → Ol P ops Q w0 ds n n r a w') : (Code.region id ops true).wp P Q a w :=
  start_ (lst n r) hm hn hl ⟨below_drew hb⟩ (fun _ => h ⟨hT⟩ ⟨hB⟩ _ ⟨below_drew hb⟩)
variable {n m i : Nat} {N : Option Tmp} {r : List (Nat × Option Tmp)} {a a' : Act} {w : World} {oi : Oper} {v : Value}
theorem ol_off (HT : Aside0 (rtab .any ops = T)) (ho : ops[i]? = some oi) (hN : oi.dst = N) (hw : Region.wanted oi (yielded ops a.tmps) = false) (hc : anyT T (lst n ((i, N) :: r)).toList (lst n r).toList i = true)
    (hQ : ∀ c a w, Q (.panic c) (a.put N undef) w → Q (.panic c) a w) (ha : a.put N undef = a') (h : Ol P ops Q w0 ds n m r a' w) : Ol P ops Q w0 ds n (m + 1) ((i, N) :: r) a w :=
  by subst hN; exact pure_ (lst n r) ho rfl (any_of HT.out hc) hQ (.inr ⟨hw, rfl⟩) ha h
theorem ol_pure (HT : Aside0 (rtab .any ops = T)) (ho : ops[i]? = some oi) (hN : oi.dst = N) (hp : pureK oi.op = true) (hw : Region.wanted oi (yielded ops a.tmps) = true) (hc : anyT T (lst n ((i, N) :: r)).toList (lst n r).toList i = true)
    (hQ : ∀ c a w, Q (.panic c) (a.put N v) w → Q (.panic c) a w) (hr : ∀ w', (execOp a.eval oi).run P w' = .ok (.value v) w') (ha : a.put N v = a') (h : Ol P ops Q w0 ds n m r a' w) : Ol P ops Q w0 ds n (m + 1) ((i, N) :: r) a w :=
  by subst hN; exact pure_ (lst n r) ho rfl (any_of HT.out hc) hQ (.inl ⟨hw, hr⟩) ha h
theorem ol_load (HT : Aside0 (rtab .any ops = T)) (HW : Aside0 (waitsOk T.2 B = true)) (HS : Hb w0 w) (ho : ops[i]? = some oi) (hN : oi.dst = N) (hp : loadK oi.op = true) (hw : Region.wanted oi (yielded ops a.tmps) = true) (hc : takeW T B ds (lst n ((i, N) :: r)).toList (lst n r).toList i = true)
    (hQ : ∀ c a w, Q (.panic c) (a.put N v) w → Q (.panic c) a w) (hr : ∀ w', Hb w0 w' → (execOp a.eval oi).run P w' = .ok (.value v) w') (ha : a.put N v = a') (h : Ol P ops Q w0 ds n m r a' w) : Ol P ops Q w0 ds n (m + 1) ((i, N) :: r) a w :=
  by subst hN; exact take_ (lst n r) ho rfl (take_ofW HT.out HW.out hc) hQ (.inl ⟨hw, hr⟩) HS ha h
theorem ol_norm (ha : a = a') (h : Ol P ops Q w0 ds n m r a' w) : Ol P ops Q w0 ds n m r a w := by subst ha; exact h
theorem ol_done (HT : Aside0 (rtab .any ops = T)) (hc : (readyT T.2 (lst n []).toList == []) = true) (h : Q .normal a w) : Ol P ops Q w0 ds n m [] a w := done_ (done_of HT.out hc) h
end
section
variable {ops : Array Oper} {Q : Exit → Act → World → Prop} {w0 : World} {T : Bool × List (List Nat × List Nat)} {B ds : List Nat}
variable {n m i : Nat} {N : Option Tmp} {r : List (Nat × Option Tmp)} {a a' : Act} {w : World} {oi : Oper} {v : Value}
theorem ol_lookB (HT : Aside0 (rtab .any ops = T)) (HW : Aside0 (waitsOk T.2 B = true)) (HS : Hb w0 w) (ho : ops[i]? = some oi) (hN : oi.dst = N) {mo xo : Operand} (hop : oi.op = .lookup 65 mo xo false) (hw : Region.wanted oi (yielded ops a.tmps) = true) (hc : takeW T B ds (lst n ((i, N) :: r)).toList (lst n r).toList i = true)
    (hQ : ∀ (v : Value) c a w, Q (.panic c) (a.put N v) w → Q (.panic c) a w) {b k : Nat} {p : ByteArray → Bool} {s : ByteArray} {v : Bool} (HM : ∀ w', Hb w0 w' → MB w' b k p) (hs : s.size ≤ maxLen) (hv : p s = v) (hm : a.eval mo = .map (some b)) (hx : a.eval xo = .string s) (ha : a.put N (.bool v) = a') (h : Ol Try.prog ops Q w0 ds n m r a' w) : Ol Try.prog ops Q w0 ds n (m + 1) ((i, N) :: r) a w := by
  subst hN
  exact take_ (lst n r) ho rfl (take_ofW HT.out HW.out hc) (hQ _) (.inl ⟨hw, fun w' hS => by simp [execOp, hop, hm, hx, (HM w' hS).look hs, hv, Result.andThen]⟩) HS ha h
theorem ol_lookI (HT : Aside0 (rtab .any ops = T)) (HW : Aside0 (waitsOk T.2 B = true)) (HS : Hb w0 w) (ho : ops[i]? = some oi) (hN : oi.dst = N) {mo xo : Operand} (hop : oi.op = .lookup 44 mo xo false) (hw : Region.wanted oi (yielded ops a.tmps) = true) (hc : takeW T B ds (lst n ((i, N) :: r)).toList (lst n r).toList i = true)
    (hQ : ∀ (v : Value) c a w, Q (.panic c) (a.put N v) w → Q (.panic c) a w) {b k : Nat} {p : ByteArray → Option Int} {s : ByteArray} {v : Int} (HM : ∀ w', Hb w0 w' → MI w' b k p) (hs : s.size ≤ maxLen) (hv : (p s).getD 0 = v) (hm : a.eval mo = .map (some b)) (hx : a.eval xo = .string s) (ha : a.put N (.int .i64 v) = a') (h : Ol Try.prog ops Q w0 ds n m r a' w) : Ol Try.prog ops Q w0 ds n (m + 1) ((i, N) :: r) a w := by
  subst hN
  exact take_ (lst n r) ho rfl (take_ofW HT.out HW.out hc) (hQ _) (.inl ⟨hw, fun w' hS => by simp [execOp, hop, hm, hx, (HM w' hS).look hs, hv, Result.andThen]⟩) HS ha h
theorem ol_lookI2 (HT : Aside0 (rtab .any ops = T)) (HW : Aside0 (waitsOk T.2 B = true)) (HS : Hb w0 w) (ho : ops[i]? = some oi) (hN : oi.dst = N) {mo xo : Operand} (hop : oi.op = .lookup 44 mo xo true) (hw : Region.wanted oi (yielded ops a.tmps) = true) (hc : takeW T B ds (lst n ((i, N) :: r)).toList (lst n r).toList i = true)
    (hQ : ∀ (v : Value) c a w, Q (.panic c) (a.put N v) w → Q (.panic c) a w) {b k : Nat} {p : ByteArray → Option Int} {s : ByteArray} {v : Int} {ok : Bool} (HM : ∀ w', Hb w0 w' → MI w' b k p) (hs : s.size ≤ maxLen) (hv : (p s).getD 0 = v) (hok : (p s).isSome = ok) (hm : a.eval mo = .map (some b)) (hx : a.eval xo = .string s) (ha : a.put N (.tuple #[.int .i64 v, .bool ok]) = a') (h : Ol Try.prog ops Q w0 ds n m r a' w) : Ol Try.prog ops Q w0 ds n (m + 1) ((i, N) :: r) a w := by
  subst hN
  exact take_ (lst n r) ho rfl (take_ofW HT.out HW.out hc) (hQ _) (.inl ⟨hw, fun w' hS => by simp [execOp, hop, hm, hx, (HM w' hS).look_ok hs, hv, hok, Result.andThen]⟩) HS ha h
theorem ol_putB (HT : Aside0 (rtab .any ops = T)) (ho : ops[i]? = some oi) (hN : oi.dst = none) (hd : i ∈ ds) (hc : (readyT T.2 (lst n ((i, none) :: r)).toList == [i] && (lst n ((i, none) :: r)).toList.set i true == (lst n r).toList) = true) (hw : Region.wanted oi (yielded ops a.tmps) = true)
    {mo xo yo : Operand} (hop : oi.op = .mapUpdate 65 mo xo yo) {b k : Nat} {p : ByteArray → Bool} {s : ByteArray} {v : Bool} (hm : a.eval mo = .map (some b)) (hx : a.eval xo = .string s) (hy : a.eval yo = .bool v) (hs : s.size ≤ maxLen) (hn : k < maxLen) (H : MB w b k p)
    (h : ∀ w1, MB w1 b (k + 1) (fun x => if x = s then v else p x) → w.grownBy w1 (some b) → Ol Try.prog ops Q w0 ds n m r a w1) : Ol Try.prog ops Q w0 ds n (m + 1) ((i, none) :: r) a w := by
  obtain ⟨w1, hr, hb, hg⟩ := H.put hn hs v
  refine last_ (lst n r) ho hN (one_of HT.out hc) hd (fun K hK => ?_)
  rw [if_pos hw]
  unfold Oper.wp
  have hrun : (execOp a.eval oi).run Try.prog w = .ok .skip w1 := by simp [execOp, hop, hm, hx, hy, hr, Result.andThen]
  rw [hrun]
  show K (a.put oi.dst undef) w1
  rw [hN]
  exact hK.out _ _ (h w1 hb hg)
theorem ol_putI (HT : Aside0 (rtab .any ops = T)) (ho : ops[i]? = some oi) (hN : oi.dst = none) (hd : i ∈ ds) (hc : (readyT T.2 (lst n ((i, none) :: r)).toList == [i] && (lst n ((i, none) :: r)).toList.set i true == (lst n r).toList) = true) (hw : Region.wanted oi (yielded ops a.tmps) = true)
    {mo xo yo : Operand} (hop : oi.op = .mapUpdate 44 mo xo yo) {b k : Nat} {p : ByteArray → Option Int} {s : ByteArray} {v : Int} (hm : a.eval mo = .map (some b)) (hx : a.eval xo = .string s) (hy : a.eval yo = .int .i64 v) (hv : (Lit.int .i64 v).wf = true) (hs : s.size ≤ maxLen) (hn : k < maxLen) (H : MI w b k p)
    (h : ∀ w1, MI w1 b (k + 1) (fun x => if x = s then some v else p x) → w.grownBy w1 (some b) → Ol Try.prog ops Q w0 ds n m r a w1) : Ol Try.prog ops Q w0 ds n (m + 1) ((i, none) :: r) a w := by
  obtain ⟨w1, hr, hb, hg⟩ := H.put hn hs v hv
  refine last_ (lst n r) ho hN (one_of HT.out hc) hd (fun K hK => ?_)
  rw [if_pos hw]
  unfold Oper.wp
  have hrun : (execOp a.eval oi).run Try.prog w = .ok .skip w1 := by simp [execOp, hop, hm, hx, hy, hr, Result.andThen]
  rw [hrun]
  show K (a.put oi.dst undef) w1
  rw [hN]
  exact hK.out _ _ (h w1 hb hg)
end
section
variable {ops : Array Oper} {rest : List Oper} {o o2 : Oper} {a : Act} {Q : Exit → Act → World → Prop} {W : World}
/-- A variable of one cell made, and filled at once. -/
theorem box1 (hgd : o.guard = none) {N : Tmp} (hd : o.dst = some N) {z v : Value} {T : TypeId}
    (hrun : (execOp a.eval o).run Try.prog W = .ok (.value (.pointer (some ⟨W.heap.size, 0, none⟩))) (W.alloc (.cells #[z] T (0, 0))))
    (hg2 : o2.guard = none) (hd2 : o2.dst = none)
    (hrun2 : (execOp (a.put (some N) (.pointer (some ⟨W.heap.size, 0, none⟩))).eval o2).run Try.prog (W.alloc (.cells #[z] T (0, 0))) = .ok .skip ((W.alloc (.cells #[z] T (0, 0))).setCell ⟨W.heap.size, 0, none⟩ v))
    (h : ∀ g, g = W.heap.size → ∀ w1, w1.heap[g]? = some (.cells #[v] T (0, 0)) → Below W.heap.size W w1 → wpList Try.prog ops Q rest (a.put o.dst (.pointer (some ⟨g, 0, none⟩))) w1) : wpList Try.prog ops Q (o :: o2 :: rest) a W := by
  refine Kd.event_run hgd hrun ?_
  rw [hd]
  refine skip_ev hg2 hrun2 ?_
  rw [hd2]
  have h1 : Blk ((W.alloc (.cells #[z] T (0, 0))).setCell ⟨W.heap.size, 0, none⟩ v) W.heap.size T #[v] := (Blk.new W T #[z]).set_ 0 v
  have hh := h W.heap.size rfl _ h1 (below_set (below_alloc (Below.refl _ _) _) (Nat.le_refl _))
  rw [hd] at hh
  exact hh
/-- A variable of one cell is written. -/
theorem set1_ev (hgd : o.guard = none) {g : Nat} {z v : Value} {T : TypeId} (hb : Bk W g T #[z])
    (hrun : (execOp a.eval o).run Try.prog W = .ok .skip (W.setCell ⟨g, 0, none⟩ v))
    (h : ∀ w1, Bk w1 g T #[v] → W.grownBy w1 (some g) → wpList Try.prog ops Q rest (a.put o.dst undef) w1) : wpList Try.prog ops Q (o :: rest) a W := by
  refine skip_ev hgd hrun (h _ ⟨Blk.set_ hb.blk 0 v⟩ ⟨rfl, rfl, rfl, by simp [World.setCell], fun k hk hne => ?_⟩)
  exact Below.heap_setCell W ⟨g, 0, none⟩ v k (fun e => hne (by rw [e]))
end
end Go.Proofs.Ytmacdknicgfglaa.Evt
/- A region of open order in which several operations make memory: each order is walked, what follows is shown once. -/
namespace Go.Proofs.Ytmacdknicgfglaa.Evt
open Go.RowKit Go.Proofs.YtmacdknicgfglaaW.PrintWords Go.Proofs.YtmacdknicgfglaaW.PrintMore Go.Proofs.YtmacdknicgfglaaW.PrintLast Go.Proofs.Ytmacdknicgfglaa.Chg Go.Proofs.Ytmacdknicgfglaa.Mp
set_option linter.unusedVariables false
section
variable {P : Program} {ops : Array Oper} {Q : Exit → Act → World → Prop} {w0 : World} {T : Bool × List (List Nat × List Nat)} {B : List Nat}
variable {n m i j k : Nat} {N Ni Nj Nk : Option Tmp} {r : List (Nat × Option Tmp)} {a a' : Act} {w w1 : World} {oi oj ok_ : Oper} {v : Value}
/-- What follows on an operation that is taken. -/
abbrev KS (P : Program) (ops : Array Oper) (Q : Exit → Act → World → Prop) (w0 : World) (n m : Nat) (r : List (Nat × Option Tmp)) (K : Act → World → Prop) : Prop := Shut (∀ a' w', Hb w0 w' → (Hb w0 w' → wpAnyLast P .any ops Q (Hb w0) [] m (lst n r) a' w') → K a' w')
theorem ol_join {σ : Type} (m' : Nat) (r' : List (Nat × Option Tmp)) (ns : σ → List (Tmp × Value)) (F : σ → World → Prop)
    (h : (∀ s w', Hb w0 w' → F s w' → Ol P ops Q w0 [] n m' r' (putAll a (ns s)) w') → Ol P ops Q w0 [] n m r a w) (hc : ∀ s w', Hb w0 w' → F s w' → Ol P ops Q w0 [] n m' r' (putAll a (ns s)) w') : Ol P ops Q w0 [] n m r a w := h hc
theorem ol_one (ri : List (Nat × Option Tmp)) (HT : Aside0 (rtab .any ops = T)) (hoi : ops[i]? = some oi) (hNi : oi.dst = Ni) (hc : (readyT T.2 (lst n r).toList == [i] && (lst n r).toList.set i true == (lst n ri).toList) = true)
    (h1 : ∀ K : Act → World → Prop, KS P ops Q w0 n m ri K → if Region.wanted oi (yielded ops a.tmps) = true then Oper.wp P oi a w K Q else K (a.put Ni undef) w) : Ol P ops Q w0 [] n (m + 1) r a w :=
  one_ (lst n ri) hoi hNi (one_of HT.out hc) (by simp) h1
theorem ol_two (ri rj : List (Nat × Option Tmp)) (HT : Aside0 (rtab .any ops = T)) (hoi : ops[i]? = some oi) (hoj : ops[j]? = some oj) (hNi : oi.dst = Ni) (hNj : oj.dst = Nj) (hc : (readyT T.2 (lst n r).toList == [i, j] && (lst n r).toList.set i true == (lst n ri).toList && (lst n r).toList.set j true == (lst n rj).toList) = true)
    (h1 : ∀ K : Act → World → Prop, KS P ops Q w0 n m ri K → if Region.wanted oi (yielded ops a.tmps) = true then Oper.wp P oi a w K Q else K (a.put Ni undef) w)
    (h2 : ∀ K : Act → World → Prop, KS P ops Q w0 n m rj K → if Region.wanted oj (yielded ops a.tmps) = true then Oper.wp P oj a w K Q else K (a.put Nj undef) w) : Ol P ops Q w0 [] n (m + 1) r a w :=
  two_ (lst n ri) (lst n rj) hoi hoj hNi hNj (two_of HT.out hc) (by simp) (by simp) h1 h2
theorem ol_three (ri rj rk : List (Nat × Option Tmp)) (HT : Aside0 (rtab .any ops = T)) (hoi : ops[i]? = some oi) (hoj : ops[j]? = some oj) (hok : ops[k]? = some ok_) (hNi : oi.dst = Ni) (hNj : oj.dst = Nj) (hNk : ok_.dst = Nk)
    (hc : (readyT T.2 (lst n r).toList == [i, j, k] && (lst n r).toList.set i true == (lst n ri).toList && (lst n r).toList.set j true == (lst n rj).toList && (lst n r).toList.set k true == (lst n rk).toList) = true)
    (h1 : ∀ K : Act → World → Prop, KS P ops Q w0 n m ri K → if Region.wanted oi (yielded ops a.tmps) = true then Oper.wp P oi a w K Q else K (a.put Ni undef) w)
    (h2 : ∀ K : Act → World → Prop, KS P ops Q w0 n m rj K → if Region.wanted oj (yielded ops a.tmps) = true then Oper.wp P oj a w K Q else K (a.put Nj undef) w)
    (h3 : ∀ K : Act → World → Prop, KS P ops Q w0 n m rk K → if Region.wanted ok_ (yielded ops a.tmps) = true then Oper.wp P ok_ a w K Q else K (a.put Nk undef) w) : Ol P ops Q w0 [] n (m + 1) r a w :=
  three_ (lst n ri) (lst n rj) (lst n rk) hoi hoj hok hNi hNj hNk (three_of HT.out hc) (by simp) (by simp) (by simp) h1 h2 h3
theorem k_call {K : Act → World → Prop} (hK : KS P ops Q w0 n m r K) (HS : Hb w0 w) {f : FuncId} {fn : Func} {aS : Array Operand} {ts : Array TypeId} (hop : oi.op = .call { callee := .value (.func f), args := aS, argTypes := ts }) (hf : P.funcs[f]? = some fn) (hname : (fn.name == "runtime.NumGoroutine") = false) (hb : fn.body.isSome = true) (args : Array Value) (hw : Region.wanted oi (yielded ops a.tmps) = true) (hN : oi.dst = N) (hargs : aS.map a.eval = args)
    (h : Calls P f args w fun e w' => ∃ v, e = .returned v ∧ Below w.heap.size w w' ∧ (Hb w0 w' → Ol P ops Q w0 [] n m r (a.put N v) w')) : if Region.wanted oi (yielded ops a.tmps) = true then Oper.wp P oi a w K Q else K (a.put N undef) w := by
  refine goes_ hf hname hb args hw hN hop hargs ?_
  refine h.mono fun e w' hh => ?_
  obtain ⟨v, rfl, hb, hk⟩ := hh
  have hS' : Hb w0 w' := ⟨below_step HS.out hb⟩
  exact ⟨v, rfl, hK.out _ _ hS' (fun _ => hk hS')⟩
theorem k_alloc {K : Act → World → Prop} (hK : KS P ops Q w0 n m r K) (HS : Hb w0 w) (hw : Region.wanted oi (yielded ops a.tmps) = true) (hN : oi.dst = N) {cs : Array Value} {t : TypeId} (hrun : (execOp a.eval oi).run P w = .ok (.value (.pointer (some ⟨w.heap.size, 0, none⟩))) (w.alloc (.cells cs t (0, 0))))
    (h : ∀ (g : Nat) (w1 : World), g = w.heap.size → Bk w1 g t cs → Below w.heap.size w w1 → Hb w0 w1 → Ol P ops Q w0 [] n m r (a.put N (.pointer (some ⟨g, 0, none⟩))) w1) : if Region.wanted oi (yielded ops a.tmps) = true then Oper.wp P oi a w K Q else K (a.put N undef) w := by
  have hb : Below w.heap.size w (w.alloc (.cells cs t (0, 0))) := below_alloc (Below.refl _ _) _
  have hS' : Hb w0 (w.alloc (.cells cs t (0, 0))) := ⟨below_step HS.out hb⟩
  exact value_ hw hN hrun (hK.out _ _ hS' (fun _ => h w.heap.size _ rfl ⟨heap_alloc_new w _⟩ hb hS'))
theorem k_slice {K : Act → World → Prop} (hK : KS P ops Q w0 n m r K) (HS : Hb w0 w) (hw : Region.wanted oi (yielded ops a.tmps) = true) (hN : oi.dst = N) {cs : Array Value} {t : TypeId} {ln : Nat} (hrun : (execOp a.eval oi).run P w = .ok (.value (.slice (some ⟨w.heap.size, 0, none⟩) ln ln)) (w.alloc (.cells cs t (0, 0))))
    (h : ∀ (g : Nat) (w1 : World), g = w.heap.size → Bk w1 g t cs → Below w.heap.size w w1 → Hb w0 w1 → Ol P ops Q w0 [] n m r (a.put N (.slice (some ⟨g, 0, none⟩) ln ln)) w1) : if Region.wanted oi (yielded ops a.tmps) = true then Oper.wp P oi a w K Q else K (a.put N undef) w := by
  have hb : Below w.heap.size w (w.alloc (.cells cs t (0, 0))) := below_alloc (Below.refl _ _) _
  have hS' : Hb w0 (w.alloc (.cells cs t (0, 0))) := ⟨below_step HS.out hb⟩
  exact value_ hw hN hrun (hK.out _ _ hS' (fun _ => h w.heap.size _ rfl ⟨heap_alloc_new w _⟩ hb hS'))
end
section
variable {ops : Array Oper} {Q : Exit → Act → World → Prop} {w0 : World} {T : Bool × List (List Nat × List Nat)} {n m i : Nat} {r : List (Nat × Option Tmp)} {a : Act} {w : World} {oi : Oper}
/-- A store of one cell to a variable made behind w0. -/
theorem ol_set (ri : List (Nat × Option Tmp)) (HT : Aside0 (rtab .any ops = T)) (HS : Hb w0 w) (ho : ops[i]? = some oi) (hN : oi.dst = none) (hc : (readyT T.2 (lst n r).toList == [i] && (lst n r).toList.set i true == (lst n ri).toList) = true) (hw : Region.wanted oi (yielded ops a.tmps) = true) {g : Nat} {z v : Value} {t : TypeId} (hb : Bk w g t #[z]) (hge : w0.heap.size ≤ g)
    (hrun : (execOp a.eval oi).run Try.prog w = .ok .skip (w.setCell ⟨g, 0, none⟩ v)) (h : ∀ w1, Bk w1 g t #[v] → w.grownBy w1 (some g) → Hb w0 w1 → Ol Try.prog ops Q w0 [] n m ri a w1) : Ol Try.prog ops Q w0 [] n (m + 1) r a w := by
  have hg : w.grownBy (w.setCell ⟨g, 0, none⟩ v) (some g) := ⟨rfl, rfl, rfl, by simp [World.setCell], fun k hk hne => Below.heap_setCell w ⟨g, 0, none⟩ v k (fun e => hne (by rw [e]))⟩
  have hS' : Hb w0 (w.setCell ⟨g, 0, none⟩ v) := ⟨HS.out.grown hg HS.out.size (fun k hk => by cases hk; exact hge)⟩
  refine one_ (lst n ri) ho hN (one_of HT.out hc) (by simp) (fun K hK => ?_)
  rw [if_pos hw]
  unfold Oper.wp
  rw [hrun]
  show K (a.put oi.dst undef) _
  rw [hN]
  exact hK.out _ _ hS' (fun _ => h _ ⟨Blk.set_ hb.blk 0 v⟩ hg hS')
end
end Go.Proofs.Ytmacdknicgfglaa.Evt
