/- A region of open order with lookups in one's own map, ended by an assignment to a map. -/
import Derived.Test.YtmacdknicgfglaaOr
import Derived.Test.YtmacdknicgfglaaMp
namespace Go.Proofs.Ytmacdknicgfglaa.Evt
open Go.RowKit Go.Proofs.YtmacdknicgfglaaW.PrintWords Go.Proofs.YtmacdknicgfglaaW.PrintMore Go.Proofs.YtmacdknicgfglaaW.PrintLast Go.Proofs.Ytmacdknicgfglaa.Chg Go.Proofs.Ytmacdknicgfglaa.Mp
set_option linter.unusedVariables false
section
variable {P : Program} {ops : Array Oper} {Q : Exit → Act → World → Prop} {w0 : World} {T : Bool × List (List Nat × List Nat)} {B ds : List Nat}
def Ol (P : Program) (ops : Array Oper) (Q : Exit → Act → World → Prop) (w0 : World) (ds : List Nat) (n m : Nat) (r : List (Nat × Option Tmp)) (a : Act) (w : World) : Prop := wpAnyLast P .any ops Q (Hb w0) ds m (lst n r) a w
theorem ol_start {id : Nat} {a : Act} {w : World} (n : Nat) (r : List (Nat × Option Tmp)) (hm : P.follows .mixedOrders = true) (hn : ops.size = n) (hl : Array.replicate n false = lst n r) (hT : rtab .any ops = T) (hB : waitsOk T.2 B = true) (hb : Below w0.heap.size w0 w)
    (h : Aside0 (rtab .any ops = T) → Aside0 (waitsOk T.2 B = true) → ∀ w', Hb w0 w' → Ol P ops Q w0 ds n n r a w') : (Code.region id ops true).wp P Q a w :=
  start_ (lst n r) hm hn hl ⟨below_drew hb⟩ (fun _ => h ⟨hT⟩ ⟨hB⟩ _ ⟨below_drew hb⟩)
variable {n m i : Nat} {N : Option Tmp} {r : List (Nat × Option Tmp)} {a a' : Act} {w : World} {oi : Oper} {v : Value}
theorem ol_off (HT : Aside0 (rtab .any ops = T)) (ho : ops[i]? = some oi) (hN : oi.dst = N) (hw : Region.wanted oi (yielded ops a.tmps) = false) (hc : anyT T (lst n ((i, N) :: r)).toList (lst n r).toList i = true)
    (hQ : ∀ c a w, Q (.panic c) (a.put N undef) w → Q (.panic c) a w) (ha : a.put N undef = a') (h : Ol P ops Q w0 ds n m r a' w) : Ol P ops Q w0 ds n (m + 1) ((i, N) :: r) a w :=
  by subst hN; exact pure_ (lst n r) ho rfl (any_of HT.out hc) hQ (.inr ⟨hw, rfl⟩) ha h
theorem ol_pure (HT : Aside0 (rtab .any ops = T)) (ho : ops[i]? = some oi) (hN : oi.dst = N) (hp : pureK oi.op = true) (hw : Region.wanted oi (yielded ops a.tmps) = true) (hc : anyT T (lst n ((i, N) :: r)).toList (lst n r).toList i = true)
    (hQ : ∀ c a w, Q (.panic c) (a.put N v) w → Q (.panic c) a w) (hr : ∀ w', (execOp a.eval oi).run P w' = .ok (.value v) w') (ha : a.put N v = a') (h : Ol P ops Q w0 ds n m r a' w) : Ol P ops Q w0 ds n (m + 1) ((i, N) :: r) a w :=
  by subst hN; exact pure_ (lst n r) ho rfl (any_of HT.out hc) hQ (.inl ⟨hw, hr⟩) ha h
theorem ol_load (HT : Aside0 (rtab .any ops = T)) (HW : Aside0 (waitsOk T.2 B = true)) (HS : Hb w0 w) (ho : ops[i]? = some oi) (hN : oi.dst = N) (hp : loadK oi.op = true) (hw : Region.wanted oi (yielded ops a.tmps) = true) (hc : takeW T B ds (lst n ((i, N) :: r)).toList (lst n r).toList i = true)
    (hQ : ∀ c a w, Q (.panic c) (a.put N v) w → Q (.panic c) a w) (hr : ∀ w', Hb w0 w' → (execOp a.eval oi).run P w' = .ok (.value v) w') (ha : a.put N v = a') (h : Ol P ops Q w0 ds n m r a' w) : Ol P ops Q w0 ds n (m + 1) ((i, N) :: r) a w :=
  by subst hN; exact take_ (lst n r) ho rfl (take_ofW HT.out HW.out hc) hQ (.inl ⟨hw, hr⟩) HS ha h
theorem ol_norm (ha : a = a') (h : Ol P ops Q w0 ds n m r a' w) : Ol P ops Q w0 ds n m r a w := by subst ha; exact h
theorem ol_done (HT : Aside0 (rtab .any ops = T)) (hc : (readyT T.2 (lst n []).toList == []) = true) (h : Q .normal a w) : Ol P ops Q w0 ds n m [] a w := done_ (done_of HT.out hc) h
end
section
variable {ops : Array Oper} {Q : Exit → Act → World → Prop} {w0 : World} {T : Bool × List (List Nat × List Nat)} {B ds : List Nat}
variable {n m i : Nat} {N : Option Tmp} {r : List (Nat × Option Tmp)} {a a' : Act} {w : World} {oi : Oper} {v : Value}
theorem ol_lookB (HT : Aside0 (rtab .any ops = T)) (HW : Aside0 (waitsOk T.2 B = true)) (HS : Hb w0 w) (ho : ops[i]? = some oi) (hN : oi.dst = N) {mo xo : Operand} (hop : oi.op = .lookup 65 mo xo false) (hw : Region.wanted oi (yielded ops a.tmps) = true) (hc : takeW T B ds (lst n ((i, N) :: r)).toList (lst n r).toList i = true)
    (hQ : ∀ (v : Value) c a w, Q (.panic c) (a.put N v) w → Q (.panic c) a w) {b k : Nat} {p : ByteArray → Bool} {s : ByteArray} {v : Bool} (HM : ∀ w', Hb w0 w' → MB w' b k p) (hs : s.size ≤ maxLen) (hv : p s = v) (hm : a.eval mo = .map (some b)) (hx : a.eval xo = .string s) (ha : a.put N (.bool v) = a') (h : Ol Try.prog ops Q w0 ds n m r a' w) : Ol Try.prog ops Q w0 ds n (m + 1) ((i, N) :: r) a w := by
  subst hN
  exact take_ (lst n r) ho rfl (take_ofW HT.out HW.out hc) (hQ _) (.inl ⟨hw, fun w' hS => by simp [execOp, hop, hm, hx, (HM w' hS).look hs, hv, Result.andThen]⟩) HS ha h
theorem ol_lookI (HT : Aside0 (rtab .any ops = T)) (HW : Aside0 (waitsOk T.2 B = true)) (HS : Hb w0 w) (ho : ops[i]? = some oi) (hN : oi.dst = N) {mo xo : Operand} (hop : oi.op = .lookup 44 mo xo false) (hw : Region.wanted oi (yielded ops a.tmps) = true) (hc : takeW T B ds (lst n ((i, N) :: r)).toList (lst n r).toList i = true)
    (hQ : ∀ (v : Value) c a w, Q (.panic c) (a.put N v) w → Q (.panic c) a w) {b k : Nat} {p : ByteArray → Option Int} {s : ByteArray} {v : Int} (HM : ∀ w', Hb w0 w' → MI w' b k p) (hs : s.size ≤ maxLen) (hv : (p s).getD 0 = v) (hm : a.eval mo = .map (some b)) (hx : a.eval xo = .string s) (ha : a.put N (.int .i64 v) = a') (h : Ol Try.prog ops Q w0 ds n m r a' w) : Ol Try.prog ops Q w0 ds n (m + 1) ((i, N) :: r) a w := by
  subst hN
  exact take_ (lst n r) ho rfl (take_ofW HT.out HW.out hc) (hQ _) (.inl ⟨hw, fun w' hS => by simp [execOp, hop, hm, hx, (HM w' hS).look hs, hv, Result.andThen]⟩) HS ha h
theorem ol_lookI2 (HT : Aside0 (rtab .any ops = T)) (HW : Aside0 (waitsOk T.2 B = true)) (HS : Hb w0 w) (ho : ops[i]? = some oi) (hN : oi.dst = N) {mo xo : Operand} (hop : oi.op = .lookup 44 mo xo true) (hw : Region.wanted oi (yielded ops a.tmps) = true) (hc : takeW T B ds (lst n ((i, N) :: r)).toList (lst n r).toList i = true)
    (hQ : ∀ (v : Value) c a w, Q (.panic c) (a.put N v) w → Q (.panic c) a w) {b k : Nat} {p : ByteArray → Option Int} {s : ByteArray} {v : Int} {ok : Bool} (HM : ∀ w', Hb w0 w' → MI w' b k p) (hs : s.size ≤ maxLen) (hv : (p s).getD 0 = v) (hok : (p s).isSome = ok) (hm : a.eval mo = .map (some b)) (hx : a.eval xo = .string s) (ha : a.put N (.tuple #[.int .i64 v, .bool ok]) = a') (h : Ol Try.prog ops Q w0 ds n m r a' w) : Ol Try.prog ops Q w0 ds n (m + 1) ((i, N) :: r) a w := by
  subst hN
  exact take_ (lst n r) ho rfl (take_ofW HT.out HW.out hc) (hQ _) (.inl ⟨hw, fun w' hS => by simp [execOp, hop, hm, hx, (HM w' hS).look_ok hs, hv, hok, Result.andThen]⟩) HS ha h
theorem ol_putB (HT : Aside0 (rtab .any ops = T)) (ho : ops[i]? = some oi) (hN : oi.dst = none) (hd : i ∈ ds) (hc : (readyT T.2 (lst n ((i, none) :: r)).toList == [i] && (lst n ((i, none) :: r)).toList.set i true == (lst n r).toList) = true) (hw : Region.wanted oi (yielded ops a.tmps) = true)
    {mo xo yo : Operand} (hop : oi.op = .mapUpdate 65 mo xo yo) {b k : Nat} {p : ByteArray → Bool} {s : ByteArray} {v : Bool} (hm : a.eval mo = .map (some b)) (hx : a.eval xo = .string s) (hy : a.eval yo = .bool v) (hs : s.size ≤ maxLen) (hn : k < maxLen) (H : MB w b k p)
    (h : ∀ w1, MB w1 b (k + 1) (fun x => if x = s then v else p x) → w.grownBy w1 (some b) → Ol Try.prog ops Q w0 ds n m r a w1) : Ol Try.prog ops Q w0 ds n (m + 1) ((i, none) :: r) a w := by
  obtain ⟨w1, hr, hb, hg⟩ := H.put hn hs v
  refine last_ (lst n r) ho hN (one_of HT.out hc) hd (fun K hK => ?_)
  rw [if_pos hw]
  unfold Oper.wp
  have hrun : (execOp a.eval oi).run Try.prog w = .ok .skip w1 := by simp [execOp, hop, hm, hx, hy, hr, Result.andThen]
  rw [hrun]
  show K (a.put oi.dst undef) w1
  rw [hN]
  exact hK.out _ _ (h w1 hb hg)
theorem ol_putI (HT : Aside0 (rtab .any ops = T)) (ho : ops[i]? = some oi) (hN : oi.dst = none) (hd : i ∈ ds) (hc : (readyT T.2 (lst n ((i, none) :: r)).toList == [i] && (lst n ((i, none) :: r)).toList.set i true == (lst n r).toList) = true) (hw : Region.wanted oi (yielded ops a.tmps) = true)
    {mo xo yo : Operand} (hop : oi.op = .mapUpdate 44 mo xo yo) {b k : Nat} {p : ByteArray → Option Int} {s : ByteArray} {v : Int} (hm : a.eval mo = .map (some b)) (hx : a.eval xo = .string s) (hy : a.eval yo = .int .i64 v) (hv : (Lit.int .i64 v).wf = true) (hs : s.size ≤ maxLen) (hn : k < maxLen) (H : MI w b k p)
    (h : ∀ w1, MI w1 b (k + 1) (fun x => if x = s then some v else p x) → w.grownBy w1 (some b) → Ol Try.prog ops Q w0 ds n m r a w1) : Ol Try.prog ops Q w0 ds n (m + 1) ((i, none) :: r) a w := by
  obtain ⟨w1, hr, hb, hg⟩ := H.put hn hs v hv
  refine last_ (lst n r) ho hN (one_of HT.out hc) hd (fun K hK => ?_)
  rw [if_pos hw]
  unfold Oper.wp
  have hrun : (execOp a.eval oi).run Try.prog w = .ok .skip w1 := by simp [execOp, hop, hm, hx, hy, hr, Result.andThen]
  rw [hrun]
  show K (a.put oi.dst undef) w1
  rw [hN]
  exact hK.out _ _ (h w1 hb hg)
end
section
variable {ops : Array Oper} {rest : List Oper} {o o2 : Oper} {a : Act} {Q : Exit → Act → World → Prop} {W : World}
/-- A variable of one cell made, and filled at once. -/
theorem box1 (hgd : o.guard = none) {N : Tmp} (hd : o.dst = some N) {z v : Value} {T : TypeId}
    (hrun : (execOp a.eval o).run Try.prog W = .ok (.value (.pointer (some ⟨W.heap.size, 0, none⟩))) (W.alloc (.cells #[z] T (0, 0))))
    (hg2 : o2.guard = none) (hd2 : o2.dst = none)
    (hrun2 : (execOp (a.put (some N) (.pointer (some ⟨W.heap.size, 0, none⟩))).eval o2).run Try.prog (W.alloc (.cells #[z] T (0, 0))) = .ok .skip ((W.alloc (.cells #[z] T (0, 0))).setCell ⟨W.heap.size, 0, none⟩ v))
    (h : ∀ g, g = W.heap.size → ∀ w1, w1.heap[g]? = some (.cells #[v] T (0, 0)) → Below W.heap.size W w1 → wpList Try.prog ops Q rest (a.put o.dst (.pointer (some ⟨g, 0, none⟩))) w1) : wpList Try.prog ops Q (o :: o2 :: rest) a W := by
  refine Kd.event_run hgd hrun ?_
  rw [hd]
  refine skip_ev hg2 hrun2 ?_
  rw [hd2]
  have h1 : Blk ((W.alloc (.cells #[z] T (0, 0))).setCell ⟨W.heap.size, 0, none⟩ v) W.heap.size T #[v] := (Blk.new W T #[z]).set_ 0 v
  have hh := h W.heap.size rfl _ h1 (below_set (below_alloc (Below.refl _ _) _) (Nat.le_refl _))
  rw [hd] at hh
  exact hh
/-- A variable of one cell is written. -/
theorem set1_ev (hgd : o.guard = none) {g : Nat} {z v : Value} {T : TypeId} (hb : Bk W g T #[z])
    (hrun : (execOp a.eval o).run Try.prog W = .ok .skip (W.setCell ⟨g, 0, none⟩ v))
    (h : ∀ w1, Bk w1 g T #[v] → W.grownBy w1 (some g) → wpList Try.prog ops Q rest (a.put o.dst undef) w1) : wpList Try.prog ops Q (o :: rest) a W := by
  refine skip_ev hgd hrun (h _ ⟨Blk.set_ hb.blk 0 v⟩ ⟨rfl, rfl, rfl, by simp [World.setCell], fun k hk hne => ?_⟩)
  exact Below.heap_setCell W ⟨g, 0, none⟩ v k (fun e => hne (by rw [e]))
end
end Go.Proofs.Ytmacdknicgfglaa.Evt
