/- A region whose order is open, walked operation by operation in one order (a list of their numbers): nothing of the world ahead turns meanwhile. -/
import Derived.Test.YtjohdkbciafpfaaEv
namespace Go.Proofs.Ytjohdkbciafpfaa.Evt
open Go.RowKit Go.Proofs.YtjohdkbciafpfaaW.PrintWords Go.Proofs.YtjohdkbciafpfaaW.PrintMore Go.Proofs.YtjohdkbciafpfaaW.PrintLast Go.Proofs.Ytjohdkbciafpfaa.Chg
set_option linter.unusedVariables false
section
variable {P : Program} {ops : Array Oper} {Q : Exit → Act → World → Prop} {w0 : World} {T : Bool × List (List Nat × List Nat)} {B s : List Nat}
/-- What stays: all of w0. -/
abbrev Hb (w0 : World) : World → Prop := fun w' => Aside0 (Below w0.heap.size w0 w')
/-- All of n operations are listed but those of r. -/
def lst (n : Nat) (r : List (Nat × Option Tmp)) : Array Bool := ((List.range n).map fun j => !(r.any fun e => e.1 == j)).toArray
/-- What holds when the operations of r are still to come (each with its destination). -/
def Ow (P : Program) (ops : Array Oper) (Q : Exit → Act → World → Prop) (w0 : World) (n m : Nat) (r : List (Nat × Option Tmp)) (a : Act) (w : World) : Prop := wpAnyLast P .any ops Q (Hb w0) [] m (lst n r) a w
def pureK : Op → Bool
  | .fieldAddr .. | .nilCheck .. | .move _ | .binOp .. | .unOp .. | .convert .. | .extract .. | .pick .. | .assign _ | .build .. | .index .. | .indexAddr .. | .field .. | .slice .. | .makeFunc .. => true
  | .call { callee := .builtin .len, .. } | .call { callee := .builtin .min, .. } | .call { callee := .builtin .max, .. } => true
  | _ => false
def loadK : Op → Bool
  | .load .. => true
  | _ => false
theorem ow_start {id : Nat} {a : Act} {w : World} (n : Nat) (r : List (Nat × Option Tmp)) (hm : P.follows .mixedOrders = true) (hn : ops.size = n) (hl : Array.replicate n false = lst n r) (hT : rtab .any ops = T) (hB : waitsOk T.2 B = true) (hb : Below w0.heap.size w0 w)
    (h : Aside0 (rtab .any ops = T) → Aside0 (waitsOk T.2 B = true) → ∀ w', Hb w0 w' → Ow P ops Q w0 n n r a w') : (Code.region id ops true).wp P Q a w :=
  start_ (lst n r) hm hn hl ⟨below_drew hb⟩ (fun _ => h ⟨hT⟩ ⟨hB⟩ _ ⟨below_drew hb⟩)
variable {n m i : Nat} {N : Option Tmp} {r : List (Nat × Option Tmp)} {a a' : Act} {w : World} {oi : Oper} {v : Value}
/-- A guarded operation that is not carried out. -/
theorem ow_off (HT : Aside0 (rtab .any ops = T)) (ho : ops[i]? = some oi) (hN : oi.dst = N) (hw : Region.wanted oi (yielded ops a.tmps) = false) (hc : anyT T (lst n ((i, N) :: r)).toList (lst n r).toList i = true)
    (hQ : ∀ c a w, Q (.panic c) (a.put N undef) w → Q (.panic c) a w) (ha : a.put N undef = a') (h : Ow P ops Q w0 n m r a' w) : Ow P ops Q w0 n (m + 1) ((i, N) :: r) a w :=
  by subst hN; exact pure_ (lst n r) ho rfl (any_of HT.out hc) hQ (.inr ⟨hw, rfl⟩) ha h
/-- An operation that does not look at memory. -/
theorem ow_pure (HT : Aside0 (rtab .any ops = T)) (ho : ops[i]? = some oi) (hN : oi.dst = N) (hp : pureK oi.op = true) (hw : Region.wanted oi (yielded ops a.tmps) = true) (hc : anyT T (lst n ((i, N) :: r)).toList (lst n r).toList i = true)
    (hQ : ∀ c a w, Q (.panic c) (a.put N v) w → Q (.panic c) a w) (hr : ∀ w', (execOp a.eval oi).run P w' = .ok (.value v) w') (ha : a.put N v = a') (h : Ow P ops Q w0 n m r a' w) : Ow P ops Q w0 n (m + 1) ((i, N) :: r) a w :=
  by subst hN; exact pure_ (lst n r) ho rfl (any_of HT.out hc) hQ (.inl ⟨hw, hr⟩) ha h
/-- A load of what stays. -/
theorem ow_load (HT : Aside0 (rtab .any ops = T)) (HW : Aside0 (waitsOk T.2 B = true)) (HS : Hb w0 w) (ho : ops[i]? = some oi) (hN : oi.dst = N) (hp : loadK oi.op = true) (hw : Region.wanted oi (yielded ops a.tmps) = true) (hc : takeW T B [] (lst n ((i, N) :: r)).toList (lst n r).toList i = true)
    (hQ : ∀ c a w, Q (.panic c) (a.put N v) w → Q (.panic c) a w) (hr : ∀ w', Hb w0 w' → (execOp a.eval oi).run P w' = .ok (.value v) w') (ha : a.put N v = a') (h : Ow P ops Q w0 n m r a' w) : Ow P ops Q w0 n (m + 1) ((i, N) :: r) a w :=
  by subst hN; exact take_ (lst n r) ho rfl (take_ofW HT.out HW.out hc) hQ (.inl ⟨hw, hr⟩) HS ha h
/-- One operation alone may come up: a call, by its contract. -/
theorem ow_call (HT : Aside0 (rtab .any ops = T)) (HS : Hb w0 w) (ho : ops[i]? = some oi) (hN : oi.dst = N) {f : FuncId} {fn : Func} {as : Array Operand} {ts : Array TypeId} (hop : oi.op = .call { callee := .value (.func f), args := as, argTypes := ts }) (hc : (readyT T.2 (lst n ((i, N) :: r)).toList == [i] && (lst n ((i, N) :: r)).toList.set i true == (lst n r).toList) = true) (hf : P.funcs[f]? = some fn) (hname : (fn.name == "runtime.NumGoroutine") = false) (hb : fn.body.isSome = true) (args : Array Value)
    (hw : Region.wanted oi (yielded ops a.tmps) = true) (hargs : as.map a.eval = args)
    (h : Calls P f args w fun e w' => ∃ v, e = .returned v ∧ Below w.heap.size w w' ∧ (Hb w0 w' → Ow P ops Q w0 n m r (a.put N v) w')) : Ow P ops Q w0 n (m + 1) ((i, N) :: r) a w := by
  refine one_ (lst n r) ho hN (one_of HT.out hc) (by simp) (fun K hK => ?_)
  refine goes_ hf hname hb args hw hN hop hargs ?_
  refine h.mono fun e w' hh => ?_
  obtain ⟨v, rfl, hb, hk⟩ := hh
  have hS' : Hb w0 w' := ⟨below_step HS.out hb⟩
  exact ⟨v, rfl, hK.out _ _ hS' (fun _ => hk hS')⟩
/-- One operation alone may come up: it yields a value, and may make memory. -/
theorem ow_value {w1 : World} (HT : Aside0 (rtab .any ops = T)) (HS : Hb w0 w) (ho : ops[i]? = some oi) (hN : oi.dst = N) (hw : Region.wanted oi (yielded ops a.tmps) = true) (hc : (readyT T.2 (lst n ((i, N) :: r)).toList == [i] && (lst n ((i, N) :: r)).toList.set i true == (lst n r).toList) = true)
    (hrun : (execOp a.eval oi).run P w = .ok (.value v) w1) (hb : Below w.heap.size w w1) (ha : a.put N v = a') (h : Hb w0 w1 → Ow P ops Q w0 n m r a' w1) : Ow P ops Q w0 n (m + 1) ((i, N) :: r) a w := by
  subst ha
  have hS' : Hb w0 w1 := ⟨below_step HS.out hb⟩
  exact one_ (lst n r) ho hN (one_of HT.out hc) (by simp) (fun K hK => value_ hw hN hrun (hK.out _ _ hS' (fun _ => h hS')))
theorem ow_norm (ha : a = a') (h : Ow P ops Q w0 n m r a' w) : Ow P ops Q w0 n m r a w := by subst ha; exact h
theorem ow_done (HT : Aside0 (rtab .any ops = T)) (hc : (readyT T.2 (lst n []).toList == []) = true) (h : Q .normal a w) : Ow P ops Q w0 n m [] a w := done_ (done_of HT.out hc) h
end
end Go.Proofs.Ytjohdkbciafpfaa.Evt
