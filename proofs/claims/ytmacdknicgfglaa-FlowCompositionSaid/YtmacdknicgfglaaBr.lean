/- A region in the body of a range over a function: the laws of open regions hold there, too. -/
import Derived.Test.YtmacdknicgfglaaOr3
import Derived.RangeFuncNested
import Derived.RangeFuncBound
import Derived.RangeFuncCalls
import Derived.RangeFuncLeaves
import Derived.RangeFuncBox
import Derived.Shelf.Abstract
import Derived.OwnWalkIn
import Derived.TacticsInMore
import Derived.LoopNIn
import Derived.LoopIn
import Derived.OrdersIn
import Derived.Sort.LoopGhostIn
namespace Go.Proofs.Ytmacdknicgfglaa.Evt
open Go.RowKit Go.Proofs.YtmacdknicgfglaaW.PrintWords Go.Proofs.YtmacdknicgfglaaW.PrintMore Go.Proofs.YtmacdknicgfglaaW.PrintLast Go.Proofs.Ytmacdknicgfglaa.Chg Go.Proofs.Ytmacdknicgfglaa.Mp
set_option linter.unusedVariables false
section
variable {P : Program} {ops : Array Oper} {Q : Exit → Act → World → Prop} {l n : Nat}
theorem upIn {o : Oper} {a : Act} {K : Act → World → Prop} : ∀ {r : Result Next}, o.upon P a K Q r → o.uponIn (Fence.wide.inRound l) n P a K Q r
  | .ok (.value v) w', h => h
  | .ok .skip w', h => h
  | .ok (.defer d) w', h => h
  | .ok (.enter f args) w', h => ⟨fun e => (by cases e), CallsIn.inRound l (callsIn_wide.2 h)⟩
  | .ok (.row row args) w', h => ⟨fun e => (by cases e), fun c cs _ => let ⟨v, w1, r, s⟩ := h c cs; ⟨v, w1, r, stepsIn_wide.2 s⟩⟩
  | .ok (.round ..) w', h => h.elim
  | .halt x w', h => by cases x <;> exact h
theorem wpOp_In {i : Nat} {K : Act → World → Prop} {a : Act} {w : World} (hd : ∀ (j : Nat) (o : Oper), ops[j]? = some o → ∀ c, o.op ≠ .defer c) (hQ : ¬ LetsOut Q) (h : wpOp P ops Q i K a w) : wpOpIn (Fence.wide.inRound l) n P ops Q i K a w := by
  unfold wpOp at h
  unfold wpOpIn
  cases ho : ops[i]? with
  | none => rw [ho] at h; exact h
  | some o =>
    rw [ho] at h
    simp only at h ⊢
    by_cases hw : Region.wanted o (yielded ops a.tmps) = true
    · rw [if_pos hw] at h ⊢
      rcases h with h | h
      · refine ⟨fun f _ => trivial, ?_⟩
        rw [Oper.semAt_eq _ _ _ (hd i o ho)]
        exact upIn h
      · exact (hQ h.2).elim
    · rw [if_neg hw] at h ⊢
      exact ⟨fun f _ => trivial, h⟩
theorem wpAny_In {md : Region.Mode} (hd : ∀ (j : Nat) (o : Oper), ops[j]? = some o → ∀ c, o.op ≠ .defer c) (hQ : ¬ LetsOut Q) : ∀ (fuel : Nat) (listed : Array Bool) (a : Act) (w : World), wpAny P md ops Q fuel listed a w → wpAnyIn (Fence.wide.inRound l) n P md ops Q fuel listed a w
  | 0, _, _, _, h => h
  | fuel + 1, _, _, _, h => ⟨h.1, fun i hi => wpOpIn_mono (fun a w h' => wpAny_In hd hQ fuel _ a w h') (wpOp_In hd hQ (h.2 i hi))⟩
/-- No operation defers a call. -/
def noDefer (ops : Array Oper) : Bool := ops.all fun o => match o.op with | .defer _ => false | _ => true
theorem noDefer_of (h : noDefer ops = true) : ∀ (j : Nat) (o : Oper), ops[j]? = some o → ∀ c, o.op ≠ .defer c := by
  intro j o ho c e
  unfold noDefer at h
  rw [Array.all_eq_true] at h
  obtain ⟨hj, e2⟩ := Array.getElem?_eq_some_iff.1 ho
  have := h j hj
  rw [e2, e] at this
  cases this
variable {w0 : World} {T : Bool × List (List Nat × List Nat)} {B ds : List Nat}
theorem ol_startIn {id : Nat} {a : Act} {w : World} (hnd : noDefer ops = true) (hQ : ¬ LetsOut Q) (m : Nat) (r : List (Nat × Option Tmp)) (hm : P.follows .mixedOrders = true) (hn : ops.size = m) (hl : Array.replicate m false = lst m r) (hT : rtab .any ops = T) (hB : waitsOk T.2 B = true) (hb : Below w0.heap.size w0 w)
    (h : Aside0 (rtab .any ops = T) → Aside0 (waitsOk T.2 B = true) → ∀ w', Hb w0 w' → Ol P ops Q w0 ds m m r a w') : (Code.region id ops true).wpIn (Fence.wide.inRound l) n P Q a w := by
  have h1 := h ⟨hT⟩ ⟨hB⟩ _ ⟨below_drew hb⟩
  subst hn
  unfold Ol at h1
  rw [← hl] at h1
  exact wpIn_region_any hm (wpAny_In (noDefer_of hnd) hQ _ _ _ _ (wpAny_of_last _ _ _ _ h1))
end
end Go.Proofs.Ytmacdknicgfglaa.Evt
