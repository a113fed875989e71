/- What the printed reference functions DeadNodes and Check compute. -/
import Derived.Test.YtmacdknicgfglaaPq
import Derived.Test.YtmacdknicgfglaaIm1
namespace Go.Proofs.Ytmacdknicgfglaa.Gp
set_option linter.unusedVariables false
/-- The nodes that are on no path from rail to rail. -/
def deadL (l : List Ed) : List ByteArray := (nodesL l).filter fun s => !(decide (s ∈ reachL l ⟨#[76]⟩) && decide (s ∈ ancL l ⟨#[82]⟩))
def checkL (l : List Ed) : Int := if l.length = 0 then 4 else if errT (topo l) = 0 then (if (deadL l).length = 0 then 0 else 13) else errT (topo l)
end Go.Proofs.Ytmacdknicgfglaa.Gp
namespace Go.Proofs.Ytmacdknicgfglaa.Pe
open Go.RowKit Go.Proofs.YtmacdknicgfglaaW.PrintWords Go.Proofs.YtmacdknicgfglaaW.PrintMore Go.Proofs.Ytmacdknicgfglaa.Impl Go.Proofs.Ytmacdknicgfglaa.Gp Go.Proofs.Ytmacdknicgfglaa.Gw
set_option linter.unusedVariables false
set_option linter.unusedSimpArgs false
section
variable {a0 a3 : ByteArray} {l1 : List S41} {l2 : List S101}
theorem has13_l0 (l : List ByteArray) (s : ByteArray) (hn : l.length ≤ 9223372036854775807) : ∀ (d j : Nat), l.length = j + d →
    Ev (fun k => busbarref13_has.l0 k l s (j : Int)) (decide (s ∈ l.drop j))
  | 0, j, h => by
    refine Ev.step (f := fun _ => some false) (fun k => ?_) ?_
    · simp only [busbarref13_has.l0]; rw [if_neg (by omega)]
    · rw [List.drop_of_length_le (by omega), decide_eq_false (by simp)]; exact Ev.now _
  | d + 1, j, h => by
    have hj : j < l.length := by omega
    have ih := has13_l0 l s hn d (j + 1) (by omega)
    by_cases hb : l[j] = s
    · refine Ev.step (fun k => ?_) (f := fun k => some true) ?_
      · simp only [busbarref13_has.l0]
        rw [if_pos (by omega), if_pos (by omega), rdOf_lt _ _ _ hj, if_pos (by rw [hb])]
      · rw [drop_cons l j hj, decide_eq_true (by rw [hb]; exact List.mem_cons_self)]; exact Ev.now _
    · refine Ev.step (fun k => ?_) (f := fun k => busbarref13_has.l0 k l s ((j + 1 : Nat) : Int)) ?_
      · simp only [busbarref13_has.l0]
        rw [if_pos (by omega), if_pos (by omega), rdOf_lt _ _ _ hj, if_neg (fun e => hb (toList_inj.1 e)), w64 hj hn]
      · have : decide (s ∈ l.drop j) = decide (s ∈ l.drop (j + 1)) := by
          apply decide_eq_decide.2
          rw [drop_cons l j hj, List.mem_cons]
          exact ⟨fun h => h.resolve_left (fun e => hb e.symm), .inr⟩
        rw [this]; exact ih
theorem has13_ev (l : List ByteArray) (s : ByteArray) (hn : l.length ≤ 9223372036854775807) : Ev (fun k => busbarref13_has.f k l s) (decide (s ∈ l)) := has13_l0 l s hn l.length 0 (by omega)
theorem dead_l0 (all ra rb : List ByteArray) (ha : all.length ≤ 3000) (hra : ra.length ≤ 3000) (hrb : rb.length ≤ 3000) : ∀ (d j : Nat), all.length = j + d →
    Ev (fun k => busbarref13_DeadNodes.l0 k all ra rb ((all.take j).filter fun s => !(decide (s ∈ ra) && decide (s ∈ rb))) (j : Int)) (all.filter fun s => !(decide (s ∈ ra) && decide (s ∈ rb)))
  | 0, j, h => by
    refine Ev.step (f := fun _ => some (all.filter fun s => !(decide (s ∈ ra) && decide (s ∈ rb)))) (fun k => ?_) (Ev.now _)
    simp only [busbarref13_DeadNodes.l0]; rw [if_neg (by omega), List.take_of_length_le (by omega)]
  | d + 1, j, h => by
    have hj : j < all.length := by omega
    have ih := dead_l0 all ra rb ha hra hrb d (j + 1) (by omega)
    have hl : ((all.take j).filter fun s => !(decide (s ∈ ra) && decide (s ∈ rb))).length ≤ 3000 := by
      refine Nat.le_trans (List.length_filter_le _ _) ?_
      rw [List.length_take]; omega
    rw [List.take_succ_eq_append_getElem hj, List.filter_append] at ih
    generalize (all.take j).filter (fun s => !(decide (s ∈ ra) && decide (s ∈ rb))) = X at hl ih ⊢
    refine Ev.step (f := fun k => (busbarref13_has.f k ra all[j]).bind fun t => if t = true then ((busbarref13_has.f k rb all[j]).bind fun u => busbarref13_DeadNodes.l0 k all ra rb (if u = true then X else X ++ [all[j]]) ((j + 1 : Nat) : Int)) else busbarref13_DeadNodes.l0 k all ra rb (X ++ [all[j]]) ((j + 1 : Nat) : Int)) (fun k => ?_) ?_
    · simp only [busbarref13_DeadNodes.l0]
      rw [if_pos (by omega), if_pos (by omega), rdOf_lt _ _ _ hj, w64 hj (by omega)]
      congr 1
      funext t
      cases t with
      | true =>
        simp only [if_true]
        congr 1
        funext u
        cases u with
        | true => rfl
        | false => simp only [Bool.false_eq_true, if_false]; rw [if_pos (by omega)]
      | false => simp only [Bool.false_eq_true, if_false]; rw [if_pos (by omega)]
    · refine Ev.bind (has13_ev ra all[j] (by omega)) ?_
      by_cases h1 : all[j] ∈ ra
      · rw [decide_eq_true h1]
        simp only [if_true]
        refine Ev.bind (has13_ev rb all[j] (by omega)) ?_
        by_cases h2 : all[j] ∈ rb
        · simp only [List.filter_cons, h1, h2, decide_true, Bool.and_self, Bool.not_true, Bool.false_eq_true, if_false, List.filter_nil, List.append_nil, if_true] at ih ⊢
          exact ih
        · simp only [List.filter_cons, h1, h2, decide_true, decide_false, Bool.and_false, Bool.not_false, if_true, List.filter_nil, Bool.false_eq_true, if_false] at ih ⊢
          exact ih
      · rw [decide_eq_false h1]
        simp only [List.filter_cons, h1, decide_false, Bool.false_and, Bool.not_false, if_true, List.filter_nil, Bool.false_eq_true, if_false] at ih ⊢
        exact ih
theorem gath_le (l : List Ed) (q : ByteArray → List ByteArray) (n : ByteArray) : (gathL l q n).length ≤ (nodesL l).length := by
  unfold gathL
  split
  · exact List.length_filter_le _ _
  · simp
theorem rdead_ev (hn : l1.length ≤ 1000) : Ev (fun k => busbarref13_DeadNodes.f k a0 l1 l2 a3) (deadL (es l1)) := by
  have hlen : (nodesL (es l1)).length ≤ 3000 := by have := nodesL_len (es l1); rw [es_len] at this; omega
  unfold busbarref13_DeadNodes.f
  refine Ev.bind (nodes_ev a0 a3 l1 l2 hn) (Ev.bind (rreach_ev hn _) (Ev.bind (ranc_ev hn _) ?_))
  have := dead_l0 (nodesL (es l1)) (reachL (es l1) ⟨#[76]⟩) (ancL (es l1) ⟨#[82]⟩) hlen (Nat.le_trans (gath_le _ _ _) hlen) (Nat.le_trans (gath_le _ _ _) hlen) (nodesL (es l1)).length 0 (by omega)
  exact this
theorem rcheck_ev (hn : l1.length ≤ 1000) : Ev (fun k => busbarref13_Check.f k a0 l1 l2 a3) (checkL (es l1)) := by
  unfold busbarref13_Check.f checkL
  rw [es_len]
  by_cases h0 : l1.length = 0
  · rw [if_pos h0]
    simp only [if_pos (show (l1.length : Int) = 0 by omega)]
    exact Ev.now _
  · rw [if_neg h0]
    simp only [if_neg (show ¬ (l1.length : Int) = 0 by omega)]
    refine Ev.bind (rtopo_ev hn) ?_
    unfold pairT
    by_cases h1 : errT (topo (es l1)) = 0
    · simp only [if_pos h1]
      refine Ev.bind (rdead_ev hn) ?_
      by_cases h2 : (deadL (es l1)).length = 0
      · simp only [if_pos h2, if_neg (show ¬ ((deadL (es l1)).length : Int) > 0 by omega)]; exact Ev.now _
      · simp only [if_neg h2, if_pos (show ((deadL (es l1)).length : Int) > 0 by omega)]; exact Ev.now _
    · simp only [if_neg h1]
      exact Ev.now _
end
end Go.Proofs.Ytmacdknicgfglaa.Pe
