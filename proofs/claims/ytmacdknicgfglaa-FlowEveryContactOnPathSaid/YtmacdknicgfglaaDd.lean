/- Dead nodes, plainly. -/
import Derived.Test.YtmacdknicgfglaaSd
import Derived.Test.YtmacdknicgfglaaDq
namespace Go.Proofs.Ytmacdknicgfglaa.Gp
set_option linter.unusedVariables false
set_option linter.unusedSimpArgs false
section
variable {l : List Ed} {x y : ByteArray} {p : List Int}
theorem dead_mem : x ∈ deadL l ↔ x ∈ nodesL l ∧ ¬ (x ∈ reachL l sL ∧ x ∈ ancL l sR) := by
  unfold deadL
  rw [List.mem_filter]
  have e : (!(decide (x ∈ reachL l ⟨#[76]⟩) && decide (x ∈ ancL l ⟨#[82]⟩))) = true ↔ ¬ (x ∈ reachL l sL ∧ x ∈ ancL l sR) := by
    show (!(decide (x ∈ reachL l sL) && decide (x ∈ ancL l sR))) = true ↔ _
    by_cases h1 : x ∈ reachL l sL <;> by_cases h2 : x ∈ ancL l sR <;> simp [h1, h2]
  rw [e]
theorem node_L (l : List Ed) : sL ∈ nodesL l := nodesL_mem.2 (.inl rfl)
theorem node_R (l : List Ed) : sR ∈ nodesL l := nodesL_mem.2 (.inr (.inl rfl))
theorem dead_not : x ∈ nodesL l → (x ∉ deadL l ↔ Rch (sucL l) sL x ∧ Rch (sucL l) x sR) := by
  intro hx
  rw [dead_mem, reach_mem, anc_mem]
  constructor
  · intro h
    have h1 := Classical.byContradiction (fun q => h ⟨hx, q⟩)
    exact ⟨h1.1.2, rch_turn' h1.2.2⟩
  · rintro ⟨h1, h2⟩ ⟨_, h3⟩
    exact h3 ⟨⟨node_L l, h1⟩, ⟨node_R l, rch_turn h2⟩⟩
theorem dead_none (h : shortL l = none) : sL ∈ deadL l ∧ sR ∈ deadL l := by
  have hr := short_none_R h
  have hno : ¬ Rch (sucL l) sL sR := fun q => hr (reach_mem.2 ⟨node_L l, q⟩)
  refine ⟨Classical.byContradiction fun q => hno ((dead_not (node_L l)).1 q).2, Classical.byContradiction fun q => hno ((dead_not (node_R l)).1 q).1⟩
theorem path_rch : ∀ {p : List Int} {x : ByteArray}, PathE l x p sR → Rch (sucL l) x sR
  | [], x, h => by rw [show x = sR from h]; exact .refl
  | i :: p, x, ⟨m, _, hm, h1, h2⟩ => .head (suc_mem.2 ⟨l[m], List.getElem_mem _, h1, rfl⟩) (path_rch h2)
/-- One contact more from rail to rail. -/
theorem nodes_LR (l : List Ed) : nodesL (l ++ [(sL, sR)]) = nodesL l := by
  rw [nodesL_snoc]
  unfold addC
  rw [addN_in (node_L l), addN_in (node_R l)]
theorem rch_LR (h : Rch (sucL l) sL sR) {a b : ByteArray} : Rch (sucL (l ++ [(sL, sR)])) a b ↔ Rch (sucL l) a b := by
  constructor
  · intro q
    induction q with
    | refl => exact .refl
    | step _ hx ih =>
      obtain ⟨c, hc, e1, e2⟩ := suc_mem.1 hx
      rcases List.mem_append.1 hc with hc | hc
      · exact ih.step (suc_mem.2 ⟨c, hc, e1, e2⟩)
      · obtain rfl := List.mem_singleton.1 hc
        rw [← e2]
        rw [← e1] at ih
        exact ih.trans h
  · exact rch_more
theorem dead_LR (h : Rch (sucL l) sL sR) : (deadL (l ++ [(sL, sR)])).length = (deadL l).length := by
  have e : deadL (l ++ [(sL, sR)]) = deadL l := by
    unfold deadL
    rw [nodes_LR]
    refine List.filter_congr fun x hx => ?_
    have e1 : (x ∈ reachL (l ++ [(sL, sR)]) ⟨#[76]⟩) ↔ (x ∈ reachL l ⟨#[76]⟩) := by
      show x ∈ reachL (l ++ [(sL, sR)]) sL ↔ x ∈ reachL l sL
      rw [reach_mem, reach_mem, rch_LR h, nodes_LR]
    have e2 : (x ∈ ancL (l ++ [(sL, sR)]) ⟨#[82]⟩) ↔ (x ∈ ancL l ⟨#[82]⟩) := by
      show x ∈ ancL (l ++ [(sL, sR)]) sR ↔ x ∈ ancL l sR
      rw [anc_mem, anc_mem, nodes_LR]
      exact ⟨fun q => ⟨q.1, rch_turn ((rch_LR h).1 (rch_turn' q.2))⟩, fun q => ⟨q.1, rch_turn ((rch_LR h).2 (rch_turn' q.2))⟩⟩
    rw [decide_eq_decide.2 e1, decide_eq_decide.2 e2]
  rw [e]
theorem short_rch (h : shortL l = some p) : Rch (sucL l) sL sR := (reach_mem.1 (short_some_R h)).2
end
end Go.Proofs.Ytmacdknicgfglaa.Gp
