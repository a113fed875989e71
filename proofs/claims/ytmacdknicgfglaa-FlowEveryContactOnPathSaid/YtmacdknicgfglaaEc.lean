/- A well-formed rung: what removing and doubling a contact does to the number of ways. -/
import Derived.Test.YtmacdknicgfglaaCe
import Derived.Test.YtmacdknicgfglaaDd
namespace Go.Proofs.Ytmacdknicgfglaa.Gp
set_option linter.unusedVariables false
set_option linter.unusedSimpArgs false
section
variable {l a b : List Ed} {e : Ed}
/-- What Check asks. -/
theorem check_zero (h : checkL l = 0) : l.length ≠ 0 ∧ (∃ r, topo l = some r) ∧ deadL l = [] := by
  unfold checkL at h
  by_cases h0 : l.length = 0
  · rw [if_pos h0] at h; omega
  · rw [if_neg h0] at h
    by_cases h1 : errT (topo l) = 0
    · rw [if_pos h1] at h
      refine ⟨h0, ?_, ?_⟩
      · cases ht : topo l with
        | some r => exact ⟨r, rfl⟩
        | none => rw [ht] at h1; simp [errT] at h1
      · by_cases h2 : (deadL l).length = 0
        · exact List.eq_nil_of_length_eq_zero h2
        · rw [if_neg h2] at h; omega
    · rw [if_neg h1] at h; exact absurd h h1
theorem check_rch (h : checkL l = 0) {x : ByteArray} (hx : x ∈ nodesL l) : Rch (sucL l) sL x ∧ Rch (sucL l) x sR := by
  obtain ⟨_, _, hd⟩ := check_zero h
  refine (dead_not hx).1 ?_
  rw [hd]
  simp
theorem count_eq {r : List ByteArray} (h : topo l = some r) (hl : l.length ≤ 30) : countL l = ((Bw l sR sL : Int), 0) := by
  have e0 : errT (topo l) = 0 := by rw [h]; rfl
  unfold countL
  rw [if_pos e0, capN_small]
  refine Nat.le_trans (Bw_pow h sR sL) ?_
  exact Nat.le_trans (Nat.pow_le_pow_right (by omega) hl) (by decide)
/-- Removing a contact reduces the number of paths, doubling it adds the same number. -/
theorem every (h : checkL (a ++ e :: b) = 0) (hl : (a ++ e :: b).length ≤ 20) : ∃ A W T : Nat, countL (a ++ e :: b) = ((A : Int), 0) ∧ countL (a ++ b) = ((W : Int), 0) ∧ countL (a ++ e :: b ++ [e]) = ((T : Int), 0) ∧ W < A ∧ T + W = 2 * A ∧ A ≤ 1048576 := by
  obtain ⟨_, ⟨r, hr⟩, _⟩ := check_zero h
  have he : e ∈ a ++ e :: b := by simp
  obtain ⟨r1, h1⟩ := topo_sub (m := a ++ b) hr (fun c hc => mem_mid hc)
  obtain ⟨r2, h2⟩ := topo_sub (m := a ++ e :: b ++ [e]) hr (fun c hc => by
    rcases List.mem_append.1 hc with hc | hc
    · exact hc
    · rw [List.mem_singleton.1 hc]; simp)
  have l1 : (a ++ b).length ≤ 30 := by simp at hl ⊢; omega
  have l2 : (a ++ e :: b ++ [e]).length ≤ 30 := by simp at hl ⊢; omega
  refine ⟨_, _, _, count_eq hr (by omega), count_eq h1 l1, count_eq h2 l2, less_lt hr (check_rch h (nodes_1 he)).1 (check_rch h (nodes_2 he)).2, twice_Bw hr sR sL, ?_⟩
  exact Nat.le_trans (Bw_pow hr sR sL) (Nat.le_trans (Nat.pow_le_pow_right (by omega) hl) (by decide))
end
end Go.Proofs.Ytmacdknicgfglaa.Gp
