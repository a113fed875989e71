/- Chapter 06: one instruction, by its table entry: all of them. -/
import Derived.Test.YtjohdkbciafpfaaVi4
import Derived.Test.YtjohdkbciafpfaaVd
namespace Go.Proofs.Ytjohdkbciafpfaa.Vm6
open Go.RowKit Go.Proofs.YtjohdkbciafpfaaW.PrintWords Go.Proofs.YtjohdkbciafpfaaW.PrintMore Go.Proofs.YtjohdkbciafpfaaW.PrintLast Go.Proofs.Ytjohdkbciafpfaa.Chg Go.Proofs.Ytjohdkbciafpfaa.Evt Go.Proofs.Ytjohdkbciafpfaa.Impl
set_option linter.unusedVariables false
set_option linter.unusedSimpArgs false
section
variable {w w' w1 : World} {base : Nat} {U : Nat → Prop} {gm gt mo : Nat} {vC vI vQ vM vE vL : Value} {l : List S66} {li : List Bool} {s : MS} {k a b j : Int}
/-- The machine's own state behind an instruction, ahead of the counter's step. -/
def vfin (r : Int × Int × MS) (s : MS) : MS := if r.1 = 0 then { r.2.2 with pc := r.2.1 - 1 } else s
theorem vfin_err {r : Int × Int × MS} (h : r.1 ≠ 0) : vfin r s = s := if_neg h
theorem vfin_ok {p : Int} {s1 : MS} : vfin (0, p, s1) s = { s1 with pc := p - 1 } := if_pos rfl
theorem ins_any (h : Vm w base U gm gt vC vI vQ vM vE vL mo l li s) {f : Nat} (hf : fop k = some f) (hp : 0 ≤ s.pc) {r : Int × Int × MS} (hr : core l.length li k a b j s = r) :
    Calls Try.prog f #[.pointer (some ⟨gm, 0, none⟩), .agg #[.int .i64 k, .int .i64 a, .int .i64 b, .int .i64 j]] w fun x w' => x = .returned (.int .i64 r.1) ∧ Stp w base U gm l li (vfin r s) w' := by
  subst hr
  obtain ⟨q, m, e, pc, acc, st, ended, fault⟩ := s
  have back : ∀ p : Int, p + 1 - 1 = p := fun p => by omega
  unfold fop at hf
  by_cases c1 : 0 ≤ k ∧ k ≤ 5
  · rw [if_pos c1] at hf
    injection hf with hf
    subst hf
    unfold core
    rw [if_pos c1]
    simp only
    by_cases e1 : (rdv li q m a b).2 = 0
    · rw [if_pos e1, vfin_ok]
      simp only [back]
      exact logic_ok h c1 (show rdv li q m a b = ((rdv li q m a b).1, 0) by rw [← e1])
    · rw [if_neg e1, vfin_err e1]
      exact logic_err h rfl e1
  rw [if_neg c1] at hf
  by_cases c2 : k = 6 ∨ k = 7
  · rw [if_pos c2] at hf
    injection hf with hf
    subst hf
    unfold core
    rw [if_neg c1, if_pos c2]
    simp only
    by_cases e1 : (rdv li q m a b).2 = 0
    · rw [if_pos e1]
      by_cases e2 : 0 ≤ j ∧ j < e.length
      · rw [if_pos e2, vfin_ok]
        simp only [back]
        exact edge_ok h (show rdv li q m a b = ((rdv li q m a b).1, 0) by rw [← e1]) e2
      · rw [if_neg e2, vfin_err (by simp)]
        exact edge_out h (show rdv li q m a b = ((rdv li q m a b).1, 0) by rw [← e1]) e2
    · rw [if_neg e1, vfin_err e1]
      exact edge_err h rfl e1
  rw [if_neg c2] at hf
  by_cases c3 : k = 8
  · rw [if_pos c3] at hf
    injection hf with hf
    subst hf
    unfold core
    rw [if_neg c1, if_neg c2, if_pos c3]
    simp only
    by_cases e1 : st.length = 64
    · rw [if_pos e1, vfin_err (by simp)]
      exact push_full h e1
    · rw [if_neg e1, vfin_ok]
      simp only [back]
      exact push_ok h (by have := h.st.le; simp only at this; omega)
  rw [if_neg c3] at hf
  by_cases c4 : k = 9 ∨ k = 10
  · rw [if_pos c4] at hf
    injection hf with hf
    subst hf
    unfold core
    rw [if_neg c1, if_neg c2, if_neg c3, if_pos c4]
    simp only
    rcases List.eq_nil_or_concat st with e1 | ⟨st', y, e1⟩
    · subst e1
      exact pop_empty h
    · rw [List.concat_eq_append] at e1
      subst e1
      simp only [List.getLast?_append, List.getLast?_singleton, Option.some_or, List.dropLast_concat]
      rw [vfin_ok]
      simp only [back]
      exact pop_ok h
  rw [if_neg c4] at hf
  by_cases c5 : 11 ≤ k ∧ k ≤ 14
  · rw [if_pos c5] at hf
    injection hf with hf
    subst hf
    unfold core
    rw [if_neg c1, if_neg c2, if_neg c3, if_neg c4, if_pos c5]
    simp only
    have er : ∀ v v', (wrv q m e a b v).2.2.2 = (wrv q m e a b v').2.2.2 := fun v v' => wrv_err v v'
    by_cases e1 : (wrv q m e a b (cv k acc)).2.2.2 = 0
    · rw [if_pos e1, vfin_ok]
      have eq_ : ∀ v, wrv q m e a b v = ((wrv q m e a b v).1, (wrv q m e a b v).2.1, (wrv q m e a b v).2.2.1, 0) := fun v => by rw [← e1, er (cv k acc) v]
      obtain c | c | c | c : k = 11 ∨ k = 12 ∨ k = 13 ∨ k = 14 := by omega
      · subst c
        simp only [back]
        exact coil_w h (.inl ⟨rfl, eq_ acc⟩)
      · subst c
        simp only [back]
        exact coil_w h (.inr ⟨rfl, eq_ (!acc)⟩)
      · subst c
        cases acc with
        | false =>
          simp only [back]
          exact coil_skip h (.inl ⟨rfl, eq_ false⟩)
        | true =>
          simp only [back]
          exact coil_set h (.inl ⟨rfl, eq_ true⟩)
      · subst c
        cases acc with
        | false =>
          simp only [back]
          exact coil_skip h (.inr ⟨rfl, eq_ true⟩)
        | true =>
          simp only [back]
          exact coil_set h (.inr ⟨rfl, eq_ false⟩)
    · rw [if_neg e1, vfin_err e1]
      have eq_ : ∀ v, wrv q m e a b v = ((wrv q m e a b v).1, (wrv q m e a b v).2.1, (wrv q m e a b v).2.2.1, (wrv q m e a b (cv k acc)).2.2.2) := fun v => by rw [← er v (cv k acc)]
      obtain c | c : (k = 11 ∨ k = 13) ∨ (k = 12 ∨ k = 14) := by omega
      · exact coil_err h (.inl ⟨c, eq_ acc⟩) e1
      · exact coil_err h (.inr ⟨c, eq_ (!acc)⟩) e1
  rw [if_neg c5] at hf
  by_cases c6 : k = 15
  · rw [if_pos c6] at hf
    injection hf with hf
    subst hf
    unfold core
    rw [if_neg c1, if_neg c2, if_neg c3, if_neg c4, if_neg c5, if_pos c6]
    simp only
    by_cases e1 : 0 ≤ j ∧ j < l.length
    · rw [if_pos e1]
      by_cases e2 : pc < j
      · rw [if_pos e2, vfin_ok]
        refine (jump_ok h e1.1 e1.2 e2).mono fun x w' ⟨hx, hs⟩ => ⟨hx, ?_⟩
        have : (if acc = true then j - 1 else pc) = (if acc = true then j else pc + 1) - 1 := by split <;> omega
        rw [this] at hs
        exact hs
      · rw [if_neg e2, vfin_err (by simp)]
        exact jump_back h e1.1 e1.2 (by omega)
    · rw [if_neg e1, vfin_err (by simp)]
      by_cases e2 : j < 0
      · exact jump_neg h e2
      · exact jump_big h (by omega) (by omega)
  rw [if_neg c6] at hf
  by_cases c7 : k = 16
  · rw [if_pos c7] at hf
    injection hf with hf
    subst hf
    unfold core
    rw [if_neg c1, if_neg c2, if_neg c3, if_neg c4, if_neg c5, if_neg c6, if_pos c7, vfin_ok]
    exact end_any h hp
  · rw [if_neg c7] at hf
    cases hf
/-- An opcode without a method. -/
theorem core_none (h : fop k = none) : core l.length li k a b j s = (8, 0, s) := by
  unfold fop at h
  by_cases c1 : 0 ≤ k ∧ k ≤ 5
  · rw [if_pos c1] at h; cases h
  rw [if_neg c1] at h
  by_cases c2 : k = 6 ∨ k = 7
  · rw [if_pos c2] at h; cases h
  rw [if_neg c2] at h
  by_cases c3 : k = 8
  · rw [if_pos c3] at h; cases h
  rw [if_neg c3] at h
  by_cases c4 : k = 9 ∨ k = 10
  · rw [if_pos c4] at h; cases h
  rw [if_neg c4] at h
  by_cases c5 : 11 ≤ k ∧ k ≤ 14
  · rw [if_pos c5] at h; cases h
  rw [if_neg c5] at h
  by_cases c6 : k = 15
  · rw [if_pos c6] at h; cases h
  rw [if_neg c6] at h
  by_cases c7 : k = 16
  · rw [if_pos c7] at h; cases h
  unfold core
  rw [if_neg c1, if_neg c2, if_neg c3, if_neg c4, if_neg c5, if_neg c6, if_neg c7]
end
end Go.Proofs.Ytjohdkbciafpfaa.Vm6
