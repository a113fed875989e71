/- Chapter 06, plainly: the counter rises, lengths stay, a run ends. -/
import Derived.Test.YtjohdkbciafpfaaVp
namespace Go.Proofs.Ytjohdkbciafpfaa.Vm6
open Go.RowKit Go.Proofs.YtjohdkbciafpfaaW.PrintWords Go.Proofs.Ytjohdkbciafpfaa.Impl
set_option linter.unusedVariables false
set_option linter.unusedSimpArgs false
section
variable {n : Nat} {l : List S66} {li : List Bool} {k a b j : Int} {s : MS}
theorem wrv_lens {q m e : List Bool} {a b : Int} {v : Bool} (h : (wrv q m e a b v).2.2.2 = 0) : (wrv q m e a b v).1.length = q.length ∧ (wrv q m e a b v).2.1.length = m.length ∧ (wrv q m e a b v).2.2.1 = e := by
  unfold wrv at h ⊢
  by_cases c1 : a = 1
  · rw [if_pos c1] at h ⊢
    by_cases c : 0 ≤ b ∧ b < q.length
    · rw [if_pos c]; simp
    · rw [if_neg c] at h; exact absurd h (by decide)
  · rw [if_neg c1] at h ⊢
    by_cases c2 : a = 2
    · rw [if_pos c2] at h ⊢
      by_cases c : 0 ≤ b ∧ b < m.length
      · rw [if_pos c]; simp
      · rw [if_neg c] at h; exact absurd h (by decide)
    · rw [if_neg c2] at h; exact absurd h (by decide)
/-- The lengths of a state's rows. -/
def lens (s : MS) : Nat × Nat × Nat := (s.q.length, s.m.length, s.e.length)
theorem core_lens : lens (core n li k a b j s).2.2 = lens s := by
  unfold core
  repeat' split
  all_goals first | rfl | skip
  · simp [lens]
  · have := wrv_lens (by assumption)
    simp only [lens]
    rw [this.1, this.2.1, this.2.2]
theorem core_pc (h0 : 0 ≤ s.pc) (h1 : s.pc < n) (he : s.ended = false) (hr : (core n li k a b j s).1 = 0) : s.pc ≤ (core n li k a b j s).2.1 ∧ (core n li k a b j s).2.1 ≤ n ∧ ((core n li k a b j s).2.2.ended = false → s.pc < (core n li k a b j s).2.1) := by
  unfold core at hr ⊢
  repeat' split
  all_goals first
    | (simp_all; done)
    | (simp_all; omega)
    | (simp only; refine ⟨by omega, by omega, fun _ => by omega⟩)
    | (simp only; refine ⟨by split <;> omega, by split <;> omega, fun _ => by split <;> omega⟩)
theorem core_fault : (core n li k a b j s).2.2.fault = s.fault := by
  unfold core
  repeat' split
  all_goals rfl
/-- What a step does to the counter; what it tells. -/
structure Sf (l : List S66) (li : List Bool) (s : MS) : Prop where
  lens : lens (stepV l li s).2 = lens s
  lo : s.pc ≤ (stepV l li s).2.pc
  hi : (stepV l li s).2.pc ≤ l.length
  go : (stepV l li s).1.1 = true → s.pc < (stepV l li s).2.pc ∧ (stepV l li s).1.2 = 0 ∧ (stepV l li s).2.ended = false ∧ s.ended = false
  st : (stepV l li s).1.1 = false → (stepV l li s).2.ended = true
  fl : (stepV l li s).1.1 = false → (stepV l li s).1.2 = (stepV l li s).2.fault
theorem sf (h0 : 0 ≤ s.pc) (h1 : s.pc ≤ l.length) (hf : s.ended = false → s.fault = 0) : Sf l li s := by
  by_cases he : s.ended = true
  · have e : stepV l li s = ((false, s.fault), s) := if_pos he
    exact ⟨by rw [e], by rw [e]; exact Int.le_refl _, by rw [e]; exact h1, by rw [e]; simp, by rw [e]; exact fun _ => he, by rw [e]; simp⟩
  have he' : s.ended = false := by simpa using he
  by_cases hp : (l.length : Int) ≤ s.pc
  · have e : stepV l li s = ((false, 5), { s with ended := true, fault := 5 }) := by unfold stepV; rw [if_neg he, if_pos hp]
    exact ⟨by rw [e]; rfl, by rw [e]; exact Int.le_refl _, by rw [e]; exact h1, by rw [e]; simp, by rw [e]; simp, by rw [e]; simp⟩
  generalize hr : core l.length li (rd_T66 l s.pc).f0 (rd_T66 l s.pc).f1.f0 (rd_T66 l s.pc).f1.f1 (rd_T66 l s.pc).f2 s = r
  by_cases hz : r.1 = 0
  · have e : stepV l li s = ((!r.2.2.ended, 0), { r.2.2 with pc := r.2.1 }) := by unfold stepV; rw [if_neg he, if_neg hp, hr, if_pos hz]
    have hc1 := core_pc (n := l.length) (li := li) (k := (rd_T66 l s.pc).f0) (a := (rd_T66 l s.pc).f1.f0) (b := (rd_T66 l s.pc).f1.f1) (j := (rd_T66 l s.pc).f2) (s := s) h0 (by omega) he'
    rw [hr] at hc1
    have hc2 := core_lens (n := l.length) (li := li) (k := (rd_T66 l s.pc).f0) (a := (rd_T66 l s.pc).f1.f0) (b := (rd_T66 l s.pc).f1.f1) (j := (rd_T66 l s.pc).f2) (s := s)
    rw [hr] at hc2
    have hc3 := core_fault (n := l.length) (li := li) (k := (rd_T66 l s.pc).f0) (a := (rd_T66 l s.pc).f1.f0) (b := (rd_T66 l s.pc).f1.f1) (j := (rd_T66 l s.pc).f2) (s := s)
    rw [hr] at hc3
    have h3 := hc1 hz
    refine ⟨by rw [e]; exact hc2, by rw [e]; exact h3.1, by rw [e]; exact h3.2.1, ?_, ?_, ?_⟩
    · rw [e]
      intro hg
      simp only [Bool.not_eq_true'] at hg
      exact ⟨h3.2.2 hg, rfl, hg, he'⟩
    · rw [e]; simp
    · rw [e]
      intro _
      show (0 : Int) = r.2.2.fault
      rw [hc3, hf he']
  · have e : stepV l li s = ((false, r.1), { s with ended := true, fault := r.1 }) := by unfold stepV; rw [if_neg he, if_neg hp, hr, if_neg hz]
    exact ⟨by rw [e]; rfl, by rw [e]; exact Int.le_refl _, by rw [e]; exact h1, by rw [e]; simp, by rw [e]; simp, by rw [e]; simp⟩
/-- A state on a machine's way: counter, fault. -/
structure Ok (l : List S66) (s : MS) : Prop where
  p0 : 0 ≤ s.pc
  p1 : s.pc ≤ l.length
  f : s.ended = false → s.fault = 0
theorem Ok.sf (h : Ok l s) : Sf l li s := Vm6.sf h.p0 h.p1 h.f
theorem Ok.step (h : Ok l s) : Ok l (stepV l li s).2 := by
  have hs := h.sf (li := li)
  refine ⟨Int.le_trans h.p0 hs.lo, hs.hi, fun he => ?_⟩
  cases hg : (stepV l li s).1.1 with
  | false => rw [hs.st hg] at he; cases he
  | true =>
    have h1 := hs.go hg
    by_cases hp : (l.length : Int) ≤ s.pc
    · unfold stepV at hg; rw [if_neg (by simp [h1.2.2.2]), if_pos hp] at hg; cases hg
    · unfold stepV at hg ⊢
      rw [if_neg (by simp [h1.2.2.2]), if_neg hp] at hg ⊢
      split at hg
      · rename_i hz
        rw [if_pos hz]
        show (core l.length li _ _ _ _ s).2.2.fault = 0
        rw [core_fault, h.f h1.2.2.2]
      · cases hg
theorem Ok.ini (q m e : List Bool) : Ok l (ini q m e) := ⟨Int.le_refl _, by show (0 : Int) ≤ _; omega, fun _ => rfl⟩
/-- A run: it ends; where; its state fits. -/
structure Rf (l : List S66) (li : List Bool) (s : MS) (n : Nat) (r : MS × Nat) : Prop where
  ok : Ok l r.1
  lens : lens r.1 = lens s
  ended : r.1.ended = true
  up : n ≤ r.2
  steps : (r.2 : Int) + s.pc ≤ n + r.1.pc + 1
  few : r.2 ≤ n + (l.length : Int) - s.pc
theorem runV_facts : ∀ (f : Nat) {s : MS} (n : Nat), Ok l s → s.ended = false → (l.length : Int) + 1 ≤ s.pc + f → Rf l li s n (runV l li f s n)
  | 0, s, n, ho, he, hf => by have := ho.p1; omega
  | f + 1, s, n, ho, he, hf => by
    have hs := ho.sf (li := li)
    have ho' := ho.step (li := li)
    unfold runV
    cases hg : (stepV l li s).1.1 with
    | true =>
      have h1 := hs.go hg
      rw [if_pos rfl, if_pos h1.2.1]
      have ih := runV_facts f (n + 1) ho' h1.2.2.1 (by have := h1.1; omega)
      have := h1.1
      have i1 := ih.steps
      have i2 := ih.few
      have i3 := ih.up
      exact ⟨ih.ok, ih.lens.trans hs.lens, ih.ended, by omega, by omega, by omega⟩
    | false =>
      rw [if_neg (by simp)]
      have h2 := hs.st hg
      have h3 := hs.lo
      refine ⟨ho', hs.lens, h2, by split <;> omega, ?_, ?_⟩
      · show ((if (stepV l li s).1.2 = 0 then n + 1 else n : Nat) : Int) + s.pc ≤ n + (stepV l li s).2.pc + 1
        split <;> omega
      · show ((if (stepV l li s).1.2 = 0 then n + 1 else n : Nat) : Int) ≤ n + (l.length : Int) - s.pc
        have := ho.p1
        split
        · rename_i hz
          by_cases hp : (l.length : Int) ≤ s.pc
          · unfold stepV at hz
            rw [if_neg (by simp [he]), if_pos hp] at hz
            exact absurd hz (show ¬ (5 : Int) = 0 by decide)
          · omega
        · omega
end
end Go.Proofs.Ytjohdkbciafpfaa.Vm6
