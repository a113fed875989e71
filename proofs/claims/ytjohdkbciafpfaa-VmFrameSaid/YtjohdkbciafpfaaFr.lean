/- VmFrame, plainly: what no instruction writes stays; inputs that no instruction reads do not matter. -/
import Derived.Test.YtjohdkbciafpfaaVq
namespace Go.Proofs.Ytjohdkbciafpfaa.Vm6
open Go.RowKit Go.Proofs.YtjohdkbciafpfaaW.PrintWords Go.Proofs.Ytjohdkbciafpfaa.Impl
set_option linter.unusedVariables false
set_option linter.unusedSimpArgs false
/-- The instruction writes the bit; turns the slot; reads the input. -/
def xW (s : Int × Int) (x : S66) : Bool := decide (11 ≤ x.f0) && decide (x.f0 ≤ 14) && decide (s = (x.f1.f0, x.f1.f1))
def xS (n : Int) (x : S66) : Bool := decide (x.f0 = 6 ∨ x.f0 = 7) && decide (n = x.f2)
def xA (n : Int) (x : S66) : Bool := decide (0 ≤ x.f0) && decide (x.f0 ≤ 7) && decide (x.f1.f0 = 0) && decide (n = x.f1.f1)
def wrP (l : List S66) (s : Int × Int) : Bool := l.any (xW s)
def seP (l : List S66) (n : Int) : Bool := l.any (xS n)
def asP (l : List S66) (n : Int) : Bool := l.any (xA n)
section
variable {n : Nat} {l : List S66} {li lj : List Bool} {k a b j : Int} {s s0 : MS}
theorem getD_set {q : List Bool} {i t : Nat} {v : Bool} (h : (q.set t v).getD i false ≠ q.getD i false) : t = i := by
  rcases Nat.lt_or_ge i q.length with hi | hi
  · rw [List.getD_eq_getElem?_getD, List.getD_eq_getElem?_getD, List.getElem?_set] at h
    by_cases e : t = i
    · exact e
    · rw [if_neg e] at h
      exact absurd rfl h
  · rw [List.getD_eq_getElem?_getD, List.getD_eq_getElem?_getD, List.getElem?_eq_none (by simpa using hi), List.getElem?_eq_none hi] at h
    exact absurd rfl h
theorem wrv_q {q m e : List Bool} {v : Bool} (h0 : (wrv q m e a b v).2.2.2 = 0) {i : Nat} : ((wrv q m e a b v).1.getD i false ≠ q.getD i false → ((1 : Int), (i : Int)) = (a, b)) ∧ ((wrv q m e a b v).2.1.getD i false ≠ m.getD i false → ((2 : Int), (i : Int)) = (a, b)) := by
  unfold wrv at h0 ⊢
  by_cases c1 : a = 1
  · rw [if_pos c1] at h0 ⊢
    by_cases c : 0 ≤ b ∧ b < q.length
    · rw [if_pos c]
      refine ⟨fun h => ?_, fun h => absurd rfl h⟩
      have := getD_set h
      rw [c1]; congr 1; omega
    · rw [if_neg c] at h0; exact absurd h0 (by decide)
  · rw [if_neg c1] at h0 ⊢
    by_cases c2 : a = 2
    · rw [if_pos c2] at h0 ⊢
      by_cases c : 0 ≤ b ∧ b < m.length
      · rw [if_pos c]
        refine ⟨fun h => absurd rfl h, fun h => ?_⟩
        have := getD_set h
        rw [c2]; congr 1; omega
      · rw [if_neg c] at h0; exact absurd h0 (by decide)
    · rw [if_neg c2] at h0; exact absurd h0 (by decide)
/-- What an instruction leaves. -/
structure Fm (k a b j : Int) (s r : MS) : Prop where
  q : ∀ i : Nat, r.q.getD i false ≠ s.q.getD i false → (11 ≤ k ∧ k ≤ 14) ∧ ((1 : Int), (i : Int)) = (a, b)
  m : ∀ i : Nat, r.m.getD i false ≠ s.m.getD i false → (11 ≤ k ∧ k ≤ 14) ∧ ((2 : Int), (i : Int)) = (a, b)
  e : ∀ i : Nat, r.e.getD i false ≠ s.e.getD i false → (k = 6 ∨ k = 7) ∧ (i : Int) = j
theorem Fm.same {r : MS} (hq : r.q = s.q) (hm : r.m = s.m) (he : r.e = s.e) : Fm k a b j s r := ⟨fun i h => absurd (by rw [hq]) h, fun i h => absurd (by rw [hm]) h, fun i h => absurd (by rw [he]) h⟩
theorem core_fm : Fm k a b j s (core n li k a b j s).2.2 := by
  unfold core
  repeat' split
  all_goals first | exact Fm.same rfl rfl rfl | skip
  · rename_i h _ _
    refine ⟨fun i h => absurd rfl h, fun i h => absurd rfl h, fun i h1 => ⟨h, ?_⟩⟩
    have := getD_set h1
    omega
  · rename_i h hz _
    have hw := @wrv_q a b s.q s.m s.e (cv k s.acc) hz
    refine ⟨fun i h1 => ⟨h, hw.1 h1⟩, fun i h1 => ⟨h, hw.2 h1⟩, fun i h1 => ?_⟩
    exact absurd (by rw [(wrv_lens hz).2.2]) h1
/-- A state that has left the start only where an instruction may write. -/
structure Fi (l : List S66) (s0 s : MS) : Prop where
  q : ∀ i : Nat, s.q.getD i false ≠ s0.q.getD i false → wrP l (1, i) = true
  m : ∀ i : Nat, s.m.getD i false ≠ s0.m.getD i false → wrP l (2, i) = true
  e : ∀ i : Nat, s.e.getD i false ≠ s0.e.getD i false → seP l i = true
theorem Fi.refl : Fi l s s := ⟨fun _ h => absurd rfl h, fun _ h => absurd rfl h, fun _ h => absurd rfl h⟩
theorem Fi.fm (h : Fi l s0 s) {x : S66} (hx : x ∈ l) {r : MS} (hr : Fm x.f0 x.f1.f0 x.f1.f1 x.f2 s r) : Fi l s0 r := by
  refine ⟨fun i hi => ?_, fun i hi => ?_, fun i hi => ?_⟩
  · by_cases e : r.q.getD i false = s.q.getD i false
    · exact h.q i (by rw [← e]; exact hi)
    · obtain ⟨h1, h2⟩ := hr.q i e
      exact List.any_eq_true.2 ⟨x, hx, by simp [xW, h1.1, h1.2, h2]⟩
  · by_cases e : r.m.getD i false = s.m.getD i false
    · exact h.m i (by rw [← e]; exact hi)
    · obtain ⟨h1, h2⟩ := hr.m i e
      exact List.any_eq_true.2 ⟨x, hx, by simp [xW, h1.1, h1.2, h2]⟩
  · by_cases e : r.e.getD i false = s.e.getD i false
    · exact h.e i (by rw [← e]; exact hi)
    · obtain ⟨h1, h2⟩ := hr.e i e
      exact List.any_eq_true.2 ⟨x, hx, by simp [xS, h1, h2]⟩
theorem rd_mem {pc : Int} (h0 : 0 ≤ pc) (h1 : pc < l.length) : rd_T66 l pc ∈ l := by
  unfold rd_T66
  rw [List.getD_eq_getElem?_getD, List.getElem?_eq_getElem (by omega)]
  exact List.getElem_mem _
theorem Fi.step (h : Fi l s0 s) (h0 : 0 ≤ s.pc) : Fi l s0 (stepV l li s).2 := by
  unfold stepV
  by_cases he : s.ended = true
  · rw [if_pos he]; exact h
  · rw [if_neg he]
    by_cases hp : (l.length : Int) ≤ s.pc
    · rw [if_pos hp]; exact ⟨h.q, h.m, h.e⟩
    · rw [if_neg hp]
      have hc := h.fm (rd_mem h0 (by omega)) (core_fm (n := l.length) (li := li) (k := (rd_T66 l s.pc).f0) (a := (rd_T66 l s.pc).f1.f0) (b := (rd_T66 l s.pc).f1.f1) (j := (rd_T66 l s.pc).f2) (s := s))
      split
      · exact ⟨hc.q, hc.m, hc.e⟩
      · exact ⟨h.q, h.m, h.e⟩
theorem runV_fi : ∀ (f : Nat) {s : MS} (c : Nat), Ok l s → Fi l s0 s → Fi l s0 (runV l li f s c).1
  | 0, s, c, ho, h => h
  | f + 1, s, c, ho, h => by
    unfold runV
    have hs := h.step (li := li) ho.p0
    split
    · exact runV_fi f _ ho.step hs
    · exact hs
/-- Two inputs that agree wherever an instruction asks. -/
def Agree (l : List S66) (li lj : List Bool) : Prop := li.length = lj.length ∧ ∀ i : Nat, i < li.length → asP l i = true → li.getD i false = lj.getD i false
theorem rdv_agree (h : Agree l li lj) {x : S66} (hx : x ∈ l) (hk : 0 ≤ x.f0 ∧ x.f0 ≤ 7) (q m : List Bool) : rdv li q m x.f1.f0 x.f1.f1 = rdv lj q m x.f1.f0 x.f1.f1 := by
  unfold rdv
  by_cases c : x.f1.f0 = 0
  · rw [if_pos c, if_pos c, ← h.1]
    by_cases c1 : 0 ≤ x.f1.f1 ∧ x.f1.f1 < li.length
    · rw [if_pos c1, if_pos c1]
      obtain ⟨i, hi⟩ : ∃ i : Nat, x.f1.f1 = i := ⟨x.f1.f1.toNat, by omega⟩
      have h1 := h.2 i (by omega) (List.any_eq_true.2 ⟨x, hx, by simp [xA, hk.1, hk.2, c, hi]⟩)
      rw [hi]
      unfold rdOf
      rw [Int.toNat_natCast, h1]
    · rw [if_neg c1, if_neg c1]
  · rw [if_neg c, if_neg c]
theorem core_agree (h : Agree l li lj) {x : S66} (hx : x ∈ l) : core n li x.f0 x.f1.f0 x.f1.f1 x.f2 s = core n lj x.f0 x.f1.f0 x.f1.f1 x.f2 s := by
  unfold core
  by_cases c1 : 0 ≤ x.f0 ∧ x.f0 ≤ 5
  · rw [rdv_agree h hx ⟨c1.1, by omega⟩]
  · rw [if_neg c1, if_neg c1]
    by_cases c2 : x.f0 = 6 ∨ x.f0 = 7
    · rw [rdv_agree h hx ⟨by omega, by omega⟩]
    · rw [if_neg c2, if_neg c2]
theorem stepV_agree (h : Agree l li lj) (h0 : 0 ≤ s.pc) : stepV l li s = stepV l lj s := by
  unfold stepV
  by_cases he : s.ended = true
  · rw [if_pos he, if_pos he]
  · rw [if_neg he, if_neg he]
    by_cases hp : (l.length : Int) ≤ s.pc
    · rw [if_pos hp, if_pos hp]
    · rw [core_agree h (rd_mem h0 (by omega))]
theorem runV_agree (h : Agree l li lj) : ∀ (f : Nat) {s : MS} (c : Nat), Ok l s → runV l li f s c = runV l lj f s c
  | 0, s, c, ho => rfl
  | f + 1, s, c, ho => by
    unfold runV
    have hs := ho.step (li := li)
    rw [← stepV_agree h ho.p0]
    split
    · exact runV_agree h f _ hs
    · rfl
end
end Go.Proofs.Ytjohdkbciafpfaa.Vm6
