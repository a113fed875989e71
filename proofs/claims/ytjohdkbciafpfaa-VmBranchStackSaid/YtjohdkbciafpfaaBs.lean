/- VmBranchStack, plainly. -/
import Derived.Test.YtjohdkbciafpfaaVx
namespace Go.Proofs.Ytjohdkbciafpfaa.Vm6
open Go.RowKit Go.Proofs.YtjohdkbciafpfaaW.PrintWords Go.Proofs.YtjohdkbciafpfaaW.PrintMore Go.Proofs.YtjohdkbciafpfaaW.PrintLast Go.Proofs.Ytjohdkbciafpfaa.Chg Go.Proofs.Ytjohdkbciafpfaa.Evt Go.Proofs.Ytjohdkbciafpfaa.Impl
set_option linter.unusedVariables false
set_option linter.unusedSimpArgs false
set_option maxRecDepth 100000
def psh : S66 := ⟨8, ⟨0, 0⟩, 0⟩
def ldi (i : Nat) : S66 := ⟨0, ⟨0, (i : Int)⟩, 0⟩
/-- The pushes and loads of i bits. -/
def bsP : Nat → List S66
  | 0 => []
  | 1 => [ldi 0]
  | i + 2 => (bsP (i + 1) ++ [psh]) ++ [ldi (i + 1)]
def bsO (or : Bool) : S66 := ⟨if or = true then 10 else 9, ⟨0, 0⟩, 0⟩
def bsI (n : Nat) (or : Bool) (j : Nat) : List S66 := bsP n ++ List.replicate j (bsO or)
def bsE : List S66 := [⟨11, ⟨2, 0⟩, 0⟩, ⟨16, ⟨0, 0⟩, 0⟩]
def bsC (n : Nat) (or : Bool) : List S66 := bsI n or (n - 1) ++ bsE
theorem bsI_next (n : Nat) (or : Bool) (j : Nat) : bsI n or j ++ [bsO or] = bsI n or (j + 1) := by
  unfold bsI
  rw [List.append_assoc, ← List.replicate_succ']
theorem bsP_len : ∀ i : Nat, (bsP (i + 1)).length = 2 * i + 1
  | 0 => rfl
  | i + 1 => by
    show ((bsP (i + 1) ++ [psh]) ++ [ldi (i + 1)]).length = _
    rw [List.length_append, List.length_append, bsP_len i]
    show 2 * i + 1 + 1 + 1 = _
    omega
theorem bsI_len (i : Nat) (or : Bool) (j : Nat) : (bsI (i + 1) or j).length = 2 * i + 1 + j := by
  unfold bsI
  rw [List.length_append, bsP_len, List.length_replicate]
theorem bsC_len (i : Nat) (or : Bool) : (bsC (i + 1) or).length = 3 * i + 3 := by
  unfold bsC
  rw [List.length_append, bsI_len]
  show 2 * i + 1 + (i + 1 - 1) + 2 = _
  omega
theorem bsP_ld : ∀ {n i : Nat}, i ≤ n → (bsP (n + 1))[2 * i]? = some (ldi i)
  | 0, i, h => by obtain rfl : i = 0 := by omega
                  rfl
  | n + 1, i, h => by
    show ((bsP (n + 1) ++ [psh]) ++ [ldi (n + 1)])[2 * i]? = _
    by_cases e : i = n + 1
    · subst e
      rw [List.getElem?_append_right (by rw [List.length_append, bsP_len]; simp; omega), List.length_append, bsP_len]
      simp [show 2 * (n + 1) - (2 * n + 1 + 1) = 0 by omega]
    · rw [List.getElem?_append_left (by rw [List.length_append, bsP_len]; simp; omega), List.getElem?_append_left (by rw [bsP_len]; omega)]
      exact bsP_ld (by omega)
theorem bsP_ps : ∀ {n i : Nat}, i < n → (bsP (n + 1))[2 * i + 1]? = some psh
  | 0, i, h => by omega
  | n + 1, i, h => by
    show ((bsP (n + 1) ++ [psh]) ++ [ldi (n + 1)])[2 * i + 1]? = _
    by_cases e : i = n
    · subst e
      rw [List.getElem?_append_left (by rw [List.length_append, bsP_len]; simp), List.getElem?_append_right (by rw [bsP_len]; omega), bsP_len]
      simp
    · rw [List.getElem?_append_left (by rw [List.length_append, bsP_len]; simp; omega), List.getElem?_append_left (by rw [bsP_len]; omega)]
      exact bsP_ps (by omega)
theorem bsC_ld {n i : Nat} {or : Bool} (h : i ≤ n) : (bsC (n + 1) or)[2 * i]? = some (ldi i) := by
  unfold bsC bsI
  rw [List.getElem?_append_left (by rw [List.length_append, bsP_len]; omega), List.getElem?_append_left (by rw [bsP_len]; omega), bsP_ld h]
theorem bsC_ps {n i : Nat} {or : Bool} (h : i < n) : (bsC (n + 1) or)[2 * i + 1]? = some psh := by
  unfold bsC bsI
  rw [List.getElem?_append_left (by rw [List.length_append, bsP_len]; omega), List.getElem?_append_left (by rw [bsP_len]; omega), bsP_ps h]
theorem bsC_op {n j : Nat} {or : Bool} (h : j < n) : (bsC (n + 1) or)[2 * n + 1 + j]? = some (bsO or) := by
  unfold bsC bsI
  rw [List.getElem?_append_left (by rw [List.length_append, bsP_len, List.length_replicate]; omega), List.getElem?_append_right (by rw [bsP_len]; omega), bsP_len, List.getElem?_replicate, if_pos (by omega)]
theorem bsC_e {n j : Nat} {or : Bool} : (bsC (n + 1) or)[3 * n + 1 + j]? = bsE[j]? := by
  unfold bsC
  rw [List.getElem?_append_right (by rw [bsI_len]; omega), bsI_len]
  congr 1
  omega
theorem bsP_wf : ∀ n x, x ∈ bsP n → 0 ≤ x.f0 ∧ x.f0 ≤ 255
  | 0, x, h => by cases h
  | 1, x, h => by
    obtain rfl : x = ldi 0 := by simpa [bsP] using h
    simp [ldi]
  | n + 2, x, h => by
    have h : x ∈ (bsP (n + 1) ++ [psh]) ++ [ldi (n + 1)] := h
    simp only [List.mem_append, List.mem_cons, List.not_mem_nil, or_false] at h
    rcases h with (h | rfl) | rfl
    · exact bsP_wf _ _ h
    · simp [psh]
    · simp [ldi]
theorem wfC_of {l : List S66} (h : ∀ x ∈ l, 0 ≤ x.f0 ∧ x.f0 ≤ 255) : WfC l := fun i hi => by
  rw [rd_at (List.getElem?_eq_getElem hi)]
  have := h _ (List.getElem_mem hi)
  exact WalkArith.wf_i64 (by omega)
theorem bsC_wf (n : Nat) (or : Bool) : WfC (bsC n or) := wfC_of fun x hx => by
  unfold bsC bsI bsE at hx
  simp only [List.mem_append, List.mem_cons, List.not_mem_nil, or_false, List.mem_replicate] at hx
  rcases hx with (h | ⟨_, rfl⟩) | rfl | rfl
  · exact bsP_wf _ _ h
  · cases or <;> simp [bsO]
  · simp
  · simp
/-- What the stacked bits come to. -/
def bsF (or : Bool) (l : List Bool) : Bool := if or = true then l.any id else l.all id
theorem bsF_cons (or x : Bool) (l : List Bool) : bsF or (x :: l) = (if or = true then x || bsF or l else x && bsF or l) := by
  cases or <;> simp [bsF]
theorem runV_pc {l : List S66} {li : List Bool} {N pc : Nat} {s s1 : MS} (h : stepV l li s = ((true, 0), s1)) (hp : pc < N) : runV l li (N - pc) s pc = runV l li (N - (pc + 1)) s1 (pc + 1) := by
  rw [show N - pc = N - (pc + 1) + 1 by omega]
  exact runV_go h
def bsS (r : Bool) (n : Nat) : MS := ⟨[], [r], [], ((3 * n + 2 : Nat) : Int), r, [], true, 0⟩
theorem bs_end (or : Bool) (n : Nat) (li : List Bool) (r : Bool) : runV (bsC (n + 1) or) li (3 * n + 5 - (3 * n + 1)) ⟨[], [false], [], ((3 * n + 1 : Nat) : Int), r, [], false, 0⟩ (3 * n + 1) = (bsS r n, 3 * n + 3) := by
  have e1 : (bsC (n + 1) or)[3 * n + 1]? = some ⟨11, ⟨2, 0⟩, 0⟩ := (bsC_e (j := 0)).trans rfl
  have e2 : (bsC (n + 1) or)[3 * n + 2]? = some ⟨16, ⟨0, 0⟩, 0⟩ := (bsC_e (j := 1)).trans rfl
  rw [runV_pc (s1 := ⟨[], [r], [], ((3 * n + 2 : Nat) : Int), r, [], false, 0⟩) (stepV_at e1 (np := ((3 * n + 2 : Nat) : Int)) (s1 := ⟨[], [r], [], ((3 * n + 1 : Nat) : Int), r, [], false, 0⟩) (by simp [core, wrv, cv, cw]; omega)) (by omega)]
  rw [show 3 * n + 5 - (3 * n + 1 + 1) = 2 + 1 by omega]
  rw [show 3 * n + 1 + 1 = 3 * n + 2 by omega]
  rw [runV_end (s1 := bsS r n) (stepV_at e2 (np := ((3 * n + 2 : Nat) : Int)) (s1 := bsS r n) (by simp [core, bsS]))]
theorem bs_ops (or : Bool) (l : List Bool) (n : Nat) (hl : l.length = n + 1) : ∀ i : Nat, ∀ j : Nat, i + j = n → runV (bsC (n + 1) or) l (3 * n + 5 - (2 * n + 1 + j)) ⟨[], [false], [], ((2 * n + 1 + j : Nat) : Int), bsF or (l.drop i), l.take i, false, 0⟩ (2 * n + 1 + j) = (bsS (bsF or l) n, 3 * n + 3)
  | 0, j, h => by
    obtain rfl : j = n := by omega
    have := bs_end or j l (bsF or l)
    rw [show 2 * j + 1 + j = 3 * j + 1 by omega]
    exact this
  | i + 1, j, h => by
    have hi : i < l.length := by omega
    obtain ⟨x, hx⟩ : ∃ x, l[i]? = some x := ⟨_, List.getElem?_eq_getElem hi⟩
    have e1 : l.drop i = x :: l.drop (i + 1) := by
      rw [List.drop_eq_getElem_cons hi]
      rw [List.getElem?_eq_getElem hi] at hx
      injection hx with hx
      rw [hx]
    have e2 : l.take (i + 1) = l.take i ++ [x] := by
      rw [List.take_add_one, hx]; rfl
    rw [runV_pc (s1 := ⟨[], [false], [], ((2 * n + 1 + (j + 1) : Nat) : Int), bsF or (l.drop i), l.take i, false, 0⟩) (stepV_at (bsC_op (by omega)) (np := ((2 * n + 1 + (j + 1) : Nat) : Int)) (s1 := ⟨[], [false], [], ((2 * n + 1 + j : Nat) : Int), bsF or (l.drop i), l.take i, false, 0⟩) (by
      rw [e1, e2, bsF_cons]
      cases or <;> simp [core, bsO] <;> omega)) (by omega)]
    exact bs_ops or l n hl i (j + 1) (by omega)
theorem bs_lds (or : Bool) (l : List Bool) (n : Nat) (hl : l.length = n + 1) (hn : n < 64) : ∀ r i : Nat, i + r = n → runV (bsC (n + 1) or) l (3 * n + 5 - (2 * i + 1)) ⟨[], [false], [], ((2 * i + 1 : Nat) : Int), l.getD i false, l.take i, false, 0⟩ (2 * i + 1) = (bsS (bsF or l) n, 3 * n + 3)
  | 0, i, h => by
    obtain rfl : i = n := by omega
    have := bs_ops or l i hl i 0 (by omega)
    have e : bsF or (l.drop i) = l.getD i false := by
      rw [List.drop_eq_getElem_cons (by omega), List.drop_eq_nil_of_le (by omega), List.getD_eq_getElem?_getD, List.getElem?_eq_getElem (by omega)]
      cases or <;> simp [bsF]
    rw [e] at this
    exact this
  | r + 1, i, h => by
    have hi : i < l.length := by omega
    obtain ⟨x, hx⟩ : ∃ x, l[i]? = some x := ⟨_, List.getElem?_eq_getElem hi⟩
    have e2 : l.take (i + 1) = l.take i ++ [x] := by
      rw [List.take_add_one, hx]; rfl
    have e3 : l.getD i false = x := by rw [List.getD_eq_getElem?_getD, hx]; rfl
    have e4 : ¬ (l.take i).length = 64 := by rw [List.length_take]; omega
    rw [runV_pc (s1 := ⟨[], [false], [], ((2 * i + 2 : Nat) : Int), l.getD i false, l.take (i + 1), false, 0⟩) (stepV_at (bsC_ps (by omega)) (np := ((2 * i + 2 : Nat) : Int)) (s1 := ⟨[], [false], [], ((2 * i + 1 : Nat) : Int), l.getD i false, l.take (i + 1), false, 0⟩) (by
      rw [e2, e3]
      have e4' : ¬ (min i l.length = 64) := by omega
      simp [core, psh, e4']; omega)) (by omega)]
    rw [runV_pc (s1 := ⟨[], [false], [], ((2 * (i + 1) + 1 : Nat) : Int), l.getD (i + 1) false, l.take (i + 1), false, 0⟩) (stepV_at (i := 2 * i + 2) (x := ldi (i + 1)) (by rw [show 2 * i + 2 = 2 * (i + 1) by omega]; exact bsC_ld (by omega)) (np := ((2 * (i + 1) + 1 : Nat) : Int)) (s1 := ⟨[], [false], [], ((2 * i + 2 : Nat) : Int), l.getD (i + 1) false, l.take (i + 1), false, 0⟩) (by
      have e5 : rdv l [] [false] 0 ((i + 1 : Nat) : Int) = (l.getD (i + 1) false, 0) := by
        unfold rdv
        rw [if_pos rfl, if_pos ⟨by omega, by omega⟩]
        unfold rdOf
        rw [Int.toNat_natCast]
      simp only [core, ldi, e5]
      simp [comb]; omega)) (by omega)]
    rw [show 2 * i + 1 + 1 + 1 = 2 * (i + 1) + 1 by omega]
    exact bs_lds or l n hl hn r (i + 1) (by omega)
theorem bs_run (or : Bool) (l : List Bool) (n : Nat) (hl : l.length = n + 1) (hn : n < 64) : runV (bsC (n + 1) or) l ((bsC (n + 1) or).length + 2) (ini [] [false] []) 0 = (bsS (bsF or l) n, 3 * n + 3) := by
  rw [bsC_len]
  show runV _ _ (3 * n + 5 - 0) ⟨[], [false], [], ((0 : Nat) : Int), false, [], false, 0⟩ 0 = _
  rw [runV_pc (s1 := ⟨[], [false], [], ((1 : Nat) : Int), l.getD 0 false, [], false, 0⟩) (stepV_at (i := 0) (x := ldi 0) (bsC_ld (i := 0) (by omega)) (np := ((1 : Nat) : Int)) (s1 := ⟨[], [false], [], ((0 : Nat) : Int), l.getD 0 false, [], false, 0⟩) (by
      have e5 : rdv l [] [false] 0 ((0 : Nat) : Int) = (l.getD 0 false, 0) := by
        unfold rdv
        rw [if_pos rfl, if_pos ⟨by omega, by omega⟩]
        rfl
      simp only [core, ldi, e5]
      simp [comb])) (by omega)]
  exact bs_lds or l n hl hn n 0 (by omega)
end Go.Proofs.Ytjohdkbciafpfaa.Vm6
