/- Distances to the right rail, plainly: walks, a search in rounds, a shortest path. -/
import Derived.Test.YtmacdknicgfglaaPa
namespace Go.Proofs.Ytmacdknicgfglaa.Gp
set_option linter.unusedVariables false
set_option linter.unusedSimpArgs false
/-- Whether k contacts lead from x to the right rail. -/
def wk (l : List Ed) : Nat → ByteArray → Bool
  | 0, x => decide (x = sR)
  | k + 1, x => l.any fun c => decide (c.1 = x) && wk l k c.2
/-- The distance is k. -/
def IsD (l : List Ed) (k : Nat) (y : ByteArray) : Prop := wk l k y = true ∧ ∀ j, j < k → wk l j y = false
section
variable {l : List Ed} {k j d : Nat} {x y : ByteArray}
theorem wk_succ : wk l (k + 1) x = true ↔ ∃ c ∈ l, c.1 = x ∧ wk l k c.2 = true := by
  show (l.any fun c => decide (c.1 = x) && wk l k c.2) = true ↔ _
  rw [List.any_eq_true]
  simp
theorem isD_fun (h : IsD l k y) (h' : IsD l j y) : k = j := by
  rcases Nat.lt_trichotomy k j with q | q | q
  · have := h'.2 k q; rw [h.1] at this; cases this
  · exact q
  · have := h.2 j q; rw [h'.1] at this; cases this
theorem wk_isD : ∀ {k : Nat}, wk l k y = true → ∃ j, j ≤ k ∧ IsD l j y := by
  intro k
  induction k using Nat.strongRecOn with
  | _ k ih =>
    intro h
    by_cases hm : ∃ j, j < k ∧ wk l j y = true
    · obtain ⟨j, hj, hw⟩ := hm
      obtain ⟨i, hi, hd⟩ := ih j hj hw
      exact ⟨i, by omega, hd⟩
    · refine ⟨k, Nat.le_refl _, h, fun j hj => ?_⟩
      cases e : wk l j y with
      | false => rfl
      | true => exact absurd ⟨j, hj, e⟩ hm
theorem isD_zero : IsD l 0 y ↔ y = sR := by
  constructor
  · intro h; exact of_decide_eq_true h.1
  · rintro rfl; exact ⟨decide_eq_true rfl, fun j hj => by omega⟩
theorem isD_step (h : IsD l (k + 1) y) : ∃ c ∈ l, c.1 = y ∧ IsD l k c.2 := by
  obtain ⟨c, hc, e, hw⟩ := wk_succ.1 h.1
  refine ⟨c, hc, e, hw, fun j hj => ?_⟩
  cases q : wk l j c.2 with
  | false => rfl
  | true =>
    have := h.2 (j + 1) (by omega)
    rw [wk_succ.2 ⟨c, hc, e, q⟩] at this
    cases this
theorem isD_ne (h : IsD l (k + 1) y) : y ≠ sR := fun e => by
  have := isD_fun h (isD_zero.2 e)
  omega
theorem isD_node (h : IsD l k y) : y ∈ nodesL l := by
  cases k with
  | zero => rw [isD_zero.1 h]; exact nodesL_mem.2 (.inr (.inl rfl))
  | succ k =>
    obtain ⟨c, hc, e, _⟩ := isD_step h
    exact nodesL_mem.2 (.inr (.inr ⟨c, hc, .inl e.symm⟩))
theorem isD_chain : ∀ (k : Nat) (y : ByteArray), IsD l k y → ∃ L : List ByteArray, L.length = k + 1 ∧ L.Nodup ∧ ∀ x ∈ L, ∃ j, j ≤ k ∧ IsD l j x
  | 0, y, h => ⟨[y], rfl, by simp, fun x hx => ⟨0, Nat.le_refl _, by rw [List.mem_singleton.1 hx]; exact h⟩⟩
  | k + 1, y, h => by
    obtain ⟨c, hc, e, hd⟩ := isD_step h
    obtain ⟨L, h1, h2, h3⟩ := isD_chain k c.2 hd
    refine ⟨y :: L, by rw [List.length_cons, h1], List.nodup_cons.2 ⟨fun hm => ?_, h2⟩, fun x hx => ?_⟩
    · obtain ⟨j, hj, hdj⟩ := h3 y hm
      have := isD_fun h hdj
      omega
    · rcases List.mem_cons.1 hx with rfl | hx
      · exact ⟨k + 1, Nat.le_refl _, h⟩
      · obtain ⟨j, hj, hdj⟩ := h3 x hx
        exact ⟨j, by omega, hdj⟩
theorem isD_lt (h : IsD l k y) : k < (nodesL l).length := by
  obtain ⟨L, h1, h2, h3⟩ := isD_chain k y h
  have := nodup_len h2 (fun x hx => by obtain ⟨j, _, hd⟩ := h3 x hx; exact isD_node hd)
  omega
theorem isD_down : ∀ (k : Nat) (y : ByteArray), IsD l k y → ∀ j, j ≤ k → ∃ x, IsD l j x
  | 0, y, h, j, hj => ⟨y, by rw [show j = 0 by omega]; exact h⟩
  | k + 1, y, h, j, hj => by
    by_cases e : j = k + 1
    · exact ⟨y, by rw [e]; exact h⟩
    · obtain ⟨c, _, _, hd⟩ := isD_step h
      exact isD_down k c.2 hd j (by omega)
theorem wk_rch : ∀ {k : Nat} {y : ByteArray}, wk l k y = true → Rch (sucL l) y sR
  | 0, y, h => by rw [show y = sR from of_decide_eq_true h]; exact .refl
  | k + 1, y, h => by
    obtain ⟨c, hc, e, hw⟩ := wk_succ.1 h
    exact .head (suc_mem.2 ⟨c, hc, e, rfl⟩) (wk_rch hw)
theorem rch_wk (h : Rch (sucL l) y sR) : ∃ k, wk l k y = true := by
  have key : ∀ z, Rch (sucL l) y z → (∃ k, wk l k z = true) → ∃ k, wk l k y = true := by
    intro z hz
    induction hz with
    | refl => exact id
    | step _ hx ih =>
      rintro ⟨k, hk⟩
      obtain ⟨c, hc, e1, e2⟩ := suc_mem.1 hx
      exact ih ⟨k + 1, wk_succ.2 ⟨c, hc, e1, by rw [e2]; exact hk⟩⟩
  exact key sR h ⟨0, decide_eq_true rfl⟩
/-! ### The distance -/
def distL (l : List Ed) (y : ByteArray) : Option Nat := (List.range (nodesL l).length).find? fun k => wk l k y
theorem dist_some : distL l y = some k ↔ IsD l k y := by
  unfold distL
  constructor
  · intro h
    have h1 := List.find?_some (p := fun k => wk l k y) h
    refine ⟨h1, fun j hj => ?_⟩
    have h2 := h
    rw [List.find?_range_eq_some] at h2
    have := h2.2.2 j hj
    simpa using this
  · intro h
    rw [List.find?_range_eq_some]
    exact ⟨h.1, List.mem_range.2 (isD_lt h), fun j hj => by rw [h.2 j hj]; rfl⟩
theorem dist_none : distL l y = none ↔ ∀ k, ¬ IsD l k y := by
  constructor
  · intro h k hd
    rw [dist_some.2 hd] at h
    cases h
  · intro h
    cases e : distL l y with
    | none => rfl
    | some k => exact absurd (dist_some.1 e) (h k)
theorem dist_R : distL l sR = some 0 := dist_some.2 (isD_zero.2 rfl)
theorem dist_rch : (distL l y).isSome = true ↔ Rch (sucL l) y sR := by
  constructor
  · intro h
    cases e : distL l y with
    | none => rw [e] at h; cases h
    | some k => exact wk_rch (dist_some.1 e).1
  · intro h
    obtain ⟨k, hk⟩ := rch_wk h
    obtain ⟨j, _, hd⟩ := wk_isD hk
    rw [dist_some.2 hd]; rfl
/-! ### The search in rounds -/
/-- One name is met. -/
def stepB (d : Nat) (s : (ByteArray → Option Int) × List ByteArray) (f : ByteArray) : (ByteArray → Option Int) × List ByteArray := if (s.1 f).isSome = true then s else (fun y => if y = f then some (d : Int) else s.1 y, s.2 ++ [f])
theorem foldB (d : Nat) : ∀ (F : List ByteArray) (s : (ByteArray → Option Int) × List ByteArray), s.2.Nodup → (∀ y ∈ s.2, (s.1 y).isSome = true) →
    (∀ y, (F.foldl (stepB d) s).1 y = if (s.1 y).isSome = true then s.1 y else if y ∈ F then some (d : Int) else none) ∧ (∀ y, y ∈ (F.foldl (stepB d) s).2 ↔ y ∈ s.2 ∨ (y ∈ F ∧ (s.1 y).isSome = false)) ∧ (F.foldl (stepB d) s).2.Nodup
  | [], s, h1, h2 => ⟨fun y => by simp only [List.foldl_nil, List.not_mem_nil, if_false]; split <;> simp_all, fun y => by simp, h1⟩
  | f :: F, s, h1, h2 => by
    rw [List.foldl_cons]
    by_cases hf : (s.1 f).isSome = true
    · have e : stepB d s f = s := if_pos hf
      rw [e]
      obtain ⟨a, b, c⟩ := foldB d F s h1 h2
      refine ⟨fun y => ?_, fun y => ?_, c⟩
      · rw [a y]
        by_cases hy : (s.1 y).isSome = true
        · rw [if_pos hy, if_pos hy]
        · rw [if_neg hy, if_neg hy]
          have : y ≠ f := fun q => hy (q ▸ hf)
          simp [this]
      · rw [b y]
        constructor
        · rintro (h | ⟨h, h'⟩)
          · exact .inl h
          · exact .inr ⟨List.mem_cons_of_mem _ h, h'⟩
        · rintro (h | ⟨h, h'⟩)
          · exact .inl h
          · rcases List.mem_cons.1 h with rfl | h
            · rw [hf] at h'; cases h'
            · exact .inr ⟨h, h'⟩
    · have e : stepB d s f = (fun y => if y = f then some (d : Int) else s.1 y, s.2 ++ [f]) := if_neg hf
      have hf' : (s.1 f).isSome = false := by simpa using hf
      rw [e]
      have hn : f ∉ s.2 := fun h => hf (h2 f h)
      obtain ⟨a, b, c⟩ := foldB d F (fun y => if y = f then some (d : Int) else s.1 y, s.2 ++ [f]) (by
        rw [List.nodup_append]
        refine ⟨h1, by simp, ?_⟩
        intro p hp q hq
        obtain rfl := List.mem_singleton.1 hq
        rintro rfl
        exact hn hp) (fun y hy => by
        by_cases q : y = f
        · simp only [if_pos q]; rfl
        · simp only [if_neg q]
          rcases List.mem_append.1 hy with hy | hy
          · exact h2 y hy
          · exact absurd (List.mem_singleton.1 hy) q)
      refine ⟨fun y => ?_, fun y => ?_, c⟩
      · rw [a y]
        by_cases q : y = f
        · simp only [if_pos q, Option.isSome_some, if_true]
          rw [q, if_neg hf, if_pos List.mem_cons_self]
        · simp only [if_neg q]
          by_cases hy : (s.1 y).isSome = true
          · rw [if_pos hy, if_pos hy]
          · rw [if_neg hy, if_neg hy]
            simp [q]
      · rw [b y]
        by_cases q : y = f
        · subst q
          simp [hf']
        · simp [q]
/-- The search when all distances up to d are known. -/
structure Bf (l : List Ed) (d : Nat) (far : ByteArray → Option Int) (rnd : List ByteArray) : Prop where
  a : ∀ y k, k ≤ d → IsD l k y → far y = some (k : Int)
  b : ∀ y, (∀ k, k ≤ d → ¬ IsD l k y) → far y = none
  r : ∀ y, y ∈ rnd ↔ IsD l d y
  n : rnd.Nodup
theorem bf_zero : Bf l 0 (fun y => if y = sR then some 0 else none) [sR] := by
  refine ⟨fun y k hk h => ?_, fun y h => ?_, fun y => ?_, by simp⟩
  · obtain rfl : k = 0 := by omega
    rw [if_pos (isD_zero.1 h)]; rfl
  · exact if_neg (fun e => h 0 (Nat.le_refl _) (isD_zero.2 e))
  · rw [List.mem_singleton]; exact isD_zero.symm
theorem Bf.dec {far : ByteArray → Option Int} {rnd : List ByteArray} (h : Bf l d far rnd) (y : ByteArray) : (∃ k, k ≤ d ∧ IsD l k y ∧ far y = some (k : Int)) ∨ ((∀ k, k ≤ d → ¬ IsD l k y) ∧ far y = none) := by
  by_cases hm : ∃ k, k ≤ d ∧ IsD l k y
  · obtain ⟨k, hk, hd⟩ := hm
    exact .inl ⟨k, hk, hd, h.a y k hk hd⟩
  · have : ∀ k, k ≤ d → ¬ IsD l k y := fun k hk hd => hm ⟨k, hk, hd⟩
    exact .inr ⟨this, h.b y this⟩
theorem bf_next {far : ByteArray → Option Int} {rnd : List ByteArray} (h : Bf l d far rnd) : Bf l (d + 1) ((rnd.flatMap (preL l)).foldl (stepB (d + 1)) (far, [])).1 ((rnd.flatMap (preL l)).foldl (stepB (d + 1)) (far, [])).2 := by
  obtain ⟨e1, e2, e3⟩ := foldB (d + 1) (rnd.flatMap (preL l)) (far, []) List.nodup_nil (fun y hy => by cases hy)
  have key : ∀ y, far y = none → (y ∈ rnd.flatMap (preL l) ↔ IsD l (d + 1) y) := by
    intro y hy
    rw [List.mem_flatMap]
    constructor
    · rintro ⟨n, hn, hp⟩
      obtain ⟨c, hc, q1, q2⟩ := pre_mem.1 hp
      have hd := (h.r n).1 hn
      rw [← q1] at hd
      have hw : wk l (d + 1) y = true := wk_succ.2 ⟨c, hc, q2, hd.1⟩
      obtain ⟨j, hj, hdj⟩ := wk_isD hw
      rcases h.dec y with ⟨k, hk, hdk, e⟩ | ⟨hno, _⟩
      · rw [hy] at e; cases e
      · by_cases q : j = d + 1
        · rw [← q]; exact hdj
        · exact absurd hdj (hno j (by omega))
    · intro hd
      obtain ⟨c, hc, q1, hd2⟩ := isD_step hd
      exact ⟨c.2, (h.r c.2).2 hd2, pre_mem.2 ⟨c, hc, rfl, q1⟩⟩
  refine ⟨fun y k hk hd => ?_, fun y hno => ?_, fun y => ?_, e3⟩
  · rw [e1 y]
    rcases h.dec y with ⟨j, hj, hdj, e⟩ | ⟨hno, e⟩
    · have := isD_fun hd hdj
      subst this
      show (if (far y).isSome = true then far y else _) = _
      rw [e]; rfl
    · obtain rfl : k = d + 1 := by
        refine Classical.byContradiction fun q => hno k (by omega) hd
      show (if (far y).isSome = true then far y else _) = _
      rw [e]
      simp only [Option.isSome_none, Bool.false_eq_true, if_false]
      rw [if_pos ((key y e).2 hd)]
  · rw [e1 y]
    have e := h.b y (fun k hk => hno k (by omega))
    show (if (far y).isSome = true then far y else _) = _
    rw [e]
    simp only [Option.isSome_none, Bool.false_eq_true, if_false]
    rw [if_neg (fun q => hno (d + 1) (Nat.le_refl _) ((key y e).1 q))]
  · rw [e2 y]
    simp only [List.not_mem_nil, false_or]
    constructor
    · rintro ⟨h1, h2⟩
      refine (key y ?_).1 h1
      cases q : far y with
      | none => rfl
      | some v => rw [q] at h2; cases h2
    · intro hd
      rcases h.dec y with ⟨k, hk, hdk, e⟩ | ⟨hno, e⟩
      · have := isD_fun hd hdk; omega
      · exact ⟨(key y e).2 hd, by rw [e]; rfl⟩
/-- The map of all distances. -/
def farD (l : List Ed) (y : ByteArray) : Option Int := (distL l y).map fun k : Nat => (k : Int)
theorem farD_some {l : List Ed} {y : ByteArray} {k : Nat} (h : distL l y = some k) : farD l y = some (k : Int) := by unfold farD; rw [h]; rfl
theorem farD_none {l : List Ed} {y : ByteArray} (h : distL l y = none) : farD l y = none := by unfold farD; rw [h]; rfl
/-- When nothing new is met, all is known. -/
theorem bf_end {far : ByteArray → Option Int} (h : Bf l (d + 1) far []) : ∀ y, far y = farD l y := by
  intro y
  have hno : ∀ k y, d + 1 ≤ k → ¬ IsD l k y := by
    intro k y hk hd
    obtain ⟨x, hx⟩ := isD_down k y hd (d + 1) hk
    have := (h.r x).2 hx
    cases this
  cases e : distL l y with
  | none => rw [farD_none e]; exact h.b y (fun k _ => dist_none.1 e k)
  | some k =>
    have hd := dist_some.1 e
    rw [farD_some e]
    exact h.a y k (by refine Classical.byContradiction fun q => hno k y (by omega) hd) hd
theorem bf_len {far : ByteArray → Option Int} {rnd : List ByteArray} (h : Bf l d far rnd) : rnd.length ≤ (nodesL l).length := nodup_len h.n (fun x hx => isD_node ((h.r x).1 hx))
theorem bf_lt {far : ByteArray → Option Int} {rnd : List ByteArray} (h : Bf l d far rnd) (hr : rnd ≠ []) : d < (nodesL l).length := by
  cases rnd with
  | nil => exact absurd rfl hr
  | cons y r => exact isD_lt ((h.r y).1 List.mem_cons_self)
theorem stepB_len (d : Nat) (s : (ByteArray → Option Int) × List ByteArray) (f : ByteArray) : (stepB d s f).2.length ≤ s.2.length + 1 := by
  unfold stepB
  split
  · omega
  · simp
theorem foldB_len (d : Nat) : ∀ (F : List ByteArray) (s : (ByteArray → Option Int) × List ByteArray), (F.foldl (stepB d) s).2.length ≤ s.2.length + F.length
  | [], s => by simp
  | f :: F, s => by
    have h1 := stepB_len d s f
    have h2 := foldB_len d F (stepB d s f)
    rw [List.foldl_cons, List.length_cons]
    omega
theorem foldB_nodes {far : ByteArray → Option Int} {F : List ByteArray} (hF : ∀ y ∈ F, y ∈ nodesL l) (d : Nat) : ((F.foldl (stepB d) (far, [])).2).length ≤ (nodesL l).length := by
  obtain ⟨_, e2, e3⟩ := foldB d F (far, []) List.nodup_nil (fun y hy => by cases hy)
  refine nodup_len e3 (fun y hy => ?_)
  rcases (e2 y).1 hy with h | ⟨h, _⟩
  · cases h
  · exact hF y h
theorem flat_nodes {rnd : List ByteArray} : ∀ y ∈ rnd.flatMap (preL l), y ∈ nodesL l := by
  intro y hy
  rw [List.mem_flatMap] at hy
  obtain ⟨n, _, hp⟩ := hy
  obtain ⟨c, hc, _, q2⟩ := pre_mem.1 hp
  rw [← q2]
  exact nodes_1 hc
/-! ### The path -/
def pathG (l : List Ed) : Nat → ByteArray → List Int
  | 0, _ => []
  | k + 1, at_ => match (outL l at_).find? fun i => decide (distL l (toE l i) = some k) with
    | some i => i :: pathG l k (toE l i)
    | none => []
theorem path_next (h : IsD l (k + 1) y) : ∃ i, (outL l y).find? (fun i => decide (distL l (toE l i) = some k)) = some i ∧ i ∈ outL l y ∧ IsD l k (toE l i) := by
  cases e : (outL l y).find? fun i => decide (distL l (toE l i) = some k) with
  | some i =>
    have e1 := List.find?_some (p := fun i => decide (distL l (toE l i) = some k)) e
    exact ⟨i, rfl, List.mem_of_find?_eq_some e, dist_some.1 (of_decide_eq_true e1)⟩
  | none =>
    exfalso
    obtain ⟨c, hc, q, hd⟩ := isD_step h
    rw [List.find?_eq_none] at e
    obtain ⟨j, hj, rfl⟩ := List.getElem_of_mem hc
    have := e (j : Int) (outL_mem.2 ⟨j, rfl, hj, q⟩)
    refine this (decide_eq_true ?_)
    rw [show toE l (j : Int) = l[j].2 by unfold toE; rw [Int.toNat_natCast, List.getD_eq_getElem?_getD, List.getElem?_eq_getElem hj]; rfl]
    exact dist_some.2 hd
theorem path_len : ∀ (k : Nat) (y : ByteArray), IsD l k y → (pathG l k y).length = k
  | 0, y, h => rfl
  | k + 1, y, h => by
    obtain ⟨i, e, _, hd⟩ := path_next h
    unfold pathG
    rw [e]
    show (i :: pathG l k (toE l i)).length = k + 1
    rw [List.length_cons, path_len k _ hd]
theorem pathG_zero (l : List Ed) (y : ByteArray) : pathG l 0 y = [] := rfl
theorem path_pick (h : IsD l (k + 1) y) : ∃ (m j : Nat) (hm : m < l.length) (hj : j < (outL l y).length), (outL l y)[j] = (m : Int) ∧ (outL l y).findIdx? (fun i => decide (distL l (toE l i) = some k)) = some j ∧ IsD l k l[m].2 ∧ pathG l (k + 1) y = (m : Int) :: pathG l k l[m].2 ∧ l[m].1 = y := by
  obtain ⟨i, hfi, hio, hdi⟩ := path_next h
  obtain ⟨m, rfl, hml, hmf⟩ := outL_mem.1 hio
  have TO : toE l (m : Int) = l[m].2 := by unfold toE; rw [Int.toNat_natCast, List.getD_eq_getElem?_getD, List.getElem?_eq_getElem hml]; rfl
  have hp : pathG l (k + 1) y = (m : Int) :: pathG l k l[m].2 := by
    show (match (outL l y).find? fun i => decide (distL l (toE l i) = some k) with | some i => i :: pathG l k (toE l i) | none => []) = _
    rw [hfi]
    show _ :: pathG l k (toE l (m : Int)) = _
    rw [TO]
  obtain ⟨hpm, j, hj, e, hlt⟩ := List.find?_eq_some_iff_getElem.1 hfi
  refine ⟨m, j, hml, hj, e, ?_, TO ▸ hdi, hp, hmf⟩
  rw [List.findIdx?_eq_some_iff_getElem]
  refine ⟨hj, by rw [e]; exact hpm, fun i hi => ?_⟩
  have := hlt i hi
  simpa using this
/-- ShortestPath's path. -/
def shortL (l : List Ed) : Option (List Int) := (distL l sL).map fun k => pathG l k sL
def errP (o : Option (List Int)) : Int := if o.isNone then 13 else 0
end
end Go.Proofs.Ytmacdknicgfglaa.Gp
/- A shortest path, plainly: it is a path; when there is none. -/
namespace Go.Proofs.Ytmacdknicgfglaa.Gp
set_option linter.unusedVariables false
set_option linter.unusedSimpArgs false
/-- Contacts, one behind the other, from x to y. -/
def PathE (l : List Ed) : ByteArray → List Int → ByteArray → Prop
  | x, [], y => x = y
  | x, i :: p, y => ∃ m : Nat, i = (m : Int) ∧ ∃ h : m < l.length, l[m].1 = x ∧ PathE l l[m].2 p y
section
variable {l : List Ed} {k : Nat} {x y : ByteArray} {p : List Int}
theorem pathG_path : ∀ (k : Nat) (y : ByteArray), IsD l k y → PathE l y (pathG l k y) sR
  | 0, y, h => isD_zero.1 h
  | k + 1, y, h => by
    obtain ⟨m, j, hm, hj, _, _, hd, hp, h1⟩ := path_pick h
    rw [hp]
    exact ⟨m, rfl, hm, h1, pathG_path k _ hd⟩
theorem short_path (h : shortL l = some p) : PathE l sL p sR := by
  unfold shortL at h
  cases e : distL l sL with
  | none => rw [e] at h; cases h
  | some k =>
    rw [e] at h
    obtain rfl : pathG l k sL = p := by simpa using h
    exact pathG_path k _ (dist_some.1 e)
theorem short_dist (h : shortL l = some p) : distL l sL = some p.length := by
  unfold shortL at h
  cases e : distL l sL with
  | none => rw [e] at h; cases h
  | some k =>
    rw [e] at h
    obtain rfl : pathG l k sL = p := by simpa using h
    rw [path_len k _ (dist_some.1 e)]
theorem short_none_R (h : shortL l = none) : sR ∉ reachL l sL := by
  intro hr
  have h1 := (reach_mem.1 hr).2
  have h2 := dist_rch.2 h1
  unfold shortL at h
  cases e : distL l sL with
  | none => rw [e] at h2; cases h2
  | some k => rw [e] at h; cases h
theorem short_some_R (h : shortL l = some p) : sR ∈ reachL l sL := by
  have h1 : (distL l sL).isSome = true := by rw [short_dist h]; rfl
  exact reach_mem.2 ⟨nodesL_mem.2 (.inl rfl), dist_rch.1 h1⟩
theorem path_pos (h : PathE l sL p sR) : 0 < p.length := by
  cases p with
  | nil => exact absurd h sL_ne
  | cons i p => simp
/-- A walk of k contacts meets k contacts with different distances. -/
theorem isD_edges : ∀ (k : Nat) (y : ByteArray), IsD l k y → ∃ L : List Ed, L.length = k ∧ L.Nodup ∧ ∀ c ∈ L, c ∈ l ∧ ∃ j, j < k ∧ IsD l (j + 1) c.1
  | 0, y, h => ⟨[], rfl, List.nodup_nil, fun c hc => by cases hc⟩
  | k + 1, y, h => by
    obtain ⟨c, hc, e, hd⟩ := isD_step h
    obtain ⟨L, h1, h2, h3⟩ := isD_edges k c.2 hd
    refine ⟨c :: L, by rw [List.length_cons, h1], List.nodup_cons.2 ⟨fun hm => ?_, h2⟩, fun d hd' => ?_⟩
    · obtain ⟨_, j, hj, hdj⟩ := h3 c hm
      rw [e] at hdj
      have := isD_fun h hdj
      omega
    · rcases List.mem_cons.1 hd' with rfl | hd'
      · exact ⟨hc, k, by omega, by rw [e]; exact h⟩
      · obtain ⟨h4, j, hj, hdj⟩ := h3 d hd'
        exact ⟨h4, j, by omega, hdj⟩
theorem short_len (h : shortL l = some p) : p.length ≤ l.length := by
  obtain ⟨L, h1, h2, h3⟩ := isD_edges p.length sL (dist_some.1 (short_dist h))
  have := nodup_len h2 (fun c hc => (h3 c hc).1)
  omega
end
end Go.Proofs.Ytmacdknicgfglaa.Gp
