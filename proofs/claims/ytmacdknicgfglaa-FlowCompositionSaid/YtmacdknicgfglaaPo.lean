/- TopoSort, plainly: an order when there is no cycle, none when there is. -/
import Derived.Test.YtmacdknicgfglaaPq
namespace Go.Proofs.Ytmacdknicgfglaa.Gp
set_option linter.unusedVariables false
set_option linter.unusedSimpArgs false
theorem topoR_len' {l : List Ed} {all : List ByteArray} : ∀ (k : Nat) (out r : List ByteArray), topoR l all k out = some r → r.length = out.length + k
  | 0, out, r, h => by
    obtain rfl : out = r := by simpa [topoR] using h
    rfl
  | k + 1, out, r, h => by
    unfold topoR at h
    split at h
    · cases h
    · rename_i s hs
      have := topoR_len' k _ r h
      simp only [List.length_append, List.length_singleton] at this
      omega
structure Ord (l : List Ed) (all out : List ByteArray) : Prop where
  nd : out.Nodup
  sub : ∀ x ∈ out, x ∈ all
  ord : ∀ (i : Nat) (hi : i < out.length), ∀ c ∈ l, c.2 = out[i] → c.1 ∈ out.take i
theorem Ord.snoc {l : List Ed} {all out : List ByteArray} {s : ByteArray} (h : Ord l all out) (hs : s ∈ all) (hp : nextP l out s = true) : Ord l all (out ++ [s]) := by
  unfold nextP at hp
  rw [Bool.and_eq_true, decide_eq_true_eq, ready_all, List.all_eq_true] at hp
  obtain ⟨hn, hr⟩ := hp
  refine ⟨?_, fun x hx => ?_, fun i hi c hc e => ?_⟩
  · rw [List.nodup_append]
    refine ⟨h.nd, by simp, ?_⟩
    intro a ha b hb
    obtain rfl := List.mem_singleton.1 hb
    rintro rfl
    exact hn ha
  · rcases List.mem_append.1 hx with hx | hx
    · exact h.sub x hx
    · rw [List.mem_singleton.1 hx]; exact hs
  · rw [List.length_append, List.length_singleton] at hi
    by_cases h1 : i < out.length
    · rw [List.getElem_append_left h1] at e
      rw [List.take_append_of_le_length (by omega)]
      exact h.ord i h1 c hc e
    · obtain rfl : i = out.length := by omega
      rw [List.getElem_append_right (by omega)] at e
      simp only [Nat.sub_self, List.getElem_cons_zero] at e
      have h2 := hr c hc
      rw [e] at h2
      simp only [decide_true, Bool.not_true, Bool.false_or, decide_eq_true_eq] at h2
      rw [List.take_left' rfl]
      exact h2
theorem topoR_ord {l : List Ed} {all : List ByteArray} : ∀ (k : Nat) (out r : List ByteArray), Ord l all out → topoR l all k out = some r → Ord l all r
  | 0, out, r, h, e => by
    obtain rfl : out = r := by simpa [topoR] using e
    exact h
  | k + 1, out, r, h, e => by
    unfold topoR at e
    split at e
    · cases e
    · rename_i s hs
      exact topoR_ord k _ r (h.snoc (List.mem_of_find?_eq_some hs) (List.find?_some hs)) e
theorem topo_ord {l : List Ed} {r : List ByteArray} (h : topo l = some r) : Ord l (nodesL l) r ∧ r.length = (nodesL l).length := by
  rw [topo_R] at h
  refine ⟨topoR_ord _ [] r ⟨List.nodup_nil, fun x hx => (by cases hx), fun i hi => (by simp at hi)⟩ h, ?_⟩
  have h2 := topoR_len' _ _ _ h
  simpa using h2
/-- A list of all, each once, holds all. -/
theorem full {α : Type} [DecidableEq α] {all r : List α} (hd : r.Nodup) (hs : ∀ x ∈ r, x ∈ all) (hl : r.length = all.length) : ∀ x ∈ all, x ∈ r := by
  intro x hx
  refine Decidable.byContradiction fun hn => ?_
  have h1 : (x :: r).Nodup := List.nodup_cons.2 ⟨hn, hd⟩
  have h2 := nodup_len h1 (fun y hy => by
    rcases List.mem_cons.1 hy with rfl | hy
    · exact hx
    · exact hs y hy)
  simp only [List.length_cons] at h2
  omega
/-- Where a name stands in a list. -/
def posL (r : List ByteArray) (x : ByteArray) : Nat := (r.findIdx? fun y => decide (y = x)).getD r.length
theorem posL_at {r : List ByteArray} (hd : r.Nodup) {i : Nat} (hi : i < r.length) : posL r r[i] = i := by
  unfold posL
  have : r.findIdx? (fun y => decide (y = r[i])) = some i := by
    rw [List.findIdx?_eq_some_iff_getElem]
    refine ⟨hi, by simp, fun j hj => ?_⟩
    simp only [decide_eq_true_eq]
    intro e
    have h1 := (List.pairwise_iff_getElem.1 hd) j i (by omega) hi hj
    exact h1 e
  rw [this]
  rfl
theorem ord_lt {l : List Ed} {r : List ByteArray} (h : topo l = some r) {c : Ed} (hc : c ∈ l) : posL r c.1 < posL r c.2 := by
  obtain ⟨ho, hl⟩ := topo_ord h
  have h2 := full ho.nd ho.sub hl c.2 (nodes_2 hc)
  obtain ⟨i, hi, e⟩ := List.getElem_of_mem h2
  have h1 := ho.ord i hi c hc e.symm
  obtain ⟨j, hj, e2⟩ := List.getElem_of_mem h1
  rw [List.length_take] at hj
  rw [List.getElem_take] at e2
  rw [← e2, ← e, posL_at ho.nd hi, posL_at ho.nd (by omega)]
  omega
theorem ord_rch {l : List Ed} {r : List ByteArray} (h : topo l = some r) {a b : ByteArray} (hr : Rch (sucL l) a b) : posL r a ≤ posL r b := by
  induction hr with
  | refl => exact Nat.le_refl _
  | step _ hx ih =>
    obtain ⟨c, hc, rfl, rfl⟩ := suc_mem.1 hx
    have := ord_lt h hc
    omega
/-- Whether a contact's source is reachable from its target. -/
def comesL (l m : List Ed) : Bool := m.any fun c => decide (c.1 ∈ reachL l c.2)
theorem comes_none {l : List Ed} {r : List ByteArray} (h : topo l = some r) : comesL l l = false := by
  unfold comesL
  rw [List.any_eq_false]
  intro c hc
  simp only [decide_eq_true_eq]
  intro hr
  have h1 := ord_rch h (reach_mem.1 hr).2
  have h2 := ord_lt h hc
  omega
def itr (p : ByteArray → ByteArray) : Nat → ByteArray → ByteArray
  | 0, s => s
  | n + 1, s => p (itr p n s)
theorem itr_in {q : ByteArray → List ByteArray} {p : ByteArray → ByteArray} {X : List ByteArray} (hX : ∀ x ∈ X, p x ∈ X ∧ x ∈ q (p x)) {s : ByteArray} (hs : s ∈ X) : ∀ n, itr p n s ∈ X
  | 0 => hs
  | n + 1 => (hX _ (itr_in hX hs n)).1
/-- Going back d steps, one comes forth again. -/
theorem itr_rch {q : ByteArray → List ByteArray} {p : ByteArray → ByteArray} {X : List ByteArray} (hX : ∀ x ∈ X, p x ∈ X ∧ x ∈ q (p x)) {s : ByteArray} (hs : s ∈ X) (n : Nat) : ∀ d, Rch q (itr p (n + d) s) (itr p n s)
  | 0 => .refl
  | d + 1 => .head (hX _ (itr_in hX hs (n + d))).2 (itr_rch hX hs n d)
/-- Where each has one ahead of it, there is a circle. -/
theorem circle {q : ByteArray → List ByteArray} {p : ByteArray → ByteArray} {X : List ByteArray} (hX : ∀ x ∈ X, p x ∈ X ∧ x ∈ q (p x)) {s : ByteArray} (hs : s ∈ X) : ∃ x ∈ X, Rch q x (p x) := by
  refine Classical.byContradiction fun hno => ?_
  have hne : ∀ i j : Nat, i < j → itr p i s ≠ itr p j s := by
    intro i j hij e
    refine hno ⟨itr p i s, itr_in hX hs i, ?_⟩
    have h1 := itr_rch hX hs (i + 1) (j - (i + 1))
    rw [show i + 1 + (j - (i + 1)) = j by omega] at h1
    rw [← e] at h1
    exact h1
  have hnd : ((List.range (X.length + 1)).map fun i => itr p i s).Nodup := by
    unfold List.Nodup
    rw [List.pairwise_map]
    exact List.pairwise_lt_range.imp (fun h => hne _ _ h)
  have h2 := nodup_len hnd (fun x hx => by
    obtain ⟨i, _, rfl⟩ := List.mem_map.1 hx
    exact itr_in hX hs i)
  rw [List.length_map, List.length_range] at h2
  omega
theorem topoR_none {l : List Ed} {all : List ByteArray} (hd : all.Nodup) (hn : ∀ c ∈ l, c.1 ∈ all) : ∀ (k : Nat) (out : List ByteArray), Ord l all out → out.length + k = all.length → topoR l all k out = none → ∃ c ∈ l, Rch (sucL l) c.2 c.1
  | 0, out, _, _, e => by simp [topoR] at e
  | k + 1, out, h, hl, e => by
    unfold topoR at e
    split at e
    · rename_i hf
      rw [List.find?_eq_none] at hf
      -- some name is left
      have hex : ∃ x ∈ all, x ∉ out := by
        refine Classical.byContradiction fun hno => ?_
        have hall : ∀ x ∈ all, x ∈ out := fun x hx => Classical.byContradiction fun hn => hno ⟨x, hx, hn⟩
        have := nodup_len hd hall
        omega
      obtain ⟨s, hs, hsn⟩ := hex
      have hpre : ∀ x ∈ all.filter (fun x => decide (x ∉ out)), ∃ y ∈ all.filter (fun x => decide (x ∉ out)), ∃ c ∈ l, c.1 = y ∧ c.2 = x := by
        intro x hx
        rw [List.mem_filter, decide_eq_true_eq] at hx
        have h1 := hf x hx.1
        unfold nextP at h1
        rw [decide_eq_true hx.2, Bool.true_and, ready_all, List.all_eq_true] at h1
        refine Classical.byContradiction fun hno => h1 fun c hc => ?_
        by_cases h2 : c.2 = x
        · by_cases h3 : c.1 ∈ out
          · simp [h3]
          · exact absurd ⟨c.1, List.mem_filter.2 ⟨hn c hc, decide_eq_true h3⟩, c, hc, rfl, h2⟩ hno
        · simp [h2]
      obtain ⟨x, hx, hr⟩ := circle (q := sucL l) (p := fun x => if h : x ∈ all.filter (fun x => decide (x ∉ out)) then (hpre x h).choose else x) (X := all.filter fun x => decide (x ∉ out)) (fun x hx => by
        rw [dif_pos hx]
        obtain ⟨h1, c, hc, h2, h3⟩ := (hpre x hx).choose_spec
        exact ⟨h1, suc_mem.2 ⟨c, hc, h2, h3⟩⟩) (s := s) (List.mem_filter.2 ⟨hs, decide_eq_true hsn⟩)
      rw [dif_pos hx] at hr
      obtain ⟨h1, c, hc, h2, h3⟩ := (hpre x hx).choose_spec
      exact ⟨c, hc, by rw [h3, h2]; exact hr⟩
    · rename_i s hs
      exact topoR_none hd hn k _ (h.snoc (List.mem_of_find?_eq_some hs) (List.find?_some hs)) (by simp; omega) e
theorem comes_some {l : List Ed} (h : topo l = none) : comesL l l = true := by
  rw [topo_R] at h
  obtain ⟨c, hc, hr⟩ := topoR_none (nodesL_nodup l) (fun c hc => nodes_1 hc) _ [] ⟨List.nodup_nil, fun x hx => (by cases hx), fun i hi => (by simp at hi)⟩ (by simp) h
  unfold comesL
  rw [List.any_eq_true]
  exact ⟨c, hc, decide_eq_true (reach_mem.2 ⟨nodes_2 hc, hr⟩)⟩
end Go.Proofs.Ytmacdknicgfglaa.Gp
