/- Arguments opened with their sizes: each string that is met is no longer than the statement's reach. -/
import Derived.Test.YtmacdknicgfglaaOpen
namespace Go.Proofs.Ytmacdknicgfglaa.Open
open Go.RowKit Go.Proofs.YtmacdknicgfglaaW.PrintWords Go.ChangeShapes Go.WideShapes Go.Deep
set_option linter.unusedVariables false
def OpensZ {α : Type} (P : Program) (w : World) (t : TypeId) (d : Kd α) (Q : α → Prop) : Prop :=
  ∀ (H : Type) (enc : TypeId × Value → H) (base : Nat) (spare : Nat → Bool) (held : Bool) (fuel : Nat) (cs : List Value) (x : DataW H × List MemPlace),
    DataW.trod enc P w base spare held fuel t cs = some x → (∀ n ∈ x.1.weights P t, n ≤ reachBytes) → ∃ y, d.K w y cs ∧ Q y
section
variable {P : Program} {w : World} {t : TypeId}
theorem Opens.z {α : Type} {d : Kd α} {Q : α → Prop} (h : Opens P w t d Q) : OpensZ P w t d Q := fun H enc base spare held fuel cs x hx _ => h H enc base spare held fuel cs x hx
theorem opensZ_string (ht : P.underlying t = some .string) : OpensZ P w t Kd.string (fun s => s.size ≤ reachBytes) := by
  intro H enc base spare held fuel cs x h hz
  obtain ⟨b, rfl, rfl, hw⟩ := DataW.trod_string ht h
  refine ⟨b, rfl, ?_⟩
  have h1 := hz b.data.toList.length (by simp [DataW.weights])
  exact h1
theorem OpensZ.iso_ {α β : Type} {d : Kd α} {Q : α → Prop} (h : OpensZ P w t d Q) (f : β → α) (g : α → β) (hfg : ∀ y, f (g y) = y) : OpensZ P w t (Kd.iso d f) (fun y => Q (f y)) := by
  intro H enc base spare held fuel cs x hx hz
  obtain ⟨y, hy, hQ⟩ := h H enc base spare held fuel cs x hx hz
  refine ⟨g y, ?_, by show Q (f (g y)); rw [hfg]; exact hQ⟩
  show d.K w (f (g y)) cs
  rw [hfg]
  exact hy
theorem weightsAll_mem {H : Type} {e : TypeId} : ∀ {l : List (DataW H)} {d : DataW H}, d ∈ l → ∀ n ∈ d.weights P e, n ∈ DataW.weightsAll P e l
  | x :: l, d, hd, n, hn => by
    simp only [DataW.weightsAll, List.mem_append]
    rcases List.mem_cons.1 hd with rfl | hd
    · exact .inl hn
    · exact .inr (weightsAll_mem hd n hn)
theorem opensZ_slice {α : Type} {e : TypeId} {d : Kd α} {Q : α → Prop} (ht : P.underlying t = some (.slice e)) (hC : P.cellsOf e = d.sz) (he : OpensZ P w e d Q) : OpensZ P w t (Kd.slice e d) (SlQ Q) := by
  intro H enc base spare held fuel cs x h hz
  rcases open_slice ht h with ⟨rfl, _⟩ | ⟨a, len, cap, m, n, D, Pl, rfl, _, hl, hm, hmm, rfl, hi⟩
  · exact ⟨[], ⟨none, 0, rfl, by simp, rfl, by simp, fun h => absurd h (by simp)⟩, by simp, fun x hx => by simp at hx⟩
  · have hlm : len ≤ m := by rw [hmm]; split <;> omega
    have hzD : ∀ i, i < len → ∀ n ∈ (D i).weights P e, n ≤ reachBytes := by
      intro i hi n hn
      refine hz n ?_
      simp only [DataW.weights, ht, List.mem_cons, List.mem_append]
      exact .inr (.inl (weightsAll_mem (List.mem_map.2 ⟨i, List.mem_range.2 hi, rfl⟩) n hn))
    obtain ⟨l, hll, hp⟩ := exists_list (n := len) (p := fun i y => Q y ∧ ∃ c, c.length = d.sz ∧ d.K w y c ∧ ∀ j u, c[j]? = some u → w.cell? (a.add (i * d.sz + j)) = some u) (fun i hlt => by
      obtain ⟨cs', hc, hd⟩ := hi i (by omega)
      obtain ⟨y, hy, hQ⟩ := he H enc base spare held n cs' _ hd (hzD i hlt)
      rw [hC] at hc
      obtain ⟨_, hlen, hat⟩ := World.cells?_some hc
      refine ⟨y, hQ, cs', hlen, hy, fun j u hu => ?_⟩
      have hj : j < d.sz := by rw [← hlen]; exact (List.getElem?_eq_some_iff.1 hu).1
      have h2 := hat j hj
      rw [hu] at h2
      rw [← Go.Deep.add_add]
      exact h2)
    subst hll
    refine ⟨l, ⟨some a, cap, rfl, hl, rfl, by unfold maxLen at hm; omega, fun _ => ⟨a, rfl, fun j p hj => ?_⟩⟩, by omega, fun x hx => ?_⟩
    · obtain ⟨_, c, h1, h2, h3⟩ := hp j p hj
      exact ⟨c, h1, h2, h3⟩
    · obtain ⟨i, hi⟩ := List.getElem?_of_mem hx
      exact (hp i x hi).1
variable {α β γ δ : Type} {d0 : Kd α} {d1 : Kd β} {d2 : Kd γ} {d3 : Kd δ} {Q0 : α → Prop} {Q1 : β → Prop} {Q2 : γ → Prop} {Q3 : δ → Prop} {f0 f1 f2 f3 : Field}
theorem opensZ_struct4 (ht : P.underlying t = some (.struct #[f0, f1, f2, f3])) (o0 : f0.offset = 0) (o1 : f1.offset = d0.sz) (o2 : f2.offset = d0.sz + d1.sz) (o3 : f3.offset = d0.sz + d1.sz + d2.sz)
    (s0 : P.cellsOf f0.type = d0.sz) (s1 : P.cellsOf f1.type = d1.sz) (s2 : P.cellsOf f2.type = d2.sz) (s3 : P.cellsOf f3.type = d3.sz)
    (hC : P.cellsOf t = d0.sz + (d1.sz + (d2.sz + d3.sz))) (h0 : OpensZ P w f0.type d0 Q0) (h1 : OpensZ P w f1.type d1 Q1) (h2 : OpensZ P w f2.type d2 Q2) (h3 : OpensZ P w f3.type d3 Q3) :
    OpensZ P w t (Kd.pair d0 (Kd.pair d1 (Kd.pair d2 d3))) (fun y => Q0 y.1 ∧ Q1 y.2.1 ∧ Q2 y.2.2.1 ∧ Q3 y.2.2.2) := by
  intro H enc base spare held fuel cs x h hz
  obtain ⟨xs, n, _, rfl, hl, hxs, hf⟩ := DataW.trod_struct ht h
  match xs, hxs with
  | [y0, y1, y2, y3], _ =>
    have e0 := hf 0 f0 rfl
    have e1 := hf 1 f1 rfl
    have e2 := hf 2 f2 rfl
    have e3 := hf 3 f3 rfl
    rw [o0, s0] at e0
    rw [o1, s1] at e1
    rw [o2, s2] at e2
    rw [o3, s3] at e3
    have hz' : ∀ n, n ∈ y0.1.weights P f0.type ∨ n ∈ y1.1.weights P f1.type ∨ n ∈ y2.1.weights P f2.type ∨ n ∈ y3.1.weights P f3.type → n ≤ reachBytes := by
      intro n hn
      refine hz n ?_
      simp only [List.map_cons, List.map_nil, DataW.weights, ht, DataW.weightsEach, List.mem_append, List.append_nil]
      exact hn
    obtain ⟨z0, k0, q0⟩ := h0 H enc base spare held n _ _ e0 (fun n hn => hz' n (.inl hn))
    obtain ⟨z1, k1, q1⟩ := h1 H enc base spare held n _ _ e1 (fun n hn => hz' n (.inr (.inl hn)))
    obtain ⟨z2, k2, q2⟩ := h2 H enc base spare held n _ _ e2 (fun n hn => hz' n (.inr (.inr (.inl hn))))
    obtain ⟨z3, k3, q3⟩ := h3 H enc base spare held n _ _ e3 (fun n hn => hz' n (.inr (.inr (.inr hn))))
    refine ⟨(z0, z1, z2, z3), ⟨_, _, ?_, k0, _, _, rfl, k1, _, _, rfl, k2, k3⟩, q0, q1, q2, q3⟩
    rw [List.drop_zero, List.take_of_length_le (l := cs.drop (d0.sz + d1.sz + d2.sz)) (by rw [List.length_drop]; omega)]
    exact split4 _ _ _ _
/-- An array of two. -/
theorem opensZ_arr2 {e : TypeId} (ht : P.underlying t = some (.array 2 e)) (hs : P.cellsOf e = d0.sz) (hC : P.cellsOf t = d0.sz + d0.sz) (he : OpensZ P w e d0 Q0) : OpensZ P w t (Kd.pair d0 d0) (fun y => Q0 y.1 ∧ Q0 y.2) := by
  intro H enc base spare held fuel cs x h hz
  obtain ⟨xs, n, _, rfl, hl, hxs, hf⟩ := DataW.trod_array ht h
  match xs, hxs with
  | [y0, y1], _ =>
    have e0 := hf 0 (by omega)
    have e1 := hf 1 (by omega)
    rw [hs, Nat.zero_mul, List.drop_zero] at e0
    rw [hs, Nat.one_mul, List.take_of_length_le (by rw [List.length_drop]; omega)] at e1
    have hz' : ∀ n, n ∈ y0.1.weights P e ∨ n ∈ y1.1.weights P e → n ≤ reachBytes := by
      intro n hn
      refine hz n ?_
      simp only [List.map_cons, List.map_nil, DataW.weights, ht, DataW.weightsAll, List.mem_append, List.append_nil]
      exact hn
    obtain ⟨z0, k0, q0⟩ := he H enc base spare held n _ _ e0 (fun n hn => hz' n (.inl hn))
    obtain ⟨z1, k1, q1⟩ := he H enc base spare held n _ _ e1 (fun n hn => hz' n (.inr hn))
    exact ⟨(z0, z1), ⟨_, _, (List.take_append_drop _ cs).symm, k0, k1⟩, q0, q1⟩
theorem OpensZ.arg {α : Type} {d : Kd α} {Q : α → Prop} (ho : OpensZ P w t d Q) {H : Type} {enc : TypeId × Value → H} {base : Nat} {spare : Nat → Bool} {held : Bool} {v : Value} {x : DataW H} {ps : List MemPlace} (h : DataW.Trod enc P w base spare held t v x ps) (hz : ∀ n ∈ x.weights P t, n ≤ reachBytes) : ∃ y, d.K w y v.cells.toList ∧ Q y := by
  obtain ⟨fuel, hf⟩ := h
  exact ho H enc base spare held fuel _ _ hf hz
theorem struct_argZ {α : Type} {d : Kd α} {Q : α → Prop} {fs : Array Field} (ht : P.underlying t = some (.struct fs)) (ho : OpensZ P w t d Q) {r : Reach} {b0 : Nat} {H : Type} {enc : TypeId × Value → H} {base : Nat} {spare : Nat → Bool} {held : Bool} {v : Value} {x : DataW H} {ps : List MemPlace}
    (hv : Value.okWide P w r b0 t v) (h : DataW.Trod enc P w base spare held t v x ps) (hz : ∀ n ∈ x.weights P t, n ≤ reachBytes) : ∃ (cs : List Value) (y : α), v = .agg cs.toArray ∧ d.K w y cs ∧ Q y := by
  obtain ⟨cs, rfl, _⟩ := okWide_struct ht hv
  obtain ⟨y, hk, hq⟩ := ho.arg h hz
  exact ⟨cs.toList, y, rfl, hk, hq⟩
theorem array_argZ {α : Type} {d : Kd α} {Q : α → Prop} {n : Nat} {e : TypeId} (ht : P.underlying t = some (.array n e)) (ho : OpensZ P w t d Q) {r : Reach} {b0 : Nat} {H : Type} {enc : TypeId × Value → H} {base : Nat} {spare : Nat → Bool} {held : Bool} {v : Value} {x : DataW H} {ps : List MemPlace}
    (hv : Value.okWide P w r b0 t v) (h : DataW.Trod enc P w base spare held t v x ps) (hz : ∀ n ∈ x.weights P t, n ≤ reachBytes) : ∃ (cs : List Value) (y : α), v = .agg cs.toArray ∧ d.K w y cs ∧ Q y := by
  obtain ⟨cs, rfl⟩ := okWide_array ht hv
  obtain ⟨y, hk, hq⟩ := ho.arg h hz
  exact ⟨cs.toList, y, rfl, hk, hq⟩
theorem sized_at {H : Type} {ts : List TypeId} {ds : List (DataW H)} (h : (DataW.weightsEach P ts ds).all (· ≤ reachBytes) = true) {j : Nat} {d : DataW H} (ht : ts[j]? = some t) (hd : ds[j]? = some d) : ∀ n ∈ d.weights P t, n ≤ reachBytes := by
  intro n hn
  have := List.all_eq_true.1 h n (DataW.weights_mem_each ht hd n hn)
  simpa using this
end
end Go.Proofs.Ytmacdknicgfglaa.Open
