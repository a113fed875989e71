/- What an argument's cells read as, kind by kind: from the statement's reading of an argument (DataW.trod) to the kinds (Kd) in which the contracts speak. -/
import Derived.Test.YtjohdkbciafpfaaWWords
import Derived.WalkKit
import Derived.ProofKit
import Derived.OpenShut
import Derived.ShutString
import Derived.ChangeOld
import Derived.Below
import Derived.SizedLaws
import Derived.Deep.Slices
namespace Go.Proofs.Ytjohdkbciafpfaa.Open
open Go.RowKit Go.Proofs.YtjohdkbciafpfaaW.PrintWords Go.ChangeShapes Go.WideShapes Go.Deep

/-- Whatever reads as a value of type t reads as a y of kind d, and Q y. -/
def Opens {α : Type} (P : Program) (w : World) (t : TypeId) (d : Kd α) (Q : α → Prop) : Prop :=
  ∀ (H : Type) (enc : TypeId × Value → H) (base : Nat) (spare : Nat → Bool) (held : Bool) (fuel : Nat) (cs : List Value) (x : DataW H × List MemPlace),
    DataW.trod enc P w base spare held fuel t cs = some x → ∃ y, d.K w y cs ∧ Q y

section
variable {P : Program} {w : World} {t : TypeId}

theorem opens_bool (ht : P.underlying t = some .bool) : Opens P w t Kd.bool (fun _ => True) := by
  intro H enc base spare held fuel cs x h
  obtain ⟨b, rfl, _⟩ := DataW.trod_bool ht h
  exact ⟨b, rfl, trivial⟩
theorem opens_int {k : IntKind} (ht : P.underlying t = some (.int k)) : Opens P w t (Kd.int k) (fun n => (Lit.int k n).wf = true) := by
  intro H enc base spare held fuel cs x h
  obtain ⟨b, rfl, _, hw⟩ := DataW.trod_int ht h
  exact ⟨b, rfl, hw⟩
theorem opens_string (ht : P.underlying t = some .string) : Opens P w t Kd.string (fun s => s.size ≤ maxLen) := by
  intro H enc base spare held fuel cs x h
  obtain ⟨b, rfl, _, hw⟩ := DataW.trod_string ht h
  exact ⟨b, rfl, hw⟩
theorem Opens.imp_ {α : Type} {d : Kd α} {Q Q' : α → Prop} (h : Opens P w t d Q) (hq : ∀ y, Q y → Q' y) : Opens P w t d Q' := by
  intro H enc base spare held fuel cs x hx
  obtain ⟨y, hy, hQ⟩ := h H enc base spare held fuel cs x hx
  exact ⟨y, hy, hq y hQ⟩
theorem Opens.iso_ {α β : Type} {d : Kd α} {Q : α → Prop} (h : Opens P w t d Q) (f : β → α) (g : α → β) (hfg : ∀ y, f (g y) = y) : Opens P w t (Kd.iso d f) (fun y => Q (f y)) := by
  intro H enc base spare held fuel cs x hx
  obtain ⟨y, hy, hQ⟩ := h H enc base spare held fuel cs x hx
  refine ⟨g y, ?_, by show Q (f (g y)); rw [hfg]; exact hQ⟩
  show d.K w (f (g y)) cs
  rw [hfg]
  exact hy

/-- The elements of a list that is read place by place. -/
theorem exists_list {α : Type} {n : Nat} {p : Nat → α → Prop} (h : ∀ i, i < n → ∃ y, p i y) : ∃ l : List α, l.length = n ∧ ∀ i y, l[i]? = some y → p i y := by
  induction n with
  | zero => exact ⟨[], rfl, fun i y h => by simp at h⟩
  | succ n ih =>
    obtain ⟨l, hl, hp⟩ := ih (fun i hi => h i (by omega))
    obtain ⟨y, hy⟩ := h n (by omega)
    refine ⟨l ++ [y], by simp [hl], fun i z hz => ?_⟩
    rcases Nat.lt_or_ge i l.length with hi | hi
    · rw [List.getElem?_append_left hi] at hz
      exact hp i z hz
    · have : i = n := by
        have := (List.getElem?_eq_some_iff.1 hz).1
        rw [List.length_append, List.length_singleton] at this
        omega
      subst this
      have hz' : y = z := by simpa [hl] using hz
      subst hz'
      exact hy

/-- What a slice of such elements reads as. -/
def SlQ {α : Type} (Q : α → Prop) (xs : List α) : Prop := xs.length ≤ maxLen ∧ ∀ x ∈ xs, Q x

theorem opens_slice {α : Type} {e : TypeId} {d : Kd α} {Q : α → Prop} (ht : P.underlying t = some (.slice e)) (hC : P.cellsOf e = d.sz) (he : Opens P w e d Q) : Opens P w t (Kd.slice e d) (SlQ Q) := by
  intro H enc base spare held fuel cs x h
  rcases open_slice ht h with ⟨rfl, _⟩ | ⟨a, len, cap, m, n, D, Pl, rfl, _, hl, hm, hmm, _, hi⟩
  · exact ⟨[], ⟨none, 0, rfl, by simp, rfl, by simp, fun h => absurd h (by simp)⟩, by simp, fun x hx => by simp at hx⟩
  · have hlm : len ≤ m := by rw [hmm]; split <;> omega
    obtain ⟨l, hll, hp⟩ := exists_list (n := len) (p := fun i y => Q y ∧ ∃ c, c.length = d.sz ∧ d.K w y c ∧ ∀ j u, c[j]? = some u → w.cell? (a.add (i * d.sz + j)) = some u) (fun i hlt => by
      obtain ⟨cs', hc, hd⟩ := hi i (by omega)
      obtain ⟨y, hy, hQ⟩ := he H enc base spare held n cs' _ hd
      rw [hC] at hc
      obtain ⟨_, hlen, hat⟩ := World.cells?_some hc
      refine ⟨y, hQ, cs', hlen, hy, fun j u hu => ?_⟩
      have hj : j < d.sz := by rw [← hlen]; exact (List.getElem?_eq_some_iff.1 hu).1
      have h2 := hat j hj
      rw [hu] at h2
      rw [← Go.Deep.add_add]
      exact h2)
    subst hll
    refine ⟨l, ⟨some a, cap, rfl, hl, rfl, by unfold maxLen at hm; omega, fun _ => ⟨a, rfl, fun j p hj => ?_⟩⟩, by omega, fun x hx => ?_⟩
    · obtain ⟨_, c, h1, h2, h3⟩ := hp j p hj
      exact ⟨c, h1, h2, h3⟩
    · obtain ⟨i, hi⟩ := List.getElem?_of_mem hx
      exact (hp i x hi).1

theorem split4 {α : Type} (a b c : Nat) (l : List α) : l = l.take a ++ ((l.drop a).take b ++ ((l.drop (a + b)).take c ++ l.drop (a + b + c))) := by
  have h1 := List.take_append_drop c (l.drop (a + b))
  rw [List.drop_drop] at h1
  have h2 := List.take_append_drop b (l.drop a)
  rw [List.drop_drop] at h2
  rw [h1, h2, List.take_append_drop]
section
variable {α β γ δ : Type} {d0 : Kd α} {d1 : Kd β} {d2 : Kd γ} {d3 : Kd δ} {Q0 : α → Prop} {Q1 : β → Prop} {Q2 : γ → Prop} {Q3 : δ → Prop} {f0 f1 f2 f3 : Field}
theorem opens_struct2 (ht : P.underlying t = some (.struct #[f0, f1])) (o0 : f0.offset = 0) (o1 : f1.offset = d0.sz) (s0 : P.cellsOf f0.type = d0.sz) (s1 : P.cellsOf f1.type = d1.sz) (hC : P.cellsOf t = d0.sz + d1.sz)
    (h0 : Opens P w f0.type d0 Q0) (h1 : Opens P w f1.type d1 Q1) : Opens P w t (Kd.pair d0 d1) (fun y => Q0 y.1 ∧ Q1 y.2) := by
  intro H enc base spare held fuel cs x h
  obtain ⟨xs, n, _, _, hl, hxs, hf⟩ := DataW.trod_struct ht h
  match xs, hxs with
  | [y0, y1], _ =>
    have e0 := hf 0 f0 rfl
    have e1 := hf 1 f1 rfl
    rw [o0, s0] at e0
    rw [o1, s1] at e1
    obtain ⟨z0, k0, q0⟩ := h0 H enc base spare held n _ _ e0
    obtain ⟨z1, k1, q1⟩ := h1 H enc base spare held n _ _ e1
    refine ⟨(z0, z1), ⟨_, _, ?_, k0, k1⟩, q0, q1⟩
    rw [List.drop_zero, List.take_of_length_le (l := cs.drop d0.sz) (by rw [List.length_drop]; omega), List.take_append_drop]
theorem opens_struct3 (ht : P.underlying t = some (.struct #[f0, f1, f2])) (o0 : f0.offset = 0) (o1 : f1.offset = d0.sz) (o2 : f2.offset = d0.sz + d1.sz) (s0 : P.cellsOf f0.type = d0.sz) (s1 : P.cellsOf f1.type = d1.sz) (s2 : P.cellsOf f2.type = d2.sz)
    (hC : P.cellsOf t = d0.sz + (d1.sz + d2.sz)) (h0 : Opens P w f0.type d0 Q0) (h1 : Opens P w f1.type d1 Q1) (h2 : Opens P w f2.type d2 Q2) : Opens P w t (Kd.pair d0 (Kd.pair d1 d2)) (fun y => Q0 y.1 ∧ Q1 y.2.1 ∧ Q2 y.2.2) := by
  intro H enc base spare held fuel cs x h
  obtain ⟨xs, n, _, _, hl, hxs, hf⟩ := DataW.trod_struct ht h
  match xs, hxs with
  | [y0, y1, y2], _ =>
    have e0 := hf 0 f0 rfl
    have e1 := hf 1 f1 rfl
    have e2 := hf 2 f2 rfl
    rw [o0, s0] at e0
    rw [o1, s1] at e1
    rw [o2, s2] at e2
    obtain ⟨z0, k0, q0⟩ := h0 H enc base spare held n _ _ e0
    obtain ⟨z1, k1, q1⟩ := h1 H enc base spare held n _ _ e1
    obtain ⟨z2, k2, q2⟩ := h2 H enc base spare held n _ _ e2
    refine ⟨(z0, z1, z2), ⟨_, _, ?_, k0, _, _, rfl, k1, k2⟩, q0, q1, q2⟩
    rw [List.drop_zero, List.take_of_length_le (l := cs.drop (d0.sz + d1.sz)) (by rw [List.length_drop]; omega), ← List.drop_drop, List.take_append_drop, List.take_append_drop]
theorem opens_struct4 (ht : P.underlying t = some (.struct #[f0, f1, f2, f3])) (o0 : f0.offset = 0) (o1 : f1.offset = d0.sz) (o2 : f2.offset = d0.sz + d1.sz) (o3 : f3.offset = d0.sz + d1.sz + d2.sz)
    (s0 : P.cellsOf f0.type = d0.sz) (s1 : P.cellsOf f1.type = d1.sz) (s2 : P.cellsOf f2.type = d2.sz) (s3 : P.cellsOf f3.type = d3.sz)
    (hC : P.cellsOf t = d0.sz + (d1.sz + (d2.sz + d3.sz))) (h0 : Opens P w f0.type d0 Q0) (h1 : Opens P w f1.type d1 Q1) (h2 : Opens P w f2.type d2 Q2) (h3 : Opens P w f3.type d3 Q3) :
    Opens P w t (Kd.pair d0 (Kd.pair d1 (Kd.pair d2 d3))) (fun y => Q0 y.1 ∧ Q1 y.2.1 ∧ Q2 y.2.2.1 ∧ Q3 y.2.2.2) := by
  intro H enc base spare held fuel cs x h
  obtain ⟨xs, n, _, _, hl, hxs, hf⟩ := DataW.trod_struct ht h
  match xs, hxs with
  | [y0, y1, y2, y3], _ =>
    have e0 := hf 0 f0 rfl
    have e1 := hf 1 f1 rfl
    have e2 := hf 2 f2 rfl
    have e3 := hf 3 f3 rfl
    rw [o0, s0] at e0
    rw [o1, s1] at e1
    rw [o2, s2] at e2
    rw [o3, s3] at e3
    obtain ⟨z0, k0, q0⟩ := h0 H enc base spare held n _ _ e0
    obtain ⟨z1, k1, q1⟩ := h1 H enc base spare held n _ _ e1
    obtain ⟨z2, k2, q2⟩ := h2 H enc base spare held n _ _ e2
    obtain ⟨z3, k3, q3⟩ := h3 H enc base spare held n _ _ e3
    refine ⟨(z0, z1, z2, z3), ⟨_, _, ?_, k0, _, _, rfl, k1, _, _, rfl, k2, k3⟩, q0, q1, q2, q3⟩
    rw [List.drop_zero, List.take_of_length_le (l := cs.drop (d0.sz + d1.sz + d2.sz)) (by rw [List.length_drop]; omega)]
    exact split4 _ _ _ _
/-- An array of two. -/
theorem opens_arr2 {e : TypeId} (ht : P.underlying t = some (.array 2 e)) (hs : P.cellsOf e = d0.sz) (hC : P.cellsOf t = d0.sz + d0.sz) (he : Opens P w e d0 Q0) : Opens P w t (Kd.pair d0 d0) (fun y => Q0 y.1 ∧ Q0 y.2) := by
  intro H enc base spare held fuel cs x h
  obtain ⟨xs, n, _, _, hl, hxs, hf⟩ := DataW.trod_array ht h
  match xs, hxs with
  | [y0, y1], _ =>
    have e0 := hf 0 (by omega)
    have e1 := hf 1 (by omega)
    rw [hs] at e0 e1
    simp only [Nat.zero_mul, Nat.one_mul] at e0 e1
    obtain ⟨z0, k0, q0⟩ := he H enc base spare held n _ _ e0
    obtain ⟨z1, k1, q1⟩ := he H enc base spare held n _ _ e1
    refine ⟨(z0, z1), ⟨_, _, ?_, k0, k1⟩, q0, q1⟩
    rw [List.drop_zero, List.take_of_length_le (l := cs.drop d0.sz) (by rw [List.length_drop]; omega), List.take_append_drop]
/-- An array of four of one cell each. -/
theorem opens_arr4 {e : TypeId} (ht : P.underlying t = some (.array 4 e)) (hs : P.cellsOf e = d0.sz) (h1 : d0.sz = 1) (hC : P.cellsOf t = 4) (he : Opens P w e d0 Q0) : Opens P w t (Kd.pair d0 (Kd.pair d0 (Kd.pair d0 d0))) (fun y => Q0 y.1 ∧ Q0 y.2.1 ∧ Q0 y.2.2.1 ∧ Q0 y.2.2.2) := by
  intro H enc base spare held fuel cs x h
  obtain ⟨xs, n, _, _, hl, hxs, hf⟩ := DataW.trod_array ht h
  match xs, hxs with
  | [y0, y1, y2, y3], _ =>
    have e0 := hf 0 (by omega)
    have e1 := hf 1 (by omega)
    have e2 := hf 2 (by omega)
    have e3 := hf 3 (by omega)
    rw [hs, h1] at e0 e1 e2 e3
    simp only [Nat.mul_one] at e0 e1 e2 e3
    obtain ⟨z0, k0, q0⟩ := he H enc base spare held n _ _ e0
    obtain ⟨z1, k1, q1⟩ := he H enc base spare held n _ _ e1
    obtain ⟨z2, k2, q2⟩ := he H enc base spare held n _ _ e2
    obtain ⟨z3, k3, q3⟩ := he H enc base spare held n _ _ e3
    refine ⟨(z0, z1, z2, z3), ⟨_, _, ?_, k0, _, _, rfl, k1, _, _, rfl, k2, k3⟩, q0, q1, q2, q3⟩
    rw [hC] at hl
    match cs, hl with
    | [u0, u1, u2, u3], _ => rfl
end

/-- An argument that reads as such a type, opened. -/
theorem Opens.arg {α : Type} {d : Kd α} {Q : α → Prop} (ho : Opens P w t d Q) {H : Type} {enc : TypeId × Value → H} {base : Nat} {spare : Nat → Bool} {held : Bool} {v : Value} {x : DataW H} {ps : List MemPlace} (h : DataW.Trod enc P w base spare held t v x ps) : ∃ y, d.K w y v.cells.toList ∧ Q y := by
  obtain ⟨fuel, hf⟩ := h
  exact ho H enc base spare held fuel _ _ hf
theorem slice_arg {α : Type} {e : TypeId} {d : Kd α} {Q : α → Prop} (ht : P.underlying t = some (.slice e)) (ho : Opens P w t (Kd.slice e d) (SlQ Q)) {r : Reach} {b0 : Nat} {H : Type} {enc : TypeId × Value → H} {base : Nat} {spare : Nat → Bool} {held : Bool} {v : Value} {x : DataW H} {ps : List MemPlace}
    (hv : Value.okWide P w r b0 t v) (h : DataW.Trod enc P w base spare held t v x ps) : ∃ (A : Option Addr) (c : Nat) (l : List α), v = .slice A l.length c ∧ l.length ≤ c ∧ d.C w A l.length l ∧ SlQ Q l := by
  obtain ⟨A, len, cap, rfl⟩ := okWide_slice ht hv
  obtain ⟨l, ⟨A', c', he, hl, hC⟩, hQ⟩ := ho.arg h
  simp [Value.cells] at he
  obtain ⟨rfl, rfl, rfl⟩ := he
  exact ⟨_, _, l, rfl, hl, hC, hQ⟩
theorem struct_arg {α : Type} {d : Kd α} {Q : α → Prop} {fs : Array Field} (ht : P.underlying t = some (.struct fs)) (ho : Opens P w t d Q) {r : Reach} {b0 : Nat} {H : Type} {enc : TypeId × Value → H} {base : Nat} {spare : Nat → Bool} {held : Bool} {v : Value} {x : DataW H} {ps : List MemPlace}
    (hv : Value.okWide P w r b0 t v) (h : DataW.Trod enc P w base spare held t v x ps) : ∃ (cs : List Value) (y : α), v = .agg cs.toArray ∧ d.K w y cs ∧ Q y := by
  obtain ⟨cs, rfl, _⟩ := okWide_struct ht hv
  obtain ⟨y, hk, hq⟩ := ho.arg h
  exact ⟨cs.toList, y, rfl, hk, hq⟩
theorem okWide_array {n : Nat} {e : TypeId} {r : Reach} {b0 : Nat} {v : Value} (ht : P.underlying t = some (.array n e)) (h : Value.okWide P w r b0 t v) : ∃ cs, v = .agg cs := by
  simp only [Value.okWide, ht] at h
  cases v <;> simp_all
theorem array_arg {α : Type} {d : Kd α} {Q : α → Prop} {n : Nat} {e : TypeId} (ht : P.underlying t = some (.array n e)) (ho : Opens P w t d Q) {r : Reach} {b0 : Nat} {H : Type} {enc : TypeId × Value → H} {base : Nat} {spare : Nat → Bool} {held : Bool} {v : Value} {x : DataW H} {ps : List MemPlace}
    (hv : Value.okWide P w r b0 t v) (h : DataW.Trod enc P w base spare held t v x ps) : ∃ (cs : List Value) (y : α), v = .agg cs.toArray ∧ d.K w y cs ∧ Q y := by
  obtain ⟨cs, rfl⟩ := okWide_array ht hv
  obtain ⟨y, hk, hq⟩ := ho.arg h
  exact ⟨cs.toList, y, rfl, hk, hq⟩
theorem bool_arg (ht : P.underlying t = some .bool) {r : Reach} {b0 : Nat} {H : Type} {enc : TypeId × Value → H} {base : Nat} {spare : Nat → Bool} {held : Bool} {v : Value} {x : DataW H} {ps : List MemPlace}
    (hv : Value.okWide P w r b0 t v) (_h : DataW.Trod enc P w base spare held t v x ps) : ∃ b, v = .bool b := okWide_bool ht hv
theorem int_arg {k : IntKind} (ht : P.underlying t = some (.int k)) {r : Reach} {b0 : Nat} {H : Type} {enc : TypeId × Value → H} {base : Nat} {spare : Nat → Bool} {held : Bool} {v : Value} {x : DataW H} {ps : List MemPlace}
    (_hv : Value.okWide P w r b0 t v) (h : DataW.Trod enc P w base spare held t v x ps) : ∃ n, v = .int k n ∧ (Lit.int k n).wf = true := by
  obtain ⟨n, rfl⟩ := okWide_int ht _hv
  obtain ⟨y, hk, hq⟩ := (opens_int ht).arg h
  have : y = n := by
    have h1 : [Value.int k n] = [Value.int k y] := hk
    injection h1 with h1
    injection h1 with _ h1
    exact h1.symm
  subst this
  exact ⟨_, rfl, hq⟩
theorem string_arg (ht : P.underlying t = some .string) {r : Reach} {b0 : Nat} {H : Type} {enc : TypeId × Value → H} {base : Nat} {spare : Nat → Bool} {held : Bool} {v : Value} {x : DataW H} {ps : List MemPlace}
    (_hv : Value.okWide P w r b0 t v) (h : DataW.Trod enc P w base spare held t v x ps) : ∃ s, v = .string s ∧ s.size ≤ maxLen := by
  obtain ⟨n, rfl⟩ := okWide_string ht _hv
  obtain ⟨y, hk, hq⟩ := (opens_string ht).arg h
  have : y = n := by
    have h1 : [Value.string n] = [Value.string y] := hk
    injection h1 with h1
    injection h1 with h1
    exact h1.symm
  subst this
  exact ⟨_, rfl, hq⟩
end
end Go.Proofs.Ytjohdkbciafpfaa.Open
