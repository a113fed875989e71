/- A contact taken out, or doubled: how many ways there are, plainly. -/
import Derived.Test.YtmacdknicgfglaaCp
namespace Go.Proofs.Ytmacdknicgfglaa.Gp
set_option linter.unusedVariables false
set_option linter.unusedSimpArgs false
section
variable {a b : List Ed} {e : Ed} {r : List ByteArray}
theorem sumE_mid (a b : List Ed) (e : Ed) (f : Ed → Nat) : sumE (a ++ e :: b) f = sumE (a ++ b) f + f e := by rw [sumE_append, sumE_cons, sumE_append]; omega
theorem sumE_end (l : List Ed) (e : Ed) (f : Ed → Nat) : sumE (l ++ [e]) f = sumE l f + f e := by rw [sumE_append, sumE_cons, sumE_nil, Nat.add_zero]
theorem mem_mid {c : Ed} : c ∈ a ++ b → c ∈ a ++ e :: b := fun h => by rw [List.mem_append] at h ⊢; exact h.imp id (List.mem_cons_of_mem _)
/-- Behind the contact's source nothing changes. -/
theorem away_less (h : topo (a ++ e :: b) = some r) (t : ByteArray) : ∀ (k : Nat) (x : ByteArray), posL r e.1 < posL r x → bw (a ++ b) t k x = bw (a ++ e :: b) t k x
  | 0, x, _ => rfl
  | k + 1, x, hx => by
    show _ + _ = _ + _
    rw [sumE_mid, if_neg (show ¬ e.1 = x from fun q => by rw [q] at hx; omega), Nat.add_zero]
    congr 1
    refine sumE_congr (fun c hc => ?_)
    by_cases q : c.1 = x
    · rw [if_pos q, if_pos q]
      have h1 := ord_lt h (mem_mid hc)
      rw [q] at h1
      exact away_less h t k c.2 (by omega)
    · rw [if_neg q, if_neg q]
theorem away_more (h : topo (a ++ e :: b) = some r) (t : ByteArray) : ∀ (k : Nat) (x : ByteArray), posL r e.1 < posL r x → bw (a ++ e :: b ++ [e]) t k x = bw (a ++ e :: b) t k x
  | 0, x, _ => rfl
  | k + 1, x, hx => by
    show _ + _ = _ + _
    rw [sumE_end, if_neg (show ¬ e.1 = x from fun q => by rw [q] at hx; omega), Nat.add_zero]
    congr 1
    refine sumE_congr (fun c hc => ?_)
    by_cases q : c.1 = x
    · rw [if_pos q, if_pos q]
      have h1 := ord_lt h hc
      rw [q] at h1
      exact away_more h t k c.2 (by omega)
    · rw [if_neg q, if_neg q]
theorem twice_bw (h : topo (a ++ e :: b) = some r) (t : ByteArray) : ∀ (k : Nat) (x : ByteArray), bw (a ++ e :: b ++ [e]) t k x + bw (a ++ b) t k x = 2 * bw (a ++ e :: b) t k x
  | 0, x => by show (if x = t then 1 else 0) + (if x = t then 1 else 0) = 2 * (if x = t then 1 else 0); omega
  | k + 1, x => by
    have he : e ∈ a ++ e :: b := by simp
    have h1 := away_less h t k e.2 (ord_lt h he)
    have h2 := away_more h t k e.2 (ord_lt h he)
    show ((if x = t then 1 else 0) + _) + ((if x = t then 1 else 0) + _) = 2 * ((if x = t then 1 else 0) + _)
    rw [sumE_end, sumE_mid, sumE_mid]
    have h3 : sumE (a ++ b) (fun c => if c.1 = x then bw (a ++ e :: b ++ [e]) t k c.2 else 0) + sumE (a ++ b) (fun c => if c.1 = x then bw (a ++ b) t k c.2 else 0) = 2 * sumE (a ++ b) (fun c => if c.1 = x then bw (a ++ e :: b) t k c.2 else 0) := by
      rw [← sumE_add, ← sumE_mul]
      refine sumE_congr (fun c _ => ?_)
      by_cases q : c.1 = x
      · rw [if_pos q, if_pos q, if_pos q]; exact twice_bw h t k c.2
      · rw [if_neg q, if_neg q, if_neg q]
    rw [h2]
    generalize sumE (a ++ b) (fun c => if c.1 = x then bw (a ++ e :: b ++ [e]) t k c.2 else 0) = A at h3 ⊢
    generalize sumE (a ++ b) (fun c => if c.1 = x then bw (a ++ b) t k c.2 else 0) = B at h3 ⊢
    generalize sumE (a ++ b) (fun c => if c.1 = x then bw (a ++ e :: b) t k c.2 else 0) = C at h3 ⊢
    split <;> split <;> omega
/-- A smaller or an equal graph has an order, too. -/
theorem topo_sub {l m : List Ed} (h : topo l = some r) (hs : ∀ c ∈ m, c ∈ l) : ∃ r', topo m = some r' := by
  cases hm : topo m with
  | some r' => exact ⟨r', rfl⟩
  | none =>
    have h1 := comes_some hm
    unfold comesL at h1
    rw [List.any_eq_true] at h1
    obtain ⟨c, hc, hr⟩ := h1
    have h2 := comes_none h
    unfold comesL at h2
    rw [List.any_eq_false] at h2
    refine absurd (decide_eq_true ?_) (h2 c (hs c hc))
    have h3 := (reach_mem.1 (of_decide_eq_true hr)).2
    exact reach_mem.2 ⟨nodes_2 (hs c hc), h3.imp (fun m x hx => by
      obtain ⟨d, hd, q1, q2⟩ := suc_mem.1 hx
      exact suc_mem.2 ⟨d, hs d hd, q1, q2⟩)⟩
/-- A graph with a rank has an order. -/
theorem topo_rank {m : List Ed} (f : ByteArray → Nat) (hf : ∀ c ∈ m, f c.1 < f c.2) : ∃ r', topo m = some r' := by
  cases hm : topo m with
  | some r' => exact ⟨r', rfl⟩
  | none =>
    have h1 := comes_some hm
    unfold comesL at h1
    rw [List.any_eq_true] at h1
    obtain ⟨c, hc, hr⟩ := h1
    have h3 := (reach_mem.1 (of_decide_eq_true hr)).2
    have h4 : f c.2 ≤ f c.1 := by
      generalize c.1 = y at h3
      clear hr
      induction h3 with
      | refl => exact Nat.le_refl _
      | step _ hx ih =>
        obtain ⟨d, hd, q1, q2⟩ := suc_mem.1 hx
        have := hf d hd
        rw [q1, q2] at this
        omega
    have := hf c hc
    omega
theorem twice_Bw (h : topo (a ++ e :: b) = some r) (t x : ByteArray) : Bw (a ++ e :: b ++ [e]) t x + Bw (a ++ b) t x = 2 * Bw (a ++ e :: b) t x := by
  obtain ⟨r1, h1⟩ := topo_sub (m := a ++ b) h (fun c hc => mem_mid hc)
  obtain ⟨r2, h2⟩ := topo_sub (m := a ++ e :: b ++ [e]) h (fun c hc => by
    rcases List.mem_append.1 hc with hc | hc
    · exact hc
    · rw [List.mem_singleton.1 hc]; simp)
  have l1 : (a ++ e :: b).length = (a ++ b).length + 1 := by simp; omega
  have l2 : (a ++ e :: b ++ [e]).length = (a ++ b).length + 2 := by simp; omega
  have q := twice_bw h t (2 * (a ++ b).length + 6) x
  rw [Bw_ge h t (by omega), Bw_ge h1 t (by omega), Bw_ge h2 t (by omega)] at q
  exact q
theorem less_le (h : topo (a ++ e :: b) = some r) (t : ByteArray) : ∀ (k : Nat) (x : ByteArray), bw (a ++ b) t k x ≤ bw (a ++ e :: b) t k x
  | 0, x => Nat.le_refl _
  | k + 1, x => by
    show _ + _ ≤ _ + _
    rw [sumE_mid]
    refine Nat.add_le_add_left (Nat.le_trans (sumE_le (fun c _ => ?_)) (Nat.le_add_right _ _)) _
    split
    · exact less_le h t k c.2
    · exact Nat.le_refl _
theorem sumE_lt {l : List Ed} {f g : Ed → Nat} (h : ∀ c ∈ l, f c ≤ g c) {c : Ed} (hc : c ∈ l) (hlt : f c < g c) : sumE l f < sumE l g := by
  obtain ⟨p, q, rfl⟩ := List.append_of_mem hc
  rw [sumE_mid, sumE_mid]
  have := sumE_le (l := p ++ q) (f := f) (g := g) (fun d hd => h d (mem_mid hd))
  omega
/-- Without a contact on a way there are fewer ways. -/
theorem less_lt (h : topo (a ++ e :: b) = some r) {s t : ByteArray} (h1 : Rch (sucL (a ++ e :: b)) s e.1) (h2 : Rch (sucL (a ++ e :: b)) e.2 t) : Bw (a ++ b) t s < Bw (a ++ e :: b) t s := by
  obtain ⟨r1, hr1⟩ := topo_sub (m := a ++ b) h (fun c hc => mem_mid hc)
  have hl : (a ++ e :: b).length = (a ++ b).length + 1 := by simp; omega
  have hle : ∀ x, Bw (a ++ b) t x ≤ Bw (a ++ e :: b) t x := fun x => by
    have := less_le h t (2 * (a ++ e :: b).length + 2) x
    rw [Bw_ge hr1 t (by omega)] at this
    exact this
  have hp := Bw_pos h h2
  have hbase : Bw (a ++ b) t e.1 < Bw (a ++ e :: b) t e.1 := by
    rw [Bw_eq h, Bw_eq hr1, sumE_mid, if_pos (rfl : e.1 = e.1)]
    have := sumE_le (l := a ++ b) (f := fun c => if c.1 = e.1 then Bw (a ++ b) t c.2 else 0) (g := fun c => if c.1 = e.1 then Bw (a ++ e :: b) t c.2 else 0) (fun c _ => by
      by_cases q : c.1 = e.1
      · simp only [if_pos q]; exact hle _
      · simp only [if_neg q]; exact Nat.le_refl _)
    omega
  have key : ∀ y, Rch (sucL (a ++ e :: b)) s y → Bw (a ++ b) t y < Bw (a ++ e :: b) t y → Bw (a ++ b) t s < Bw (a ++ e :: b) t s := by
    intro y hy
    induction hy with
    | refl => exact id
    | @step y z _ hx ih =>
      intro hz
      refine ih ?_
      obtain ⟨c, hc, q1, q2⟩ := suc_mem.1 hx
      rcases List.mem_append.1 hc with hc' | hc'
      · rw [Bw_eq h, Bw_eq hr1, sumE_mid]
        have := sumE_lt (l := a ++ b) (f := fun c => if c.1 = y then Bw (a ++ b) t c.2 else 0) (g := fun c => if c.1 = y then Bw (a ++ e :: b) t c.2 else 0) (fun c _ => by
          by_cases q : c.1 = y
          · simp only [if_pos q]; exact hle _
          · simp only [if_neg q]; exact Nat.le_refl _) (c := c) (List.mem_append_left _ hc') (by simp only [if_pos q1, q2]; exact hz)
        omega
      · rcases List.mem_cons.1 hc' with rfl | hc'
        · rw [← q1]; exact hbase
        · rw [Bw_eq h, Bw_eq hr1, sumE_mid]
          have := sumE_lt (l := a ++ b) (f := fun c => if c.1 = y then Bw (a ++ b) t c.2 else 0) (g := fun c => if c.1 = y then Bw (a ++ e :: b) t c.2 else 0) (fun c _ => by
            by_cases q : c.1 = y
            · simp only [if_pos q]; exact hle _
            · simp only [if_neg q]; exact Nat.le_refl _) (c := c) (List.mem_append_right _ hc') (by simp only [if_pos q1, q2]; exact hz)
          omega
  exact key _ h1 hbase
end
end Go.Proofs.Ytmacdknicgfglaa.Gp
