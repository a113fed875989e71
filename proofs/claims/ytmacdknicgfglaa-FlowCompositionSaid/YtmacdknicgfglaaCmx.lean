/- Several texts of this session in one (join.py): Ce, Dd, Ec, Cm. -/
import Derived.Test.YtmacdknicgfglaaCp
import Derived.Test.YtmacdknicgfglaaSd
import Derived.Test.YtmacdknicgfglaaDq
section
/- A contact taken out, or doubled: how many ways there are, plainly. -/
namespace Go.Proofs.Ytmacdknicgfglaa.Gp
set_option linter.unusedVariables false
set_option linter.unusedSimpArgs false
section
variable {a b : List Ed} {e : Ed} {r : List ByteArray}
theorem sumE_mid (a b : List Ed) (e : Ed) (f : Ed → Nat) : sumE (a ++ e :: b) f = sumE (a ++ b) f + f e := by rw [sumE_append, sumE_cons, sumE_append]; omega
theorem sumE_end (l : List Ed) (e : Ed) (f : Ed → Nat) : sumE (l ++ [e]) f = sumE l f + f e := by rw [sumE_append, sumE_cons, sumE_nil, Nat.add_zero]
theorem mem_mid {c : Ed} : c ∈ a ++ b → c ∈ a ++ e :: b := fun h => by rw [List.mem_append] at h ⊢; exact h.imp id (List.mem_cons_of_mem _)
/-- Behind the contact's source nothing changes. -/
theorem away_less (h : topo (a ++ e :: b) = some r) (t : ByteArray) : ∀ (k : Nat) (x : ByteArray), posL r e.1 < posL r x → bw (a ++ b) t k x = bw (a ++ e :: b) t k x
  | 0, x, _ => rfl
  | k + 1, x, hx => by
    show _ + _ = _ + _
    rw [sumE_mid, if_neg (show ¬ e.1 = x from fun q => by rw [q] at hx; omega), Nat.add_zero]
    congr 1
    refine sumE_congr (fun c hc => ?_)
    by_cases q : c.1 = x
    · rw [if_pos q, if_pos q]
      have h1 := ord_lt h (mem_mid hc)
      rw [q] at h1
      exact away_less h t k c.2 (by omega)
    · rw [if_neg q, if_neg q]
theorem away_more (h : topo (a ++ e :: b) = some r) (t : ByteArray) : ∀ (k : Nat) (x : ByteArray), posL r e.1 < posL r x → bw (a ++ e :: b ++ [e]) t k x = bw (a ++ e :: b) t k x
  | 0, x, _ => rfl
  | k + 1, x, hx => by
    show _ + _ = _ + _
    rw [sumE_end, if_neg (show ¬ e.1 = x from fun q => by rw [q] at hx; omega), Nat.add_zero]
    congr 1
    refine sumE_congr (fun c hc => ?_)
    by_cases q : c.1 = x
    · rw [if_pos q, if_pos q]
      have h1 := ord_lt h hc
      rw [q] at h1
      exact away_more h t k c.2 (by omega)
    · rw [if_neg q, if_neg q]
theorem twice_bw (h : topo (a ++ e :: b) = some r) (t : ByteArray) : ∀ (k : Nat) (x : ByteArray), bw (a ++ e :: b ++ [e]) t k x + bw (a ++ b) t k x = 2 * bw (a ++ e :: b) t k x
  | 0, x => by show (if x = t then 1 else 0) + (if x = t then 1 else 0) = 2 * (if x = t then 1 else 0); omega
  | k + 1, x => by
    have he : e ∈ a ++ e :: b := by simp
    have h1 := away_less h t k e.2 (ord_lt h he)
    have h2 := away_more h t k e.2 (ord_lt h he)
    show ((if x = t then 1 else 0) + _) + ((if x = t then 1 else 0) + _) = 2 * ((if x = t then 1 else 0) + _)
    rw [sumE_end, sumE_mid, sumE_mid]
    have h3 : sumE (a ++ b) (fun c => if c.1 = x then bw (a ++ e :: b ++ [e]) t k c.2 else 0) + sumE (a ++ b) (fun c => if c.1 = x then bw (a ++ b) t k c.2 else 0) = 2 * sumE (a ++ b) (fun c => if c.1 = x then bw (a ++ e :: b) t k c.2 else 0) := by
      rw [← sumE_add, ← sumE_mul]
      refine sumE_congr (fun c _ => ?_)
      by_cases q : c.1 = x
      · rw [if_pos q, if_pos q, if_pos q]; exact twice_bw h t k c.2
      · rw [if_neg q, if_neg q, if_neg q]
    rw [h2]
    generalize sumE (a ++ b) (fun c => if c.1 = x then bw (a ++ e :: b ++ [e]) t k c.2 else 0) = A at h3 ⊢
    generalize sumE (a ++ b) (fun c => if c.1 = x then bw (a ++ b) t k c.2 else 0) = B at h3 ⊢
    generalize sumE (a ++ b) (fun c => if c.1 = x then bw (a ++ e :: b) t k c.2 else 0) = C at h3 ⊢
    split <;> split <;> omega
/-- A smaller or an equal graph has an order, too. -/
theorem topo_sub {l m : List Ed} (h : topo l = some r) (hs : ∀ c ∈ m, c ∈ l) : ∃ r', topo m = some r' := by
  cases hm : topo m with
  | some r' => exact ⟨r', rfl⟩
  | none =>
    have h1 := comes_some hm
    unfold comesL at h1
    rw [List.any_eq_true] at h1
    obtain ⟨c, hc, hr⟩ := h1
    have h2 := comes_none h
    unfold comesL at h2
    rw [List.any_eq_false] at h2
    refine absurd (decide_eq_true ?_) (h2 c (hs c hc))
    have h3 := (reach_mem.1 (of_decide_eq_true hr)).2
    exact reach_mem.2 ⟨nodes_2 (hs c hc), h3.imp (fun m x hx => by
      obtain ⟨d, hd, q1, q2⟩ := suc_mem.1 hx
      exact suc_mem.2 ⟨d, hs d hd, q1, q2⟩)⟩
/-- A graph with a rank has an order. -/
theorem topo_rank {m : List Ed} (f : ByteArray → Nat) (hf : ∀ c ∈ m, f c.1 < f c.2) : ∃ r', topo m = some r' := by
  cases hm : topo m with
  | some r' => exact ⟨r', rfl⟩
  | none =>
    have h1 := comes_some hm
    unfold comesL at h1
    rw [List.any_eq_true] at h1
    obtain ⟨c, hc, hr⟩ := h1
    have h3 := (reach_mem.1 (of_decide_eq_true hr)).2
    have h4 : f c.2 ≤ f c.1 := by
      generalize c.1 = y at h3
      clear hr
      induction h3 with
      | refl => exact Nat.le_refl _
      | step _ hx ih =>
        obtain ⟨d, hd, q1, q2⟩ := suc_mem.1 hx
        have := hf d hd
        rw [q1, q2] at this
        omega
    have := hf c hc
    omega
theorem twice_Bw (h : topo (a ++ e :: b) = some r) (t x : ByteArray) : Bw (a ++ e :: b ++ [e]) t x + Bw (a ++ b) t x = 2 * Bw (a ++ e :: b) t x := by
  obtain ⟨r1, h1⟩ := topo_sub (m := a ++ b) h (fun c hc => mem_mid hc)
  obtain ⟨r2, h2⟩ := topo_sub (m := a ++ e :: b ++ [e]) h (fun c hc => by
    rcases List.mem_append.1 hc with hc | hc
    · exact hc
    · rw [List.mem_singleton.1 hc]; simp)
  have l1 : (a ++ e :: b).length = (a ++ b).length + 1 := by simp; omega
  have l2 : (a ++ e :: b ++ [e]).length = (a ++ b).length + 2 := by simp; omega
  have q := twice_bw h t (2 * (a ++ b).length + 6) x
  rw [Bw_ge h t (by omega), Bw_ge h1 t (by omega), Bw_ge h2 t (by omega)] at q
  exact q
theorem less_le (h : topo (a ++ e :: b) = some r) (t : ByteArray) : ∀ (k : Nat) (x : ByteArray), bw (a ++ b) t k x ≤ bw (a ++ e :: b) t k x
  | 0, x => Nat.le_refl _
  | k + 1, x => by
    show _ + _ ≤ _ + _
    rw [sumE_mid]
    refine Nat.add_le_add_left (Nat.le_trans (sumE_le (fun c _ => ?_)) (Nat.le_add_right _ _)) _
    split
    · exact less_le h t k c.2
    · exact Nat.le_refl _
theorem sumE_lt {l : List Ed} {f g : Ed → Nat} (h : ∀ c ∈ l, f c ≤ g c) {c : Ed} (hc : c ∈ l) (hlt : f c < g c) : sumE l f < sumE l g := by
  obtain ⟨p, q, rfl⟩ := List.append_of_mem hc
  rw [sumE_mid, sumE_mid]
  have := sumE_le (l := p ++ q) (f := f) (g := g) (fun d hd => h d (mem_mid hd))
  omega
/-- Without a contact on a way there are fewer ways. -/
theorem less_lt (h : topo (a ++ e :: b) = some r) {s t : ByteArray} (h1 : Rch (sucL (a ++ e :: b)) s e.1) (h2 : Rch (sucL (a ++ e :: b)) e.2 t) : Bw (a ++ b) t s < Bw (a ++ e :: b) t s := by
  obtain ⟨r1, hr1⟩ := topo_sub (m := a ++ b) h (fun c hc => mem_mid hc)
  have hl : (a ++ e :: b).length = (a ++ b).length + 1 := by simp; omega
  have hle : ∀ x, Bw (a ++ b) t x ≤ Bw (a ++ e :: b) t x := fun x => by
    have := less_le h t (2 * (a ++ e :: b).length + 2) x
    rw [Bw_ge hr1 t (by omega)] at this
    exact this
  have hp := Bw_pos h h2
  have hbase : Bw (a ++ b) t e.1 < Bw (a ++ e :: b) t e.1 := by
    rw [Bw_eq h, Bw_eq hr1, sumE_mid, if_pos (rfl : e.1 = e.1)]
    have := sumE_le (l := a ++ b) (f := fun c => if c.1 = e.1 then Bw (a ++ b) t c.2 else 0) (g := fun c => if c.1 = e.1 then Bw (a ++ e :: b) t c.2 else 0) (fun c _ => by
      by_cases q : c.1 = e.1
      · simp only [if_pos q]; exact hle _
      · simp only [if_neg q]; exact Nat.le_refl _)
    omega
  have key : ∀ y, Rch (sucL (a ++ e :: b)) s y → Bw (a ++ b) t y < Bw (a ++ e :: b) t y → Bw (a ++ b) t s < Bw (a ++ e :: b) t s := by
    intro y hy
    induction hy with
    | refl => exact id
    | @step y z _ hx ih =>
      intro hz
      refine ih ?_
      obtain ⟨c, hc, q1, q2⟩ := suc_mem.1 hx
      rcases List.mem_append.1 hc with hc' | hc'
      · rw [Bw_eq h, Bw_eq hr1, sumE_mid]
        have := sumE_lt (l := a ++ b) (f := fun c => if c.1 = y then Bw (a ++ b) t c.2 else 0) (g := fun c => if c.1 = y then Bw (a ++ e :: b) t c.2 else 0) (fun c _ => by
          by_cases q : c.1 = y
          · simp only [if_pos q]; exact hle _
          · simp only [if_neg q]; exact Nat.le_refl _) (c := c) (List.mem_append_left _ hc') (by simp only [if_pos q1, q2]; exact hz)
        omega
      · rcases List.mem_cons.1 hc' with rfl | hc'
        · rw [← q1]; exact hbase
        · rw [Bw_eq h, Bw_eq hr1, sumE_mid]
          have := sumE_lt (l := a ++ b) (f := fun c => if c.1 = y then Bw (a ++ b) t c.2 else 0) (g := fun c => if c.1 = y then Bw (a ++ e :: b) t c.2 else 0) (fun c _ => by
            by_cases q : c.1 = y
            · simp only [if_pos q]; exact hle _
            · simp only [if_neg q]; exact Nat.le_refl _) (c := c) (List.mem_append_right _ hc') (by simp only [if_pos q1, q2]; exact hz)
          omega
  exact key _ h1 hbase
end
end Go.Proofs.Ytmacdknicgfglaa.Gp
end
section
/- Dead nodes, plainly. -/
namespace Go.Proofs.Ytmacdknicgfglaa.Gp
set_option linter.unusedVariables false
set_option linter.unusedSimpArgs false
section
variable {l : List Ed} {x y : ByteArray} {p : List Int}
theorem dead_mem : x ∈ deadL l ↔ x ∈ nodesL l ∧ ¬ (x ∈ reachL l sL ∧ x ∈ ancL l sR) := by
  unfold deadL
  rw [List.mem_filter]
  have e : (!(decide (x ∈ reachL l ⟨#[76]⟩) && decide (x ∈ ancL l ⟨#[82]⟩))) = true ↔ ¬ (x ∈ reachL l sL ∧ x ∈ ancL l sR) := by
    show (!(decide (x ∈ reachL l sL) && decide (x ∈ ancL l sR))) = true ↔ _
    by_cases h1 : x ∈ reachL l sL <;> by_cases h2 : x ∈ ancL l sR <;> simp [h1, h2]
  rw [e]
theorem node_L (l : List Ed) : sL ∈ nodesL l := nodesL_mem.2 (.inl rfl)
theorem node_R (l : List Ed) : sR ∈ nodesL l := nodesL_mem.2 (.inr (.inl rfl))
theorem dead_not : x ∈ nodesL l → (x ∉ deadL l ↔ Rch (sucL l) sL x ∧ Rch (sucL l) x sR) := by
  intro hx
  rw [dead_mem, reach_mem, anc_mem]
  constructor
  · intro h
    have h1 := Classical.byContradiction (fun q => h ⟨hx, q⟩)
    exact ⟨h1.1.2, rch_turn' h1.2.2⟩
  · rintro ⟨h1, h2⟩ ⟨_, h3⟩
    exact h3 ⟨⟨node_L l, h1⟩, ⟨node_R l, rch_turn h2⟩⟩
theorem dead_none (h : shortL l = none) : sL ∈ deadL l ∧ sR ∈ deadL l := by
  have hr := short_none_R h
  have hno : ¬ Rch (sucL l) sL sR := fun q => hr (reach_mem.2 ⟨node_L l, q⟩)
  refine ⟨Classical.byContradiction fun q => hno ((dead_not (node_L l)).1 q).2, Classical.byContradiction fun q => hno ((dead_not (node_R l)).1 q).1⟩
theorem path_rch : ∀ {p : List Int} {x : ByteArray}, PathE l x p sR → Rch (sucL l) x sR
  | [], x, h => by rw [show x = sR from h]; exact .refl
  | i :: p, x, ⟨m, _, hm, h1, h2⟩ => .head (suc_mem.2 ⟨l[m], List.getElem_mem _, h1, rfl⟩) (path_rch h2)
/-- One contact more from rail to rail. -/
theorem nodes_LR (l : List Ed) : nodesL (l ++ [(sL, sR)]) = nodesL l := by
  rw [nodesL_snoc]
  unfold addC
  rw [addN_in (node_L l), addN_in (node_R l)]
theorem rch_LR (h : Rch (sucL l) sL sR) {a b : ByteArray} : Rch (sucL (l ++ [(sL, sR)])) a b ↔ Rch (sucL l) a b := by
  constructor
  · intro q
    induction q with
    | refl => exact .refl
    | step _ hx ih =>
      obtain ⟨c, hc, e1, e2⟩ := suc_mem.1 hx
      rcases List.mem_append.1 hc with hc | hc
      · exact ih.step (suc_mem.2 ⟨c, hc, e1, e2⟩)
      · obtain rfl := List.mem_singleton.1 hc
        rw [← e2]
        rw [← e1] at ih
        exact ih.trans h
  · exact rch_more
theorem dead_LR (h : Rch (sucL l) sL sR) : (deadL (l ++ [(sL, sR)])).length = (deadL l).length := by
  have e : deadL (l ++ [(sL, sR)]) = deadL l := by
    unfold deadL
    rw [nodes_LR]
    refine List.filter_congr fun x hx => ?_
    have e1 : (x ∈ reachL (l ++ [(sL, sR)]) ⟨#[76]⟩) ↔ (x ∈ reachL l ⟨#[76]⟩) := by
      show x ∈ reachL (l ++ [(sL, sR)]) sL ↔ x ∈ reachL l sL
      rw [reach_mem, reach_mem, rch_LR h, nodes_LR]
    have e2 : (x ∈ ancL (l ++ [(sL, sR)]) ⟨#[82]⟩) ↔ (x ∈ ancL l ⟨#[82]⟩) := by
      show x ∈ ancL (l ++ [(sL, sR)]) sR ↔ x ∈ ancL l sR
      rw [anc_mem, anc_mem, nodes_LR]
      exact ⟨fun q => ⟨q.1, rch_turn ((rch_LR h).1 (rch_turn' q.2))⟩, fun q => ⟨q.1, rch_turn ((rch_LR h).2 (rch_turn' q.2))⟩⟩
    rw [decide_eq_decide.2 e1, decide_eq_decide.2 e2]
  rw [e]
theorem short_rch (h : shortL l = some p) : Rch (sucL l) sL sR := (reach_mem.1 (short_some_R h)).2
end
end Go.Proofs.Ytmacdknicgfglaa.Gp
end
section
/- A well-formed rung: what removing and doubling a contact does to the number of ways. -/
namespace Go.Proofs.Ytmacdknicgfglaa.Gp
set_option linter.unusedVariables false
set_option linter.unusedSimpArgs false
section
variable {l a b : List Ed} {e : Ed}
/-- What Check asks. -/
theorem check_zero (h : checkL l = 0) : l.length ≠ 0 ∧ (∃ r, topo l = some r) ∧ deadL l = [] := by
  unfold checkL at h
  by_cases h0 : l.length = 0
  · rw [if_pos h0] at h; omega
  · rw [if_neg h0] at h
    by_cases h1 : errT (topo l) = 0
    · rw [if_pos h1] at h
      refine ⟨h0, ?_, ?_⟩
      · cases ht : topo l with
        | some r => exact ⟨r, rfl⟩
        | none => rw [ht] at h1; simp [errT] at h1
      · by_cases h2 : (deadL l).length = 0
        · exact List.eq_nil_of_length_eq_zero h2
        · rw [if_neg h2] at h; omega
    · rw [if_neg h1] at h; exact absurd h h1
theorem check_rch (h : checkL l = 0) {x : ByteArray} (hx : x ∈ nodesL l) : Rch (sucL l) sL x ∧ Rch (sucL l) x sR := by
  obtain ⟨_, _, hd⟩ := check_zero h
  refine (dead_not hx).1 ?_
  rw [hd]
  simp
theorem count_eq {r : List ByteArray} (h : topo l = some r) (hl : l.length ≤ 30) : countL l = ((Bw l sR sL : Int), 0) := by
  have e0 : errT (topo l) = 0 := by rw [h]; rfl
  unfold countL
  rw [if_pos e0, capN_small]
  refine Nat.le_trans (Bw_pow h sR sL) ?_
  exact Nat.le_trans (Nat.pow_le_pow_right (by omega) hl) (by decide)
/-- Removing a contact reduces the number of paths, doubling it adds the same number. -/
theorem every (h : checkL (a ++ e :: b) = 0) (hl : (a ++ e :: b).length ≤ 20) : ∃ A W T : Nat, countL (a ++ e :: b) = ((A : Int), 0) ∧ countL (a ++ b) = ((W : Int), 0) ∧ countL (a ++ e :: b ++ [e]) = ((T : Int), 0) ∧ W < A ∧ T + W = 2 * A ∧ A ≤ 1048576 := by
  obtain ⟨_, ⟨r, hr⟩, _⟩ := check_zero h
  have he : e ∈ a ++ e :: b := by simp
  obtain ⟨r1, h1⟩ := topo_sub (m := a ++ b) hr (fun c hc => mem_mid hc)
  obtain ⟨r2, h2⟩ := topo_sub (m := a ++ e :: b ++ [e]) hr (fun c hc => by
    rcases List.mem_append.1 hc with hc | hc
    · exact hc
    · rw [List.mem_singleton.1 hc]; simp)
  have l1 : (a ++ b).length ≤ 30 := by simp at hl ⊢; omega
  have l2 : (a ++ e :: b ++ [e]).length ≤ 30 := by simp at hl ⊢; omega
  refine ⟨_, _, _, count_eq hr (by omega), count_eq h1 l1, count_eq h2 l2, less_lt hr (check_rch h (nodes_1 he)).1 (check_rch h (nodes_2 he)).2, twice_Bw hr sR sL, ?_⟩
  exact Nat.le_trans (Bw_pow hr sR sL) (Nat.le_trans (Nat.pow_le_pow_right (by omega) hl) (by decide))
end
end Go.Proofs.Ytmacdknicgfglaa.Gp
end
section
/- Two rungs side by side, and one behind the other: ways, distances, Check. -/
namespace Go.Proofs.Ytmacdknicgfglaa.Gp
set_option linter.unusedVariables false
set_option linter.unusedSimpArgs false
/-- The nodes renamed. -/
def mvE (f : ByteArray → ByteArray) (m : List Ed) : List Ed := m.map fun c => (f c.1, f c.2)
section
variable {a b : List Ed} {f g : ByteArray → ByteArray} {t x y z : ByteArray}
theorem mv_mem {c : Ed} : c ∈ mvE f a ↔ ∃ d ∈ a, (f d.1, f d.2) = c := List.mem_map
theorem mv_len : (mvE f a).length = a.length := List.length_map ..
theorem mv_sum (F : Ed → Nat) : sumE (mvE f a) F = sumE a (fun c => F (f c.1, f c.2)) := by
  unfold sumE mvE
  rw [List.map_map]
  rfl
theorem mv_suc (h : y ∈ sucL a x) : f y ∈ sucL (mvE f a) (f x) := by
  obtain ⟨c, hc, rfl, rfl⟩ := suc_mem.1 h
  exact suc_mem.2 ⟨_, mv_mem.2 ⟨c, hc, rfl⟩, rfl, rfl⟩
theorem mv_rch (h : Rch (sucL a) x y) : Rch (sucL (mvE f a)) (f x) (f y) := by
  induction h with
  | refl => exact .refl
  | step _ hx ih => exact ih.step (mv_suc hx)
theorem rch_l (h : Rch (sucL a) x y) : Rch (sucL (mvE f a ++ mvE g b)) (f x) (f y) := Rch.imp (fun m z hz => by
  obtain ⟨c, hc, e1, e2⟩ := suc_mem.1 hz
  exact suc_mem.2 ⟨c, List.mem_append_left _ hc, e1, e2⟩) (mv_rch h)
theorem rch_r (h : Rch (sucL b) x y) : Rch (sucL (mvE f a ++ mvE g b)) (g x) (g y) := Rch.imp (fun m z hz => by
  obtain ⟨c, hc, e1, e2⟩ := suc_mem.1 hz
  exact suc_mem.2 ⟨c, List.mem_append_right _ hc, e1, e2⟩) (mv_rch h)
/-- In a well-formed rung nothing leads into L or out of R. -/
theorem into_L (h : checkL a = 0) {c : Ed} (hc : c ∈ a) : c.2 ≠ sL := fun e => by
  obtain ⟨_, ⟨r, hr⟩, _⟩ := check_zero h
  have h1 := ord_rch hr (check_rch h (nodes_1 hc)).1
  have h2 := ord_lt hr hc
  rw [e] at h2
  omega
theorem out_R (h : checkL a = 0) {c : Ed} (hc : c ∈ a) : c.1 ≠ sR := fun e => by
  obtain ⟨_, ⟨r, hr⟩, _⟩ := check_zero h
  have h1 := ord_rch hr (check_rch h (nodes_2 hc)).2
  have h2 := ord_lt hr hc
  rw [e] at h2
  omega
theorem bw_succ (l : List Ed) (t : ByteArray) (k : Nat) (x : ByteArray) : bw l t (k + 1) x = (if x = t then 1 else 0) + sumE l (fun c => if c.1 = x then bw l t k c.2 else 0) := rfl
/-- Behind its entry a part of a greater graph counts as it does alone. -/
theorem part_bw {S : List Ed} {P : ByteArray → Prop} (hP : ∀ c ∈ a, P c.1 → P c.2) (hf : ∀ {x y}, f x = f y → x = y) (ht : ∀ x, P x → (f x = t ↔ x = z))
    (hS : ∀ (k : Nat) (x : ByteArray), P x → sumE S (fun c => if c.1 = f x then bw S t k c.2 else 0) = sumE (mvE f a) (fun c => if c.1 = f x then bw S t k c.2 else 0)) :
    ∀ (k : Nat) (x : ByteArray), P x → bw S t k (f x) = bw a z k x
  | 0, x, hx => by
    show (if f x = t then 1 else 0) = if x = z then 1 else 0
    by_cases e : x = z
    · rw [if_pos e, if_pos ((ht x hx).2 e)]
    · rw [if_neg e, if_neg (fun q => e ((ht x hx).1 q))]
  | k + 1, x, hx => by
    rw [bw_succ, bw_succ, hS k x hx, mv_sum]
    congr 1
    · by_cases e : x = z
      · rw [if_pos e, if_pos ((ht x hx).2 e)]
      · rw [if_neg e, if_neg (fun q => e ((ht x hx).1 q))]
    · refine sumE_congr (fun c hc => ?_)
      by_cases e : c.1 = x
      · rw [if_pos e, if_pos (congrArg f e)]
        exact part_bw hP hf ht hS k c.2 (hP c hc (e ▸ hx))
      · rw [if_neg e, if_neg (fun q => e (hf q))]
/-- What two namings must fulfil: side by side. -/
structure Side (f g : ByteArray → ByteArray) : Prop where
  fi : ∀ {x y}, f x = f y → x = y
  gi : ∀ {x y}, g x = g y → x = y
  fL : f sL = sL
  fR : f sR = sR
  gL : g sL = sL
  gR : g sR = sR
  ov : ∀ {x y}, f x = g y → (x = sL ∧ y = sL) ∨ (x = sR ∧ y = sR)
theorem Side.bw_f (h : Side f g) (ha : checkL a = 0) (hb : checkL b = 0) (k : Nat) {x : ByteArray} (hx : x ≠ sL) : bw (mvE f a ++ mvE g b) sR k (f x) = bw a sR k x := by
  refine part_bw (P := fun x => x ≠ sL) (fun c hc _ => into_L ha hc) h.fi (fun x _ => ⟨fun q => h.fi (q.trans h.fR.symm), fun q => q ▸ h.fR⟩) (fun k x hx => ?_) k x hx
  rw [sumE_append, sumE_zero (l := mvE g b), Nat.add_zero]
  intro c hc
  obtain ⟨d, hd, rfl⟩ := mv_mem.1 hc
  rw [if_neg]
  intro q
  rcases h.ov q.symm with ⟨q, _⟩ | ⟨_, q⟩
  · exact hx q
  · exact out_R hb hd q
theorem Side.bw_g (h : Side f g) (ha : checkL a = 0) (hb : checkL b = 0) (k : Nat) {x : ByteArray} (hx : x ≠ sL) : bw (mvE f a ++ mvE g b) sR k (g x) = bw b sR k x := by
  refine part_bw (P := fun x => x ≠ sL) (fun c hc _ => into_L hb hc) h.gi (fun x _ => ⟨fun q => h.gi (q.trans h.gR.symm), fun q => q ▸ h.gR⟩) (fun k x hx => ?_) k x hx
  rw [sumE_append, sumE_zero (l := mvE f a), Nat.zero_add]
  intro c hc
  obtain ⟨d, hd, rfl⟩ := mv_mem.1 hc
  rw [if_neg]
  intro q
  rcases h.ov q with ⟨_, q⟩ | ⟨q, _⟩
  · exact hx q
  · exact out_R ha hd q
theorem Side.bw_L (h : Side f g) (ha : checkL a = 0) (hb : checkL b = 0) (k : Nat) : bw (mvE f a ++ mvE g b) sR (k + 1) sL = bw a sR (k + 1) sL + bw b sR (k + 1) sL := by
  have ne : ¬ sL = sR := by decide +kernel
  rw [bw_succ, bw_succ, bw_succ, if_neg ne, Nat.zero_add, Nat.zero_add, Nat.zero_add, sumE_append, mv_sum, mv_sum]
  congr 1
  · refine sumE_congr (fun c hc => ?_)
    by_cases e : c.1 = sL
    · rw [if_pos e, if_pos (by show f c.1 = sL; rw [e, h.fL])]
      exact h.bw_f ha hb k (into_L ha hc)
    · rw [if_neg e, if_neg (fun q => e (h.fi (q.trans h.fL.symm)))]
  · refine sumE_congr (fun c hc => ?_)
    by_cases e : c.1 = sL
    · rw [if_pos e, if_pos (by show g c.1 = sL; rw [e, h.gL])]
      exact h.bw_g ha hb k (into_L hb hc)
    · rw [if_neg e, if_neg (fun q => e (h.gi (q.trans h.gL.symm)))]
theorem Side.topo (h : Side f g) (ha : checkL a = 0) (hb : checkL b = 0) : ∃ r, topo (mvE f a ++ mvE g b) = some r := by
  classical
  obtain ⟨_, ⟨ra, hra⟩, _⟩ := check_zero ha
  obtain ⟨_, ⟨rb, hrb⟩, _⟩ := check_zero hb
  have ne : ¬ sR = sL := by decide +kernel
  let F : ByteArray → Nat := fun z => if z = sL then 0 else if z = sR then ra.length + rb.length + 5 else if q : ∃ x, f x = z then posL ra q.choose + 1 else if q : ∃ x, g x = z then posL rb q.choose + 1 else 0
  have FL : F sL = 0 := if_pos rfl
  have FR : F sR = ra.length + rb.length + 5 := by show (if sR = sL then 0 else if sR = sR then _ else _) = _; rw [if_neg ne, if_pos rfl]
  have Ff : ∀ x, x ≠ sL → x ≠ sR → F (f x) = posL ra x + 1 := fun x h1 h2 => by
    show (if f x = sL then 0 else if f x = sR then ra.length + rb.length + 5 else if q : ∃ x', f x' = f x then posL ra q.choose + 1 else if q : ∃ x', g x' = f x then posL rb q.choose + 1 else 0) = _
    have q : ∃ x', f x' = f x := ⟨x, rfl⟩
    rw [if_neg (fun e => h1 (h.fi (e.trans h.fL.symm))), if_neg (fun e => h2 (h.fi (e.trans h.fR.symm))), dif_pos q, h.fi q.choose_spec]
  have Fg : ∀ x, x ≠ sL → x ≠ sR → F (g x) = posL rb x + 1 := fun x h1 h2 => by
    show (if g x = sL then 0 else if g x = sR then ra.length + rb.length + 5 else if q : ∃ x', f x' = g x then posL ra q.choose + 1 else if q : ∃ x', g x' = g x then posL rb q.choose + 1 else 0) = _
    have q : ∃ x', g x' = g x := ⟨x, rfl⟩
    rw [if_neg (fun e => h1 (h.gi (e.trans h.gL.symm))), if_neg (fun e => h2 (h.gi (e.trans h.gR.symm))), dif_neg (by rintro ⟨x', e⟩; rcases h.ov e with ⟨_, e⟩ | ⟨_, e⟩; exact h1 e; exact h2 e), dif_pos q, h.gi q.choose_spec]
  refine topo_rank F fun c hc => ?_
  rcases List.mem_append.1 hc with hc | hc
  · obtain ⟨d, hd, rfl⟩ := mv_mem.1 hc
    have h1 := out_R ha hd
    have h2 := into_L ha hd
    have h3 := ord_lt hra hd
    have h4 := posL_le ra d.1
    show F (f d.1) < F (f d.2)
    by_cases e1 : d.1 = sL
    · rw [e1, h.fL, FL]
      by_cases e2 : d.2 = sR
      · rw [e2, h.fR, FR]; omega
      · rw [Ff _ h2 e2]; omega
    · rw [Ff _ e1 h1]
      by_cases e2 : d.2 = sR
      · rw [e2, h.fR, FR]; omega
      · rw [Ff _ h2 e2]; omega
  · obtain ⟨d, hd, rfl⟩ := mv_mem.1 hc
    have h1 := out_R hb hd
    have h2 := into_L hb hd
    have h3 := ord_lt hrb hd
    have h4 := posL_le rb d.1
    show F (g d.1) < F (g d.2)
    by_cases e1 : d.1 = sL
    · rw [e1, h.gL, FL]
      by_cases e2 : d.2 = sR
      · rw [e2, h.gR, FR]; omega
      · rw [Fg _ h2 e2]; omega
    · rw [Fg _ e1 h1]
      by_cases e2 : d.2 = sR
      · rw [e2, h.gR, FR]; omega
      · rw [Fg _ h2 e2]; omega
theorem check_of {l : List Ed} {r : List ByteArray} (h0 : l.length ≠ 0) (h1 : topo l = some r) (h2 : ∀ x ∈ nodesL l, Rch (sucL l) sL x ∧ Rch (sucL l) x sR) : checkL l = 0 := by
  unfold checkL
  have : deadL l = [] := List.eq_nil_iff_forall_not_mem.2 fun x hx => (dead_not (dead_mem.1 hx).1).2 (h2 x (dead_mem.1 hx).1) hx
  rw [if_neg h0, h1, if_pos (show errT (some r) = 0 from rfl), this]
  rfl
theorem Side.check (h : Side f g) (ha : checkL a = 0) (hb : checkL b = 0) : checkL (mvE f a ++ mvE g b) = 0 := by
  obtain ⟨r, hr⟩ := h.topo ha hb
  have h0 := (check_zero ha).1
  refine check_of (by rw [List.length_append, mv_len]; omega) hr fun x hx => ?_
  have kf : ∀ y ∈ nodesL a, Rch (sucL (mvE f a ++ mvE g b)) sL (f y) ∧ Rch (sucL (mvE f a ++ mvE g b)) (f y) sR := fun y hy => by
    obtain ⟨h1, h2⟩ := check_rch ha hy
    have h3 := rch_l (f := f) (g := g) (b := b) h1
    have h4 := rch_l (f := f) (g := g) (b := b) h2
    rw [h.fL] at h3
    rw [h.fR] at h4
    exact ⟨h3, h4⟩
  have kg : ∀ y ∈ nodesL b, Rch (sucL (mvE f a ++ mvE g b)) sL (g y) ∧ Rch (sucL (mvE f a ++ mvE g b)) (g y) sR := fun y hy => by
    obtain ⟨h1, h2⟩ := check_rch hb hy
    have h3 := rch_r (f := f) (g := g) (a := a) h1
    have h4 := rch_r (f := f) (g := g) (a := a) h2
    rw [h.gL] at h3
    rw [h.gR] at h4
    exact ⟨h3, h4⟩
  rcases nodesL_mem.1 hx with rfl | rfl | ⟨c, hc, e⟩
  · have := kf sL (node_L a); rw [h.fL] at this; exact this
  · have := kf sR (node_R a); rw [h.fR] at this; exact this
  · rcases List.mem_append.1 hc with hc | hc
    · obtain ⟨d, hd, rfl⟩ := mv_mem.1 hc
      rcases e with e | e
      · rw [e]; exact kf _ (nodes_1 hd)
      · rw [e]; exact kf _ (nodes_2 hd)
    · obtain ⟨d, hd, rfl⟩ := mv_mem.1 hc
      rcases e with e | e
      · rw [e]; exact kg _ (nodes_1 hd)
      · rw [e]; exact kg _ (nodes_2 hd)
theorem Side.count (h : Side f g) (ha : checkL a = 0) (hb : checkL b = 0) : Bw (mvE f a ++ mvE g b) sR sL = Bw a sR sL + Bw b sR sL := by
  obtain ⟨_, ⟨ra, hra⟩, _⟩ := check_zero ha
  obtain ⟨_, ⟨rb, hrb⟩, _⟩ := check_zero hb
  have hl : (mvE f a ++ mvE g b).length = a.length + b.length := by rw [List.length_append, mv_len, mv_len]
  show bw _ sR (2 * (mvE f a ++ mvE g b).length + 1 + 1) sL = _
  rw [h.bw_L ha hb, Bw_ge hra sR (by omega), Bw_ge hrb sR (by omega)]
/-- What two namings must fulfil: one behind the other. -/
structure Row (f g : ByteArray → ByteArray) : Prop where
  fi : ∀ {x y}, f x = f y → x = y
  gi : ∀ {x y}, g x = g y → x = y
  fL : f sL = sL
  fR : f sR = g sL
  gR : g sR = sR
  ov : ∀ {x y}, f x = g y → x = sR ∧ y = sL
theorem Row.bw_g (h : Row f g) (ha : checkL a = 0) (k : Nat) (x : ByteArray) : bw (mvE f a ++ mvE g b) sR k (g x) = bw b sR k x := by
  refine part_bw (P := fun _ => True) (fun c hc _ => trivial) h.gi (fun x _ => ⟨fun q => h.gi (q.trans h.gR.symm), fun q => q ▸ h.gR⟩) (fun k x hx => ?_) k x trivial
  rw [sumE_append, sumE_zero (l := mvE f a), Nat.zero_add]
  intro c hc
  obtain ⟨d, hd, rfl⟩ := mv_mem.1 hc
  rw [if_neg]
  intro q
  exact out_R ha hd (h.ov q).1
theorem Row.topo (h : Row f g) (ha : checkL a = 0) (hb : checkL b = 0) : ∃ r, topo (mvE f a ++ mvE g b) = some r := by
  classical
  obtain ⟨_, ⟨ra, hra⟩, _⟩ := check_zero ha
  obtain ⟨_, ⟨rb, hrb⟩, _⟩ := check_zero hb
  let F : ByteArray → Nat := fun z => if q : ∃ x, f x = z then posL ra q.choose else if q : ∃ x, g x = z then ra.length + 1 + posL rb q.choose else 0
  have Ff : ∀ x, F (f x) = posL ra x := fun x => by
    show (if q : ∃ x', f x' = f x then posL ra q.choose else if q : ∃ x', g x' = f x then ra.length + 1 + posL rb q.choose else 0) = _
    have q : ∃ x', f x' = f x := ⟨x, rfl⟩
    rw [dif_pos q, h.fi q.choose_spec]
  have Fg : ∀ x, x ≠ sL → F (g x) = ra.length + 1 + posL rb x := fun x h1 => by
    show (if q : ∃ x', f x' = g x then posL ra q.choose else if q : ∃ x', g x' = g x then ra.length + 1 + posL rb q.choose else 0) = _
    have q : ∃ x', g x' = g x := ⟨x, rfl⟩
    rw [dif_neg (by rintro ⟨x', e⟩; exact h1 (h.ov e).2), dif_pos q, h.gi q.choose_spec]
  refine topo_rank F fun c hc => ?_
  rcases List.mem_append.1 hc with hc | hc
  · obtain ⟨d, hd, rfl⟩ := mv_mem.1 hc
    show F (f d.1) < F (f d.2)
    rw [Ff, Ff]
    exact ord_lt hra hd
  · obtain ⟨d, hd, rfl⟩ := mv_mem.1 hc
    have h2 := into_L hb hd
    have h3 := ord_lt hrb hd
    show F (g d.1) < F (g d.2)
    rw [Fg _ h2]
    by_cases e1 : d.1 = sL
    · rw [e1, ← h.fR, Ff]
      have := posL_le ra sR
      omega
    · rw [Fg _ e1]; omega
theorem Row.check (h : Row f g) (ha : checkL a = 0) (hb : checkL b = 0) : checkL (mvE f a ++ mvE g b) = 0 := by
  obtain ⟨r, hr⟩ := h.topo ha hb
  have h0 := (check_zero ha).1
  have m1 : Rch (sucL (mvE f a ++ mvE g b)) sL (g sL) := by
    have h3 := rch_l (f := f) (g := g) (b := b) (check_rch ha (node_R a)).1
    rw [h.fL, h.fR] at h3
    exact h3
  have m2 : Rch (sucL (mvE f a ++ mvE g b)) (f sR) sR := by
    have h3 := rch_r (f := f) (g := g) (a := a) (check_rch hb (node_R b)).1
    rw [h.gR, ← h.fR] at h3
    exact h3
  have kf : ∀ y ∈ nodesL a, Rch (sucL (mvE f a ++ mvE g b)) sL (f y) ∧ Rch (sucL (mvE f a ++ mvE g b)) (f y) sR := fun y hy => by
    obtain ⟨h1, h2⟩ := check_rch ha hy
    have h3 := rch_l (f := f) (g := g) (b := b) h1
    rw [h.fL] at h3
    exact ⟨h3, (rch_l (f := f) (g := g) (b := b) h2).trans m2⟩
  have kg : ∀ y ∈ nodesL b, Rch (sucL (mvE f a ++ mvE g b)) sL (g y) ∧ Rch (sucL (mvE f a ++ mvE g b)) (g y) sR := fun y hy => by
    obtain ⟨h1, h2⟩ := check_rch hb hy
    have h4 := rch_r (f := f) (g := g) (a := a) h2
    rw [h.gR] at h4
    exact ⟨m1.trans (rch_r (f := f) (g := g) (a := a) h1), h4⟩
  refine check_of (by rw [List.length_append, mv_len]; omega) hr fun x hx => ?_
  rcases nodesL_mem.1 hx with rfl | rfl | ⟨c, hc, e⟩
  · have := kf sL (node_L a); rw [h.fL] at this; exact this
  · have := kg sR (node_R b); rw [h.gR] at this; exact this
  · rcases List.mem_append.1 hc with hc | hc
    · obtain ⟨d, hd, rfl⟩ := mv_mem.1 hc
      rcases e with e | e
      · rw [e]; exact kf _ (nodes_1 hd)
      · rw [e]; exact kf _ (nodes_2 hd)
    · obtain ⟨d, hd, rfl⟩ := mv_mem.1 hc
      rcases e with e | e
      · rw [e]; exact kg _ (nodes_1 hd)
      · rw [e]; exact kg _ (nodes_2 hd)
theorem Row.count (h : Row f g) (ha : checkL a = 0) (hb : checkL b = 0) : Bw (mvE f a ++ mvE g b) sR sL = Bw b sR sL * Bw a sR sL := by
  obtain ⟨_, ⟨ra, hra⟩, _⟩ := check_zero ha
  obtain ⟨_, ⟨rb, hrb⟩, _⟩ := check_zero hb
  obtain ⟨r, hr⟩ := h.topo ha hb
  have ne : ¬ sL = sR := by decide +kernel
  have hl : (mvE f a ++ mvE g b).length = a.length + b.length := by rw [List.length_append, mv_len, mv_len]
  have Wg : ∀ y, Bw (mvE f a ++ mvE g b) sR (g y) = Bw b sR y := fun y => by
    show bw _ sR (2 * (mvE f a ++ mvE g b).length + 2) (g y) = _
    rw [h.bw_g ha, Bw_ge hrb sR (by omega)]
  have key := Bw_uniq hra sR (Bw b sR sL) (G := fun x => Bw (mvE f a ++ mvE g b) sR (f x)) (fun x => by
    show Bw (mvE f a ++ mvE g b) sR (f x) = _
    rw [Bw_eq hr sR (f x), if_neg (fun q => ne (h.ov (q.trans h.gR.symm)).2.symm), Nat.zero_add, sumE_append, mv_sum, mv_sum, Nat.add_comm]
    congr 1
    · by_cases e : x = sR
      · rw [if_pos e, Bw_other hrb ne]
        refine sumE_congr (fun c hc => ?_)
        show (if g c.1 = f x then Bw _ sR (g c.2) else 0) = _
        by_cases e1 : c.1 = sL
        · rw [if_pos e1, if_pos (by rw [e1, e, h.fR]), Wg]
        · rw [if_neg e1, if_neg (fun q => e1 (h.ov q.symm).2)]
      · rw [if_neg e]
        refine sumE_zero (fun c hc => ?_)
        rw [if_neg (fun q => e (h.ov (Eq.symm q)).1)]
    · refine sumE_congr (fun c hc => ?_)
      show (if f c.1 = f x then Bw _ sR (f c.2) else 0) = _
      by_cases e1 : c.1 = x
      · rw [if_pos e1, if_pos (by rw [e1])]
      · rw [if_neg e1, if_neg (fun q => e1 (h.fi q))]) sL
  have key' : Bw (mvE f a ++ mvE g b) sR (f sL) = Bw b sR sL * Bw a sR sL := key
  rw [h.fL] at key'
  exact key'
/-- Walks of the row. -/
theorem Row.wk_g (h : Row f g) (ha : checkL a = 0) : ∀ (k : Nat) (x : ByteArray), wk (mvE f a ++ mvE g b) k (g x) = true ↔ wk b k x = true
  | 0, x => by
    show decide (g x = sR) = true ↔ decide (x = sR) = true
    rw [decide_eq_true_eq, decide_eq_true_eq]
    exact ⟨fun q => h.gi (q.trans h.gR.symm), fun q => q ▸ h.gR⟩
  | k + 1, x => by
    rw [wk_succ, wk_succ]
    constructor
    · rintro ⟨c, hc, e, hw⟩
      rcases List.mem_append.1 hc with hc | hc
      · obtain ⟨d, hd, rfl⟩ := mv_mem.1 hc
        exact absurd (h.ov e).1 (out_R ha hd)
      · obtain ⟨d, hd, rfl⟩ := mv_mem.1 hc
        exact ⟨d, hd, h.gi e, (Row.wk_g h ha k d.2).1 hw⟩
    · rintro ⟨d, hd, rfl, hw⟩
      exact ⟨_, List.mem_append_right _ (mv_mem.2 ⟨d, hd, rfl⟩), rfl, (Row.wk_g h ha k d.2).2 hw⟩
theorem Row.wk_f (h : Row f g) (ha : checkL a = 0) : ∀ (k : Nat) (x : ByteArray), wk (mvE f a ++ mvE g b) k (f x) = true ↔ ∃ i j, i + j = k ∧ wk a i x = true ∧ wk b j sL = true
  | 0, x => by
    have ne : ¬ sL = sR := by decide +kernel
    constructor
    · intro q
      have q : f x = sR := of_decide_eq_true q
      exact absurd (h.ov (q.trans h.gR.symm)).2.symm ne
    · rintro ⟨i, j, e, _, hw⟩
      obtain rfl : j = 0 := by omega
      exact absurd (of_decide_eq_true hw) ne
  | k + 1, x => by
    have ne : ¬ sL = sR := by decide +kernel
    rw [wk_succ]
    constructor
    · rintro ⟨c, hc, e, hw⟩
      rcases List.mem_append.1 hc with hc | hc
      · obtain ⟨d, hd, rfl⟩ := mv_mem.1 hc
        obtain ⟨i, j, e1, w1, w2⟩ := (Row.wk_f h ha k d.2).1 hw
        exact ⟨i + 1, j, by omega, wk_succ.2 ⟨d, hd, h.fi e, w1⟩, w2⟩
      · obtain ⟨d, hd, rfl⟩ := mv_mem.1 hc
        obtain ⟨e1, e2⟩ := h.ov (Eq.symm e)
        exact ⟨0, k + 1, by omega, decide_eq_true e1, wk_succ.2 ⟨d, hd, e2, (h.wk_g ha k d.2).1 hw⟩⟩
    · rintro ⟨i, j, e, w1, w2⟩
      cases i with
      | zero =>
        obtain rfl : j = k + 1 := by omega
        have e1 : x = sR := of_decide_eq_true w1
        obtain ⟨d, hd, e2, w3⟩ := wk_succ.1 w2
        exact ⟨_, List.mem_append_right _ (mv_mem.2 ⟨d, hd, rfl⟩), by show g d.1 = f x; rw [e1, e2, h.fR], (h.wk_g ha k d.2).2 w3⟩
      | succ i =>
        obtain ⟨d, hd, e2, w3⟩ := wk_succ.1 w1
        exact ⟨_, List.mem_append_left _ (mv_mem.2 ⟨d, hd, rfl⟩), by show f d.1 = f x; rw [e2], (Row.wk_f h ha k d.2).2 ⟨i, j, by omega, w3, w2⟩⟩
theorem Row.dist (h : Row f g) (ha : checkL a = 0) {i j : Nat} (h1 : IsD a i sL) (h2 : IsD b j sL) : IsD (mvE f a ++ mvE g b) (i + j) sL := by
  have w := h.wk_f (b := b) ha (i + j) sL
  rw [h.fL] at w
  refine ⟨w.2 ⟨i, j, rfl, h1.1, h2.1⟩, fun m hm => ?_⟩
  have w := h.wk_f (b := b) ha m sL
  rw [h.fL] at w
  cases q : wk (mvE f a ++ mvE g b) m sL with
  | false => rfl
  | true =>
    obtain ⟨i', j', e, w1, w2⟩ := w.1 q
    have g1 : ¬ i' < i := fun z => by have := h1.2 i' z; rw [w1] at this; cases this
    have g2 : ¬ j' < j := fun z => by have := h2.2 j' z; rw [w2] at this; cases this
    omega
theorem short_of {l : List Ed} (h : checkL l = 0) : ∃ k, IsD l k sL ∧ shortL l = some (pathG l k sL) ∧ (pathG l k sL).length = k := by
  obtain ⟨k, hk⟩ := rch_wk (check_rch h (node_L l)).2
  obtain ⟨j, _, hj⟩ := wk_isD hk
  exact ⟨j, hj, by unfold shortL; rw [dist_some.2 hj]; rfl, path_len j sL hj⟩
/-- The law, plainly. -/
theorem compose {f g p q : ByteArray → ByteArray} (h : Side f g) (k : Row p q) (ha : checkL a = 0) (hb : checkL b = 0) (la : a.length ≤ 12) (lb : b.length ≤ 12) :
    ∃ (m n : Nat) (s t u : List Int), countL a = ((m : Int), 0) ∧ countL b = ((n : Int), 0) ∧ countL (mvE f a ++ mvE g b) = (((m + n : Nat) : Int), 0) ∧ countL (mvE p a ++ mvE q b) = (((m * n : Nat) : Int), 0) ∧ m ≤ 4096 ∧ n ≤ 4096 ∧
      shortL a = some s ∧ shortL b = some t ∧ shortL (mvE p a ++ mvE q b) = some u ∧ u.length = s.length + t.length ∧ checkL (mvE f a ++ mvE g b) = 0 ∧ checkL (mvE p a ++ mvE q b) = 0 := by
  obtain ⟨_, ⟨ra, hra⟩, _⟩ := check_zero ha
  obtain ⟨_, ⟨rb, hrb⟩, _⟩ := check_zero hb
  obtain ⟨rs, hrs⟩ := h.topo ha hb
  obtain ⟨rw', hrw⟩ := k.topo ha hb
  have hl1 : (mvE f a ++ mvE g b).length = a.length + b.length := by rw [List.length_append, mv_len, mv_len]
  have hl2 : (mvE p a ++ mvE q b).length = a.length + b.length := by rw [List.length_append, mv_len, mv_len]
  obtain ⟨i, di, si, li⟩ := short_of ha
  obtain ⟨j, dj, sj, lj⟩ := short_of hb
  have dk := k.dist ha di dj
  refine ⟨Bw a sR sL, Bw b sR sL, _, _, pathG (mvE p a ++ mvE q b) (i + j) sL, count_eq hra (by omega), count_eq hrb (by omega), ?_, ?_, ?_, ?_, si, sj, ?_, ?_, h.check ha hb, k.check ha hb⟩
  · rw [count_eq hrs (by omega), h.count ha hb]
  · rw [count_eq hrw (by omega), k.count ha hb, Nat.mul_comm]
  · exact Nat.le_trans (Bw_pow hra sR sL) (Nat.le_trans (Nat.pow_le_pow_right (by omega) la) (by decide))
  · exact Nat.le_trans (Bw_pow hrb sR sL) (Nat.le_trans (Nat.pow_le_pow_right (by omega) lb) (by decide))
  · unfold shortL; rw [dist_some.2 dk]; rfl
  · rw [path_len _ _ dk, li, lj]
end
/-! ### The names -/
def sa : ByteArray := ⟨#[97]⟩
def sb : ByteArray := ⟨#[98]⟩
def sM : ByteArray := ⟨#[109, 105, 100]⟩
/-- A node's name in the greater rung. -/
def nm (o l r n : ByteArray) : ByteArray := if n = sL then l else if n = sR then r else o ++ n
theorem app_list (o n : ByteArray) : (o ++ n).data.toList = o.data.toList ++ n.data.toList := by
  rw [ByteArray.data_append, Array.toList_append]
theorem app_inj {o n m : ByteArray} (h : o ++ n = o ++ m) : n = m := by
  have h1 := congrArg (fun z : ByteArray => z.data.toList) h
  simp only [app_list] at h1
  have h2 := List.append_cancel_left h1
  exact ByteArray.ext (Array.ext' h2)
theorem app_head {o n z : ByteArray} {u : UInt8} {w : List UInt8} (ho : o.data.toList = [u]) (hz : z.data.toList = w) (hw : w.head? ≠ some u) : o ++ n ≠ z := fun h => by
  have h1 := congrArg (fun z : ByteArray => z.data.toList) h
  simp only [app_list, ho, hz] at h1
  rw [← h1] at hw
  exact hw rfl
theorem sa_sb (n m : ByteArray) : sa ++ n ≠ sb ++ m := fun h => by
  have h1 := congrArg (fun z : ByteArray => z.data.toList) h
  simp only [app_list] at h1
  have h2 := congrArg List.head? h1
  simp [sa, sb] at h2
section
variable {o l r x y : ByteArray}
theorem nm_inj (hlr : l ≠ r) (hl : ∀ n, o ++ n ≠ l) (hr : ∀ n, o ++ n ≠ r) (h : nm o l r x = nm o l r y) : x = y := by
  unfold nm at h
  by_cases a1 : x = sL
  · by_cases b1 : y = sL
    · rw [a1, b1]
    · rw [if_pos a1, if_neg b1] at h
      by_cases b2 : y = sR
      · rw [if_pos b2] at h; exact absurd h hlr
      · rw [if_neg b2] at h; exact absurd h.symm (hl _)
  · rw [if_neg a1] at h
    by_cases a2 : x = sR
    · rw [if_pos a2] at h
      by_cases b1 : y = sL
      · rw [if_pos b1] at h; exact absurd h.symm hlr
      · rw [if_neg b1] at h
        by_cases b2 : y = sR
        · rw [a2, b2]
        · rw [if_neg b2] at h; exact absurd h.symm (hr _)
    · rw [if_neg a2] at h
      by_cases b1 : y = sL
      · rw [if_pos b1] at h; exact absurd h (hl _)
      · rw [if_neg b1] at h
        by_cases b2 : y = sR
        · rw [if_pos b2] at h; exact absurd h (hr _)
        · rw [if_neg b2] at h; exact app_inj h
theorem nm_L : nm o l r sL = l := if_pos rfl
theorem nm_R : nm o l r sR = r := by unfold nm; rw [if_neg (by decide +kernel), if_pos rfl]
/-- The ways a name comes about. -/
theorem nm_way (o l r x : ByteArray) : (x = sL ∧ nm o l r x = l) ∨ (x = sR ∧ nm o l r x = r) ∨ nm o l r x = o ++ x := by
  by_cases a1 : x = sL
  · exact .inl ⟨a1, by rw [a1, nm_L]⟩
  · by_cases a2 : x = sR
    · exact .inr (.inl ⟨a2, by rw [a2, nm_R]⟩)
    · exact .inr (.inr (by unfold nm; rw [if_neg a1, if_neg a2]))
end
theorem a_L (n : ByteArray) : sa ++ n ≠ sL := app_head (u := 97) (w := [76]) rfl rfl (by decide)
theorem a_R (n : ByteArray) : sa ++ n ≠ sR := app_head (u := 97) (w := [82]) rfl rfl (by decide)
theorem a_M (n : ByteArray) : sa ++ n ≠ sM := app_head (u := 97) (w := [109, 105, 100]) rfl rfl (by decide)
theorem b_L (n : ByteArray) : sb ++ n ≠ sL := app_head (u := 98) (w := [76]) rfl rfl (by decide)
theorem b_R (n : ByteArray) : sb ++ n ≠ sR := app_head (u := 98) (w := [82]) rfl rfl (by decide)
theorem b_M (n : ByteArray) : sb ++ n ≠ sM := app_head (u := 98) (w := [109, 105, 100]) rfl rfl (by decide)
theorem L_R : sL ≠ sR := by decide +kernel
theorem L_M : sL ≠ sM := by decide +kernel
theorem M_R : sM ≠ sR := by decide +kernel
theorem side_nm : Side (nm sa sL sR) (nm sb sL sR) where
  fi := fun h => nm_inj L_R a_L a_R h
  gi := fun h => nm_inj L_R b_L b_R h
  fL := nm_L
  fR := nm_R
  gL := nm_L
  gR := nm_R
  ov := fun {x y} h => by
    rcases nm_way sa sL sR x with ⟨e1, w1⟩ | ⟨e1, w1⟩ | w1 <;> rcases nm_way sb sL sR y with ⟨e2, w2⟩ | ⟨e2, w2⟩ | w2 <;> rw [w1, w2] at h
    · exact .inl ⟨e1, e2⟩
    · exact absurd h L_R
    · exact absurd h.symm (b_L _)
    · exact absurd h.symm L_R
    · exact .inr ⟨e1, e2⟩
    · exact absurd h.symm (b_R _)
    · exact absurd h (a_L _)
    · exact absurd h (a_R _)
    · exact absurd h (sa_sb _ _)
theorem row_nm : Row (nm sa sL sM) (nm sb sM sR) where
  fi := fun h => nm_inj L_M a_L a_M h
  gi := fun h => nm_inj M_R b_M b_R h
  fL := nm_L
  fR := by rw [nm_R, nm_L]
  gR := nm_R
  ov := fun {x y} h => by
    rcases nm_way sa sL sM x with ⟨e1, w1⟩ | ⟨e1, w1⟩ | w1 <;> rcases nm_way sb sM sR y with ⟨e2, w2⟩ | ⟨e2, w2⟩ | w2 <;> rw [w1, w2] at h
    · exact absurd h L_M
    · exact absurd h L_R
    · exact absurd h.symm (b_L _)
    · exact ⟨e1, e2⟩
    · exact absurd h M_R
    · exact absurd h.symm (b_M _)
    · exact absurd h (a_M _)
    · exact absurd h (a_R _)
    · exact absurd h (sa_sb _ _)
end Go.Proofs.Ytmacdknicgfglaa.Gp
end
