/- Plain laws of an added contact, and of all contacts turned. -/
import Derived.Test.YtmacdknicgfglaaPr
import Derived.Test.YtmacdknicgfglaaPo
namespace Go.Proofs.Ytmacdknicgfglaa.Gp
set_option linter.unusedVariables false
set_option linter.unusedSimpArgs false
theorem nodes_more {l m : List Ed} {x : ByteArray} (h : x ∈ nodesL l) : x ∈ nodesL (l ++ m) := by
  rw [nodesL_mem] at h ⊢
  rcases h with h | h | ⟨c, hc, h⟩
  · exact .inl h
  · exact .inr (.inl h)
  · exact .inr (.inr ⟨c, List.mem_append_left _ hc, h⟩)
theorem rch_more {l m : List Ed} {a b : ByteArray} (h : Rch (sucL l) a b) : Rch (sucL (l ++ m)) a b :=
  h.imp (fun n x hx => by
    obtain ⟨c, hc, h1, h2⟩ := suc_mem.1 hx
    exact suc_mem.2 ⟨c, List.mem_append_left _ hc, h1, h2⟩)
theorem reach_more {l m : List Ed} {n x : ByteArray} (h : x ∈ reachL l n) : x ∈ reachL (l ++ m) n := by
  rw [reach_mem] at h ⊢
  exact ⟨nodes_more h.1, rch_more h.2⟩
theorem reach_new {l : List Ed} {n a b : ByteArray} (h : a ∈ reachL (l ++ [(a, b)]) n) : b ∈ reachL (l ++ [(a, b)]) n := by
  rw [reach_mem] at h ⊢
  exact ⟨h.1, h.2.step (suc_mem.2 ⟨(a, b), by simp, rfl, rfl⟩)⟩
theorem nodes_more_len (l m : List Ed) : (nodesL l).length ≤ (nodesL (l ++ m)).length := nodup_len (nodesL_nodup l) (fun x hx => nodes_more hx)
/-- The rails come first. -/
theorem addN_pre {acc : List ByteArray} (s : ByteArray) : acc <+: addN acc s := by
  unfold addN
  split
  · exact List.prefix_refl _
  · exact List.prefix_append _ _
theorem fold_pre : ∀ (l : List Ed) (acc : List ByteArray), acc <+: l.foldl addC acc
  | [], acc => List.prefix_refl _
  | c :: l, acc => ((addN_pre c.1).trans (addN_pre c.2)).trans (fold_pre l _)
theorem nodes_rails (l : List Ed) : ∃ t, nodesL l = sL :: sR :: t := by
  obtain ⟨t, ht⟩ := fold_pre l [sL, sR]
  exact ⟨t, ht.symm⟩
/-! ### All contacts turned -/
theorem turn_len (l : List Ed) : (turnE l).length = l.length := by simp [turnE]
theorem turn_get {l : List Ed} {j : Nat} (h : j < l.length) : (turnE l)[j]'(by rw [turn_len]; exact h) = (l[j].2, l[j].1) := by simp [turnE]
theorem idxs_turn (l : List Ed) (p : Ed → Bool) : idxs p (turnE l) = idxs (fun c => p (c.2, c.1)) l := by
  unfold idxs
  rw [turn_len]
  congr 1
  refine List.filter_congr fun i hi => ?_
  rw [List.mem_range] at hi
  rw [List.getD_eq_getElem?_getD, List.getD_eq_getElem?_getD, List.getElem?_eq_getElem hi, List.getElem?_eq_getElem (by rw [turn_len]; exact hi), Option.getD_some, Option.getD_some, turn_get hi]
theorem out_turn (l : List Ed) (s : ByteArray) : outL (turnE l) s = inL l s := idxs_turn l _
theorem in_turn (l : List Ed) (s : ByteArray) : inL (turnE l) s = outL l s := idxs_turn l _
theorem nodes_turn {l : List Ed} {x : ByteArray} : x ∈ nodesL (turnE l) ↔ x ∈ nodesL l := by
  rw [nodesL_mem, nodesL_mem]
  constructor
  · rintro (h | h | ⟨c, hc, h⟩)
    · exact .inl h
    · exact .inr (.inl h)
    · exact .inr (.inr ⟨_, turn_mem.1 hc, h.symm⟩)
  · rintro (h | h | ⟨c, hc, h⟩)
    · exact .inl h
    · exact .inr (.inl h)
    · exact .inr (.inr ⟨(c.2, c.1), turn_mem.2 hc, h.symm⟩)
theorem suc_turn {l : List Ed} {m x : ByteArray} : x ∈ sucL (turnE l) m ↔ x ∈ preL l m := by
  rw [suc_mem, pre_mem]
  constructor
  · rintro ⟨c, hc, h1, h2⟩; exact ⟨_, turn_mem.1 hc, h1, h2⟩
  · rintro ⟨c, hc, h1, h2⟩; exact ⟨(c.2, c.1), turn_mem.2 hc, h1, h2⟩
theorem pre_turn {l : List Ed} {m x : ByteArray} : x ∈ preL (turnE l) m ↔ x ∈ sucL l m := by
  rw [suc_mem, pre_mem]
  constructor
  · rintro ⟨c, hc, h1, h2⟩; exact ⟨_, turn_mem.1 hc, h1, h2⟩
  · rintro ⟨c, hc, h1, h2⟩; exact ⟨(c.2, c.1), turn_mem.2 hc, h1, h2⟩
theorem anc_turn {l : List Ed} {n x : ByteArray} : x ∈ ancL (turnE l) n ↔ x ∈ reachL l n := by
  rw [anc_mem, reach_mem, nodes_turn]
  exact ⟨fun h => ⟨h.1, h.2.imp (fun _ _ hx => pre_turn.1 hx)⟩, fun h => ⟨h.1, h.2.imp (fun _ _ hx => pre_turn.2 hx)⟩⟩
theorem reach_turn {l : List Ed} {n x : ByteArray} : x ∈ reachL (turnE l) n ↔ x ∈ ancL l n := by
  rw [anc_mem, reach_mem, nodes_turn]
  exact ⟨fun h => ⟨h.1, h.2.imp (fun _ _ hx => suc_turn.1 hx)⟩, fun h => ⟨h.1, h.2.imp (fun _ _ hx => suc_turn.2 hx)⟩⟩
theorem gath_nodup (l : List Ed) (q : ByteArray → List ByteArray) (n : ByteArray) : (gathL l q n).Nodup := by
  unfold gathL
  split
  · exact List.Pairwise.filter _ (nodesL_nodup l)
  · exact List.nodup_nil
theorem same_len {a b : List ByteArray} (ha : a.Nodup) (hb : b.Nodup) (h : ∀ x, x ∈ a ↔ x ∈ b) : a.length = b.length :=
  Nat.le_antisymm (nodup_len ha (fun x hx => (h x).1 hx)) (nodup_len hb (fun x hx => (h x).2 hx))
theorem anc_turn_len (l : List Ed) (n : ByteArray) : (ancL (turnE l) n).length = (reachL l n).length := same_len (gath_nodup _ _ _) (gath_nodup _ _ _) (fun x => anc_turn)
theorem reach_turn_len (l : List Ed) (n : ByteArray) : (reachL (turnE l) n).length = (ancL l n).length := same_len (gath_nodup _ _ _) (gath_nodup _ _ _) (fun x => reach_turn)
/-- A cycle is one in both directions. -/
theorem topo_comes (l : List Ed) : (topo l).isNone = comesL l l := by
  cases h : topo l with
  | none => exact (comes_some h).symm
  | some r => exact (comes_none h).symm
theorem comes_turn (l : List Ed) : comesL (turnE l) (turnE l) = comesL l l := by
  rw [Bool.eq_iff_iff]
  unfold comesL
  rw [List.any_eq_true, List.any_eq_true]
  constructor
  · rintro ⟨c, hc, h⟩
    rw [decide_eq_true_eq, reach_turn, anc_mem] at h
    exact ⟨_, turn_mem.1 hc, decide_eq_true (reach_mem.2 ⟨nodes_2 (turn_mem.1 hc), rch_turn' h.2⟩)⟩
  · rintro ⟨c, hc, h⟩
    rw [decide_eq_true_eq, reach_mem] at h
    exact ⟨(c.2, c.1), turn_mem.2 hc, decide_eq_true (reach_turn.2 (anc_mem.2 ⟨nodes_1 hc, rch_turn h.2⟩))⟩
theorem err_turn (l : List Ed) : errT (topo (turnE l)) = errT (topo l) := by
  unfold errT
  rw [topo_comes, topo_comes, comes_turn]
end Go.Proofs.Ytmacdknicgfglaa.Gp
