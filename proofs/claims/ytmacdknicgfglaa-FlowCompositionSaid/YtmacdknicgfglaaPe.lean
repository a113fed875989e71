/- Plain laws: what the printed functions of the reference of chapter 12 compute. No program in sight. -/
import Derived.Test.YtmacdknicgfglaaGo
import Derived.Test.YtmacdknicgfglaaGp
import Derived.Test.YtmacdknicgfglaaIm0
namespace Go.Proofs.Ytmacdknicgfglaa.Pe
open Go.RowKit Go.Proofs.YtmacdknicgfglaaW.PrintWords Go.Proofs.YtmacdknicgfglaaW.PrintMore Go.Proofs.Ytmacdknicgfglaa.Impl Go.Proofs.Ytmacdknicgfglaa.Gp Go.Proofs.Ytmacdknicgfglaa.Gw
set_option linter.unusedVariables false
set_option linter.unusedSimpArgs false
theorem w64 {j n : Nat} (h : j < n) (hn : n ≤ 9223372036854775807) : wrap64 ((j : Int) + 1) = ((j + 1 : Nat) : Int) := by
  unfold wrap64; omega
theorem rdOf_lt {α : Type} (d : α) (l : List α) (j : Nat) (h : j < l.length) : rdOf d l (j : Int) = l[j] := by
  simp [rdOf, List.getD_eq_getElem?_getD, List.getElem?_eq_getElem h]
theorem rd_lt (l : List Int) (j : Nat) (h : j < l.length) : rd l (j : Int) = l[j] := by
  simp [rd, List.getD_eq_getElem?_getD, List.getElem?_eq_getElem h]
theorem rd41_lt (l : List S41) (j : Nat) (h : j < l.length) : rd_T41 l (j : Int) = l[j] := by
  simp [rd_T41, List.getD_eq_getElem?_getD, List.getElem?_eq_getElem h]
theorem drop_cons {α : Type} (l : List α) (j : Nat) (h : j < l.length) : l.drop j = l[j] :: l.drop (j + 1) := List.drop_eq_getElem_cons h
theorem toList_inj {a b : ByteArray} : a.toList = b.toList ↔ a = b := str_eq
theorem eq_drop {α : Type} {l m : List α} {j : Nat} (h1 : j < l.length) (h2 : j < m.length) : (l.drop j = m.drop j) ↔ (l[j] = m[j] ∧ l.drop (j + 1) = m.drop (j + 1)) := by
  rw [drop_cons l j h1, drop_cons m j h2, List.cons.injEq]
theorem eqS_l0 (l m : List ByteArray) (he : l.length = m.length) (hn : l.length ≤ 9223372036854775807) : ∀ (d j : Nat), l.length = j + d →
    Ev (fun k => slices_Equal_string_string.l0 k l m (l.length : Int) (j : Int)) (decide (l.drop j = m.drop j))
  | 0, j, h => by
    refine Ev.step (f := fun _ => some true) (fun k => ?_) ?_
    · simp only [slices_Equal_string_string.l0]; rw [if_neg (by omega)]
    · rw [List.drop_of_length_le (by omega), List.drop_of_length_le (by omega), decide_eq_true rfl]; exact Ev.now _
  | d + 1, j, h => by
    have hj : j < l.length := by omega
    have hm : j < m.length := by omega
    have ih := eqS_l0 l m he hn d (j + 1) (by omega)
    by_cases hb : l[j] = m[j]
    · refine Ev.step (fun k => ?_) (f := fun k => slices_Equal_string_string.l0 k l m (l.length : Int) ((j + 1 : Nat) : Int)) ?_
      · simp only [slices_Equal_string_string.l0]
        rw [if_pos (by omega), if_pos (by omega), if_pos (by omega), if_pos (by omega), rdOf_lt _ _ _ hj, rdOf_lt _ _ _ hm, if_pos (by rw [hb]), w64 hj hn]
      · have : decide (l.drop j = m.drop j) = decide (l.drop (j + 1) = m.drop (j + 1)) := by
          apply decide_eq_decide.2; rw [eq_drop hj hm]; simp [hb]
        rw [this]; exact ih
    · refine Ev.step (fun k => ?_) (f := fun k => some false) ?_
      · simp only [slices_Equal_string_string.l0]
        rw [if_pos (by omega), if_pos (by omega), if_pos (by omega), if_pos (by omega), rdOf_lt _ _ _ hj, rdOf_lt _ _ _ hm, if_neg (fun e => hb (toList_inj.1 e))]
      · have : decide (l.drop j = m.drop j) = false := by apply decide_eq_false; rw [eq_drop hj hm]; exact fun h => hb h.1
        rw [this]; exact Ev.now _
theorem eqS_ev (l m : List ByteArray) (hn : l.length ≤ 9223372036854775807) : Ev (fun k => slices_Equal_string_string.f k l m) (decide (l = m)) := by
  by_cases he : l.length = m.length
  · refine Ev.congr (f := fun k => slices_Equal_string_string.l0 k l m (l.length : Int) ((0 : Nat) : Int)) (fun k => ?_) ?_
    · simp only [slices_Equal_string_string.f]; rw [if_pos (by omega)]; rfl
    · exact eqS_l0 l m he hn l.length 0 (by omega)
  · refine Ev.congr (f := fun _ => some false) (fun k => ?_) ?_
    · simp only [slices_Equal_string_string.f]; rw [if_neg (by omega)]
    · rw [decide_eq_false (fun e => he (by rw [e]))]; exact Ev.now _
theorem eqI_l0 (l m : List Int) (he : l.length = m.length) (hn : l.length ≤ 9223372036854775807) : ∀ (d j : Nat), l.length = j + d →
    Ev (fun k => slices_Equal_int_int.l0 k l m (l.length : Int) (j : Int)) (decide (l.drop j = m.drop j))
  | 0, j, h => by
    refine Ev.step (f := fun _ => some true) (fun k => ?_) ?_
    · simp only [slices_Equal_int_int.l0]; rw [if_neg (by omega)]
    · rw [List.drop_of_length_le (by omega), List.drop_of_length_le (by omega), decide_eq_true rfl]; exact Ev.now _
  | d + 1, j, h => by
    have hj : j < l.length := by omega
    have hm : j < m.length := by omega
    have ih := eqI_l0 l m he hn d (j + 1) (by omega)
    by_cases hb : l[j] = m[j]
    · refine Ev.step (fun k => ?_) (f := fun k => slices_Equal_int_int.l0 k l m (l.length : Int) ((j + 1 : Nat) : Int)) ?_
      · simp only [slices_Equal_int_int.l0]
        rw [if_pos (by omega), if_pos (by omega), if_pos (by omega), if_pos (by omega), rd_lt _ _ hj, rd_lt _ _ hm, if_pos hb, w64 hj hn]
      · have : decide (l.drop j = m.drop j) = decide (l.drop (j + 1) = m.drop (j + 1)) := by
          apply decide_eq_decide.2; rw [eq_drop hj hm]; simp [hb]
        rw [this]; exact ih
    · refine Ev.step (fun k => ?_) (f := fun k => some false) ?_
      · simp only [slices_Equal_int_int.l0]
        rw [if_pos (by omega), if_pos (by omega), if_pos (by omega), if_pos (by omega), rd_lt _ _ hj, rd_lt _ _ hm, if_neg hb]
      · have : decide (l.drop j = m.drop j) = false := by apply decide_eq_false; rw [eq_drop hj hm]; exact fun h => hb h.1
        rw [this]; exact Ev.now _
theorem eqI_ev (l m : List Int) (hn : l.length ≤ 9223372036854775807) : Ev (fun k => slices_Equal_int_int.f k l m) (decide (l = m)) := by
  by_cases he : l.length = m.length
  · refine Ev.congr (f := fun k => slices_Equal_int_int.l0 k l m (l.length : Int) ((0 : Nat) : Int)) (fun k => ?_) ?_
    · simp only [slices_Equal_int_int.f]; rw [if_pos (by omega)]; rfl
    · exact eqI_l0 l m he hn l.length 0 (by omega)
  · refine Ev.congr (f := fun _ => some false) (fun k => ?_) ?_
    · simp only [slices_Equal_int_int.f]; rw [if_neg (by omega)]
    · rw [decide_eq_false (fun e => he (by rw [e]))]; exact Ev.now _
/-! ### has -/
theorem has_l0 (l : List ByteArray) (s : ByteArray) (hn : l.length ≤ 9223372036854775807) : ∀ (d j : Nat), l.length = j + d →
    Ev (fun k => busbarref12_has.l0 k l s (j : Int)) (decide (s ∈ l.drop j))
  | 0, j, h => by
    refine Ev.step (f := fun _ => some false) (fun k => ?_) ?_
    · simp only [busbarref12_has.l0]; rw [if_neg (by omega)]
    · rw [List.drop_of_length_le (by omega)]; exact Ev.now _
  | d + 1, j, h => by
    have hj : j < l.length := by omega
    have ih := has_l0 l s hn d (j + 1) (by omega)
    rw [drop_cons l j hj]
    by_cases hb : l[j] = s
    · refine Ev.step (fun k => ?_) (f := fun k => some true) ?_
      · simp only [busbarref12_has.l0]
        rw [if_pos (by omega), if_pos (by omega), rdOf_lt _ _ _ hj, if_pos (by rw [hb])]
      · rw [decide_eq_true (by rw [hb]; exact List.mem_cons_self)]; exact Ev.now _
    · refine Ev.step (fun k => ?_) (f := fun k => busbarref12_has.l0 k l s ((j + 1 : Nat) : Int)) ?_
      · simp only [busbarref12_has.l0]
        rw [if_pos (by omega), if_pos (by omega), rdOf_lt _ _ _ hj, if_neg (fun e => hb (toList_inj.1 e)), w64 hj hn]
      · have : decide (s ∈ l[j] :: l.drop (j + 1)) = decide (s ∈ l.drop (j + 1)) := by
          exact decide_eq_decide.2 ⟨fun h => (List.mem_cons.1 h).resolve_left (fun e => hb e.symm), List.mem_cons_of_mem _⟩
        rw [this]; exact ih
theorem has_ev (l : List ByteArray) (s : ByteArray) (hn : l.length ≤ 9223372036854775807) : Ev (fun k => busbarref12_has.f k l s) (decide (s ∈ l)) := has_l0 l s hn l.length 0 (by omega)
/-! ### Nodes -/
theorem nodesL_take_len {l : List Ed} (hn : l.length ≤ 1000) (j : Nat) : (nodesL (l.take j)).length ≤ 2002 := by
  have := nodesL_len (l.take j); rw [List.length_take] at this; omega
theorem nodes_l0 (a0 a3 : ByteArray) (l1 : List S41) (l2 : List S101) (hn : l1.length ≤ 1000) : ∀ (d j : Nat), l1.length = j + d →
    Ev (fun k => busbarref12_Nodes.l0 k (nodesL ((es l1).take j)) (j : Int) a0 l1 l2 a3) (nodesL (es l1))
  | 0, j, h => by
    refine Ev.step (f := fun _ => some (nodesL (es l1))) (fun k => ?_) (Ev.now _)
    simp only [busbarref12_Nodes.l0]; rw [if_neg (by omega), List.take_of_length_le (by rw [es_len]; omega)]
  | d + 1, j, h => by
    have hj : j < l1.length := by omega
    have ih := nodes_l0 a0 a3 l1 l2 hn d (j + 1) (by omega)
    have hl := nodesL_take_len (l := es l1) (by rw [es_len]; exact hn) j
    rw [nodesL_take (l := es l1) (by rw [es_len]; exact hj), es_get hj] at ih
    unfold addC at ih
    have h1 := has_ev (nodesL ((es l1).take j)) l1[j].f2 (by omega)
    have hl2 := addN_len (nodesL ((es l1).take j)) l1[j].f2
    have h2 := has_ev (addN (nodesL ((es l1).take j)) l1[j].f2) l1[j].f3 (by omega)
    generalize hacc : nodesL ((es l1).take j) = acc at *
    have step : ∀ k, busbarref12_Nodes.l0 (k + 1) acc (j : Int) a0 l1 l2 a3 = (busbarref12_has.f k acc l1[j].f2).bind fun t => (busbarref12_has.f k (if t = true then acc else acc ++ [l1[j].f2]) l1[j].f3).bind fun u => busbarref12_Nodes.l0 k (if u = true then (if t = true then acc else acc ++ [l1[j].f2]) else (if t = true then acc else acc ++ [l1[j].f2]) ++ [l1[j].f3]) ((j + 1 : Nat) : Int) a0 l1 l2 a3 := by
      intro k
      simp only [busbarref12_Nodes.l0]
      rw [if_pos (by omega), if_pos (by omega), rd41_lt _ _ hj, w64 hj (by omega)]
      congr 1
      funext t
      cases t with
      | true =>
        simp only [if_true]
        congr 1
        funext u
        cases u with
        | true => rfl
        | false => simp only [Bool.false_eq_true, if_false]; rw [if_pos (by omega)]
      | false =>
        simp only [Bool.false_eq_true, if_false]
        rw [if_pos (by omega), Option.bind_some]
        congr 1
        funext u
        cases u with
        | true => rfl
        | false => simp only [Bool.false_eq_true, if_false]; rw [if_pos (by simp; omega)]
    refine Ev.step step ?_
    refine Ev.bind h1 ?_
    have e1 : (if decide (l1[j].f2 ∈ acc) = true then acc else acc ++ [l1[j].f2]) = addN acc l1[j].f2 := by unfold addN; simp
    rw [e1]
    refine Ev.bind h2 ?_
    have e2 : (if decide (l1[j].f3 ∈ addN acc l1[j].f2) = true then addN acc l1[j].f2 else addN acc l1[j].f2 ++ [l1[j].f3]) = addN (addN acc l1[j].f2) l1[j].f3 := by rw [show addN (addN acc l1[j].f2) l1[j].f3 = if l1[j].f3 ∈ addN acc l1[j].f2 then _ else _ from rfl]; simp
    rw [e2]
    exact ih
theorem nodes_ev (a0 a3 : ByteArray) (l1 : List S41) (l2 : List S101) (hn : l1.length ≤ 1000) : Ev (fun k => busbarref12_Nodes.f k a0 l1 l2 a3) (nodesL (es l1)) := nodes_l0 a0 a3 l1 l2 hn l1.length 0 (by omega)
/-! ### Outgoing, Incoming -/
theorem out_l0 (a0 a3 s : ByteArray) (l1 : List S41) (l2 : List S101) (hn : l1.length ≤ 1000) : ∀ (d j : Nat), l1.length = j + d →
    Ev (fun k => busbarref12_Outgoing.l0 k s (outL ((es l1).take j) s) (j : Int) a0 l1 l2 a3) (outL (es l1) s)
  | 0, j, h => by
    refine Ev.step (f := fun _ => some (outL (es l1) s)) (fun k => ?_) (Ev.now _)
    simp only [busbarref12_Outgoing.l0]; rw [if_neg (by omega), List.take_of_length_le (by rw [es_len]; omega)]
  | d + 1, j, h => by
    have hj : j < l1.length := by omega
    have ih := out_l0 a0 a3 s l1 l2 hn d (j + 1) (by omega)
    have hl := idxs_len (fun c => decide (c.1 = s)) ((es l1).take j)
    rw [List.length_take, es_len] at hl
    unfold outL at ih ⊢
    rw [idxs_take _ (by rw [es_len]; exact hj), es_get hj] at ih
    by_cases hb : l1[j].f2 = s
    · rw [if_pos (decide_eq_true hb)] at ih
      refine Ev.step (fun k => ?_) ih
      simp only [busbarref12_Outgoing.l0]
      rw [if_pos (by omega), if_pos (by omega), rd41_lt _ _ hj, if_pos (by rw [hb]), if_pos (by omega), w64 hj (by omega)]
    · rw [if_neg (by simpa using hb)] at ih
      refine Ev.step (fun k => ?_) ih
      simp only [busbarref12_Outgoing.l0]
      rw [if_pos (by omega), if_pos (by omega), rd41_lt _ _ hj, if_neg (fun e => hb (toList_inj.1 e)), w64 hj (by omega)]
theorem out_ev (a0 a3 s : ByteArray) (l1 : List S41) (l2 : List S101) (hn : l1.length ≤ 1000) : Ev (fun k => busbarref12_Outgoing.f k a0 l1 l2 a3 s) (outL (es l1) s) := out_l0 a0 a3 s l1 l2 hn l1.length 0 (by omega)
theorem in_l0 (a0 a3 s : ByteArray) (l1 : List S41) (l2 : List S101) (hn : l1.length ≤ 1000) : ∀ (d j : Nat), l1.length = j + d →
    Ev (fun k => busbarref12_Incoming.l0 k s (inL ((es l1).take j) s) (j : Int) a0 l1 l2 a3) (inL (es l1) s)
  | 0, j, h => by
    refine Ev.step (f := fun _ => some (inL (es l1) s)) (fun k => ?_) (Ev.now _)
    simp only [busbarref12_Incoming.l0]; rw [if_neg (by omega), List.take_of_length_le (by rw [es_len]; omega)]
  | d + 1, j, h => by
    have hj : j < l1.length := by omega
    have ih := in_l0 a0 a3 s l1 l2 hn d (j + 1) (by omega)
    have hl := idxs_len (fun c => decide (c.2 = s)) ((es l1).take j)
    rw [List.length_take, es_len] at hl
    unfold inL at ih ⊢
    rw [idxs_take _ (by rw [es_len]; exact hj), es_get hj] at ih
    by_cases hb : l1[j].f3 = s
    · rw [if_pos (decide_eq_true hb)] at ih
      refine Ev.step (fun k => ?_) ih
      simp only [busbarref12_Incoming.l0]
      rw [if_pos (by omega), if_pos (by omega), rd41_lt _ _ hj, if_pos (by rw [hb]), if_pos (by omega), w64 hj (by omega)]
    · rw [if_neg (by simpa using hb)] at ih
      refine Ev.step (fun k => ?_) ih
      simp only [busbarref12_Incoming.l0]
      rw [if_pos (by omega), if_pos (by omega), rd41_lt _ _ hj, if_neg (fun e => hb (toList_inj.1 e)), w64 hj (by omega)]
theorem in_ev (a0 a3 s : ByteArray) (l1 : List S41) (l2 : List S101) (hn : l1.length ≤ 1000) : Ev (fun k => busbarref12_Incoming.f k a0 l1 l2 a3 s) (inL (es l1) s) := in_l0 a0 a3 s l1 l2 hn l1.length 0 (by omega)
end Go.Proofs.Ytmacdknicgfglaa.Pe
