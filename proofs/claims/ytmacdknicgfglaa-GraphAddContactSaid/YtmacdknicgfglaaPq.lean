/- What the printed reference functions spread and TopoSort compute. -/
import Derived.Test.YtmacdknicgfglaaPe
import Derived.Test.YtmacdknicgfglaaPr
import Derived.Test.YtmacdknicgfglaaImpl6
import Derived.Test.YtmacdknicgfglaaImpl7
import Derived.Test.YtmacdknicgfglaaImpl8
namespace Go.Proofs.Ytmacdknicgfglaa.Pe
open Go.RowKit Go.Proofs.YtmacdknicgfglaaW.PrintWords Go.Proofs.YtmacdknicgfglaaW.PrintMore Go.Proofs.Ytmacdknicgfglaa.Impl Go.Proofs.Ytmacdknicgfglaa.Gp Go.Proofs.Ytmacdknicgfglaa.Gw
set_option linter.unusedVariables false
set_option linter.unusedSimpArgs false
section
variable {a0 a3 : ByteArray} {l1 : List S41} {l2 : List S101}
theorem sp_l2 (all got : List ByteArray) (hn : all.length ≤ 3000) (hg : got.length ≤ 3000) : ∀ (d j : Nat), all.length = j + d →
    Ev (fun k => busbarref12_spread.l2 k all got ((all.take j).filter fun s => decide (s ∈ got)) (j : Int)) (all.filter fun s => decide (s ∈ got))
  | 0, j, h => by
    refine Ev.step (f := fun _ => some (all.filter fun s => decide (s ∈ got))) (fun k => ?_) (Ev.now _)
    simp only [busbarref12_spread.l2]; rw [if_neg (by omega), List.take_of_length_le (by omega)]
  | d + 1, j, h => by
    have hj : j < all.length := by omega
    have ih := sp_l2 all got hn hg d (j + 1) (by omega)
    have hl : ((all.take j).filter fun s => decide (s ∈ got)).length ≤ 3000 := by
      refine Nat.le_trans (List.length_filter_le _ _) ?_
      rw [List.length_take]; omega
    rw [List.take_succ_eq_append_getElem hj, List.filter_append] at ih
    refine Ev.step (f := fun k => (busbarref12_has.f k got all[j]).bind fun t => busbarref12_spread.l2 k all got (if t = true then ((all.take j).filter fun s => decide (s ∈ got)) ++ [all[j]] else (all.take j).filter fun s => decide (s ∈ got)) ((j + 1 : Nat) : Int)) (fun k => ?_) ?_
    · simp only [busbarref12_spread.l2]
      rw [if_pos (by omega), if_pos (by omega), rdOf_lt _ _ _ hj, w64 hj (by omega)]
      congr 1
      funext t
      cases t with
      | true => simp only [if_true]; rw [if_pos (by omega)]
      | false => simp only [Bool.false_eq_true, if_false]
    · refine Ev.bind (has_ev got all[j] (by omega)) ?_
      have e1 : [all[j]].filter (fun s => decide (s ∈ got)) = if all[j] ∈ got then [all[j]] else [] := by
        by_cases h1 : all[j] ∈ got <;> simp [h1]
      rw [e1] at ih
      by_cases h1 : all[j] ∈ got
      · simp only [h1, decide_true, if_true] at ih ⊢; exact ih
      · simp only [h1, decide_false, Bool.false_eq_true, if_false, List.append_nil] at ih ⊢; exact ih
/-- What stays of the list got. -/
def InvG (all got : List ByteArray) : Prop := (∀ y ∈ got, y ∈ all) ∧ got.Nodup
theorem invG_step {F : List Ed} {all got : List ByteArray} (hF : ∀ c ∈ F, c.2 ∈ all) (h : InvG all got) {c : Ed} (hc : c ∈ F) : InvG all (stepE got c) := by
  unfold stepE
  split
  · refine ⟨fun y hy => ?_, addN_nodup h.2⟩
    rcases addN_mem.1 hy with hy | rfl
    · exact h.1 y hy
    · exact hF c hc
  · exact h
theorem way_len (back : Bool) (l : List Ed) : (wayE back l).length = l.length := by cases back <;> simp [wayE, turnE]
theorem way_get (back : Bool) {j : Nat} (hj : j < l1.length) : (wayE back (es l1))[j]'(by rw [way_len, es_len]; exact hj) = if back = true then (l1[j].f3, l1[j].f2) else (l1[j].f2, l1[j].f3) := by
  cases back <;> simp [wayE, turnE, es]
theorem way_2 (back : Bool) {l : List Ed} {c : Ed} (h : c ∈ wayE back l) : c.2 ∈ nodesL l := by
  cases back with
  | false => exact nodes_2 h
  | true => exact nodes_1 (turn_mem.1 h)
theorem sp_l1 (back : Bool) (all : List ByteArray) (x : Int) (r : List ByteArray) (hn : l1.length ≤ 1000) (ha : all.length ≤ 3000) (hall : ∀ c ∈ wayE back (es l1), c.2 ∈ all) : ∀ (d j : Nat) (got : List ByteArray), l1.length = j + d → InvG all got →
    Ev (fun k => busbarref12_spread.l0 k back all (((wayE back (es l1)).drop j).foldl stepE got) (wrap64 (x + 1)) a0 l1 l2 a3) r → Ev (fun k => busbarref12_spread.l1 k back all got x (j : Int) a0 l1 l2 a3) r
  | 0, j, got, h, hg, hk => by
    rw [List.drop_of_length_le (by rw [way_len, es_len]; omega)] at hk
    refine Ev.step (fun k => ?_) hk
    simp only [busbarref12_spread.l1]; rw [if_neg (by omega)]; rfl
  | d + 1, j, got, h, hg, hk => by
    have hj : j < l1.length := by omega
    have hjw : j < (wayE back (es l1)).length := by rw [way_len, es_len]; exact hj
    have hl : got.length ≤ 3000 := Nat.le_trans (nodup_len hg.2 hg.1) ha
    rw [drop_cons _ j hjw, List.foldl_cons] at hk
    have hi := invG_step hall hg (List.getElem_mem hjw)
    have ih := sp_l1 back all x r hn ha hall d (j + 1) (stepE got (wayE back (es l1))[j]) (by omega) hi hk
    generalize hc : (wayE back (es l1))[j] = c at ih hi
    have hcc : c = if back = true then (l1[j].f3, l1[j].f2) else (l1[j].f2, l1[j].f3) := by rw [← hc]; exact way_get back hj
    have key : Ev (fun k => busbarref12_spread.j2 k back all got x (j : Int) c.1 c.2 a0 l1 l2 a3) r := by
      refine Ev.step (f := fun k => (busbarref12_has.f k got c.1).bind fun t => if t = true then ((busbarref12_has.f k got c.2).bind fun u => busbarref12_spread.l1 k back all (if u = true then got else got ++ [c.2]) x ((j + 1 : Nat) : Int) a0 l1 l2 a3) else busbarref12_spread.l1 k back all got x ((j + 1 : Nat) : Int) a0 l1 l2 a3) (fun k => ?_) ?_
      · simp only [busbarref12_spread.j2]
        rw [w64 hj (by omega)]
        congr 1
        funext t
        cases t with
        | false => rfl
        | true =>
          simp only [if_true]
          congr 1
          funext u
          cases u with
          | true => rfl
          | false => simp only [Bool.false_eq_true, if_false]; rw [if_pos (by omega)]
      · refine Ev.bind (has_ev got c.1 (by omega)) ?_
        unfold stepE at ih
        by_cases h1 : c.1 ∈ got
        · rw [if_pos h1] at ih
          rw [decide_eq_true h1]
          simp only [if_true]
          refine Ev.bind (has_ev got c.2 (by omega)) ?_
          have e1 : (if decide (c.2 ∈ got) = true then got else got ++ [c.2]) = addN got c.2 := by unfold addN; simp
          rw [e1]; exact ih
        · rw [if_neg h1] at ih
          rw [decide_eq_false h1]
          simp only [Bool.false_eq_true, if_false]
          exact ih
    refine Ev.step (fun k => ?_) key
    simp only [busbarref12_spread.l1]
    rw [if_pos (by omega), if_pos (by omega), rd41_lt _ _ hj, hcc]
    cases back <;> simp
theorem invG_round {F : List Ed} {all : List ByteArray} (hF : ∀ c ∈ F, c.2 ∈ all) : ∀ got, InvG all got → InvG all (roundE F got) := roundE_inv (Q := InvG all) (fun got h c hc => invG_step hF h hc)
theorem sp_l0 (back : Bool) (all : List ByteArray) (hn : l1.length ≤ 1000) (ha : all.length ≤ 3000) (hall : ∀ c ∈ wayE back (es l1), c.2 ∈ all) : ∀ (d j : Nat) (got : List ByteArray), all.length = j + d → InvG all got →
    Ev (fun k => busbarref12_spread.l0 k back all got (j : Int) a0 l1 l2 a3) (all.filter fun s => decide (s ∈ roundsE (wayE back (es l1)) d got))
  | 0, j, got, h, hg => by
    have h2 := sp_l2 all got ha (Nat.le_trans (nodup_len hg.2 hg.1) ha) all.length 0 (by omega)
    refine Ev.step (fun k => ?_) h2
    simp only [busbarref12_spread.l0]; rw [if_neg (by omega)]; rfl
  | d + 1, j, got, h, hg => by
    have ih := sp_l0 back all hn ha hall d (j + 1) (roundE (wayE back (es l1)) got) (by omega) (invG_round hall got hg)
    have hw : wrap64 ((j : Int) + 1) = ((j + 1 : Nat) : Int) := w64 (n := all.length) (by omega) (by omega)
    have h2 := sp_l1 (a0 := a0) (a3 := a3) (l2 := l2) back all (j : Int) _ hn ha hall l1.length 0 got (by omega) hg (by rw [hw]; exact ih)
    refine Ev.step (fun k => ?_) h2
    simp only [busbarref12_spread.l0]; rw [if_pos (by omega)]; rfl
theorem spread_ev (back : Bool) (hn : l1.length ≤ 1000) (n : ByteArray) : Ev (fun k => busbarref12_spread.f k a0 l1 l2 a3 n back) (spreadL (es l1) n back) := by
  have hlen : (nodesL (es l1)).length ≤ 3000 := by have := nodesL_len (es l1); rw [es_len] at this; omega
  unfold busbarref12_spread.f spreadL
  refine Ev.bind (nodes_ev a0 a3 l1 l2 hn) (Ev.bind (has_ev (nodesL (es l1)) n (by omega)) ?_)
  by_cases h : n ∈ nodesL (es l1)
  · rw [decide_eq_true h, if_pos h]
    simp only [if_true]
    exact sp_l0 back (nodesL (es l1)) hn hlen (fun c hc => way_2 back hc) (nodesL (es l1)).length 0 [n] (by omega) ⟨fun y hy => by rw [List.mem_singleton.1 hy]; exact h, by simp⟩
  · rw [decide_eq_false h, if_neg h]
    simp only [Bool.false_eq_true, if_false]
    exact Ev.now _
theorem rreach_ev (hn : l1.length ≤ 1000) (n : ByteArray) : Ev (fun k => busbarref12_Reachable.f k a0 l1 l2 a3 n) (reachL (es l1) n) := by
  rw [reach_ref]
  unfold busbarref12_Reachable.f
  exact Ev.bind (spread_ev false hn n) (Ev.now _)
theorem ranc_ev (hn : l1.length ≤ 1000) (n : ByteArray) : Ev (fun k => busbarref12_Ancestors.f k a0 l1 l2 a3 n) (ancL (es l1) n) := by
  rw [anc_ref]
  unfold busbarref12_Ancestors.f
  exact Ev.bind (spread_ev true hn n) (Ev.now _)
end
end Go.Proofs.Ytmacdknicgfglaa.Pe
