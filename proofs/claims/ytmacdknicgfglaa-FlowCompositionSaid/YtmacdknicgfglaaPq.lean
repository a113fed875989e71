/- What the printed reference functions spread and TopoSort compute. -/
import Derived.Test.YtmacdknicgfglaaPe
import Derived.Test.YtmacdknicgfglaaPr
import Derived.Test.YtmacdknicgfglaaIm0
import Derived.Test.YtmacdknicgfglaaIm1
namespace Go.Proofs.Ytmacdknicgfglaa.Pe
open Go.RowKit Go.Proofs.YtmacdknicgfglaaW.PrintWords Go.Proofs.YtmacdknicgfglaaW.PrintMore Go.Proofs.Ytmacdknicgfglaa.Impl Go.Proofs.Ytmacdknicgfglaa.Gp Go.Proofs.Ytmacdknicgfglaa.Gw
set_option linter.unusedVariables false
set_option linter.unusedSimpArgs false
section
variable {a0 a3 : ByteArray} {l1 : List S41} {l2 : List S101}
theorem sp_l2 (all got : List ByteArray) (hn : all.length ≤ 3000) (hg : got.length ≤ 3000) : ∀ (d j : Nat), all.length = j + d →
    Ev (fun k => busbarref12_spread.l2 k all got ((all.take j).filter fun s => decide (s ∈ got)) (j : Int)) (all.filter fun s => decide (s ∈ got))
  | 0, j, h => by
    refine Ev.step (f := fun _ => some (all.filter fun s => decide (s ∈ got))) (fun k => ?_) (Ev.now _)
    simp only [busbarref12_spread.l2]; rw [if_neg (by omega), List.take_of_length_le (by omega)]
  | d + 1, j, h => by
    have hj : j < all.length := by omega
    have ih := sp_l2 all got hn hg d (j + 1) (by omega)
    have hl : ((all.take j).filter fun s => decide (s ∈ got)).length ≤ 3000 := by
      refine Nat.le_trans (List.length_filter_le _ _) ?_
      rw [List.length_take]; omega
    rw [List.take_succ_eq_append_getElem hj, List.filter_append] at ih
    refine Ev.step (f := fun k => (busbarref12_has.f k got all[j]).bind fun t => busbarref12_spread.l2 k all got (if t = true then ((all.take j).filter fun s => decide (s ∈ got)) ++ [all[j]] else (all.take j).filter fun s => decide (s ∈ got)) ((j + 1 : Nat) : Int)) (fun k => ?_) ?_
    · simp only [busbarref12_spread.l2]
      rw [if_pos (by omega), if_pos (by omega), rdOf_lt _ _ _ hj, w64 hj (by omega)]
      congr 1
      funext t
      cases t with
      | true => simp only [if_true]; rw [if_pos (by omega)]
      | false => simp only [Bool.false_eq_true, if_false]
    · refine Ev.bind (has_ev got all[j] (by omega)) ?_
      have e1 : [all[j]].filter (fun s => decide (s ∈ got)) = if all[j] ∈ got then [all[j]] else [] := by
        by_cases h1 : all[j] ∈ got <;> simp [h1]
      rw [e1] at ih
      by_cases h1 : all[j] ∈ got
      · simp only [h1, decide_true, if_true] at ih ⊢; exact ih
      · simp only [h1, decide_false, Bool.false_eq_true, if_false, List.append_nil] at ih ⊢; exact ih
/-- What stays of the list got. -/
def InvG (all got : List ByteArray) : Prop := (∀ y ∈ got, y ∈ all) ∧ got.Nodup
theorem invG_step {F : List Ed} {all got : List ByteArray} (hF : ∀ c ∈ F, c.2 ∈ all) (h : InvG all got) {c : Ed} (hc : c ∈ F) : InvG all (stepE got c) := by
  unfold stepE
  split
  · refine ⟨fun y hy => ?_, addN_nodup h.2⟩
    rcases addN_mem.1 hy with hy | rfl
    · exact h.1 y hy
    · exact hF c hc
  · exact h
theorem way_len (back : Bool) (l : List Ed) : (wayE back l).length = l.length := by cases back <;> simp [wayE, turnE]
theorem way_get (back : Bool) {j : Nat} (hj : j < l1.length) : (wayE back (es l1))[j]'(by rw [way_len, es_len]; exact hj) = if back = true then (l1[j].f3, l1[j].f2) else (l1[j].f2, l1[j].f3) := by
  cases back <;> simp [wayE, turnE, es]
theorem way_2 (back : Bool) {l : List Ed} {c : Ed} (h : c ∈ wayE back l) : c.2 ∈ nodesL l := by
  cases back with
  | false => exact nodes_2 h
  | true => exact nodes_1 (turn_mem.1 h)
theorem sp_l1 (back : Bool) (all : List ByteArray) (x : Int) (r : List ByteArray) (hn : l1.length ≤ 1000) (ha : all.length ≤ 3000) (hall : ∀ c ∈ wayE back (es l1), c.2 ∈ all) : ∀ (d j : Nat) (got : List ByteArray), l1.length = j + d → InvG all got →
    Ev (fun k => busbarref12_spread.l0 k back all (((wayE back (es l1)).drop j).foldl stepE got) (wrap64 (x + 1)) a0 l1 l2 a3) r → Ev (fun k => busbarref12_spread.l1 k back all got x (j : Int) a0 l1 l2 a3) r
  | 0, j, got, h, hg, hk => by
    rw [List.drop_of_length_le (by rw [way_len, es_len]; omega)] at hk
    refine Ev.step (fun k => ?_) hk
    simp only [busbarref12_spread.l1]; rw [if_neg (by omega)]; rfl
  | d + 1, j, got, h, hg, hk => by
    have hj : j < l1.length := by omega
    have hjw : j < (wayE back (es l1)).length := by rw [way_len, es_len]; exact hj
    have hl : got.length ≤ 3000 := Nat.le_trans (nodup_len hg.2 hg.1) ha
    rw [drop_cons _ j hjw, List.foldl_cons] at hk
    have hi := invG_step hall hg (List.getElem_mem hjw)
    have ih := sp_l1 back all x r hn ha hall d (j + 1) (stepE got (wayE back (es l1))[j]) (by omega) hi hk
    generalize hc : (wayE back (es l1))[j] = c at ih hi
    have hcc : c = if back = true then (l1[j].f3, l1[j].f2) else (l1[j].f2, l1[j].f3) := by rw [← hc]; exact way_get back hj
    have key : Ev (fun k => busbarref12_spread.j2 k back all got x (j : Int) c.1 c.2 a0 l1 l2 a3) r := by
      refine Ev.step (f := fun k => (busbarref12_has.f k got c.1).bind fun t => if t = true then ((busbarref12_has.f k got c.2).bind fun u => busbarref12_spread.l1 k back all (if u = true then got else got ++ [c.2]) x ((j + 1 : Nat) : Int) a0 l1 l2 a3) else busbarref12_spread.l1 k back all got x ((j + 1 : Nat) : Int) a0 l1 l2 a3) (fun k => ?_) ?_
      · simp only [busbarref12_spread.j2]
        rw [w64 hj (by omega)]
        congr 1
        funext t
        cases t with
        | false => rfl
        | true =>
          simp only [if_true]
          congr 1
          funext u
          cases u with
          | true => rfl
          | false => simp only [Bool.false_eq_true, if_false]; rw [if_pos (by omega)]
      · refine Ev.bind (has_ev got c.1 (by omega)) ?_
        unfold stepE at ih
        by_cases h1 : c.1 ∈ got
        · rw [if_pos h1] at ih
          rw [decide_eq_true h1]
          simp only [if_true]
          refine Ev.bind (has_ev got c.2 (by omega)) ?_
          have e1 : (if decide (c.2 ∈ got) = true then got else got ++ [c.2]) = addN got c.2 := by unfold addN; simp
          rw [e1]; exact ih
        · rw [if_neg h1] at ih
          rw [decide_eq_false h1]
          simp only [Bool.false_eq_true, if_false]
          exact ih
    refine Ev.step (fun k => ?_) key
    simp only [busbarref12_spread.l1]
    rw [if_pos (by omega), if_pos (by omega), rd41_lt _ _ hj, hcc]
    cases back <;> simp
theorem invG_round {F : List Ed} {all : List ByteArray} (hF : ∀ c ∈ F, c.2 ∈ all) : ∀ got, InvG all got → InvG all (roundE F got) := roundE_inv (Q := InvG all) (fun got h c hc => invG_step hF h hc)
theorem sp_l0 (back : Bool) (all : List ByteArray) (hn : l1.length ≤ 1000) (ha : all.length ≤ 3000) (hall : ∀ c ∈ wayE back (es l1), c.2 ∈ all) : ∀ (d j : Nat) (got : List ByteArray), all.length = j + d → InvG all got →
    Ev (fun k => busbarref12_spread.l0 k back all got (j : Int) a0 l1 l2 a3) (all.filter fun s => decide (s ∈ roundsE (wayE back (es l1)) d got))
  | 0, j, got, h, hg => by
    have h2 := sp_l2 all got ha (Nat.le_trans (nodup_len hg.2 hg.1) ha) all.length 0 (by omega)
    refine Ev.step (fun k => ?_) h2
    simp only [busbarref12_spread.l0]; rw [if_neg (by omega)]; rfl
  | d + 1, j, got, h, hg => by
    have ih := sp_l0 back all hn ha hall d (j + 1) (roundE (wayE back (es l1)) got) (by omega) (invG_round hall got hg)
    have hw : wrap64 ((j : Int) + 1) = ((j + 1 : Nat) : Int) := w64 (n := all.length) (by omega) (by omega)
    have h2 := sp_l1 (a0 := a0) (a3 := a3) (l2 := l2) back all (j : Int) _ hn ha hall l1.length 0 got (by omega) hg (by rw [hw]; exact ih)
    refine Ev.step (fun k => ?_) h2
    simp only [busbarref12_spread.l0]; rw [if_pos (by omega)]; rfl
theorem spread_ev (back : Bool) (hn : l1.length ≤ 1000) (n : ByteArray) : Ev (fun k => busbarref12_spread.f k a0 l1 l2 a3 n back) (spreadL (es l1) n back) := by
  have hlen : (nodesL (es l1)).length ≤ 3000 := by have := nodesL_len (es l1); rw [es_len] at this; omega
  unfold busbarref12_spread.f spreadL
  refine Ev.bind (nodes_ev a0 a3 l1 l2 hn) (Ev.bind (has_ev (nodesL (es l1)) n (by omega)) ?_)
  by_cases h : n ∈ nodesL (es l1)
  · rw [decide_eq_true h, if_pos h]
    simp only [if_true]
    exact sp_l0 back (nodesL (es l1)) hn hlen (fun c hc => way_2 back hc) (nodesL (es l1)).length 0 [n] (by omega) ⟨fun y hy => by rw [List.mem_singleton.1 hy]; exact h, by simp⟩
  · rw [decide_eq_false h, if_neg h]
    simp only [Bool.false_eq_true, if_false]
    exact Ev.now _
theorem rreach_ev (hn : l1.length ≤ 1000) (n : ByteArray) : Ev (fun k => busbarref12_Reachable.f k a0 l1 l2 a3 n) (reachL (es l1) n) := by
  rw [reach_ref]
  unfold busbarref12_Reachable.f
  exact Ev.bind (spread_ev false hn n) (Ev.now _)
theorem ranc_ev (hn : l1.length ≤ 1000) (n : ByteArray) : Ev (fun k => busbarref12_Ancestors.f k a0 l1 l2 a3 n) (ancL (es l1) n) := by
  rw [anc_ref]
  unfold busbarref12_Ancestors.f
  exact Ev.bind (spread_ev true hn n) (Ev.now _)
end
end Go.Proofs.Ytmacdknicgfglaa.Pe
/- TopoSort: the reference's order is the program's. -/
namespace Go.Proofs.Ytmacdknicgfglaa.Gp
set_option linter.unusedVariables false
set_option linter.unusedSimpArgs false
/-- The next to be told. -/
def nextP (l : List Ed) (out : List ByteArray) (s : ByteArray) : Bool := decide (s ∉ out) && readyG l out s
def topoR (l : List Ed) (all : List ByteArray) : Nat → List ByteArray → Option (List ByteArray)
  | 0, out => some out
  | k + 1, out => match all.find? (nextP l out) with
    | none => none
    | some s => topoR l all k (out ++ [s])
theorem find_idx {p : ByteArray → Bool} : ∀ (l : List ByteArray), l.find? p = (l.findIdx? p).map fun i => l.getD i ⟨#[]⟩
  | [] => rfl
  | x :: l => by
    rw [List.find?_cons, List.findIdx?_cons]
    cases h : p x with
    | true => simp
    | false =>
      simp only [Bool.false_eq_true, if_false]
      rw [find_idx l]
      cases l.findIdx? p <;> simp
theorem erase_filter {l : List ByteArray} (hd : l.Nodup) {i : Nat} (hi : i < l.length) : l.eraseIdx i = l.filter fun x => decide (x ≠ l[i]) := by
  induction l generalizing i with
  | nil => simp at hi
  | cons a l ih =>
    have hd' := List.nodup_cons.1 hd
    cases i with
    | zero =>
      simp only [List.eraseIdx_zero, List.tail_cons, List.getElem_cons_zero, List.filter_cons, ne_eq, not_true_eq_false, decide_false, Bool.false_eq_true, if_false]
      symm
      rw [List.filter_eq_self]
      intro x hx
      exact decide_eq_true (fun e => hd'.1 (e ▸ hx))
    | succ i =>
      have hi' : i < l.length := by simpa using hi
      simp only [List.eraseIdx_cons_succ, List.getElem_cons_succ, List.filter_cons]
      have hne : a ≠ l[i] := fun e => hd'.1 (e ▸ List.getElem_mem hi')
      rw [if_pos (decide_eq_true hne), ih hd'.2 hi']
theorem topoG_R (l : List Ed) {all : List ByteArray} (hd : all.Nodup) : ∀ (k : Nat) (out : List ByteArray), topoG l k (all.filter fun s => decide (s ∉ out)) out = topoR l all k out
  | 0, out => rfl
  | k + 1, out => by
    have hf : (all.filter fun s => decide (s ∉ out)).find? (readyG l out) = all.find? (nextP l out) := by
      rw [List.find?_filter]
      congr 1
      funext a
      unfold nextP
      by_cases h1 : a ∈ out <;> cases h2 : readyG l out a <;> simp [h1]
    rw [find_idx] at hf
    unfold topoG topoR
    rw [← hf]
    cases h : (all.filter fun s => decide (s ∉ out)).findIdx? (readyG l out) with
    | none => rfl
    | some i =>
      have hi : i < (all.filter fun s => decide (s ∉ out)).length := by rw [List.findIdx?_eq_some_iff_getElem] at h; exact h.1
      simp only [Option.map_some]
      have e1 : (all.filter fun s => decide (s ∉ out)).getD i ⟨#[]⟩ = (all.filter fun s => decide (s ∉ out))[i] := by rw [List.getD_eq_getElem?_getD, List.getElem?_eq_getElem hi]; rfl
      rw [erase_filter (List.Pairwise.filter _ hd) hi, e1, ← topoG_R l hd k]
      congr 1
      rw [List.filter_filter]
      refine List.filter_congr fun x _ => ?_
      generalize (all.filter fun s => decide (s ∉ out))[i] = s
      by_cases h1 : x ∈ out <;> by_cases h2 : x = s <;> simp [h1, h2]
theorem topo_R (l : List Ed) : topo l = topoR l (nodesL l) (nodesL l).length [] := by
  unfold topo
  rw [← topoG_R l (nodesL_nodup l)]
  congr 1
  symm
  rw [List.filter_eq_self]
  intro x _
  exact decide_eq_true (by simp)
/-- Ready, contact by contact. -/
theorem ready_all (l : List Ed) (out : List ByteArray) (s : ByteArray) : readyG l out s = l.all fun c => !decide (c.2 = s) || decide (c.1 ∈ out) := by
  rw [Bool.eq_iff_iff]
  unfold readyG
  rw [Bool.not_eq_true', List.any_eq_false, List.all_eq_true]
  constructor
  · intro h c hc
    by_cases h2 : c.2 = s
    · obtain ⟨j, hj, rfl⟩ := List.getElem_of_mem hc
      have h3 := h (j : Int) (inL_mem.2 ⟨j, rfl, hj, h2⟩)
      unfold fromE at h3
      rw [Int.toNat_natCast, List.getD_eq_getElem?_getD, List.getElem?_eq_getElem hj] at h3
      simp at h3
      simp [h2, h3]
    · simp [h2]
  · intro h i hi
    obtain ⟨j, rfl, hj, h2⟩ := inL_mem.1 hi
    have h3 := h l[j] (List.getElem_mem hj)
    unfold fromE
    rw [Int.toNat_natCast, List.getD_eq_getElem?_getD, List.getElem?_eq_getElem hj]
    simp [h2] at h3
    simp [h3]
end Go.Proofs.Ytmacdknicgfglaa.Gp
namespace Go.Proofs.Ytmacdknicgfglaa.Pe
open Go.RowKit Go.Proofs.YtmacdknicgfglaaW.PrintWords Go.Proofs.YtmacdknicgfglaaW.PrintMore Go.Proofs.Ytmacdknicgfglaa.Impl Go.Proofs.Ytmacdknicgfglaa.Gp Go.Proofs.Ytmacdknicgfglaa.Gw
set_option linter.unusedVariables false
set_option linter.unusedSimpArgs false
section
variable {a0 a3 : ByteArray} {l1 : List S41} {l2 : List S101}
/-- A contact that does not hold s back. -/
def okC (out : List ByteArray) (s : ByteArray) (c : Ed) : Bool := !decide (c.2 = s) || decide (c.1 ∈ out)
theorem tr_l2 (all out : List ByteArray) (x6 : Int) (i : Nat) (r : List ByteArray × Int) (hi : i < all.length) (hn : l1.length ≤ 1000) (ho : out.length ≤ 3000) (ha : all.length ≤ 3000) : ∀ (d j : Nat) (fr : Bool), l1.length = j + d →
    Ev (fun k => busbarref12_TopoSort.l1 k all out (if (fr && ((es l1).drop j).all (okC out all[i])) = true then (i : Int) else x6) ((i + 1 : Nat) : Int) a0 l1 l2 a3) r → Ev (fun k => busbarref12_TopoSort.l2 k all out x6 (i : Int) fr (j : Int) a0 l1 l2 a3) r
  | 0, j, fr, h, hk => by
    rw [List.drop_of_length_le (by rw [es_len]; omega), List.all_nil, Bool.and_true] at hk
    refine Ev.step (fun k => ?_) hk
    simp only [busbarref12_TopoSort.l2]; rw [if_neg (by omega), w64 hi (by omega)]
    cases fr <;> simp
  | d + 1, j, fr, h, hk => by
    have hj : j < l1.length := by omega
    rw [drop_cons (es l1) j (by rw [es_len]; exact hj), List.all_cons, es_get hj, ← Bool.and_assoc] at hk
    have ih := tr_l2 all out x6 i r hi hn ho ha d (j + 1) (fr && okC out all[i] (l1[j].f2, l1[j].f3)) (by omega) hk
    by_cases h2 : l1[j].f3 = all[i]
    · refine Ev.step (f := fun k => (busbarref12_has.f k out l1[j].f2).bind fun t => busbarref12_TopoSort.l2 k all out x6 (i : Int) (if t = true then fr else false) ((j + 1 : Nat) : Int) a0 l1 l2 a3) (fun k => ?_) ?_
      · simp only [busbarref12_TopoSort.l2]
        rw [if_pos (by omega), if_pos (by omega), if_pos (by omega), if_pos (by omega), rd41_lt _ _ hj, rdOf_lt _ _ _ hi, if_pos (by rw [h2]), w64 hj (by omega)]
        congr 1
        funext t
        cases t <;> simp
      · refine Ev.bind (has_ev out l1[j].f2 (by omega)) ?_
        have e1 : (fr && okC out all[i] (l1[j].f2, l1[j].f3)) = if decide (l1[j].f2 ∈ out) = true then fr else false := by
          unfold okC
          by_cases h3 : l1[j].f2 ∈ out <;> simp [h2, h3]
        rw [e1] at ih
        exact ih
    · refine Ev.step (fun k => ?_) ih
      simp only [busbarref12_TopoSort.l2]
      rw [if_pos (by omega), if_pos (by omega), if_pos (by omega), if_pos (by omega), rd41_lt _ _ hj, rdOf_lt _ _ _ hi, if_neg (fun e => h2 (toList_inj.1 e)), w64 hj (by omega)]
      have e1 : (fr && okC out all[i] (l1[j].f2, l1[j].f3)) = fr := by unfold okC; simp [h2]
      rw [e1]
/-- One is found: it is told. -/
theorem tr_found (all out : List ByteArray) (i j : Nat) (r : List ByteArray × Int) (hi : i < all.length) (ho : out.length ≤ 3000) (hk : Ev (fun k => busbarref12_TopoSort.l0 k all (out ++ [all[i]]) a0 l1 l2 a3) r) :
    Ev (fun k => busbarref12_TopoSort.l1 k all out (i : Int) (j : Int) a0 l1 l2 a3) r := by
  have h2 : Ev (fun k => busbarref12_TopoSort.j2 k all out (i : Int) (j : Int) false a0 l1 l2 a3) r := by
    refine Ev.step (fun k => ?_) hk
    simp only [busbarref12_TopoSort.j2]
    rw [if_neg (by simp), if_neg (by omega), if_pos (by omega), if_pos (by omega), if_pos (by omega), rdOf_lt _ _ _ hi]
  refine Ev.step (fun k => ?_) h2
  simp only [busbarref12_TopoSort.l1]
  rw [show decide ((i : Int) < 0) = false from decide_eq_false (by omega)]
  split <;> rfl
theorem tr_l1 (all out : List ByteArray) (r : List ByteArray × Int) (hn : l1.length ≤ 1000) (ho : out.length ≤ 3000) (ha : all.length ≤ 3000) : ∀ (d i : Nat), all.length = i + d →
    (match (all.drop i).find? (nextP (es l1) out) with | none => r = ([], 12) | some s => Ev (fun k => busbarref12_TopoSort.l0 k all (out ++ [s]) a0 l1 l2 a3) r) → Ev (fun k => busbarref12_TopoSort.l1 k all out (-1) (i : Int) a0 l1 l2 a3) r
  | 0, i, h, hk => by
    rw [List.drop_of_length_le (by omega)] at hk
    obtain rfl : r = ([], 12) := hk
    have h2 : Ev (fun k => busbarref12_TopoSort.j2 k all out (-1) (i : Int) false a0 l1 l2 a3) ([], 12) := by
      refine Ev.step (f := fun _ => some ([], 12)) (fun k => ?_) (Ev.now _)
      simp only [busbarref12_TopoSort.j2]
      rw [if_neg (by simp), if_pos (by omega)]
    refine Ev.step (fun k => ?_) h2
    simp only [busbarref12_TopoSort.l1]
    rw [if_neg (by omega)]
  | d + 1, i, h, hk => by
    have hi : i < all.length := by omega
    rw [drop_cons all i hi, List.find?_cons] at hk
    have ih := tr_l1 all out r hn ho ha d (i + 1) (by omega)
    have key : Ev (fun k => busbarref12_TopoSort.j2 k all out (-1) (i : Int) true a0 l1 l2 a3) r := by
      refine Ev.step (f := fun k => (busbarref12_has.f k out all[i]).bind fun t => if t = true then busbarref12_TopoSort.l1 k all out (-1) ((i + 1 : Nat) : Int) a0 l1 l2 a3 else busbarref12_TopoSort.l2 k all out (-1) (i : Int) true 0 a0 l1 l2 a3) (fun k => ?_) ?_
      · simp only [busbarref12_TopoSort.j2]
        rw [if_pos trivial, if_pos (by omega), if_pos (by omega), rdOf_lt _ _ _ hi, w64 hi (by omega)]
      · refine Ev.bind (has_ev out all[i] (by omega)) ?_
        by_cases h1 : all[i] ∈ out
        · have e1 : nextP (es l1) out all[i] = false := by unfold nextP; simp [h1]
          rw [e1] at hk
          rw [decide_eq_true h1]
          simp only [if_true]
          exact ih hk
        · rw [decide_eq_false h1]
          simp only [Bool.false_eq_true, if_false]
          have e1 : nextP (es l1) out all[i] = (es l1).all (okC out all[i]) := by unfold nextP; rw [ready_all, decide_eq_true h1, Bool.true_and]; rfl
          rw [e1] at hk
          refine tr_l2 (a0 := a0) (a3 := a3) (l2 := l2) all out (-1) i r hi hn ho ha l1.length 0 true (by omega) ?_
          rw [List.drop_zero, Bool.true_and]
          cases hall : (es l1).all (okC out all[i]) with
          | true =>
            rw [hall] at hk
            simp only [if_true]
            exact tr_found all out i (i + 1) r hi ho hk
          | false =>
            rw [hall] at hk
            simp only [Bool.false_eq_true, if_false]
            exact ih hk
    refine Ev.step (fun k => ?_) key
    simp only [busbarref12_TopoSort.l1]
    rw [if_pos (by omega)]
    rfl
/-- The reference's result, as a pair. -/
def pairT (o : Option (List ByteArray)) : List ByteArray × Int := (o.getD [], errT o)
theorem tr_l0 (all : List ByteArray) (hn : l1.length ≤ 1000) (ha : all.length ≤ 3000) : ∀ (k : Nat) (out : List ByteArray), out.length + k = all.length →
    Ev (fun n => busbarref12_TopoSort.l0 n all out a0 l1 l2 a3) (pairT (topoR (es l1) all k out))
  | 0, out, h => by
    refine Ev.step (f := fun _ => some (out, 0)) (fun k => ?_) (Ev.now _)
    simp only [busbarref12_TopoSort.l0]; rw [if_neg (by omega)]
  | k + 1, out, h => by
    have h2 := tr_l1 (a0 := a0) (a3 := a3) (l2 := l2) all out (pairT (topoR (es l1) all (k + 1) out)) hn (by omega) ha all.length 0 (by omega) (by
      rw [List.drop_zero]
      unfold topoR
      cases hf : all.find? (nextP (es l1) out) with
      | none => rfl
      | some s => exact tr_l0 all hn ha k (out ++ [s]) (by simp; omega))
    refine Ev.step (fun n => ?_) h2
    simp only [busbarref12_TopoSort.l0]; rw [if_pos (by omega)]; rfl
theorem rtopo_ev (hn : l1.length ≤ 1000) : Ev (fun k => busbarref12_TopoSort.f k a0 l1 l2 a3) (pairT (topo (es l1))) := by
  have hlen : (nodesL (es l1)).length ≤ 3000 := by have := nodesL_len (es l1); rw [es_len] at this; omega
  unfold busbarref12_TopoSort.f
  rw [topo_R]
  exact Ev.bind (nodes_ev a0 a3 l1 l2 hn) (tr_l0 (nodesL (es l1)) hn hlen (nodesL (es l1)).length [] (by simp))
end
end Go.Proofs.Ytmacdknicgfglaa.Pe
