/- Plain functions of the graph package: nodes, contacts' numbers, an order. No program in sight. -/
import Derived.Test.YtmacdknicgfglaaWm
namespace Go.Proofs.Ytmacdknicgfglaa.Gp
open Go.RowKit Go.Proofs.YtmacdknicgfglaaW.PrintWords Go.Proofs.YtmacdknicgfglaaW.PrintMore
set_option linter.unusedVariables false
set_option linter.unusedSimpArgs false
/-- A contact: from, to. -/
abbrev Ed := ByteArray × ByteArray
def zE : Ed := (⟨#[]⟩, ⟨#[]⟩)
def sL : ByteArray := ⟨#[76]⟩
def sR : ByteArray := ⟨#[82]⟩
instance memDec (s : ByteArray) (acc : List ByteArray) : Decidable (s ∈ acc) := @List.instDecidableMemOfLawfulBEq ByteArray instBEqOfDecidableEq inferInstance s acc
/-- A name behind the others, if it is not among them. -/
def addN (acc : List ByteArray) (s : ByteArray) : List ByteArray := if s ∈ acc then acc else acc ++ [s]
def addC (acc : List ByteArray) (c : Ed) : List ByteArray := addN (addN acc c.1) c.2
def nodesL (l : List Ed) : List ByteArray := l.foldl addC [sL, sR]
/-- The numbers of the contacts of which p holds. -/
def idxs (p : Ed → Bool) (l : List Ed) : List Int := ((List.range l.length).filter fun i => p (l.getD i zE)).map fun (i : Nat) => (i : Int)
def outL (l : List Ed) (s : ByteArray) : List Int := idxs (fun c => decide (c.1 = s)) l
def inL (l : List Ed) (s : ByteArray) : List Int := idxs (fun c => decide (c.2 = s)) l
/-- A rung that is not too large. -/
def okG (l : List Ed) : Bool := decide (l.length ≤ 1000) && l.all fun c => decide (c.1.size ≤ 100000) && decide (c.2.size ≤ 100000)
theorem okG_len {l : List Ed} (h : okG l = true) : l.length ≤ 1000 := by unfold okG at h; rw [Bool.and_eq_true] at h; exact of_decide_eq_true h.1
theorem okG_f2 {l : List Ed} (h : okG l = true) {c : Ed} (hc : c ∈ l) : c.1.size ≤ 100000 := by unfold okG at h; rw [Bool.and_eq_true] at h; have := List.all_eq_true.1 h.2 c hc; simp only [Bool.and_eq_true, decide_eq_true_eq] at this; exact this.1
theorem okG_f3 {l : List Ed} (h : okG l = true) {c : Ed} (hc : c ∈ l) : c.2.size ≤ 100000 := by unfold okG at h; rw [Bool.and_eq_true] at h; have := List.all_eq_true.1 h.2 c hc; simp only [Bool.and_eq_true, decide_eq_true_eq] at this; exact this.2
/-! ### Nodes -/
theorem addN_mem {acc : List ByteArray} {s x : ByteArray} : x ∈ addN acc s ↔ x ∈ acc ∨ x = s := by
  unfold addN
  split
  · constructor
    · exact .inl
    · rintro (h | rfl)
      · exact h
      · assumption
  · simp
theorem addN_in {acc : List ByteArray} {s : ByteArray} (h : s ∈ acc) : addN acc s = acc := if_pos h
theorem addN_out {acc : List ByteArray} {s : ByteArray} (h : s ∉ acc) : addN acc s = acc ++ [s] := if_neg h
theorem addN_len (acc : List ByteArray) (s : ByteArray) : (addN acc s).length ≤ acc.length + 1 := by
  unfold addN
  split <;> simp
theorem addN_ge (acc : List ByteArray) (s : ByteArray) : acc.length ≤ (addN acc s).length := by
  unfold addN
  split <;> simp
theorem addN_nodup {acc : List ByteArray} {s : ByteArray} (h : acc.Nodup) : (addN acc s).Nodup := by
  unfold addN
  split
  · exact h
  · rename_i hs
    rw [List.nodup_append]
    refine ⟨h, by simp, ?_⟩
    intro a ha b hb
    obtain rfl := List.mem_singleton.1 hb
    rintro rfl
    exact hs ha
theorem nodesL_snoc (l : List Ed) (c : Ed) : nodesL (l ++ [c]) = addC (nodesL l) c := by simp [nodesL]
theorem nodesL_take {l : List Ed} {j : Nat} (h : j < l.length) : nodesL (l.take (j + 1)) = addC (nodesL (l.take j)) l[j] := by
  rw [List.take_succ_eq_append_getElem h, nodesL_snoc]
theorem fold_len : ∀ (l : List Ed) (acc : List ByteArray), (l.foldl addC acc).length ≤ acc.length + 2 * l.length
  | [], acc => by simp
  | c :: l, acc => by
    have h1 := fold_len l (addC acc c)
    have h2 := addN_len (addN acc c.1) c.2
    have h3 := addN_len acc c.1
    simp only [List.foldl_cons, List.length_cons]
    unfold addC at h1 ⊢
    omega
theorem nodesL_len (l : List Ed) : (nodesL l).length ≤ 2 + 2 * l.length := fold_len l _
theorem fold_mem : ∀ (l : List Ed) (acc : List ByteArray) (x : ByteArray), x ∈ l.foldl addC acc ↔ x ∈ acc ∨ ∃ c ∈ l, x = c.1 ∨ x = c.2
  | [], acc, x => by simp
  | c :: l, acc, x => by
    rw [List.foldl_cons, fold_mem l]
    unfold addC
    rw [addN_mem, addN_mem]
    simp only [List.mem_cons, exists_eq_or_imp]
    constructor
    · rintro (((h | h) | h) | h)
      · exact .inl h
      · exact .inr (.inl (.inl h))
      · exact .inr (.inl (.inr h))
      · exact .inr (.inr h)
    · rintro (h | (h | h) | h)
      · exact .inl (.inl (.inl h))
      · exact .inl (.inl (.inr h))
      · exact .inl (.inr h)
      · exact .inr h
theorem nodesL_mem {l : List Ed} {x : ByteArray} : x ∈ nodesL l ↔ x = sL ∨ x = sR ∨ ∃ c ∈ l, x = c.1 ∨ x = c.2 := by
  unfold nodesL
  rw [fold_mem]
  simp [or_assoc]
theorem fold_nodup : ∀ (l : List Ed) (acc : List ByteArray), acc.Nodup → (l.foldl addC acc).Nodup
  | [], acc, h => h
  | c :: l, acc, h => fold_nodup l _ (addN_nodup (addN_nodup h))
theorem sL_ne : sL ≠ sR := by decide
theorem nodesL_nodup (l : List Ed) : (nodesL l).Nodup := fold_nodup l _ (by simp [sL_ne])
theorem nodesL_size {l : List Ed} (h : okG l = true) {x : ByteArray} (hx : x ∈ nodesL l) : x.size ≤ 100000 := by
  rcases nodesL_mem.1 hx with rfl | rfl | ⟨c, hc, rfl | rfl⟩
  · decide
  · decide
  · exact okG_f2 h hc
  · exact okG_f3 h hc
/-! ### Contacts' numbers -/
theorem idxs_nil (p : Ed → Bool) : idxs p [] = [] := rfl
theorem idxs_snoc (p : Ed → Bool) (l : List Ed) (c : Ed) : idxs p (l ++ [c]) = if p c = true then idxs p l ++ [(l.length : Int)] else idxs p l := by
  unfold idxs
  rw [List.length_append, List.length_singleton, List.range_succ, List.filter_append, List.map_append]
  have e1 : (List.range l.length).filter (fun i => p ((l ++ [c]).getD i zE)) = (List.range l.length).filter fun i => p (l.getD i zE) := by
    apply List.filter_congr
    intro i hi
    rw [List.mem_range] at hi
    rw [List.getD_eq_getElem?_getD, List.getD_eq_getElem?_getD, List.getElem?_append_left hi]
  have e2 : (l ++ [c]).getD l.length zE = c := by simp [List.getD_eq_getElem?_getD]
  rw [e1]
  by_cases hp : p c = true
  · rw [if_pos hp]; simp [e2, hp]
  · rw [if_neg hp]
    have hp' : p c = false := by simpa using hp
    simp [e2, hp']
theorem idxs_take (p : Ed → Bool) {l : List Ed} {j : Nat} (h : j < l.length) : idxs p (l.take (j + 1)) = if p l[j] = true then idxs p (l.take j) ++ [(j : Int)] else idxs p (l.take j) := by
  rw [List.take_succ_eq_append_getElem h, idxs_snoc, List.length_take, Nat.min_eq_left (by omega)]
theorem idxs_len (p : Ed → Bool) (l : List Ed) : (idxs p l).length ≤ l.length := by
  unfold idxs
  rw [List.length_map]
  refine Nat.le_trans (List.length_filter_le _ _) (by simp)
theorem idxs_mem {p : Ed → Bool} {l : List Ed} {i : Int} : i ∈ idxs p l ↔ ∃ j : Nat, i = j ∧ ∃ h : j < l.length, p l[j] = true := by
  unfold idxs
  simp only [List.mem_map, List.mem_filter, List.mem_range]
  constructor
  · rintro ⟨j, ⟨hj, hp⟩, rfl⟩
    rw [List.getD_eq_getElem?_getD, List.getElem?_eq_getElem hj] at hp
    exact ⟨j, rfl, hj, hp⟩
  · rintro ⟨j, rfl, hj, hp⟩
    exact ⟨j, ⟨hj, by rw [List.getD_eq_getElem?_getD, List.getElem?_eq_getElem hj]; exact hp⟩, rfl⟩
theorem outL_mem {l : List Ed} {s : ByteArray} {i : Int} : i ∈ outL l s ↔ ∃ j : Nat, i = j ∧ ∃ h : j < l.length, l[j].1 = s := by
  unfold outL; rw [idxs_mem]; simp
theorem inL_mem {l : List Ed} {s : ByteArray} {i : Int} : i ∈ inL l s ↔ ∃ j : Nat, i = j ∧ ∃ h : j < l.length, l[j].2 = s := by
  unfold inL; rw [idxs_mem]; simp
end Go.Proofs.Ytmacdknicgfglaa.Gp
/- The order of TopoSort as a plain function. -/
namespace Go.Proofs.Ytmacdknicgfglaa.Gp
set_option linter.unusedVariables false
/-- Where a contact comes from, by its number. -/
def fromE (l : List Ed) (i : Int) : ByteArray := (l.getD i.toNat zE).1
def toE (l : List Ed) (i : Int) : ByteArray := (l.getD i.toNat zE).2
/-- All from which a contact leads to s are told. -/
def readyG (l : List Ed) (told : List ByteArray) (s : ByteArray) : Bool := !((inL l s).any fun i => !decide (fromE l i ∈ told))
def topoG (l : List Ed) : Nat → List ByteArray → List ByteArray → Option (List ByteArray)
  | 0, _, out => some out
  | k + 1, left, out => match left.findIdx? (readyG l out) with
    | none => none
    | some i => topoG l k (left.eraseIdx i) (out ++ [left.getD i ⟨#[]⟩])
def topo (l : List Ed) : Option (List ByteArray) := topoG l (nodesL l).length (nodesL l) []
/-- TopoSort's second result. -/
def errT (o : Option (List ByteArray)) : Int := if o.isNone then 12 else 0
end Go.Proofs.Ytmacdknicgfglaa.Gp
/- Successors, a visit, plainly. -/
namespace Go.Proofs.Ytmacdknicgfglaa.Gp
set_option linter.unusedVariables false
def sucL (l : List Ed) (s : ByteArray) : List ByteArray := (outL l s).map (toE l)
def preL (l : List Ed) (s : ByteArray) : List ByteArray := (inL l s).map (fromE l)
/-- All that is seen behind a visit of n (k: how deep it may go). -/
def visitG (q : ByteArray → List ByteArray) : Nat → List ByteArray → ByteArray → List ByteArray
  | 0, seen, n => seen
  | k + 1, seen, n => if n ∈ seen then seen else (q n).foldl (visitG q k) (seen ++ [n])
/-- How many of all are not yet seen. -/
def unseen (all seen : List ByteArray) : Nat := (all.filter fun s => decide (s ∉ seen)).length
theorem unseen_le {all s1 s2 : List ByteArray} (h : ∀ x, x ∈ s1 → x ∈ s2) : unseen all s2 ≤ unseen all s1 := by
  unfold unseen
  induction all with
  | nil => simp
  | cons a l ih =>
    simp only [List.filter_cons]
    by_cases h2 : a ∈ s2
    · rw [if_neg (by simpa using h2)]
      by_cases h1 : a ∈ s1
      · rw [if_neg (by simpa using h1)]; exact ih
      · rw [if_pos (by simpa using h1)]; exact Nat.le_succ_of_le ih
    · have h1 : a ∉ s1 := fun h1 => h2 (h a h1)
      rw [if_pos (by simpa using h2), if_pos (by simpa using h1)]
      exact Nat.succ_le_succ ih
theorem unseen_lt {all seen : List ByteArray} {n : ByteArray} (hn : n ∈ all) (hs : n ∉ seen) : unseen all (seen ++ [n]) < unseen all seen := by
  unfold unseen
  induction all with
  | nil => cases hn
  | cons a l ih =>
    simp only [List.filter_cons]
    have hle : unseen l (seen ++ [n]) ≤ unseen l seen := unseen_le (fun x hx => List.mem_append_left _ hx)
    unfold unseen at hle
    by_cases ha : a = n
    · subst ha
      rw [if_neg (by simp), if_pos (by simpa using hs)]
      exact Nat.lt_succ_of_le hle
    · have hn' : n ∈ l := (List.mem_cons.1 hn).resolve_left (fun e => ha e.symm)
      have ih' := ih hn'
      by_cases h1 : a ∈ seen
      · rw [if_neg (by simp [h1]), if_neg (by simpa using h1)]; exact ih'
      · rw [if_pos (by simp [h1, ha]), if_pos (by simpa using h1)]; exact Nat.succ_lt_succ ih'
theorem foldl_ge {f : List ByteArray → ByteArray → List ByteArray} (hf : ∀ s n x, x ∈ s → x ∈ f s n) : ∀ (l : List ByteArray) (s : List ByteArray) (x : ByteArray), x ∈ s → x ∈ l.foldl f s
  | [], s, x, h => h
  | n :: l, s, x, h => foldl_ge hf l _ x (hf s n x h)
theorem visitG_ge (q : ByteArray → List ByteArray) : ∀ (k : Nat) (s : List ByteArray) (n x : ByteArray), x ∈ s → x ∈ visitG q k s n
  | 0, s, n, x, h => h
  | k + 1, s, n, x, h => by
    unfold visitG
    split
    · exact h
    · exact foldl_ge (visitG_ge q k) _ _ _ (List.mem_append_left _ h)
theorem foldl_len {f : List ByteArray → ByteArray → List ByteArray} {all : List ByteArray} {Q : List ByteArray → Prop} (hf : ∀ s n, Q s → n ∈ all → Q (f s n)) : ∀ (l : List ByteArray) (s : List ByteArray), Q s → (∀ n ∈ l, n ∈ all) → Q (l.foldl f s)
  | [], s, h, _ => h
  | n :: l, s, h, hl => foldl_len hf l _ (hf s n h (hl n List.mem_cons_self)) (fun m hm => hl m (List.mem_cons_of_mem _ hm))
/-- What is seen stays within all, each once. -/
theorem visitG_in {q : ByteArray → List ByteArray} {all : List ByteArray} (hq : ∀ n ∈ all, ∀ m ∈ q n, m ∈ all) : ∀ (k : Nat) (s : List ByteArray) (n : ByteArray), ((∀ x ∈ s, x ∈ all) ∧ s.Nodup) → n ∈ all → ((∀ x ∈ visitG q k s n, x ∈ all) ∧ (visitG q k s n).Nodup)
  | 0, s, n, h, _ => h
  | k + 1, s, n, h, hn => by
    unfold visitG
    split
    · exact h
    · rename_i hs
      refine foldl_len (Q := fun s => (∀ x ∈ s, x ∈ all) ∧ s.Nodup) (fun s n h hn => visitG_in hq k s n h hn) _ _ ⟨fun x hx => ?_, ?_⟩ (hq n hn)
      · rcases List.mem_append.1 hx with hx | hx
        · exact h.1 x hx
        · rw [List.mem_singleton.1 hx]; exact hn
      · rw [List.nodup_append]
        refine ⟨h.2, by simp, ?_⟩
        intro a ha b hb
        obtain rfl := List.mem_singleton.1 hb
        rintro rfl
        exact hs ha
theorem nodup_len {α : Type} : ∀ {s all : List α}, s.Nodup → (∀ x ∈ s, x ∈ all) → s.length ≤ all.length
  | [], all, _, _ => Nat.zero_le _
  | x :: s, all, h1, h2 => by
    obtain ⟨a, c, rfl⟩ := List.append_of_mem (h2 x List.mem_cons_self)
    have h3 := nodup_len (s := s) (all := a ++ c) (List.nodup_cons.1 h1).2 (fun y hy => by
      have h4 := h2 y (List.mem_cons_of_mem _ hy)
      have h5 : y ≠ x := fun e => (List.nodup_cons.1 h1).1 (e ▸ hy)
      rw [List.mem_append, List.mem_cons] at h4
      rw [List.mem_append]
      rcases h4 with h4 | h4 | h4
      · exact .inl h4
      · exact absurd h4 h5
      · exact .inr h4)
    simp only [List.length_append, List.length_cons] at h3 ⊢
    omega
end Go.Proofs.Ytmacdknicgfglaa.Gp
