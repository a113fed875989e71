/- Reachability, plainly: the visit and the reference's rounds both come to the closure. -/
import Derived.Test.YtmacdknicgfglaaGp
namespace Go.Proofs.Ytmacdknicgfglaa.Gp
set_option linter.unusedVariables false
set_option linter.unusedSimpArgs false
/-- x is reachable from n by the steps q. -/
inductive Rch (q : ByteArray → List ByteArray) (n : ByteArray) : ByteArray → Prop
  | refl : Rch q n n
  | step {m x : ByteArray} : Rch q n m → x ∈ q m → Rch q n x
theorem Rch.trans {q : ByteArray → List ByteArray} {a b c : ByteArray} (h : Rch q a b) (k : Rch q b c) : Rch q a c := by
  induction k with
  | refl => exact h
  | step _ hx ih => exact ih.step hx
theorem Rch.head {q : ByteArray → List ByteArray} {a b c : ByteArray} (h : b ∈ q a) (k : Rch q b c) : Rch q a c := (Rch.refl.step h).trans k
theorem Rch.imp {q q' : ByteArray → List ByteArray} (hq : ∀ m, ∀ x ∈ q m, x ∈ q' m) {a b : ByteArray} (h : Rch q a b) : Rch q' a b := by
  induction h with
  | refl => exact .refl
  | step _ hx ih => exact ih.step (hq _ _ hx)
theorem Rch.mem {q : ByteArray → List ByteArray} {all : List ByteArray} (hq : ∀ n ∈ all, ∀ m ∈ q n, m ∈ all) {a b : ByteArray} (ha : a ∈ all) (h : Rch q a b) : b ∈ all := by
  induction h with
  | refl => exact ha
  | step _ hx ih => exact hq _ ih _ hx
theorem Rch.closed {q : ByteArray → List ByteArray} {S : List ByteArray} (hS : ∀ x ∈ S, ∀ y ∈ q x, y ∈ S) {a b : ByteArray} (ha : a ∈ S) (h : Rch q a b) : b ∈ S := by
  induction h with
  | refl => exact ha
  | step _ hx ih => exact hS _ ih _ hx
/-- What a visit of all ms has brought to S. -/
structure GoodV (q : ByteArray → List ByteArray) (S ms S' : List ByteArray) : Prop where
  ge : ∀ x ∈ S, x ∈ S'
  mm : ∀ m ∈ ms, m ∈ S'
  so : ∀ x ∈ S', x ∈ S ∨ ∃ m ∈ ms, Rch q m x
  cl : ∀ x ∈ S', x ∉ S → ∀ y ∈ q x, y ∈ S'
theorem GoodV.nil (q : ByteArray → List ByteArray) (S : List ByteArray) : GoodV q S [] S := ⟨fun _ h => h, fun _ h => (by cases h), fun _ h => .inl h, fun _ h hn => absurd h hn⟩
theorem GoodV.cons {q : ByteArray → List ByteArray} {S S1 S2 : List ByteArray} {m : ByteArray} {ms : List ByteArray} (h : GoodV q S [m] S1) (k : GoodV q S1 ms S2) : GoodV q S (m :: ms) S2 := by
  refine ⟨fun x hx => k.ge x (h.ge x hx), fun x hx => ?_, fun x hx => ?_, fun x hx hn y hy => ?_⟩
  · rcases List.mem_cons.1 hx with rfl | hx
    · exact k.ge _ (h.mm _ List.mem_cons_self)
    · exact k.mm x hx
  · rcases k.so x hx with h1 | ⟨m', hm', hr⟩
    · rcases h.so x h1 with h2 | ⟨m', hm', hr⟩
      · exact .inl h2
      · obtain rfl := List.mem_singleton.1 hm'
        exact .inr ⟨m', List.mem_cons_self, hr⟩
    · exact .inr ⟨m', List.mem_cons_of_mem _ hm', hr⟩
  · by_cases h1 : x ∈ S1
    · exact k.ge y (h.cl x h1 hn y hy)
    · exact k.cl x hx h1 y hy
theorem fold_good {q : ByteArray → List ByteArray} {all : List ByteArray} {k : Nat} (ih : ∀ S m, m ∈ all → unseen all S ≤ k → GoodV q S [m] (visitG q k S m)) :
    ∀ (ms S : List ByteArray), (∀ m ∈ ms, m ∈ all) → unseen all S ≤ k → GoodV q S ms (ms.foldl (visitG q k) S)
  | [], S, _, _ => GoodV.nil q S
  | m :: ms, S, hm, hu => (ih S m (hm m List.mem_cons_self) hu).cons (fold_good ih ms _ (fun x hx => hm x (List.mem_cons_of_mem _ hx)) (Nat.le_trans (unseen_le (fun x hx => visitG_ge q k S m x hx)) hu))
theorem visit_good {q : ByteArray → List ByteArray} {all : List ByteArray} (hq : ∀ n ∈ all, ∀ m ∈ q n, m ∈ all) : ∀ (k : Nat) (S : List ByteArray) (n : ByteArray), n ∈ all → unseen all S ≤ k → GoodV q S [n] (visitG q k S n)
  | 0, S, n, hn, hu => by
    have hs : n ∈ S := Decidable.byContradiction fun hs => by have := unseen_lt hn hs; omega
    exact ⟨fun _ h => h, fun m hm => by rw [List.mem_singleton.1 hm]; exact hs, fun _ h => .inl h, fun _ h hn => absurd h hn⟩
  | k + 1, S, n, hn, hu => by
    unfold visitG
    by_cases hs : n ∈ S
    · rw [if_pos hs]
      exact ⟨fun _ h => h, fun m hm => by rw [List.mem_singleton.1 hm]; exact hs, fun _ h => .inl h, fun _ h hn => absurd h hn⟩
    · rw [if_neg hs]
      have hu2 : unseen all (S ++ [n]) ≤ k := by have := unseen_lt hn hs; omega
      have g := fold_good (fun S m hm hu => visit_good hq k S m hm hu) (q n) (S ++ [n]) (hq n hn) hu2
      refine ⟨fun x hx => g.ge x (List.mem_append_left _ hx), fun m hm => by rw [List.mem_singleton.1 hm]; exact g.ge n (by simp), fun x hx => ?_, fun x hx hnx y hy => ?_⟩
      · rcases g.so x hx with h1 | ⟨m, hm, hr⟩
        · rcases List.mem_append.1 h1 with h1 | h1
          · exact .inl h1
          · exact .inr ⟨n, List.mem_singleton.2 rfl, by rw [List.mem_singleton.1 h1]; exact .refl⟩
        · exact .inr ⟨n, List.mem_singleton.2 rfl, .head hm hr⟩
      · by_cases e : x = n
        · subst e; exact g.mm y hy
        · exact g.cl x hx (fun h => by rcases List.mem_append.1 h with h | h; exact hnx h; exact e (List.mem_singleton.1 h)) y hy
theorem visit_rch {q : ByteArray → List ByteArray} {all : List ByteArray} (hq : ∀ n ∈ all, ∀ m ∈ q n, m ∈ all) {n x : ByteArray} (hn : n ∈ all) : x ∈ visitG q all.length [] n ↔ Rch q n x := by
  have g := visit_good hq all.length [] n hn (List.length_filter_le _ _)
  constructor
  · intro h
    rcases g.so x h with h | ⟨m, hm, hr⟩
    · cases h
    · rw [List.mem_singleton.1 hm] at hr; exact hr
  · intro h
    exact Rch.closed (fun x hx y hy => g.cl x hx (by simp) y hy) (g.mm n (List.mem_singleton.2 rfl)) h
/-! ### The reference's rounds -/
def stepE (got : List ByteArray) (c : Ed) : List ByteArray := if c.1 ∈ got then addN got c.2 else got
def roundE (F : List Ed) (got : List ByteArray) : List ByteArray := F.foldl stepE got
def roundsE (F : List Ed) : Nat → List ByteArray → List ByteArray
  | 0, got => got
  | k + 1, got => roundsE F k (roundE F got)
/-- A contact's direction turned. -/
def turnE (l : List Ed) : List Ed := l.map fun c => (c.2, c.1)
theorem stepE_ge (got : List ByteArray) (c : Ed) : got.length ≤ (stepE got c).length := by
  unfold stepE
  split
  · exact addN_ge _ _
  · exact Nat.le_refl _
theorem roundE_ge : ∀ (F : List Ed) (got : List ByteArray), got.length ≤ (roundE F got).length
  | [], got => Nat.le_refl _
  | c :: F, got => Nat.le_trans (stepE_ge got c) (roundE_ge F _)
theorem roundE_same : ∀ (F : List Ed) (got : List ByteArray), (roundE F got).length = got.length → ∀ c ∈ F, c.1 ∈ got → c.2 ∈ got
  | [], got, _, c, hc, _ => by cases hc
  | d :: F, got, h, c, hc, h1 => by
    have h2 : (roundE F (stepE got d)).length = got.length := h
    have h3 := stepE_ge got d
    have h4 := roundE_ge F (stepE got d)
    have h5 : stepE got d = got := by
      unfold stepE at h3 h4 h2 ⊢
      by_cases hd : d.1 ∈ got
      · rw [if_pos hd] at h3 h4 h2 ⊢
        unfold addN at h3 h4 h2 ⊢
        by_cases he : d.2 ∈ got
        · rw [if_pos he]
        · rw [if_neg he] at h4 h2
          simp only [List.length_append, List.length_singleton] at h4
          omega
      · rw [if_neg hd]
    rcases List.mem_cons.1 hc with rfl | hc
    · unfold stepE at h5
      rw [if_pos h1] at h5
      rw [← h5]
      exact addN_mem.2 (.inr rfl)
    · rw [h5] at h2
      exact roundE_same F got h2 c hc h1
theorem roundE_inv {Q : List ByteArray → Prop} {F : List Ed} (hQ : ∀ got, Q got → ∀ c ∈ F, Q (stepE got c)) : ∀ got, Q got → Q (roundE F got) := by
  intro got h
  unfold roundE
  have : ∀ (G : List Ed) (got : List ByteArray), (∀ c ∈ G, c ∈ F) → Q got → Q (G.foldl stepE got) := by
    intro G
    induction G with
    | nil => exact fun got _ h => h
    | cons c G ih => exact fun got hG h => ih _ (fun d hd => hG d (List.mem_cons_of_mem _ hd)) (hQ got h c (hG c List.mem_cons_self))
  exact this F got (fun _ h => h) h
theorem roundsE_inv {Q : List ByteArray → Prop} {F : List Ed} (hQ : ∀ got, Q got → ∀ c ∈ F, Q (stepE got c)) : ∀ k got, Q got → Q (roundsE F k got)
  | 0, _, h => h
  | k + 1, got, h => roundsE_inv hQ k _ (roundE_inv hQ got h)
/-- Nothing is left to come. -/
def Shut (F : List Ed) (got : List ByteArray) : Prop := ∀ c ∈ F, c.1 ∈ got → c.2 ∈ got
theorem stepE_shut {F : List Ed} {got : List ByteArray} (h : Shut F got) {c : Ed} (hc : c ∈ F) : stepE got c = got := by
  unfold stepE
  split
  · rename_i h1; exact addN_in (h c hc h1)
  · rfl
theorem roundE_shut {F : List Ed} {got : List ByteArray} (h : Shut F got) : roundE F got = got :=
  roundE_inv (Q := fun g => g = got) (fun g hg c hc => by rw [hg]; exact stepE_shut h hc) got rfl
theorem roundsE_shut {F : List Ed} : ∀ (k : Nat) (got : List ByteArray), Shut F got → roundsE F k got = got
  | 0, _, _ => rfl
  | k + 1, got, h => by unfold roundsE; rw [roundE_shut h]; exact roundsE_shut k got h
theorem roundsE_len {F : List Ed} : ∀ (k : Nat) (got : List ByteArray), Shut F (roundsE F k got) ∨ got.length + k ≤ (roundsE F k got).length
  | 0, got => .inr (Nat.le_refl _)
  | k + 1, got => by
    unfold roundsE
    by_cases h : (roundE F got).length = got.length
    · have hs : Shut F got := roundE_same F got h
      rw [roundE_shut hs, roundsE_shut k got hs]
      exact .inl hs
    · have h1 := roundE_ge F got
      rcases roundsE_len (F := F) k (roundE F got) with h2 | h2
      · exact .inl h2
      · exact .inr (by omega)
theorem rounds_rch {F : List Ed} {all : List ByteArray} (hF : ∀ c ∈ F, c.2 ∈ all) {n x : ByteArray} (hn : n ∈ all) {q : ByteArray → List ByteArray} (hq : ∀ m x, x ∈ q m ↔ ∃ c ∈ F, c.1 = m ∧ c.2 = x) : x ∈ roundsE F all.length [n] ↔ Rch q n x := by
  have h1 := roundsE_inv (F := F) (Q := fun g => (∀ y ∈ g, y ∈ all) ∧ g.Nodup ∧ n ∈ g ∧ ∀ y ∈ g, Rch q n y) (by
    intro g ⟨ha, hd, hg, hr⟩ c hc
    unfold stepE
    split
    · rename_i hc1
      refine ⟨fun y hy => ?_, addN_nodup hd, addN_mem.2 (.inl hg), fun y hy => ?_⟩
      · rcases addN_mem.1 hy with hy | rfl
        · exact ha y hy
        · exact hF c hc
      · rcases addN_mem.1 hy with hy | rfl
        · exact hr y hy
        · exact (hr _ hc1).step ((hq _ _).2 ⟨c, hc, rfl, rfl⟩)
    · exact ⟨ha, hd, hg, hr⟩) all.length [n] ⟨fun y hy => by rw [List.mem_singleton.1 hy]; exact hn, by simp, by simp, fun y hy => by rw [List.mem_singleton.1 hy]; exact .refl⟩
  obtain ⟨ha, hd, hg, hr⟩ := h1
  refine ⟨hr x, fun h => ?_⟩
  have hs : Shut F (roundsE F all.length [n]) := by
    rcases roundsE_len (F := F) all.length [n] with h2 | h2
    · exact h2
    · have h3 := nodup_len hd ha
      simp only [List.length_singleton] at h2
      omega
  exact Rch.closed (fun y hy z hz => by obtain ⟨c, hc, rfl, rfl⟩ := (hq _ _).1 hz; exact hs c hc hy) hg h
theorem suc_mem {l : List Ed} {m x : ByteArray} : x ∈ sucL l m ↔ ∃ c ∈ l, c.1 = m ∧ c.2 = x := by
  unfold sucL
  rw [List.mem_map]
  constructor
  · rintro ⟨i, hi, rfl⟩
    obtain ⟨j, rfl, hj, rfl⟩ := outL_mem.1 hi
    refine ⟨l[j], List.getElem_mem hj, rfl, ?_⟩
    unfold toE
    rw [Int.toNat_natCast, List.getD_eq_getElem?_getD, List.getElem?_eq_getElem hj]
    rfl
  · rintro ⟨c, hc, rfl, rfl⟩
    obtain ⟨j, hj, rfl⟩ := List.getElem_of_mem hc
    refine ⟨(j : Int), outL_mem.2 ⟨j, rfl, hj, rfl⟩, ?_⟩
    unfold toE
    rw [Int.toNat_natCast, List.getD_eq_getElem?_getD, List.getElem?_eq_getElem hj]
    rfl
theorem pre_mem {l : List Ed} {m x : ByteArray} : x ∈ preL l m ↔ ∃ c ∈ l, c.2 = m ∧ c.1 = x := by
  unfold preL
  rw [List.mem_map]
  constructor
  · rintro ⟨i, hi, rfl⟩
    obtain ⟨j, rfl, hj, rfl⟩ := inL_mem.1 hi
    refine ⟨l[j], List.getElem_mem hj, rfl, ?_⟩
    unfold fromE
    rw [Int.toNat_natCast, List.getD_eq_getElem?_getD, List.getElem?_eq_getElem hj]
    rfl
  · rintro ⟨c, hc, rfl, rfl⟩
    obtain ⟨j, hj, rfl⟩ := List.getElem_of_mem hc
    refine ⟨(j : Int), inL_mem.2 ⟨j, rfl, hj, rfl⟩, ?_⟩
    unfold fromE
    rw [Int.toNat_natCast, List.getD_eq_getElem?_getD, List.getElem?_eq_getElem hj]
    rfl
theorem turn_mem {l : List Ed} {c : Ed} : c ∈ turnE l ↔ (c.2, c.1) ∈ l := by
  unfold turnE
  rw [List.mem_map]
  constructor
  · rintro ⟨d, hd, rfl⟩; exact hd
  · intro h; exact ⟨_, h, rfl⟩
/-- The reference's edges: turned or not. -/
def wayE (back : Bool) (l : List Ed) : List Ed := if back then turnE l else l
def spreadL (l : List Ed) (n : ByteArray) (back : Bool) : List ByteArray := if n ∈ nodesL l then (nodesL l).filter fun s => decide (s ∈ roundsE (wayE back l) (nodesL l).length [n]) else []
theorem nodes_1 {l : List Ed} {c : Ed} (h : c ∈ l) : c.1 ∈ nodesL l := nodesL_mem.2 (.inr (.inr ⟨c, h, .inl rfl⟩))
theorem nodes_2 {l : List Ed} {c : Ed} (h : c ∈ l) : c.2 ∈ nodesL l := nodesL_mem.2 (.inr (.inr ⟨c, h, .inr rfl⟩))
def gathL (l : List Ed) (q : ByteArray → List ByteArray) (n : ByteArray) : List ByteArray := if n ∈ nodesL l then (nodesL l).filter fun s => decide (s ∈ visitG q (nodesL l).length [] n) else []
def reachL (l : List Ed) (n : ByteArray) : List ByteArray := gathL l (sucL l) n
def ancL (l : List Ed) (n : ByteArray) : List ByteArray := gathL l (preL l) n
theorem suc_nodes {l : List Ed} : ∀ n ∈ nodesL l, ∀ m ∈ sucL l n, m ∈ nodesL l := fun n hn m hm => by obtain ⟨c, hc, _, rfl⟩ := suc_mem.1 hm; exact nodes_2 hc
theorem pre_nodes {l : List Ed} : ∀ n ∈ nodesL l, ∀ m ∈ preL l n, m ∈ nodesL l := fun n hn m hm => by obtain ⟨c, hc, _, rfl⟩ := pre_mem.1 hm; exact nodes_1 hc
theorem reach_mem {l : List Ed} {n x : ByteArray} : x ∈ reachL l n ↔ n ∈ nodesL l ∧ Rch (sucL l) n x := by
  unfold reachL gathL
  by_cases hn : n ∈ nodesL l
  · rw [if_pos hn, List.mem_filter, decide_eq_true_eq, visit_rch suc_nodes hn]
    exact ⟨fun h => ⟨hn, h.2⟩, fun h => ⟨h.2.mem suc_nodes hn, h.2⟩⟩
  · rw [if_neg hn]
    exact ⟨fun h => (by cases h), fun h => absurd h.1 hn⟩
theorem anc_mem {l : List Ed} {n x : ByteArray} : x ∈ ancL l n ↔ n ∈ nodesL l ∧ Rch (preL l) n x := by
  unfold ancL gathL
  by_cases hn : n ∈ nodesL l
  · rw [if_pos hn, List.mem_filter, decide_eq_true_eq, visit_rch pre_nodes hn]
    exact ⟨fun h => ⟨hn, h.2⟩, fun h => ⟨h.2.mem pre_nodes hn, h.2⟩⟩
  · rw [if_neg hn]
    exact ⟨fun h => (by cases h), fun h => absurd h.1 hn⟩
theorem reach_ref (l : List Ed) (n : ByteArray) : reachL l n = spreadL l n false := by
  unfold reachL gathL spreadL
  by_cases hn : n ∈ nodesL l
  · rw [if_pos hn, if_pos hn]
    refine List.filter_congr fun x _ => decide_eq_decide.2 ?_
    rw [visit_rch suc_nodes hn, show wayE false l = l from rfl, rounds_rch (fun c hc => nodes_2 hc) hn (q := sucL l) (fun m x => suc_mem)]
  · rw [if_neg hn, if_neg hn]
theorem anc_ref (l : List Ed) (n : ByteArray) : ancL l n = spreadL l n true := by
  unfold ancL gathL spreadL
  by_cases hn : n ∈ nodesL l
  · rw [if_pos hn, if_pos hn]
    refine List.filter_congr fun x _ => decide_eq_decide.2 ?_
    rw [visit_rch pre_nodes hn, show wayE true l = turnE l from rfl, rounds_rch (F := turnE l) (fun c hc => nodes_1 (turn_mem.1 hc)) hn (q := preL l) (fun m x => ?_)]
    rw [pre_mem]
    constructor
    · rintro ⟨c, hc, rfl, rfl⟩; exact ⟨(c.2, c.1), turn_mem.2 hc, rfl, rfl⟩
    · rintro ⟨c, hc, rfl, rfl⟩; exact ⟨(c.2, c.1), turn_mem.1 hc, rfl, rfl⟩
  · rw [if_neg hn, if_neg hn]
end Go.Proofs.Ytmacdknicgfglaa.Gp
/- Plain laws of chapter 12: what the statements say, of the closure. -/
namespace Go.Proofs.Ytmacdknicgfglaa.Gp
set_option linter.unusedVariables false
set_option linter.unusedSimpArgs false
theorem rch_turn {l : List Ed} {a b : ByteArray} (h : Rch (sucL l) a b) : Rch (preL l) b a := by
  induction h with
  | refl => exact .refl
  | step _ hx ih =>
    obtain ⟨c, hc, rfl, rfl⟩ := suc_mem.1 hx
    exact .head (pre_mem.2 ⟨c, hc, rfl, rfl⟩) ih
theorem rch_turn' {l : List Ed} {a b : ByteArray} (h : Rch (preL l) a b) : Rch (sucL l) b a := by
  induction h with
  | refl => exact .refl
  | step _ hx ih =>
    obtain ⟨c, hc, rfl, rfl⟩ := pre_mem.1 hx
    exact .head (suc_mem.2 ⟨c, hc, rfl, rfl⟩) ih
theorem reach_self {l : List Ed} {a : ByteArray} (h : a ∈ nodesL l) : a ∈ reachL l a := reach_mem.2 ⟨h, .refl⟩
theorem reach_anc {l : List Ed} {a b : ByteArray} (ha : a ∈ nodesL l) (hb : b ∈ nodesL l) : a ∈ ancL l b ↔ b ∈ reachL l a := by
  rw [reach_mem, anc_mem]
  exact ⟨fun h => ⟨ha, rch_turn' h.2⟩, fun h => ⟨hb, rch_turn h.2⟩⟩
theorem reach_step {l : List Ed} {a b : ByteArray} (h : b ∈ reachL l a) {i : Int} (hi : i ∈ outL l b) : toE l i ∈ reachL l a := by
  rw [reach_mem] at h ⊢
  exact ⟨h.1, h.2.step (List.mem_map.2 ⟨i, hi, rfl⟩)⟩
end Go.Proofs.Ytmacdknicgfglaa.Gp
