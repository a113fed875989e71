/- Successors, a visit, plainly. -/
import Derived.Test.YtmacdknicgfglaaTp
namespace Go.Proofs.Ytmacdknicgfglaa.Gp
set_option linter.unusedVariables false
def sucL (l : List Ed) (s : ByteArray) : List ByteArray := (outL l s).map (toE l)
def preL (l : List Ed) (s : ByteArray) : List ByteArray := (inL l s).map (fromE l)
/-- All that is seen behind a visit of n (k: how deep it may go). -/
def visitG (q : ByteArray → List ByteArray) : Nat → List ByteArray → ByteArray → List ByteArray
  | 0, seen, n => seen
  | k + 1, seen, n => if n ∈ seen then seen else (q n).foldl (visitG q k) (seen ++ [n])
/-- How many of all are not yet seen. -/
def unseen (all seen : List ByteArray) : Nat := (all.filter fun s => decide (s ∉ seen)).length
theorem unseen_le {all s1 s2 : List ByteArray} (h : ∀ x, x ∈ s1 → x ∈ s2) : unseen all s2 ≤ unseen all s1 := by
  unfold unseen
  induction all with
  | nil => simp
  | cons a l ih =>
    simp only [List.filter_cons]
    by_cases h2 : a ∈ s2
    · rw [if_neg (by simpa using h2)]
      by_cases h1 : a ∈ s1
      · rw [if_neg (by simpa using h1)]; exact ih
      · rw [if_pos (by simpa using h1)]; exact Nat.le_succ_of_le ih
    · have h1 : a ∉ s1 := fun h1 => h2 (h a h1)
      rw [if_pos (by simpa using h2), if_pos (by simpa using h1)]
      exact Nat.succ_le_succ ih
theorem unseen_lt {all seen : List ByteArray} {n : ByteArray} (hn : n ∈ all) (hs : n ∉ seen) : unseen all (seen ++ [n]) < unseen all seen := by
  unfold unseen
  induction all with
  | nil => cases hn
  | cons a l ih =>
    simp only [List.filter_cons]
    have hle : unseen l (seen ++ [n]) ≤ unseen l seen := unseen_le (fun x hx => List.mem_append_left _ hx)
    unfold unseen at hle
    by_cases ha : a = n
    · subst ha
      rw [if_neg (by simp), if_pos (by simpa using hs)]
      exact Nat.lt_succ_of_le hle
    · have hn' : n ∈ l := (List.mem_cons.1 hn).resolve_left (fun e => ha e.symm)
      have ih' := ih hn'
      by_cases h1 : a ∈ seen
      · rw [if_neg (by simp [h1]), if_neg (by simpa using h1)]; exact ih'
      · rw [if_pos (by simp [h1, ha]), if_pos (by simpa using h1)]; exact Nat.succ_lt_succ ih'
theorem foldl_ge {f : List ByteArray → ByteArray → List ByteArray} (hf : ∀ s n x, x ∈ s → x ∈ f s n) : ∀ (l : List ByteArray) (s : List ByteArray) (x : ByteArray), x ∈ s → x ∈ l.foldl f s
  | [], s, x, h => h
  | n :: l, s, x, h => foldl_ge hf l _ x (hf s n x h)
theorem visitG_ge (q : ByteArray → List ByteArray) : ∀ (k : Nat) (s : List ByteArray) (n x : ByteArray), x ∈ s → x ∈ visitG q k s n
  | 0, s, n, x, h => h
  | k + 1, s, n, x, h => by
    unfold visitG
    split
    · exact h
    · exact foldl_ge (visitG_ge q k) _ _ _ (List.mem_append_left _ h)
theorem foldl_len {f : List ByteArray → ByteArray → List ByteArray} {all : List ByteArray} {Q : List ByteArray → Prop} (hf : ∀ s n, Q s → n ∈ all → Q (f s n)) : ∀ (l : List ByteArray) (s : List ByteArray), Q s → (∀ n ∈ l, n ∈ all) → Q (l.foldl f s)
  | [], s, h, _ => h
  | n :: l, s, h, hl => foldl_len hf l _ (hf s n h (hl n List.mem_cons_self)) (fun m hm => hl m (List.mem_cons_of_mem _ hm))
/-- What is seen stays within all, each once. -/
theorem visitG_in {q : ByteArray → List ByteArray} {all : List ByteArray} (hq : ∀ n ∈ all, ∀ m ∈ q n, m ∈ all) : ∀ (k : Nat) (s : List ByteArray) (n : ByteArray), ((∀ x ∈ s, x ∈ all) ∧ s.Nodup) → n ∈ all → ((∀ x ∈ visitG q k s n, x ∈ all) ∧ (visitG q k s n).Nodup)
  | 0, s, n, h, _ => h
  | k + 1, s, n, h, hn => by
    unfold visitG
    split
    · exact h
    · rename_i hs
      refine foldl_len (Q := fun s => (∀ x ∈ s, x ∈ all) ∧ s.Nodup) (fun s n h hn => visitG_in hq k s n h hn) _ _ ⟨fun x hx => ?_, ?_⟩ (hq n hn)
      · rcases List.mem_append.1 hx with hx | hx
        · exact h.1 x hx
        · rw [List.mem_singleton.1 hx]; exact hn
      · rw [List.nodup_append]
        refine ⟨h.2, by simp, ?_⟩
        intro a ha b hb
        obtain rfl := List.mem_singleton.1 hb
        rintro rfl
        exact hs ha
theorem nodup_len {α : Type} : ∀ {s all : List α}, s.Nodup → (∀ x ∈ s, x ∈ all) → s.length ≤ all.length
  | [], all, _, _ => Nat.zero_le _
  | x :: s, all, h1, h2 => by
    obtain ⟨a, c, rfl⟩ := List.append_of_mem (h2 x List.mem_cons_self)
    have h3 := nodup_len (s := s) (all := a ++ c) (List.nodup_cons.1 h1).2 (fun y hy => by
      have h4 := h2 y (List.mem_cons_of_mem _ hy)
      have h5 : y ≠ x := fun e => (List.nodup_cons.1 h1).1 (e ▸ hy)
      rw [List.mem_append, List.mem_cons] at h4
      rw [List.mem_append]
      rcases h4 with h4 | h4 | h4
      · exact .inl h4
      · exact absurd h4 h5
      · exact .inr h4)
    simp only [List.length_append, List.length_cons] at h3 ⊢
    omega
end Go.Proofs.Ytmacdknicgfglaa.Gp
