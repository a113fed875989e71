/- ImageRoundTrip, walked. -/
import Derived.Test.YtfipnipdfolmiaaPlaw
import Derived.Test.YtfipnipdfolmiaaOpen
import Derived.Outline
namespace Go.Proofs.Ytfipnipdfolmiaa.Rt02
open Go.RowKit Go.Proofs.YtfipnipdfolmiaaW.PrintWords Go.Proofs.YtfipnipdfolmiaaW.PrintMore Go.Proofs.Ytfipnipdfolmiaa.Open Go.Proofs.Ytfipnipdfolmiaa.Impl Go.Proofs.Ytfipnipdfolmiaa.Pimg Go.Proofs.Ytfipnipdfolmiaa.Plaw
set_option linter.unusedVariables false
set_option linter.unusedSimpArgs false
/-- Flipping the bits of a list of indices, one after the other. -/
def flip1 (z : List Bool) (n : Nat) : List Bool := z.set n (!(z.getD n false))
def flips (z : List Bool) (l : List Nat) : List Bool := l.foldl flip1 z
theorem flip1_length (z : List Bool) (n : Nat) : (flip1 z n).length = z.length := List.length_set
theorem flips_length (l : List Nat) : ∀ z, (flips z l).length = z.length := by
  induction l with
  | nil => intro z; rfl
  | cons n l ih => intro z; show (flips (flip1 z n) l).length = _; rw [ih, flip1_length]
theorem flips_dif : ∀ (a b pre : List Bool), a.length = b.length → flips (pre ++ a) (dif pre.length a b) = pre ++ b
  | [], [], pre, _ => by simp [dif, flips]
  | x :: a, y :: b, pre, h => by
    unfold dif
    have ih := flips_dif a b (pre ++ [y]) (by simpa using h)
    rw [List.length_append, List.length_singleton, List.append_assoc, List.append_assoc] at ih
    split
    · rename_i e; subst e; exact ih
    · rename_i e
      show flips (flip1 (pre ++ x :: a) pre.length) (dif (pre.length + 1) a b) = _
      have e2 : flip1 (pre ++ x :: a) pre.length = pre ++ y :: a := by
        unfold flip1
        rw [set_mid _ _ _ _ _ rfl]
        have : (pre ++ x :: a).getD pre.length false = x := by simp [List.getD_eq_getElem?_getD]
        rw [this]
        cases x <;> cases y <;> simp_all
      rw [e2]
      exact ih
  | [], _ :: _, _, h => by simp at h
  | _ :: _, [], _, h => by simp at h
theorem dif_lt : ∀ (a b : List Bool) (j n : Nat), n ∈ dif j a b → n < j + a.length
  | x :: a, y :: b, j, n, h => by
    unfold dif at h
    rw [List.length_cons]
    split at h
    · have := dif_lt a b (j + 1) n h; omega
    · rcases List.mem_cons.1 h with rfl | h
      · omega
      · have := dif_lt a b (j + 1) n h; omega
  | [], _, _, _, h => by simp [dif] at h
  | _ :: _, [], _, _, h => by simp [dif] at h
theorem flips_snoc (z : List Bool) (l : List Nat) (j : Nat) (h : j < l.length) : flips z (l.take (j + 1)) = flip1 (flips z (l.take j)) l[j] := by
  unfold flips
  rw [List.take_succ_eq_append_getElem h, List.foldl_append]; rfl

/-! ### The callees, by what they compute -/
section
variable (w : World)
theorem alive (w : World) : Calls Try.prog 10 #[] w fun e w' => e = .returned (.bool true) ∧ Below w.heap.size w w' := by
  obtain ⟨k, h⟩ := alive_ev.rounds
  exact busbarlaw02_alive.calls k true w h
theorem format (w : World) (A : Option Addr) (c : Nat) (l : List Bool) (hC : Kd.C Kd.bool w A l.length l) (hc : l.length ≤ c) (hn : l.length ≤ 281474976710656) :
    Calls Try.prog 12 #[.slice A l.length c] w fun e w' => e = .returned (.string (fmtB l)) ∧ Below w.heap.size w w' := by
  obtain ⟨k, h⟩ := (format_ev l hn).rounds
  exact image_Format.calls k A c l _ w hC hc h
theorem parse (w : World) (s : ByteArray) : Calls Try.prog 18 #[.string s] w fun e w' => ∃ v : Value, e = .returned (.tuple #[v, .int .i64 (parsed s.data.toList).2]) ∧ Kd.R Kd.bool 4 w' w.heap.size (fun _ => True) v (parsed s.data.toList).1 ∧ Below w.heap.size w w' := by
  obtain ⟨k, h⟩ := (parse_ev s).rounds
  exact image_Parse.calls k s _ _ w h
theorem equal (w : World) (A : Option Addr) (c : Nat) (l : List Bool) (hC : Kd.C Kd.bool w A l.length l) (hc : l.length ≤ c) (A1 : Option Addr) (c1 : Nat) (m : List Bool) (hC1 : Kd.C Kd.bool w A1 m.length m) (hc1 : m.length ≤ c1) :
    Calls Try.prog 22 #[.slice A l.length c, .slice A1 m.length c1] w fun e w' => e = .returned (.bool (decide (l = m))) ∧ Drawn0 w w' := by
  obtain ⟨k, h⟩ := (equal_ev l m (Kd.C_max hC)).rounds
  exact image_Equal.calls k A c l A1 c1 m _ w hC hc hC1 hc1 h
theorem diff (w : World) (A : Option Addr) (c : Nat) (l : List Bool) (hC : Kd.C Kd.bool w A l.length l) (hc : l.length ≤ c) (A1 : Option Addr) (c1 : Nat) (m : List Bool) (hC1 : Kd.C Kd.bool w A1 m.length m) (hc1 : m.length ≤ c1) (hn : l.length < 17592186044416) (he : l.length = m.length) :
    Calls Try.prog 20 #[.slice A l.length c, .slice A1 m.length c1] w fun e w' => ∃ v : Value, e = .returned (.tuple #[v, .int .i64 0]) ∧ Kd.R (Kd.int .i64) 3 w' w.heap.size (fun _ => True) v (difI (dif 0 l m)) ∧ Below w.heap.size w w' := by
  obtain ⟨k, h⟩ := (diff_ev l m hn).rounds
  rw [if_pos he] at h
  exact image_Diff.calls k A c l A1 c1 m _ _ w hC hc hC1 hc1 h
theorem diff_ne (w : World) (A : Option Addr) (c : Nat) (l : List Bool) (hC : Kd.C Kd.bool w A l.length l) (hc : l.length ≤ c) (A1 : Option Addr) (c1 : Nat) (m : List Bool) (hC1 : Kd.C Kd.bool w A1 m.length m) (hc1 : m.length ≤ c1) (hn : l.length < 17592186044416) (he : l.length ≠ m.length) :
    Calls Try.prog 20 #[.slice A l.length c, .slice A1 m.length c1] w fun e w' => ∃ v : Value, e = .returned (.tuple #[v, .int .i64 2]) ∧ Kd.R (Kd.int .i64) 3 w' w.heap.size (fun _ => True) v [] ∧ Below w.heap.size w w' := by
  obtain ⟨k, h⟩ := (diff_ev l m hn).rounds
  rw [if_neg he] at h
  exact image_Diff.calls k A c l A1 c1 m _ _ w hC hc hC1 hc1 h
theorem get (w : World) (A : Option Addr) (c : Nat) (l : List Bool) (hC : Kd.C Kd.bool w A l.length l) (hc : l.length ≤ c) (n : Nat) (hn : n < l.length) :
    Calls Try.prog 14 #[.slice A l.length c, .int .i64 (n : Int)] w fun e w' => e = .returned (.tuple #[.bool (l.getD n false), .int .i64 0]) ∧ Drawn0 w w' := by
  have e : l[n] = l.getD n false := by simp [List.getD_eq_getElem?_getD, List.getElem?_eq_getElem hn]
  have h := get_in l n hn
  rw [e] at h
  exact image_Get.calls A c l n _ _ w hC hc h
theorem set (w : World) (A : Option Addr) (c : Nat) (l : List Bool) (hC : Kd.C Kd.bool w A l.length l) (hc : l.length ≤ c) (n : Nat) (v : Bool) (hn : n < l.length) (hl : l.length ≤ 281474976710656) :
    Calls Try.prog 15 #[.slice A l.length c, .int .i64 (n : Int), .bool v] w fun e w' => ∃ z : Value, e = .returned (.tuple #[z, .int .i64 0]) ∧ Kd.R Kd.bool 4 w' w.heap.size (fun _ => True) z (l.set n v) ∧ Below w.heap.size w w' :=
  image_Set.calls A c l n v _ _ w hC hc (set_in l n v hn hl)
end
theorem parsed_fmt (a : List Bool) (h : a.length ≤ 2000) : parsed (fmtB a).data.toList = (a, 0) := by
  have e : (fmtB a).data.toList = fmtL a := rfl
  rw [e]
  unfold parsed
  by_cases h0 : a = []
  · subst h0; rfl
  · have hf : fmtL a = chs a := by rw [fmtL, if_neg h0]
    have hl : (chs a).length = a.length := chs_length a
    have h1 : 0 < a.length := List.length_pos_iff.2 h0
    rw [hf, if_neg (by omega), if_neg ?_, if_neg (fun e => by rw [e] at hl; simp at hl; omega)]
    · have hb : isBits (chs a) = true := by
        unfold isBits
        rw [List.all_eq_true]
        intro c hc
        rcases chs_mem hc with rfl | rfl <;> rfl
      rw [if_pos hb]
      have : bitsOf (chs a) = a := by
        unfold bitsOf chs
        rw [List.map_map]
        conv => rhs; rw [← List.map_id a]
        apply List.map_congr_left
        intro b _
        cases b <;> rfl
      rw [this]
    · intro e
      have : (45 : UInt8) ∈ chs a := by rw [e]; simp
      rcases chs_mem this with h | h <;> exact absurd h (by decide)
theorem fmt_parsed (t : List UInt8) (h : (parsed t).2 = 0) : fmtL (parsed t).1 = t := by
  unfold parsed at h ⊢
  split at h
  · simp at h
  · rename_i h1
    rw [if_neg h1]
    split at h
    · rename_i h2; rw [if_pos h2, h2]; rfl
    · rename_i h2
      rw [if_neg h2]
      split at h
      · simp at h
      · rename_i h3
        rw [if_neg h3]
        split at h
        · rename_i h4
          rw [if_pos h4]
          have hne : bitsOf t ≠ [] := by
            intro e
            unfold bitsOf at e
            exact h3 (List.map_eq_nil_iff.1 e)
          rw [fmtL, if_neg hne]
          unfold chs bitsOf
          rw [List.map_map]
          conv => rhs; rw [← List.map_id t]
          apply List.map_congr_left
          intro c hc
          unfold isBits at h4
          have := List.all_eq_true.1 h4 c hc
          simp only [Bool.or_eq_true, beq_iff_eq] at this
          rcases this with rfl | rfl <;> rfl
        · simp at h
theorem parsed_snd (t : List UInt8) (h : t.length ≤ 2000) : (parsed t).2 = 0 ∨ (parsed t).2 = 6 := by
  unfold parsed
  rw [if_neg (by omega)]
  split
  · left; rfl
  · split
    · right; rfl
    · split
      · left; rfl
      · right; rfl
theorem parsed_len (t : List UInt8) : (parsed t).1.length ≤ t.length := by
  unfold parsed
  split
  · simp
  · split
    · simp
    · split
      · simp
      · split
        · simp [bitsOf]
        · simp
end Go.Proofs.Ytfipnipdfolmiaa.Rt02
