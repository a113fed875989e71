/- Plain laws: what the printed functions of the package image (and of its reference) compute. No program in sight. -/
import Derived.Test.YtjohdkbciafpfaaImpl3
import Derived.Test.YtjohdkbciafpfaaImpl7
import Derived.Test.YtjohdkbciafpfaaImpl11
import Derived.Test.YtjohdkbciafpfaaImpl16
namespace Go.Proofs.Ytjohdkbciafpfaa.Pimg
open Go.RowKit Go.Proofs.YtjohdkbciafpfaaW.PrintWords Go.Proofs.YtjohdkbciafpfaaW.PrintMore Go.Proofs.Ytjohdkbciafpfaa.Impl
set_option linter.unusedVariables false
set_option linter.unusedSimpArgs false

theorem w64 {j n : Nat} (h : j < n) (hn : n ≤ 9223372036854775807) : wrap64 ((j : Int) + 1) = ((j + 1 : Nat) : Int) := by
  unfold wrap64; omega
theorem rdOf_lt {α : Type} (d : α) (l : List α) (j : Nat) (h : j < l.length) : rdOf d l (j : Int) = l[j] := by
  simp [rdOf, List.getD_eq_getElem?_getD, List.getElem?_eq_getElem h]
theorem drop_cons {α : Type} (l : List α) (j : Nat) (h : j < l.length) : l.drop j = l[j] :: l.drop (j + 1) := List.drop_eq_getElem_cons h

/-! ### Count -/
def cnt (l : List Bool) : Nat := l.countP id
theorem cnt_le (l : List Bool) : cnt l ≤ l.length := List.countP_le_length
theorem cnt_append (l m : List Bool) : cnt (l ++ m) = cnt l + cnt m := List.countP_append

/-! ### Format -/
def chs (l : List Bool) : List UInt8 := l.map fun b => if b then 49 else 48
def fmtL (l : List Bool) : List UInt8 := if l = [] then [45] else chs l
def fmtB (l : List Bool) : ByteArray := ⟨(fmtL l).toArray⟩
theorem chs_append (l m : List Bool) : chs (l ++ m) = chs l ++ chs m := List.map_append
theorem chs_length (l : List Bool) : (chs l).length = l.length := by simp [chs]
def ch (b : Bool) : Int := if b then 49 else 48
theorem ch_u8 (b : Bool) : UInt8.ofNat (ch b).toNat = if b then 49 else 48 := by cases b <;> rfl
theorem set_mid {α : Type} (a b : List α) (x y : α) (j : Nat) (h : a.length = j) : (a ++ x :: b).set j y = a ++ y :: b := by
  subst h; rw [List.set_append_right _ _ (Nat.le_refl _)]; simp
theorem format_l0 (l : List Bool) (hn : l.length ≤ 9223372036854775807) : ∀ (d j : Nat), l.length = j + d →
    Ev (fun k => image_Format.l0 k ((l.take j).map ch ++ List.replicate d 0) l (l.length : Int) (j : Int)) (strOfNums (l.map ch))
  | 0, j, h => by
    refine Ev.step (f := fun _ => some (strOfNums (l.map ch))) (fun k => ?_) (Ev.now _)
    simp only [image_Format.l0]
    rw [if_neg (by omega), List.take_of_length_le (by omega)]
    simp
  | d + 1, j, h => by
    have hj : j < l.length := by omega
    have ih := format_l0 l hn d (j + 1) (by omega)
    refine Ev.step (fun k => ?_) (f := fun k => image_Format.l0 k ((l.take (j + 1)).map ch ++ List.replicate d 0) l (l.length : Int) ((j + 1 : Nat) : Int)) ih
    have hl : ((l.take j).map ch).length = j := by rw [List.length_map, List.length_take]; omega
    have e48 : (((l.take j).map ch ++ List.replicate (d + 1) 0).set j 48 : List Int) = (l.take j).map ch ++ 48 :: List.replicate d 0 := by
      rw [List.replicate_succ, set_mid _ _ _ _ _ hl]
    have e49 : (((l.take j).map ch ++ 48 :: List.replicate d 0).set j 49 : List Int) = (l.take j).map ch ++ 49 :: List.replicate d 0 := set_mid _ _ _ _ _ hl
    have ht : (l.take (j + 1)).map ch ++ List.replicate d 0 = (l.take j).map ch ++ ch l[j] :: List.replicate d 0 := by
      rw [List.take_succ_eq_append_getElem hj, List.map_append, List.append_assoc]; rfl
    simp only [image_Format.l0, Int.toNat_natCast]
    rw [if_pos (by omega), if_pos (by omega), if_pos (by omega), if_pos (by rw [List.length_append, hl, List.length_replicate]; omega), Option.bind_some, e48, e49, w64 hj hn, ht, rdOf_lt _ _ _ hj]
    cases hb : l[j]
    · rw [if_neg (by decide)]; rfl
    · rw [if_pos rfl]; rfl
theorem strOf_ch (l : List Bool) : strOfNums (l.map ch) = ⟨(chs l).toArray⟩ := by
  unfold strOfNums chs
  rw [List.map_map]
  congr 2
  apply List.map_congr_left
  intro b _
  exact ch_u8 b
theorem format_ev (l : List Bool) (hn : l.length ≤ 281474976710656) : Ev (fun k => image_Format.f k l) (fmtB l) := by
  by_cases h : l = []
  · subst h
    exact Ev.congr (f := fun _ => some (fmtB [])) (fun k => rfl) (Ev.now _)
  · have h0 : l.length ≠ 0 := by intro e; exact h (List.eq_nil_of_length_eq_zero e)
    have h2 := format_l0 l (by omega) l.length 0 (by omega)
    refine Ev.congr (f := fun k => image_Format.l0 k (List.replicate l.length 0) l (l.length : Int) 0) (fun k => ?_) ?_
    · simp only [image_Format.f, Int.toNat_natCast]
      rw [if_neg (by omega), if_pos (by omega), if_pos (by omega)]
    · have e : fmtB l = strOfNums (l.map ch) := by rw [strOf_ch, fmtB, fmtL, if_neg h]
      rw [e]
      simpa using h2
theorem fmtB_list (l : List Bool) : (fmtB l).toList = fmtL l := by rw [ByteArray.toList_eq]; rfl
theorem chs_inj {l m : List Bool} (h : chs l = chs m) : l = m := by
  induction l generalizing m with
  | nil => cases m with
    | nil => rfl
    | cons b m => cases h
  | cons a l ih => cases m with
    | nil => cases h
    | cons b m =>
      simp only [chs, List.map_cons, List.cons.injEq] at h
      have : a = b := by cases a <;> cases b <;> simp at h ⊢
      rw [this, ih h.2]
theorem chs_mem {l : List Bool} {c : UInt8} (h : c ∈ chs l) : c = 48 ∨ c = 49 := by
  simp only [chs, List.mem_map] at h
  obtain ⟨b, _, rfl⟩ := h
  cases b <;> simp
theorem fmtL_inj {l m : List Bool} (h : fmtL l = fmtL m) : l = m := by
  unfold fmtL at h
  by_cases hl : l = [] <;> by_cases hm : m = []
  · rw [hl, hm]
  · rw [if_pos hl, if_neg hm] at h
    have : (45 : UInt8) ∈ chs m := by rw [← h]; simp
    rcases chs_mem this with h | h <;> exact absurd h (by decide)
  · rw [if_neg hl, if_pos hm] at h
    have : (45 : UInt8) ∈ chs l := by rw [h]; simp
    rcases chs_mem this with h | h <;> exact absurd h (by decide)
  · rw [if_neg hl, if_neg hm] at h
    exact chs_inj h

theorem refFormat_l0 (l : List Bool) (hn : l.length ≤ 9223372036854775806) : ∀ (d j : Nat), l.length = j + d →
    Ev (fun k => busbarref02_Format.l0 k l ⟨(chs (l.take j)).toArray⟩ (j : Int)) (fmtB l)
  | 0, j, h => by
    refine Ev.step (f := fun _ => some (fmtB l)) (fun k => ?_) (Ev.now _)
    simp only [busbarref02_Format.l0]
    rw [if_neg (by omega), List.take_of_length_le (by omega), ByteArray.toList_eq]
    by_cases hl : l = []
    · subst hl; rfl
    · rw [if_neg (by simp [chs, hl]), fmtB, fmtL, if_neg hl]
  | d + 1, j, h => by
    have hj : j < l.length := by omega
    have ih := refFormat_l0 l hn d (j + 1) (by omega)
    refine Ev.step (fun k => ?_) (f := fun k => busbarref02_Format.l0 k l ⟨(chs (l.take (j + 1))).toArray⟩ ((j + 1 : Nat) : Int)) ih
    have hs : (⟨(chs (l.take j)).toArray⟩ : ByteArray).size = j := by show (chs (l.take j)).toArray.size = j; rw [List.size_toArray, chs_length, List.length_take]; omega
    have app : ∀ (c : UInt8), (⟨(chs (l.take j)).toArray⟩ : ByteArray) ++ ⟨#[c]⟩ = ⟨(chs (l.take j) ++ [c]).toArray⟩ := by
      intro c
      apply ByteArray.ext
      rw [ByteArray.data_append]
      simp
    have ht : chs (l.take (j + 1)) = chs (l.take j) ++ [if l[j] then 49 else 48] := by
      rw [List.take_succ_eq_append_getElem hj, chs_append]; rfl
    simp only [busbarref02_Format.l0]
    rw [if_pos (by omega), if_pos (by omega), rdOf_lt _ _ _ hj, hs, app, app, w64 hj (by omega), ht]
    cases hb : l[j]
    · rw [if_neg (by decide), if_pos (by omega)]; rfl
    · rw [if_pos rfl, if_pos (by omega)]; rfl
theorem refFormat_ev (l : List Bool) (hn : l.length ≤ 281474976710656) : Ev (fun k => busbarref02_Format.f k l) (fmtB l) := by
  have h := refFormat_l0 l (by omega) l.length 0 (by omega)
  exact h

/-! ### Equal -/
theorem eq_drop {l m : List Bool} {j : Nat} (h1 : j < l.length) (h2 : j < m.length) : (l.drop j = m.drop j) ↔ (l[j] = m[j] ∧ l.drop (j + 1) = m.drop (j + 1)) := by
  rw [drop_cons l j h1, drop_cons m j h2, List.cons.injEq]
theorem slEqual_l0 (l m : List Bool) (he : l.length = m.length) (hn : l.length ≤ 9223372036854775807) : ∀ (d j : Nat), l.length = j + d →
    Ev (fun k => slices_Equal_bool_bool.l0 k l m (l.length : Int) (j : Int)) (decide (l.drop j = m.drop j))
  | 0, j, h => by
    refine Ev.step (f := fun _ => some true) (fun k => ?_) ?_
    · simp only [slices_Equal_bool_bool.l0]; rw [if_neg (by omega)]
    · rw [List.drop_of_length_le (by omega), List.drop_of_length_le (by omega), decide_eq_true rfl]; exact Ev.now _
  | d + 1, j, h => by
    have hj : j < l.length := by omega
    have hm : j < m.length := by omega
    have ih := slEqual_l0 l m he hn d (j + 1) (by omega)
    by_cases hb : l[j] = m[j]
    · refine Ev.step (fun k => ?_) (f := fun k => slices_Equal_bool_bool.l0 k l m (l.length : Int) ((j + 1 : Nat) : Int)) ?_
      · simp only [slices_Equal_bool_bool.l0]
        rw [if_pos (by omega), if_pos (by omega), if_pos (by omega), if_pos (by omega), rdOf_lt _ _ _ hj, rdOf_lt _ _ _ hm, if_neg (by simp [hb]), w64 hj hn]
      · have : decide (l.drop j = m.drop j) = decide (l.drop (j + 1) = m.drop (j + 1)) := by
          apply decide_eq_decide.2; rw [eq_drop hj hm]; simp [hb]
        rw [this]; exact ih
    · refine Ev.step (fun k => ?_) (f := fun k => some false) ?_
      · simp only [slices_Equal_bool_bool.l0]
        rw [if_pos (by omega), if_pos (by omega), if_pos (by omega), if_pos (by omega), rdOf_lt _ _ _ hj, rdOf_lt _ _ _ hm, if_pos (by simp [hb])]
      · have : decide (l.drop j = m.drop j) = false := by apply decide_eq_false; rw [eq_drop hj hm]; exact fun h => hb h.1
        rw [this]; exact Ev.now _
theorem slEqual_ev (l m : List Bool) (hn : l.length ≤ 9223372036854775807) : Ev (fun k => slices_Equal_bool_bool.f k l m) (decide (l = m)) := by
  by_cases he : l.length = m.length
  · refine Ev.congr (f := fun k => slices_Equal_bool_bool.l0 k l m (l.length : Int) ((0 : Nat) : Int)) (fun k => ?_) ?_
    · simp only [slices_Equal_bool_bool.f]; rw [if_pos (by omega)]; rfl
    · exact slEqual_l0 l m he hn l.length 0 (by omega)
  · refine Ev.congr (f := fun _ => some false) (fun k => ?_) ?_
    · simp only [slices_Equal_bool_bool.f]; rw [if_neg (by omega)]
    · rw [decide_eq_false (fun e => he (by rw [e]))]; exact Ev.now _
theorem equal_ev (l m : List Bool) (hn : l.length ≤ 9223372036854775807) : Ev (fun k => image_Equal.f k l m) (decide (l = m)) := by
  unfold image_Equal.f
  exact Ev.bind (slEqual_ev l m hn) (Ev.now _)
theorem refEqual_l0 (l m : List Bool) (he : l.length = m.length) (hn : l.length ≤ 9223372036854775807) : ∀ (d j : Nat), l.length = j + d →
    Ev (fun k => busbarref02_Equal.l0 k l m (j : Int)) (decide (l.drop j = m.drop j))
  | 0, j, h => by
    refine Ev.step (f := fun _ => some true) (fun k => ?_) ?_
    · simp only [busbarref02_Equal.l0]; rw [if_neg (by omega)]
    · rw [List.drop_of_length_le (by omega), List.drop_of_length_le (by omega), decide_eq_true rfl]; exact Ev.now _
  | d + 1, j, h => by
    have hj : j < l.length := by omega
    have hm : j < m.length := by omega
    have ih := refEqual_l0 l m he hn d (j + 1) (by omega)
    by_cases hb : l[j] = m[j]
    · refine Ev.step (fun k => ?_) (f := fun k => busbarref02_Equal.l0 k l m ((j + 1 : Nat) : Int)) ?_
      · simp only [busbarref02_Equal.l0]
        rw [if_pos (by omega), if_pos (by omega), if_pos (by omega), rdOf_lt _ _ _ hj, rdOf_lt _ _ _ hm, if_neg (by simp [hb]), w64 hj hn]
      · have : decide (l.drop j = m.drop j) = decide (l.drop (j + 1) = m.drop (j + 1)) := by
          apply decide_eq_decide.2; rw [eq_drop hj hm]; simp [hb]
        rw [this]; exact ih
    · refine Ev.step (fun k => ?_) (f := fun k => some false) ?_
      · simp only [busbarref02_Equal.l0]
        rw [if_pos (by omega), if_pos (by omega), if_pos (by omega), rdOf_lt _ _ _ hj, rdOf_lt _ _ _ hm, if_pos (by simp [hb])]
      · have : decide (l.drop j = m.drop j) = false := by apply decide_eq_false; rw [eq_drop hj hm]; exact fun h => hb h.1
        rw [this]; exact Ev.now _
theorem refEqual_ev (l m : List Bool) (hn : l.length ≤ 9223372036854775807) : Ev (fun k => busbarref02_Equal.f k l m) (decide (l = m)) := by
  by_cases he : l.length = m.length
  · refine Ev.congr (f := fun k => busbarref02_Equal.l0 k l m ((0 : Nat) : Int)) (fun k => ?_) ?_
    · simp only [busbarref02_Equal.f]; rw [if_pos (by omega)]; rfl
    · exact refEqual_l0 l m he hn l.length 0 (by omega)
  · refine Ev.congr (f := fun _ => some false) (fun k => ?_) ?_
    · simp only [busbarref02_Equal.f]; rw [if_neg (by omega)]
    · rw [decide_eq_false (fun e => he (by rw [e]))]; exact Ev.now _

/-! ### Get, Set -/
theorem get_in (l : List Bool) (n : Nat) (h : n < l.length) : image_Get.f l (n : Int) = some (l[n], 0) := by
  unfold image_Get.f image_is.f
  rw [if_pos (by omega), Option.bind_some, if_pos (by simp; omega), if_pos (by omega), if_pos (by omega), rdOf_lt _ _ _ h]
theorem get_out (l : List Bool) (n : Int) (h : n < 0 ∨ (l.length : Int) ≤ n) : image_Get.f l n = some (false, 3) := by
  unfold image_Get.f image_is.f
  by_cases h0 : n ≥ 0
  · rw [if_pos h0, Option.bind_some, if_neg (by simp; omega)]
  · rw [if_neg h0, Option.bind_some, if_neg (by simp)]
theorem set_in (l : List Bool) (n : Nat) (v : Bool) (h : n < l.length) (hn : l.length ≤ 281474976710656) : image_Set.f l (n : Int) v = some (l.set n v, 0) := by
  unfold image_Set.f
  rw [if_pos (by omega), if_pos (by omega), if_pos hn, Int.toNat_natCast]
theorem set_out (l : List Bool) (n : Int) (v : Bool) (h : n < 0 ∨ (l.length : Int) ≤ n) : image_Set.f l n v = some ([], 3) := by
  unfold image_Set.f
  by_cases h0 : 0 ≤ n
  · rw [if_pos h0, if_neg (by omega)]
  · rw [if_neg h0]
end Go.Proofs.Ytjohdkbciafpfaa.Pimg
