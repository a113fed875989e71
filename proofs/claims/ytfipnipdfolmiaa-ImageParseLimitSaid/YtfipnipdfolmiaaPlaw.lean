/- Plain laws of chapter 2: Diff, Parse, the chapter's example, and each law's own function. No program in sight. -/
import Derived.Test.YtfipnipdfolmiaaPimg
namespace Go.Proofs.Ytfipnipdfolmiaa.Plaw
open Go.RowKit Go.Proofs.YtfipnipdfolmiaaW.PrintWords Go.Proofs.YtfipnipdfolmiaaW.PrintMore Go.Proofs.Ytfipnipdfolmiaa.Impl Go.Proofs.Ytfipnipdfolmiaa.Pimg
set_option linter.unusedVariables false
set_option linter.unusedSimpArgs false

/-! ### Diff -/
/-- The indices from j on at which two lists (of one length) differ. -/
def dif : Nat → List Bool → List Bool → List Nat
  | j, a :: l, b :: m => if a = b then dif (j + 1) l m else j :: dif (j + 1) l m
  | _, _, _ => []
theorem dif_length : ∀ (j : Nat) (l m : List Bool), (dif j l m).length ≤ l.length
  | j, a :: l, b :: m => by
    unfold dif
    have := dif_length (j + 1) l m
    split
    · rw [List.length_cons]; omega
    · rw [List.length_cons, List.length_cons]; omega
  | _, [], _ => by simp [dif]
  | _, _ :: _, [] => by simp [dif]
def difI (l : List Nat) : List Int := l.map fun (n : Nat) => (n : Int)
theorem diff_l0 (l m : List Bool) (he : l.length = m.length) (hn : l.length < 17592186044416) : ∀ (d j : Nat) (acc : List Int), l.length = j + d → acc.length ≤ j →
    Ev (fun k => image_Diff.l0 k l m acc (l.length : Int) (j : Int)) (acc ++ difI (dif j (l.drop j) (m.drop j)), 0)
  | 0, j, acc, h, ha => by
    refine Ev.step (f := fun _ => some (acc, 0)) (fun k => ?_) ?_
    · simp only [image_Diff.l0]; rw [if_neg (by omega)]
    · rw [List.drop_of_length_le (by omega), List.drop_of_length_le (by omega)]
      simpa [dif, difI] using Ev.now (acc, (0 : Int))
  | d + 1, j, acc, h, ha => by
    have hj : j < l.length := by omega
    have hm : j < m.length := by omega
    by_cases hb : l[j] = m[j]
    · have ih := diff_l0 l m he hn d (j + 1) acc (by omega) (by omega)
      refine Ev.step (fun k => ?_) (f := fun k => image_Diff.l0 k l m acc (l.length : Int) ((j + 1 : Nat) : Int)) ?_
      · simp only [image_Diff.l0]
        rw [if_pos (by omega), if_pos (by omega), if_pos (by omega), if_pos (by omega), rdOf_lt _ _ _ hj, rdOf_lt _ _ _ hm, if_neg (by simp [hb]), w64 hj (by omega)]
      · rw [drop_cons l j hj, drop_cons m j hm]
        unfold dif
        rw [if_pos hb]
        exact ih
    · have ih := diff_l0 l m he hn d (j + 1) (acc ++ [(j : Int)]) (by omega) (by simp; omega)
      refine Ev.step (fun k => ?_) (f := fun k => image_Diff.l0 k l m (acc ++ [(j : Int)]) (l.length : Int) ((j + 1 : Nat) : Int)) ?_
      · simp only [image_Diff.l0]
        rw [if_pos (by omega), if_pos (by omega), if_pos (by omega), if_pos (by omega), rdOf_lt _ _ _ hj, rdOf_lt _ _ _ hm, if_pos (by simp [hb]), if_pos (by omega), w64 hj (by omega)]
      · rw [drop_cons l j hj, drop_cons m j hm]
        unfold dif
        rw [if_neg hb]
        simpa [difI] using ih
theorem diff_ev (l m : List Bool) (hn : l.length < 17592186044416) : Ev (fun k => image_Diff.f k l m) (if l.length = m.length then (difI (dif 0 l m), 0) else ([], 2)) := by
  by_cases he : l.length = m.length
  · rw [if_pos he]
    refine Ev.congr (f := fun k => image_Diff.l0 k l m [] (l.length : Int) ((0 : Nat) : Int)) (fun k => ?_) ?_
    · simp only [image_Diff.f]; rw [if_pos (by omega)]; rfl
    · simpa using diff_l0 l m he hn l.length 0 [] (by omega) (by simp)
  · rw [if_neg he]
    refine Ev.congr (f := fun _ => some (([] : List Int), 2)) (fun k => ?_) (Ev.now _)
    simp only [image_Diff.f]; rw [if_neg (by omega)]
theorem refDiff_l0 (l m : List Bool) (he : l.length = m.length) (hn : l.length < 17592186044416) : ∀ (d j : Nat) (acc : List Int), l.length = j + d → acc.length ≤ j →
    Ev (fun k => busbarref02_Diff.l0 k l m acc (j : Int)) (acc ++ difI (dif j (l.drop j) (m.drop j)), 0)
  | 0, j, acc, h, ha => by
    refine Ev.step (f := fun _ => some (acc, 0)) (fun k => ?_) ?_
    · simp only [busbarref02_Diff.l0]; rw [if_neg (by omega)]
    · rw [List.drop_of_length_le (by omega), List.drop_of_length_le (by omega)]
      simpa [dif, difI] using Ev.now (acc, (0 : Int))
  | d + 1, j, acc, h, ha => by
    have hj : j < l.length := by omega
    have hm : j < m.length := by omega
    by_cases hb : l[j] = m[j]
    · have ih := refDiff_l0 l m he hn d (j + 1) acc (by omega) (by omega)
      refine Ev.step (fun k => ?_) (f := fun k => busbarref02_Diff.l0 k l m acc ((j + 1 : Nat) : Int)) ?_
      · simp only [busbarref02_Diff.l0]
        rw [if_pos (by omega), if_pos (by omega), if_pos (by omega), rdOf_lt _ _ _ hj, rdOf_lt _ _ _ hm, if_neg (by simp [hb]), w64 hj (by omega)]
      · rw [drop_cons l j hj, drop_cons m j hm]
        unfold dif
        rw [if_pos hb]
        exact ih
    · have ih := refDiff_l0 l m he hn d (j + 1) (acc ++ [(j : Int)]) (by omega) (by simp; omega)
      refine Ev.step (fun k => ?_) (f := fun k => busbarref02_Diff.l0 k l m (acc ++ [(j : Int)]) ((j + 1 : Nat) : Int)) ?_
      · simp only [busbarref02_Diff.l0]
        rw [if_pos (by omega), if_pos (by omega), if_pos (by omega), rdOf_lt _ _ _ hj, rdOf_lt _ _ _ hm, if_pos (by simp [hb]), if_pos (by omega), w64 hj (by omega)]
      · rw [drop_cons l j hj, drop_cons m j hm]
        unfold dif
        rw [if_neg hb]
        simpa [difI] using ih
theorem refDiff_ev (l m : List Bool) (hn : l.length < 17592186044416) : Ev (fun k => busbarref02_Diff.f k l m) (if l.length = m.length then (difI (dif 0 l m), 0) else ([], 2)) := by
  by_cases he : l.length = m.length
  · rw [if_pos he]
    refine Ev.congr (f := fun k => busbarref02_Diff.l0 k l m [] ((0 : Nat) : Int)) (fun k => ?_) ?_
    · simp only [busbarref02_Diff.f]; rw [if_pos (by omega)]; rfl
    · simpa using refDiff_l0 l m he hn l.length 0 [] (by omega) (by simp)
  · rw [if_neg he]
    refine Ev.congr (f := fun _ => some (([] : List Int), 2)) (fun k => ?_) (Ev.now _)
    simp only [busbarref02_Diff.f]; rw [if_neg (by omega)]

/-! ### Count of the reference -/
theorem refCount_l0 (l : List Bool) (hn : l.length ≤ 9223372036854775807) : ∀ (d j c : Nat), l.length = j + d → c ≤ j →
    Ev (fun k => busbarref02_Count.l0 k l (c : Int) (j : Int)) ((c + cnt (l.drop j) : Nat) : Int)
  | 0, j, c, h, hc => by
    refine Ev.step (f := fun _ => some (c : Int)) (fun k => ?_) ?_
    · simp only [busbarref02_Count.l0]; rw [if_neg (by omega)]
    · rw [List.drop_of_length_le (by omega)]
      exact Ev.now _
  | d + 1, j, c, h, hc => by
    have hj : j < l.length := by omega
    have ih0 := refCount_l0 l hn d (j + 1) c (by omega) (by omega)
    have ih1 := refCount_l0 l hn d (j + 1) (c + 1) (by omega) (by omega)
    cases hb : l[j] with
    | true =>
      refine Ev.step (fun k => ?_) (f := fun k => busbarref02_Count.l0 k l ((c + 1 : Nat) : Int) ((j + 1 : Nat) : Int)) ?_
      · simp only [busbarref02_Count.l0]
        rw [if_pos (by omega), if_pos (by omega), if_pos (by rw [rdOf_lt _ _ _ hj, hb]), w64 hj hn, w64 (j := c) (n := l.length) (by omega) hn]
      · have : c + cnt (l.drop j) = c + 1 + cnt (l.drop (j + 1)) := by
          rw [drop_cons l j hj, hb]; unfold cnt; rw [List.countP_cons_of_pos (by rfl)]; omega
        rw [this]; exact ih1
    | false =>
      refine Ev.step (fun k => ?_) (f := fun k => busbarref02_Count.l0 k l (c : Int) ((j + 1 : Nat) : Int)) ?_
      · simp only [busbarref02_Count.l0]
        rw [if_pos (by omega), if_pos (by omega), if_neg (by rw [rdOf_lt _ _ _ hj, hb]; decide), w64 hj hn]
      · have : c + cnt (l.drop j) = c + cnt (l.drop (j + 1)) := by
          rw [drop_cons l j hj, hb]; unfold cnt; rw [List.countP_cons_of_neg (by simp)]
        rw [this]; exact ih0
theorem refCount_ev (l : List Bool) (hn : l.length ≤ 9223372036854775807) : Ev (fun k => busbarref02_Count.f k l) ((cnt l : Nat) : Int) := by
  have h := refCount_l0 l hn l.length 0 0 (by omega) (by omega)
  simpa [busbarref02_Count.f] using h

/-! ### Parse -/
theorem bt_nat (s : ByteArray) (j : Nat) (h : j < s.data.toList.length) : bt s (j : Int) = (s.data.toList[j].toNat : Int) := by
  have hs : j < s.size := by rw [← data_length]; exact h
  have := bt_at s (j : Int) (by rw [Int.toNat_natCast]; exact hs)
  rw [← this]
  simp only [Int.toNat_natCast]
  rfl
theorem u8_eq (c : UInt8) (n : Nat) (h : n < 256) : ((c.toNat : Int) = (n : Int)) ↔ c = UInt8.ofNat n := by
  constructor
  · intro e
    have : c.toNat = n := by omega
    rw [← this]; simp
  · intro e
    rw [e]
    simp
    omega
theorem u8_48 (c : UInt8) : ((c.toNat : Int) = 48) ↔ c = 48 := u8_eq c 48 (by omega)
theorem u8_49 (c : UInt8) : ((c.toNat : Int) = 49) ↔ c = 49 := u8_eq c 49 (by omega)
def isBits (l : List UInt8) : Bool := l.all fun c => c == 48 || c == 49
def bitsOf (l : List UInt8) : List Bool := l.map (· == 49)
def parsed (l : List UInt8) : List Bool × Int := if l.length > 16384 then ([], 7) else if l = [45] then ([], 0) else if l = [] then ([], 6) else if isBits l then (bitsOf l, 0) else ([], 6)
theorem parse_l0 (s : ByteArray) (hn : s.data.toList.length ≤ 281474976710656) : ∀ (d j : Nat), s.data.toList.length = j + d → isBits (s.data.toList.take j) = true →
    Ev (fun k => image_Parse.l0 k s (bitsOf (s.data.toList.take j) ++ List.replicate d false) (s.size : Int) (j : Int)) (if isBits (s.data.toList.drop j) then (bitsOf s.data.toList, 0) else ([], 6))
  | 0, j, h, hb => by
    have hsz := data_length s
    refine Ev.step (f := fun _ => some (bitsOf s.data.toList, 0)) (fun k => ?_) ?_
    · simp only [image_Parse.l0]; rw [if_neg (by omega), List.take_of_length_le (by omega)]; simp
    · rw [List.drop_of_length_le (by omega)]; exact Ev.now _
  | d + 1, j, h, hb => by
    have hsz := data_length s
    have hj : j < s.data.toList.length := by omega
    have hl : (bitsOf (s.data.toList.take j)).length = j := by unfold bitsOf; rw [List.length_map, List.length_take]; omega
    have ht : ∀ x : Bool, (s.data.toList[j] == 49) = x → bitsOf (s.data.toList.take (j + 1)) ++ List.replicate d false = bitsOf (s.data.toList.take j) ++ x :: List.replicate d false := by
      intro x hx
      unfold bitsOf
      rw [List.take_succ_eq_append_getElem hj, List.map_append, List.append_assoc]
      show _ ++ ((s.data.toList[j] == 49) :: List.replicate d false) = _
      rw [hx]
    have hd : isBits (s.data.toList.drop j) = ((s.data.toList[j] == 48 || s.data.toList[j] == 49) && isBits (s.data.toList.drop (j + 1))) := by
      rw [drop_cons _ j hj]; rfl
    have hbs : ∀ c, s.data.toList[j] = c → (c = 48 ∨ c = 49) → isBits (s.data.toList.take (j + 1)) = true := by
      intro c hc hc2
      rw [List.take_succ_eq_append_getElem hj]
      unfold isBits at hb ⊢
      rw [List.all_append, hb, hc]
      rcases hc2 with rfl | rfl <;> rfl
    by_cases h49 : s.data.toList[j] = 49
    · have ih := parse_l0 s hn d (j + 1) (by omega) (hbs _ h49 (.inr rfl))
      rw [ht true (by rw [h49]; rfl)] at ih
      refine Ev.step (fun k => ?_) (f := fun k => image_Parse.l0 k s (bitsOf (s.data.toList.take j) ++ true :: List.replicate d false) (s.size : Int) ((j + 1 : Nat) : Int)) ?_
      · simp only [image_Parse.l0, Int.toNat_natCast]
        rw [if_pos (by omega), if_pos (by omega), if_pos (by omega), bt_nat s j hj, if_pos ((u8_49 _).2 h49), if_pos (by rw [List.length_append, hl, List.length_replicate]; omega), List.replicate_succ, set_mid _ _ _ _ _ hl, w64 hj (by omega)]
      · rw [hd, h49]; exact ih
    · by_cases h48 : s.data.toList[j] = 48
      · have ih := parse_l0 s hn d (j + 1) (by omega) (hbs _ h48 (.inl rfl))
        rw [ht false (by rw [h48]; rfl)] at ih
        refine Ev.step (fun k => ?_) (f := fun k => image_Parse.l0 k s (bitsOf (s.data.toList.take j) ++ false :: List.replicate d false) (s.size : Int) ((j + 1 : Nat) : Int)) ?_
        · simp only [image_Parse.l0, Int.toNat_natCast]
          rw [if_pos (by omega), if_pos (by omega), if_pos (by omega), bt_nat s j hj, if_neg (fun e => h49 ((u8_49 _).1 e)), if_pos ((u8_48 _).2 h48), List.replicate_succ, w64 hj (by omega)]
        · rw [hd, h48]; exact ih
      · refine Ev.step (fun k => ?_) (f := fun k => some ([], 6)) ?_
        · simp only [image_Parse.l0, Int.toNat_natCast]
          rw [if_pos (by omega), if_pos (by omega), if_pos (by omega), bt_nat s j hj, if_neg (fun e => h49 ((u8_49 _).1 e)), if_neg (fun e => h48 ((u8_48 _).1 e))]
        · rw [hd]
          have e1 : (s.data.toList[j] == 48 || s.data.toList[j] == 49) = false := by rw [beq_eq_false_iff_ne.2 h48, beq_eq_false_iff_ne.2 h49]; rfl
          rw [e1, Bool.false_and, if_neg (by decide)]; exact Ev.now _
theorem parse_ev (s : ByteArray) : Ev (fun k => image_Parse.f k s) (parsed s.data.toList) := by
  have hsz := data_length s
  unfold parsed
  by_cases h1 : s.data.toList.length > 16384
  · rw [if_pos h1]
    refine Ev.congr (f := fun _ => some (([] : List Bool), 7)) (fun k => ?_) (Ev.now _)
    simp only [image_Parse.f]; rw [if_pos (by omega)]
  · rw [if_neg h1]
    by_cases h2 : s.data.toList = [45]
    · rw [if_pos h2]
      refine Ev.congr (f := fun _ => some (([] : List Bool), 0)) (fun k => ?_) (Ev.now _)
      simp only [image_Parse.f]; rw [if_neg (by omega), if_pos (by rw [ByteArray.toList_eq]; exact h2)]
    · rw [if_neg h2]
      by_cases h3 : s.data.toList = []
      · rw [if_pos h3]
        refine Ev.congr (f := fun _ => some (([] : List Bool), 6)) (fun k => ?_) (Ev.now _)
        simp only [image_Parse.f]; rw [if_neg (by omega), if_neg (by rw [ByteArray.toList_eq]; exact h2), if_pos (by rw [ByteArray.toList_eq]; exact h3)]
      · rw [if_neg h3]
        have h := parse_l0 s (by omega) s.data.toList.length 0 (by omega) rfl
        refine Ev.congr (f := fun k => image_Parse.l0 k s (List.replicate s.data.toList.length false) (s.size : Int) ((0 : Nat) : Int)) (fun k => ?_) ?_
        · simp only [image_Parse.f, Int.toNat_natCast]; rw [if_neg (by omega), if_neg (by rw [ByteArray.toList_eq]; exact h2), if_neg (by rw [ByteArray.toList_eq]; exact h3), if_pos (by omega), if_pos (by omega), hsz]; rfl
        · exact h
theorem refParse_l0 (s : ByteArray) (hn : s.data.toList.length ≤ 16384) : ∀ (d j : Nat), s.data.toList.length = j + d →
    Ev (fun k => busbarref02_Parse.l0 k s (bitsOf (s.data.toList.take j)) (j : Int)) (if isBits (s.data.toList.drop j) then (bitsOf s.data.toList, 0) else ([], 6))
  | 0, j, h => by
    have hsz := data_length s
    refine Ev.step (f := fun _ => some (bitsOf s.data.toList, 0)) (fun k => ?_) ?_
    · simp only [busbarref02_Parse.l0]; rw [if_neg (by omega), List.take_of_length_le (by omega)]
    · rw [List.drop_of_length_le (by omega)]; exact Ev.now _
  | d + 1, j, h => by
    have hsz := data_length s
    have hj : j < s.data.toList.length := by omega
    have hl : (bitsOf (s.data.toList.take j)).length = j := by unfold bitsOf; rw [List.length_map, List.length_take]; omega
    have ht : ∀ x : Bool, (s.data.toList[j] == 49) = x → bitsOf (s.data.toList.take (j + 1)) = bitsOf (s.data.toList.take j) ++ [x] := by
      intro x hx
      unfold bitsOf
      rw [List.take_succ_eq_append_getElem hj, List.map_append]
      show _ ++ [s.data.toList[j] == 49] = _
      rw [hx]
    have hd : isBits (s.data.toList.drop j) = ((s.data.toList[j] == 48 || s.data.toList[j] == 49) && isBits (s.data.toList.drop (j + 1))) := by
      rw [drop_cons _ j hj]; rfl
    have ih := refParse_l0 s hn d (j + 1) (by omega)
    by_cases h48 : s.data.toList[j] = 48
    · rw [ht false (by rw [h48]; rfl)] at ih
      refine Ev.step (fun k => ?_) (f := fun k => busbarref02_Parse.l0 k s (bitsOf (s.data.toList.take j) ++ [false]) ((j + 1 : Nat) : Int)) ?_
      · simp only [busbarref02_Parse.l0]
        rw [if_pos (by omega), if_pos (by omega), bt_nat s j hj, if_pos ((u8_48 _).2 h48), if_pos (by omega), w64 hj (by omega), h48]; rfl
      · rw [hd, h48]; exact ih
    · by_cases h49 : s.data.toList[j] = 49
      · rw [ht true (by rw [h49]; rfl)] at ih
        refine Ev.step (fun k => ?_) (f := fun k => busbarref02_Parse.l0 k s (bitsOf (s.data.toList.take j) ++ [true]) ((j + 1 : Nat) : Int)) ?_
        · simp only [busbarref02_Parse.l0]
          rw [if_pos (by omega), if_pos (by omega), bt_nat s j hj, if_neg (fun e => h48 ((u8_48 _).1 e)), if_pos ((u8_49 _).2 h49), if_pos (by omega), w64 hj (by omega)]
        · rw [hd, h49]; exact ih
      · refine Ev.step (fun k => ?_) (f := fun k => some ([], 6)) ?_
        · simp only [busbarref02_Parse.l0]
          rw [if_pos (by omega), if_pos (by omega), bt_nat s j hj, if_neg (fun e => h48 ((u8_48 _).1 e)), if_neg (fun e => h49 ((u8_49 _).1 e))]
        · rw [hd]
          have e1 : (s.data.toList[j] == 48 || s.data.toList[j] == 49) = false := by rw [beq_eq_false_iff_ne.2 h48, beq_eq_false_iff_ne.2 h49]; rfl
          rw [e1, Bool.false_and, if_neg (by decide)]; exact Ev.now _
theorem refParse_ev (s : ByteArray) : Ev (fun k => busbarref02_Parse.f k s) (parsed s.data.toList) := by
  have hsz := data_length s
  unfold parsed
  by_cases h1 : s.data.toList.length > 16384
  · rw [if_pos h1]
    refine Ev.congr (f := fun _ => some (([] : List Bool), 7)) (fun k => ?_) (Ev.now _)
    simp only [busbarref02_Parse.f]; rw [if_pos (by omega)]
  · rw [if_neg h1]
    by_cases h2 : s.data.toList = [45]
    · rw [if_pos h2]
      refine Ev.congr (f := fun _ => some (([] : List Bool), 0)) (fun k => ?_) (Ev.now _)
      simp only [busbarref02_Parse.f]; rw [if_neg (by omega), if_pos (by rw [ByteArray.toList_eq]; exact h2)]
    · rw [if_neg h2]
      by_cases h3 : s.data.toList = []
      · rw [if_pos h3]
        refine Ev.congr (f := fun _ => some (([] : List Bool), 6)) (fun k => ?_) (Ev.now _)
        simp only [busbarref02_Parse.f]; rw [if_neg (by omega), if_neg (by rw [ByteArray.toList_eq]; exact h2), if_pos (by rw [ByteArray.toList_eq]; exact h3)]
      · rw [if_neg h3]
        have h := refParse_l0 s (by omega) s.data.toList.length 0 (by omega)
        refine Ev.congr (f := fun k => busbarref02_Parse.l0 k s [] ((0 : Nat) : Int)) (fun k => ?_) ?_
        · simp only [busbarref02_Parse.f]; rw [if_neg (by omega), if_neg (by rw [ByteArray.toList_eq]; exact h2), if_neg (by rw [ByteArray.toList_eq]; exact h3)]; rfl
        · exact h

/-! ### The example -/
theorem alive_ev : Ev (fun k => busbarlaw02_alive.f k) true := by
  unfold busbarlaw02_alive.f
  refine Ev.bind (diff_ev _ _ (by decide)) (Ev.bind (format_ev _ (by decide)) ?_)
  refine Ev.congr (f := fun _ => some true) (fun k => ?_) (Ev.now _)
  rw [fmtB_list]
  rfl

/-! ### The laws -/
theorem ne_bool {a b : Bool} (h : a = b) : (a != b) = false := by rw [h]; exact bne_self_eq_false _
theorem conc_j0 (l m : List Bool) : Ev (fun k => busbarlaw02_ImageConcatenation.j0 k l m true) true := by
  refine Ev.step (fun k => rfl) ?_
  simp only [busbarlaw02_ImageConcatenation.j0]
  exact Ev.bind alive_ev (Ev.now _)
theorem conc_j1 (l m : List Bool) (hl : l.length ≤ 1000) (hm : m.length ≤ 1000) : Ev (fun k => busbarlaw02_ImageConcatenation.j1 k l m (l ++ m) false) true := by
  refine Ev.step (fun k => rfl) ?_
  simp only [busbarlaw02_ImageConcatenation.j1]
  refine Ev.congr (fun k => if_neg (by decide)) ?_
  refine Ev.bind alive_ev ?_
  refine Ev.congr (fun k => if_pos (by first | rfl | trivial)) ?_
  by_cases h1 : (l.length : Int) = 0
  · exact Ev.congr (fun k => if_pos h1) (Ev.now _)
  refine Ev.congr (fun k => if_neg h1) ?_
  by_cases h2 : (m.length : Int) = 0
  · exact Ev.congr (fun k => if_pos h2) (Ev.now _)
  refine Ev.congr (fun k => if_neg h2) ?_
  refine Ev.bind (format_ev _ (by rw [List.length_append]; omega)) (Ev.bind (format_ev _ (by omega)) (Ev.bind (format_ev _ (by omega)) ?_))
  have hl0 : l ≠ [] := by intro e; rw [e] at h1; exact h1 rfl
  have hm0 : m ≠ [] := by intro e; rw [e] at h2; exact h2 rfl
  have hlm : l ++ m ≠ [] := by simp [hl0]
  have s1 : (fmtB l).size = l.length := by show (fmtL l).toArray.size = _; rw [List.size_toArray, fmtL, if_neg hl0, chs_length]
  have s2 : (fmtB m).size = m.length := by show (fmtL m).toArray.size = _; rw [List.size_toArray, fmtL, if_neg hm0, chs_length]
  refine Ev.congr (fun k => if_pos (by omega)) ?_
  have e : (fmtB l ++ fmtB m).toList = fmtL (l ++ m) := by
    rw [ByteArray.toList_eq, ByteArray.data_append]
    unfold fmtB fmtL
    rw [if_neg hl0, if_neg hm0, if_neg hlm, chs_append]
    simp
  rw [fmtB_list, e, beq_self_eq_true]
  exact Ev.now _
theorem conc (l m : List Bool) (hl : l.length ≤ maxLen) (hm : m.length ≤ maxLen) : ∃ k, busbarlaw02_ImageConcatenation.f k l m = some true := by
  refine Ev.rounds ?_
  simp only [busbarlaw02_ImageConcatenation.f]
  by_cases h1 : (l.length : Int) > 1000
  · exact Ev.congr (fun k => if_pos h1) (conc_j0 l m)
  refine Ev.congr (fun k => if_neg h1) ?_
  by_cases h2 : (m.length : Int) > 1000
  · rw [decide_eq_true h2]; exact conc_j0 l m
  rw [decide_eq_false h2]
  refine Ev.step (fun k => rfl) ?_
  simp only [busbarlaw02_ImageConcatenation.j0, Option.bind_some, List.nil_append, List.length_nil, Nat.zero_add]
  refine Ev.congr (fun k => if_neg (by decide)) ?_
  refine Ev.congr (fun k => if_pos (by omega)) ?_
  refine Ev.congr (fun k => if_pos (by omega)) ?_
  refine Ev.congr (fun k => if_pos (by omega)) ?_
  refine Ev.congr (fun k => if_pos (by omega)) ?_
  refine Ev.bind (count_ev _ (by rw [List.length_append]; omega)) (Ev.bind (count_ev _ (by omega)) (Ev.bind (count_ev _ (by omega)) ?_))
  have c1 := cnt_le l
  have c2 := cnt_le m
  have c3 := cnt_append l m
  have c4 := cnt_append m l
  refine Ev.congr (fun k => if_pos (by rw [c3]; unfold wrap64; omega)) ?_
  refine Ev.bind (count_ev _ (by rw [List.length_append]; omega)) (Ev.bind (count_ev _ (by rw [List.length_append]; omega)) ?_)
  rw [c3, c4, Nat.add_comm (cnt m) (cnt l), bne_self_eq_false]
  exact conc_j1 l m (by omega) (by omega)

theorem fmr (l : List Bool) (s : ByteArray) : ∃ k, busbarlaw02_ImageFormatMatchesReference.f k l s = some true := by
  refine Ev.rounds ?_
  simp only [busbarlaw02_ImageFormatMatchesReference.f]
  have j0t : Ev (fun k => busbarlaw02_ImageFormatMatchesReference.j0 k l s true) true := by
    refine Ev.step (fun k => rfl) ?_
    simp only [busbarlaw02_ImageFormatMatchesReference.j0]
    exact Ev.bind alive_ev (Ev.now _)
  by_cases h1 : (l.length : Int) > 2000
  · exact Ev.congr (fun k => if_pos h1) j0t
  refine Ev.congr (fun k => if_neg h1) ?_
  by_cases h2 : (s.size : Int) > 2000
  · rw [decide_eq_true h2]; exact j0t
  rw [decide_eq_false h2]
  refine Ev.step (fun k => rfl) ?_
  simp only [busbarlaw02_ImageFormatMatchesReference.j0]
  refine Ev.congr (fun k => if_neg (by decide)) ?_
  refine Ev.bind (parse_ev s) (Ev.bind (refParse_ev s) (Ev.bind alive_ev ?_))
  refine Ev.congr (fun k => if_pos (by first | rfl | trivial)) ?_
  refine Ev.bind (format_ev l (by omega)) (Ev.bind (refFormat_ev l (by omega)) ?_)
  refine Ev.congr (fun k => if_pos (by first | rfl | trivial)) ?_
  have hsz := data_length s
  refine Ev.bind (refEqual_ev _ _ (by unfold parsed; split; · simp
                                      split; · simp
                                      split; · simp
                                      split
                                      · simp only [bitsOf, List.length_map]; omega
                                      · simp)) ?_
  rw [decide_eq_true rfl]
  refine Ev.congr (fun k => if_pos (by first | rfl | trivial)) ?_
  rw [beq_self_eq_true]
  exact Ev.now _

theorem dmr_l0 (n : List Int) (hn : n.length ≤ 9223372036854775807) : ∀ (d j : Nat), n.length = j + d → Ev (fun k => busbarlaw02_ImageDiffMatchesReference.l0 k n n (n.length : Int) (j : Int)) true
  | 0, j, h => by
    refine Ev.step (fun k => rfl) ?_
    simp only [busbarlaw02_ImageDiffMatchesReference.l0]
    exact Ev.congr (fun k => if_neg (by omega)) (Ev.bind alive_ev (Ev.now _))
  | d + 1, j, h => by
    refine Ev.step (fun k => rfl) ?_
    simp only [busbarlaw02_ImageDiffMatchesReference.l0]
    refine Ev.congr (fun k => if_pos (by omega)) (Ev.congr (fun k => if_pos (by omega)) (Ev.congr (fun k => if_pos (by omega)) (Ev.congr (fun k => if_pos (by omega)) (Ev.congr (fun k => if_pos (by first | rfl | trivial)) ?_))))
    rw [w64 (n := n.length) (by omega) hn]
    exact dmr_l0 n hn d (j + 1) (by omega)
theorem dmr (l m : List Bool) : ∃ k, busbarlaw02_ImageDiffMatchesReference.f k l m = some true := by
  refine Ev.rounds ?_
  simp only [busbarlaw02_ImageDiffMatchesReference.f]
  have j0t : Ev (fun k => busbarlaw02_ImageDiffMatchesReference.j0 k l m true) true := by
    refine Ev.step (fun k => rfl) ?_
    simp only [busbarlaw02_ImageDiffMatchesReference.j0]
    exact Ev.bind alive_ev (Ev.now _)
  by_cases h1 : (l.length : Int) > 2000
  · exact Ev.congr (fun k => if_pos h1) j0t
  refine Ev.congr (fun k => if_neg h1) ?_
  by_cases h2 : (m.length : Int) > 2000
  · rw [decide_eq_true h2]; exact j0t
  rw [decide_eq_false h2]
  refine Ev.step (fun k => rfl) ?_
  simp only [busbarlaw02_ImageDiffMatchesReference.j0]
  refine Ev.congr (fun k => if_neg (by decide)) ?_
  refine Ev.bind (diff_ev l m (by omega)) (Ev.bind (refDiff_ev l m (by omega)) ?_)
  refine Ev.congr (fun k => if_pos (by first | rfl | trivial)) (Ev.congr (fun k => if_pos (by first | rfl | trivial)) ?_)
  refine Ev.bind (equal_ev l m (by omega)) (Ev.bind (refEqual_ev l m (by omega)) ?_)
  refine Ev.congr (fun k => if_neg (by rw [bne_self_eq_false]; decide)) ?_
  refine Ev.bind (count_ev l (by omega)) (Ev.bind (refCount_ev l (by omega)) ?_)
  rw [bne_self_eq_false]
  refine Ev.step (fun k => rfl) ?_
  simp only [busbarlaw02_ImageDiffMatchesReference.j1]
  refine Ev.congr (fun k => if_neg (by decide)) ?_
  refine dmr_l0 _ ?_ _ 0 (Nat.zero_add _).symm
  have := dif_length 0 l m
  split
  · simp only [difI, List.length_map]; omega
  · simp

/-! ### Get and Set -/
theorem gs_l0 (l : List Bool) (hl : l.length ≤ 2000) : ∀ (d j : Nat) (x : List Bool), x.length = j + d → x.length ≤ 2000 → Ev (fun k => busbarlaw02_ImageGetSet.l0 k l (fmtB l) x (x.length : Int) (j : Int)) true
  | 0, j, x, h, hx => by
    refine Ev.step (fun k => rfl) ?_
    simp only [busbarlaw02_ImageGetSet.l0]
    refine Ev.congr (fun k => if_neg (by omega)) (Ev.bind alive_ev (Ev.congr (fun k => if_pos (by first | rfl | trivial)) (Ev.bind (refFormat_ev l (by omega)) ?_)))
    rw [beq_self_eq_true]
    exact Ev.now _
  | d + 1, j, x, h, hx => by
    refine Ev.step (fun k => rfl) ?_
    simp only [busbarlaw02_ImageGetSet.l0, Int.toNat_natCast]
    refine Ev.congr (fun k => if_pos (by omega)) (Ev.congr (fun k => if_pos (by omega)) (Ev.congr (fun k => if_pos (by omega)) ?_))
    rw [w64 (n := x.length) (by omega) (by omega)]
    have ih := gs_l0 l hl d (j + 1) (x.set j (!(rdOf false x (j : Int)))) (by rw [List.length_set]; omega) (by rw [List.length_set]; omega)
    rw [List.length_set] at ih
    exact ih
theorem gs (l : List Bool) (n : Int) (v : Bool) : ∃ k, busbarlaw02_ImageGetSet.f k l n v = some true := by
  refine Ev.rounds ?_
  simp only [busbarlaw02_ImageGetSet.f]
  by_cases h1 : (l.length : Int) > 2000
  · exact Ev.congr (fun k => if_pos h1) (Ev.bind alive_ev (Ev.now _))
  refine Ev.congr (fun k => if_neg h1) (Ev.bind (refFormat_ev l (by omega)) ?_)
  by_cases hin : 0 ≤ n ∧ n < (l.length : Int)
  · obtain ⟨i, rfl⟩ := Int.eq_ofNat_of_zero_le hin.1
    have hi : i < l.length := by omega
    rw [get_in l i hi, set_in l i v hi (by omega)]
    simp only [Option.bind_some]
    refine Ev.congr (fun k => if_neg (by omega)) ?_
    rw [decide_eq_false (by omega)]
    refine Ev.step (fun k => rfl) ?_
    simp only [busbarlaw02_ImageGetSet.j0]
    refine Ev.congr (fun k => if_neg (by decide)) (Ev.congr (fun k => if_pos (by first | rfl | trivial)) (Ev.congr (fun k => if_pos (by omega)) (Ev.congr (fun k => if_pos (by omega)) ?_)))
    rw [rdOf_lt _ _ _ hi, bne_self_eq_false, refSet_in l i v hi (by omega)]
    refine Ev.congr (fun k => if_neg (by decide)) (Ev.congr (fun k => if_pos (by first | rfl | trivial)) ?_)
    simp only [Option.bind_some]
    refine Ev.bind (refEqual_ev _ _ (by rw [List.length_set]; omega)) ?_
    rw [decide_eq_true rfl]
    refine Ev.step (fun k => rfl) ?_
    simp only [busbarlaw02_ImageGetSet.j1]
    refine Ev.congr (fun k => if_neg (by decide)) ?_
    exact gs_l0 l (by omega) (l.set i v).length 0 (l.set i v) (by omega) (by rw [List.length_set]; omega)
  · have ho : n < 0 ∨ (l.length : Int) ≤ n := by omega
    rw [get_out l n ho, set_out l n v ho]
    simp only [Option.bind_some]
    have j0t : Ev (fun k => busbarlaw02_ImageGetSet.j0 k l n v (fmtB l) false 3 [] 3 true) true := by
      refine Ev.step (fun k => rfl) ?_
      simp only [busbarlaw02_ImageGetSet.j0]
      refine Ev.congr (fun k => if_pos (by first | rfl | trivial)) (Ev.bind alive_ev (Ev.congr (fun k => if_pos (by first | rfl | trivial)) (Ev.congr (fun k => if_neg (by decide)) (Ev.congr (fun k => if_pos (by first | rfl | trivial)) (Ev.congr (fun k => if_pos (by first | rfl | trivial)) ?_)))))
      exact Ev.now _
    by_cases h2 : n < 0
    · exact Ev.congr (fun k => if_pos h2) j0t
    · refine Ev.congr (fun k => if_neg h2) ?_
      rw [decide_eq_true (by omega)]
      exact j0t

/-! ### Set changes one bit -/
theorem dif_self : ∀ (j : Nat) (l : List Bool), dif j l l = []
  | _, [] => by simp [dif]
  | j, a :: l => by unfold dif; rw [if_pos rfl]; exact dif_self (j + 1) l
theorem dif_set : ∀ (l : List Bool) (j n : Nat) (v : Bool) (h : n < l.length), l[n] ≠ v → dif j l (l.set n v) = [j + n]
  | [], j, n, v, h, hne => by simp at h
  | a :: l, j, 0, v, h, hne => by
    have hne' : a ≠ v := hne
    show dif j (a :: l) (v :: l) = _
    unfold dif
    rw [if_neg hne', dif_self]
    rfl
  | a :: l, j, n + 1, v, h, hne => by
    show dif j (a :: l) (a :: l.set n v) = _
    unfold dif
    rw [if_pos rfl, dif_set l (j + 1) n v (by simpa using h) (by simpa using hne)]
    congr 1
    omega
theorem set_same (l : List Bool) (n : Nat) (v : Bool) (h : n < l.length) (hv : l[n] = v) : l.set n v = l := by rw [← hv]; exact List.set_getElem_self h
theorem set_ne (l : List Bool) (n : Nat) (v : Bool) (h : n < l.length) (hv : l[n] ≠ v) : l.set n v ≠ l := by
  intro e
  have h1 : (l.set n v)[n]'(by rw [List.length_set]; exact h) = v := List.getElem_set_self _
  have h2 : (l.set n v)[n]? = l[n]? := by rw [e]
  rw [List.getElem?_eq_getElem (by rw [List.length_set]; exact h), List.getElem?_eq_getElem h, h1] at h2
  exact hv (Option.some.inj h2).symm
theorem sc (l : List Bool) (at_ : Int) (v : Bool) (h0 : 0 ≤ at_) (h9 : at_ ≤ 65535) : ∃ k, busbarlaw02_ImageSetChangesOneBit.f k l at_ v = some true := by
  refine Ev.rounds ?_
  simp only [busbarlaw02_ImageSetChangesOneBit.f]
  have j0t : Ev (fun k => busbarlaw02_ImageSetChangesOneBit.j0 k l at_ v true) true := by
    refine Ev.step (fun k => rfl) ?_
    simp only [busbarlaw02_ImageSetChangesOneBit.j0]
    exact Ev.congr (fun k => if_pos (by first | rfl | trivial)) (Ev.bind alive_ev (Ev.now _))
  by_cases h1 : (l.length : Int) = 0
  · exact Ev.congr (fun k => if_pos h1) j0t
  refine Ev.congr (fun k => if_neg h1) ?_
  by_cases h2 : (l.length : Int) > 2000
  · rw [decide_eq_true h2]; exact j0t
  rw [decide_eq_false h2]
  refine Ev.step (fun k => rfl) ?_
  simp only [busbarlaw02_ImageSetChangesOneBit.j0]
  refine Ev.congr (fun k => if_neg (by decide)) (Ev.congr (fun k => if_neg h1) ?_)
  obtain ⟨a, rfl⟩ := Int.eq_ofNat_of_zero_le h0
  have hw : wrap64 (a : Int) = (a : Int) := by unfold wrap64; omega
  have hm : Int.tmod (a : Int) (l.length : Int) = ((a % l.length : Nat) : Int) := by rw [Int.tmod_eq_emod_of_nonneg (by omega)]; exact (Int.natCast_emod _ _).symm
  rw [hw, hm]
  have hn : a % l.length < l.length := Nat.mod_lt _ (by omega)
  generalize a % l.length = n at hn
  have hlen : (l.set n v).length = l.length := List.length_set
  have hget := get_in (l.set n v) n (by rw [hlen]; exact hn)
  rw [List.getElem_set_self] at hget
  rw [set_in l n v hn (by omega)]
  simp only [Option.bind_some]
  rw [hget]
  simp only [Option.bind_some]
  refine Ev.bind (diff_ev l (l.set n v) (by omega)) ?_
  rw [if_pos hlen.symm]
  refine Ev.congr (fun k => if_pos (by first | rfl | trivial)) (Ev.congr (fun k => if_pos (by first | rfl | trivial)) (Ev.congr (fun k => if_neg (by rw [bne_self_eq_false]; decide)) ?_))
  refine Ev.step (fun k => rfl) ?_
  simp only [busbarlaw02_ImageSetChangesOneBit.j1]
  refine Ev.congr (fun k => if_neg (by decide)) (Ev.congr (fun k => if_pos (by omega)) (Ev.congr (fun k => if_pos (by omega)) ?_))
  rw [rdOf_lt _ _ _ hn]
  by_cases hv : l[n] = v
  · rw [set_same l n v hn hv, dif_self]
    refine Ev.congr (fun k => if_pos (by rw [hv]; exact beq_self_eq_true v)) (Ev.bind alive_ev (Ev.congr (fun k => if_pos (by first | rfl | trivial)) (Ev.bind (equal_ev l l (by omega)) ?_)))
    rw [decide_eq_true rfl]
    refine Ev.congr (fun k => if_pos (by first | rfl | trivial)) (Ev.congr (fun k => if_pos (by first | rfl | trivial)) (Ev.bind (count_ev l (by omega)) (Ev.bind (count_ev l (by omega)) ?_)))
    rw [beq_self_eq_true]
    exact Ev.now _
  · rw [dif_set l 0 n v hn hv]
    have hne := set_ne l n v hn hv
    refine Ev.congr (fun k => if_neg (by rw [beq_eq_false_iff_ne.2 hv]; decide)) (Ev.bind alive_ev (Ev.congr (fun k => if_pos (by first | rfl | trivial)) (Ev.bind (equal_ev l (l.set n v) (by omega)) ?_)))
    rw [decide_eq_false (fun e => hne e.symm)]
    refine Ev.congr (fun k => if_neg (by decide)) (Ev.congr (fun k => if_pos (by first | rfl | trivial)) (Ev.congr (fun k => if_pos (by simp [difI])) (Ev.congr (fun k => if_pos (by simp [difI, rd])) (Ev.bind (format_ev l (by omega)) (Ev.bind (format_ev (l.set n v) (by omega)) ?_)))))
    rw [fmtB_list, fmtB_list, bne_iff_ne.2 (fun e => hne (fmtL_inj e).symm)]
    exact Ev.now _
end Go.Proofs.Ytfipnipdfolmiaa.Plaw
