/- TooLarge, in plain words. -/
import Derived.Test.YtmacdknicgfglaaOp12
import Derived.Test.YtmacdknicgfglaaPe
import Derived.Test.YtmacdknicgfglaaIm0
namespace Go.Proofs.Ytmacdknicgfglaa.Pe
open Go.RowKit Go.Proofs.YtmacdknicgfglaaW.PrintWords Go.Proofs.YtmacdknicgfglaaW.PrintMore Go.Proofs.Ytmacdknicgfglaa.Impl Go.Proofs.Ytmacdknicgfglaa.Gp Go.Proofs.Ytmacdknicgfglaa.Gw Go.Proofs.Ytmacdknicgfglaa.Evt
set_option linter.unusedVariables false
set_option linter.unusedSimpArgs false
/-- A rung's size. -/
def sumG (l : List Ed) : Nat := (l.map fun c => 1 + c.1.size + c.2.size).sum
def tl (l : List Ed) : Int := if 60 < l.length ∨ 2000 < sumG l then 1 else 0
theorem sumG_take {l : List Ed} {j : Nat} (h : j < l.length) : sumG (l.take (j + 1)) = sumG (l.take j) + (1 + l[j].1.size + l[j].2.size) := by
  unfold sumG
  rw [List.take_succ_eq_append_getElem h, List.map_append, List.sum_append]
  simp
theorem sumG_le {l : List Ed} (h : ∀ c ∈ l, c.1.size ≤ reachBytes ∧ c.2.size ≤ reachBytes) : sumG l ≤ l.length * (1 + 2 * reachBytes) := by
  unfold sumG
  induction l with
  | nil => simp
  | cons c l ih =>
    have h1 := h c List.mem_cons_self
    have h2 := ih (fun d hd => h d (List.mem_cons_of_mem _ hd))
    simp only [List.map_cons, List.sum_cons, List.length_cons]
    rw [Nat.add_mul]
    omega
theorem sumG_mem {l : List Ed} {c : Ed} (h : c ∈ l) : c.1.size + c.2.size ≤ sumG l := by
  unfold sumG
  induction l with
  | nil => cases h
  | cons d l ih =>
    simp only [List.map_cons, List.sum_cons]
    rcases List.mem_cons.1 h with rfl | h
    · omega
    · have := ih h; omega
theorem tl_ok {l : List Ed} (h : tl l ≤ 0) : okG l = true ∧ l.length ≤ 60 := by
  unfold tl at h
  by_cases hb : 60 < l.length ∨ 2000 < sumG l
  · rw [if_pos hb] at h; omega
  · rw [not_or] at hb
    refine ⟨?_, by omega⟩
    unfold okG
    rw [Bool.and_eq_true]
    refine ⟨decide_eq_true (by omega), List.all_eq_true.2 fun c hc => ?_⟩
    have := sumG_mem hc
    rw [Bool.and_eq_true]
    exact ⟨decide_eq_true (by omega), decide_eq_true (by omega)⟩
theorem tl_big (a0 a3 : ByteArray) (l1 : List S41) (l2 : List S101) (hn : l1.length ≤ 9223372036854775807) (hb : 60 < l1.length) : ∀ (d j : Nat) (x : Int), l1.length = j + d →
    Ev (fun k => busbarlaw12_TooLarge.l0 k x l1 (l1.length : Int) (j : Int) a0 l1 l2 a3) 1
  | 0, j, x, h => by
    refine Ev.step (f := fun _ => some 1) (fun k => ?_) (Ev.now _)
    simp only [busbarlaw12_TooLarge.l0]
    rw [if_neg (by omega)]
    by_cases hx : x > 2000
    · rw [if_pos hx]
    · rw [if_neg hx, if_pos (by omega)]
  | d + 1, j, x, h => by
    have hj : j < l1.length := by omega
    refine Ev.step (f := fun k => busbarlaw12_TooLarge.l0 k (wrap64 (x + (wrap64 ((wrap64 (1 + (((rd_T41 l1 j).f2).size : Int))) + (((rd_T41 l1 j).f3).size : Int))))) l1 (l1.length : Int) ((j + 1 : Nat) : Int) a0 l1 l2 a3) (fun k => ?_) (tl_big a0 a3 l1 l2 hn hb d (j + 1) _ (by omega))
    simp only [busbarlaw12_TooLarge.l0]
    rw [if_pos (by omega), if_pos (by omega), if_pos (by omega), w64 hj hn]
theorem tl_arith0 {S a b R : Nat} (hR : R ≤ 140737488355328) (hS : S ≤ 60 * (1 + 2 * R)) (ha : a ≤ R) (hb : b ≤ R) : wrap64 ((S : Int) + wrap64 (wrap64 (1 + (a : Int)) + (b : Int))) = ((S + (1 + a + b) : Nat) : Int) := by
  have e1 : wrap64 (1 + (a : Int)) = 1 + (a : Int) := by unfold wrap64; omega
  have e2 : wrap64 (1 + (a : Int) + (b : Int)) = 1 + (a : Int) + (b : Int) := by unfold wrap64; omega
  rw [e1, e2]
  unfold wrap64
  omega
theorem tl_arith {S a b : Nat} (hS : S ≤ 60 * (1 + 2 * reachBytes)) (ha : a ≤ reachBytes) (hb : b ≤ reachBytes) : wrap64 ((S : Int) + wrap64 (wrap64 (1 + (a : Int)) + (b : Int))) = ((S + (1 + a + b) : Nat) : Int) := tl_arith0 (R := reachBytes) (Nat.le_of_lt reachBytes_lt) hS ha hb
theorem sumG_bound {l1 : List S41} (hz : SzR l1) (hb : l1.length ≤ 60) (j : Nat) : sumG ((es l1).take j) ≤ 60 * (1 + 2 * reachBytes) := by
  refine Nat.le_trans (sumG_le (l := (es l1).take j) (fun c hc => by
      have hc2 := List.mem_of_mem_take hc
      unfold es at hc2
      obtain ⟨s, hs, rfl⟩ := List.mem_map.1 hc2
      exact hz s hs)) (Nat.mul_le_mul_right _ ?_)
  rw [List.length_take, es_len]
  exact Nat.le_trans (Nat.min_le_right _ _) hb
theorem tl_small (a0 a3 : ByteArray) (l1 : List S41) (l2 : List S101) (hz : SzR l1) (hb : l1.length ≤ 60) : ∀ (d j : Nat), l1.length = j + d →
    Ev (fun k => busbarlaw12_TooLarge.l0 k (sumG ((es l1).take j) : Int) l1 (l1.length : Int) (j : Int) a0 l1 l2 a3) (tl (es l1))
  | 0, j, h => by
    refine Ev.step (f := fun _ => some (tl (es l1))) (fun k => ?_) (Ev.now _)
    simp only [busbarlaw12_TooLarge.l0]
    rw [if_neg (by omega), List.take_of_length_le (by rw [es_len]; omega)]
    unfold tl
    rw [es_len]
    by_cases hx : 2000 < sumG (es l1)
    · rw [if_pos (show ((sumG (es l1) : Nat) : Int) > 2000 by omega), if_pos (.inr hx)]
    · rw [if_neg (show ¬ ((sumG (es l1) : Nat) : Int) > 2000 by omega), if_neg (show ¬ ((l1.length : Nat) : Int) > 60 by omega), if_neg (show ¬ (60 < l1.length ∨ 2000 < sumG (es l1)) by omega)]
  | d + 1, j, h => by
    have hj : j < l1.length := by omega
    have ih := tl_small a0 a3 l1 l2 hz hb d (j + 1) (by omega)
    rw [sumG_take (by rw [es_len]; exact hj), es_get hj] at ih
    refine Ev.step (fun k => ?_) ih
    simp only [busbarlaw12_TooLarge.l0]
    rw [if_pos (by omega), if_pos (by omega), if_pos (by omega), w64 hj (by omega), rd41_lt _ _ hj, tl_arith (sumG_bound hz hb j) (hz l1[j] (List.getElem_mem hj)).1 (hz l1[j] (List.getElem_mem hj)).2]
theorem tl_ev (a0 a3 : ByteArray) (l1 : List S41) (l2 : List S101) (hz : SzR l1) (hn : l1.length ≤ 9223372036854775807) : Ev (fun k => busbarlaw12_TooLarge.f k a0 l1 l2 a3) (tl (es l1)) := by
  by_cases hb : 60 < l1.length
  · have := tl_big a0 a3 l1 l2 hn hb l1.length 0 0 (by omega)
    rw [show tl (es l1) = 1 by unfold tl; rw [if_pos (.inl (by rw [es_len]; exact hb))]]
    exact this
  · exact tl_small a0 a3 l1 l2 hz (by omega) l1.length 0 (by omega)
section
variable {A1 A2 : Option Addr} {c1 c2 : Nat} {l1 : List S41} {l2 : List S101} {a0 a3 s : ByteArray}
theorem tl_any (w : World) (h : Rg w A1 c1 l1 A2 c2 l2) (hz : SzR l1) {r : Int} (hr : tl (es l1) = r) : Calls Try.prog 15 #[.agg #[.string a0, .slice A1 l1.length c1, .slice A2 l2.length c2, .string a3]] w fun e w' => e = .returned (.int .i64 r) ∧ Below w.heap.size w w' := by
  subst hr
  obtain ⟨k, hk⟩ := (tl_ev a0 a3 l1 l2 hz (Kd.C_max h.r1)).rounds
  exact busbarlaw12_TooLarge.calls k a0 A1 c1 l1 A2 c2 l2 a3 _ w h.r1 h.h1 h.r2 h.h2 hk
end
end Go.Proofs.Ytmacdknicgfglaa.Pe
