/- slices.Delete at []string, by the shelf's contract, on a row of one's own. -/
import Derived.Shelf.Slices.Delete
import Derived.Test.YtmacdknicgfglaaGo
namespace Go.Proofs.Ytmacdknicgfglaa.Sh
open Go.RowKit Go.Shelf Go.Sort Go.Proofs.YtmacdknicgfglaaW.PrintWords Go.Proofs.YtmacdknicgfglaaW.PrintMore Go.Proofs.YtmacdknicgfglaaW.PrintLast Go.Proofs.Ytmacdknicgfglaa.Chg Go.Proofs.Ytmacdknicgfglaa.Evt
set_option linter.unusedVariables false
set_option linter.unusedSimpArgs false
def renD : Go.Shelf.Ren := ⟨fun | 24 => 50 | n => n, fun | 0 => 0 | 3 => 3 | 4 => 4 | 9 => 9 | 24 => 29 | n => n, fun n => n⟩
theorem laysD : Go.Proofs.Lays2.n24 Try.prog renD := {
  mixed := by kernel_rfl
  f24 := Try.func50.trans (congrArg some (by kernel_rfl))
  t0 := Try.underlying0
  a0 := Try.isAgg0
  z0 := Try.sizeOf0
  v0 := Try.zeroValue0
  t3 := Try.underlying3
  a3 := Try.isAgg3
  z3 := Try.sizeOf3
  v3 := Try.zeroValue3
  t4 := Try.underlying4
  a4 := Try.isAgg4
  z4 := Try.sizeOf4
  v4 := Try.zeroValue4
  t9 := Try.underlying9
  a9 := Try.isAgg9
  z9 := Try.sizeOf9
  v9 := Try.zeroValue9
  t24 := Try.underlying29
  a24 := Try.isAgg29
  z24 := Try.sizeOf29
  v24 := Try.zeroValue29
  i9 := by kernel_rfl }
section
variable {α : Type} [Inhabited α] {enc : α → Value} {W : World} {base g cap n : Nat} {e : TypeId}
theorem own_holds {xs : List α} (h : W.ownsRow base e 1 (.slice (some ⟨g, 0, none⟩) n cap) n (encs enc xs)) (hn : n = xs.length) : Holds enc W g 0 xs.toArray := by
  obtain ⟨hl, hc | ⟨g', cap', cur, hv, hb, hh, hnc, hm, hs, ht⟩⟩ := h
  · exact absurd hc.1 (by simp)
  · injection hv with hv h2 h3
    injection hv with hv
    injection hv with hv
    subst hv; subst h3
    intro j hj
    simp only [List.size_toArray] at hj
    have hjc : j < cur.size := by omega
    have e1 : cur[j]? = some (enc xs[j]) := by
      have h5 : (cur.toList.take (n * 1))[j]? = (encs enc xs)[j]? := by rw [ht]
      rw [List.getElem?_take, if_pos (by omega), Array.getElem?_toList] at h5
      rw [h5]
      simp [encs, List.getElem?_eq_getElem hj]
    constructor
    · simp [World.cell?, hh, e1, List.getElem?_eq_getElem hj]
    · simp [World.frozen?, hh]
theorem putRow_own {xs : List Value} (h : W.ownsRow base e 1 (.slice (some ⟨g, 0, none⟩) n cap) n xs) (d : List α) (hd : d.length = n) (q : Nat) : (putRow enc (Sort.ahead W q) g 0 d.toArray).ownsRow base e 1 (.slice (some ⟨g, 0, none⟩) n cap) n (encs enc d) := by
  obtain ⟨hl, hc | ⟨g', cap', cur, hv, hb, hh, hnc, hm, hs, ht⟩⟩ := h
  · exact absurd hc.1 (by simp)
  · injection hv with hv h2 h3
    injection hv with hv
    injection hv with hv
    subst hv; subst h3
    refine ⟨by rw [encs_length, hd]; omega, .inr ⟨g, cap, putCells enc 0 d.toArray cur, rfl, hb, ?_, hnc, hm, by simp [putCells, hs], ?_⟩⟩
    · show (W.heap.modify g (onCells (putCells enc 0 d.toArray)))[g]? = _
      rw [Array.getElem?_modify, if_pos rfl, hh]
      rfl
    · apply List.ext_getElem?
      intro j
      rw [List.getElem?_take]
      by_cases hj : j < n * 1
      · rw [if_pos hj, Array.getElem?_toList]
        have hjc : j < cur.size := by omega
        have hjd : j < d.length := by omega
        simp [putCells, Array.getElem?_mapIdx, Array.getElem?_eq_getElem hjc, encs, List.getElem?_eq_getElem hjd, hjd]
      · rw [if_neg hj]
        simp [encs]
        rw [List.getElem?_eq_none (by omega)]
        rfl
theorem putRow_grown (d : Array α) (q off : Nat) : W.grownBy (putRow enc (Sort.ahead W q) g off d) (some g) := by
  refine ⟨rfl, rfl, rfl, by simp [Sort.ahead], fun k hk hne => ?_⟩
  show (W.heap.modify g _)[k]? = _
  rw [Array.getElem?_modify, if_neg (fun e => hne (by rw [e]))]
end
theorem enc_str (x : ByteArray) : encStr x.data.toList = .string x := by simp [encStr]
theorem encs_str (l : List ByteArray) : encs encStr (l.map fun x => x.data.toList) = encs Value.string l := by simp [encs, Function.comp_def, enc_str]
theorem delete_any {w0 W : World} {v : Value} {xs : List ByteArray} (h : Ro Kd.string 9 w0 W v xs) (k : Nat) (hk : k < xs.length) (hm : xs.length ≤ 1000000) :
    Calls Try.prog 50 #[v, .int .i64 k, .int .i64 (k + 1)] W fun e W' => ∃ v', e = .returned v' ∧ Ro Kd.string 9 w0 W' v' (xs.eraseIdx k) ∧ W.grownBy W' v.ownBlock ∧ v'.ownBlock = v.ownBlock := by
  have ho := Kd.own_of_R h.row
  obtain ⟨hl, hc | ⟨g, cap, cur, rfl, hb, hh, hnc, hm2, hs, ht⟩⟩ := id ho
  · have := hc.2; omega
  · rw [← encs_str] at ho
    have hH := own_holds (xs := xs.map fun x => x.data.toList) ho (by simp)
    have hc := Any.slices_Delete_string laysD g 0 cap k (k + 1) (xs.map fun x => x.data.toList) W hH (by simpa using hnc) hm2 (by omega) (by rw [List.length_map]; omega)
    rw [List.length_map] at hc
    refine hc.mono ?_
    rintro e W' ⟨rfl, q, rfl⟩
    refine ⟨_, rfl, ⟨Kd.R_of_own ?_ (fun _ _ => trivial)⟩, putRow_grown _ _ _, rfl⟩
    have h2 := putRow_own (enc := encStr) ho ((xs.map fun x => x.data.toList).take k ++ (xs.map fun x => x.data.toList).drop (k + 1) ++ List.replicate (k + 1 - k) []) (by simp; omega) q
    have h3 := own_take h2 (m := xs.length - (k + 1 - k)) (by omega)
    have e1 : (xs.eraseIdx k).length = xs.length - (k + 1 - k) := by rw [List.length_eraseIdx_of_lt hk]; omega
    rw [e1]
    have e2 : (encs encStr ((xs.map fun x => x.data.toList).take k ++ (xs.map fun x => x.data.toList).drop (k + 1) ++ List.replicate (k + 1 - k) [])).take ((xs.length - (k + 1 - k)) * 1) = encs Value.string (xs.eraseIdx k) := by
      rw [← encs_str, List.eraseIdx_eq_take_drop_succ]
      simp only [encs, ← List.map_take]
      congr 1
      rw [List.map_append, List.map_take, List.map_drop]
      rw [List.take_left' (by simp; omega)]
    rw [e2] at h3
    exact h3
end Go.Proofs.Ytmacdknicgfglaa.Sh
