/- slices.DeleteFunc at []string, by the shelf's contract, with gather's second closure. -/
import Derived.Shelf.SlicesE.DeleteFunc
import Derived.Test.YtmacdknicgfglaaSh
import Derived.Test.YtmacdknicgfglaaSu
namespace Go.Proofs.Ytmacdknicgfglaa.Sh
open Go.RowKit Go.Shelf Go.Sort Go.Proofs.YtmacdknicgfglaaW.PrintWords Go.Proofs.YtmacdknicgfglaaW.PrintMore Go.Proofs.YtmacdknicgfglaaW.PrintLast Go.Proofs.Ytmacdknicgfglaa.Chg Go.Proofs.Ytmacdknicgfglaa.Evt Go.Proofs.Ytmacdknicgfglaa.Mp
set_option linter.unusedVariables false
set_option linter.unusedSimpArgs false
def renF : Go.Shelf.Ren := ⟨fun | 6 => 46 | 10 => 56 | n => n, fun | 0 => 0 | 3 => 3 | 4 => 4 | 22 => 29 | 23 => 9 | 25 => 71 | n => n, fun n => n⟩
theorem laysF : Go.Proofs.SlLaysH.n10 Try.prog renF := {
  mixed := by kernel_rfl
  f6 := ⟨ "slices.IndexFunc[[]string,string]", by decide, Try.func46.trans (congrArg some (by kernel_rfl))⟩
  f10 := ⟨ "slices.DeleteFunc[[]string,string]", by decide, Try.func56.trans (congrArg some (by kernel_rfl))⟩
  t0 := Try.underlying0
  a0 := Try.isAgg0
  z0 := Try.sizeOf0
  v0 := Try.zeroValue0
  t3 := Try.underlying3
  a3 := Try.isAgg3
  z3 := Try.sizeOf3
  v3 := Try.zeroValue3
  t4 := Try.underlying4
  a4 := Try.isAgg4
  z4 := Try.sizeOf4
  v4 := Try.zeroValue4
  t22 := Try.underlying29
  a22 := Try.isAgg29
  z22 := Try.sizeOf29
  v22 := Try.zeroValue29
  a23 := Try.isAgg9
  z23 := Try.sizeOf9
  t25 := Try.underlying71
  a25 := Try.isAgg71
  z25 := Try.sizeOf71
  v25 := Try.zeroValue71 }
/-- A name that is not too long. -/
abbrev Nm := {s : ByteArray // s.size ≤ 100000}
instance : Inhabited Nm := ⟨⟨⟨#[]⟩, by decide⟩⟩
def encN (x : Nm) : Value := .string x.val
theorem encN_1 : OneCell encN := fun _ => rfl
def nms : (xs : List ByteArray) → (∀ x ∈ xs, x.size ≤ 100000) → List Nm
  | [], _ => []
  | x :: xs, h => ⟨x, h x List.mem_cons_self⟩ :: nms xs (fun y hy => h y (List.mem_cons_of_mem _ hy))
theorem nms_val : ∀ (xs : List ByteArray) (h : ∀ x ∈ xs, x.size ≤ 100000), (nms xs h).map (·.val) = xs
  | [], _ => rfl
  | x :: xs, h => by simp only [nms, List.map_cons]; rw [nms_val xs]
theorem nms_len (xs : List ByteArray) (h : ∀ x ∈ xs, x.size ≤ 100000) : (nms xs h).length = xs.length := by have := congrArg List.length (nms_val xs h); simpa using this
theorem encs_nm (l : List Nm) : encs encN l = encs Value.string (l.map (·.val)) := by simp [encs, encN, Function.comp_def]
theorem filter_val (p : ByteArray → Bool) : ∀ l : List Nm, (l.filter fun x => p x.val).map (·.val) = (l.map (·.val)).filter p
  | [] => rfl
  | x :: l => by
    simp only [List.map_cons, List.filter_cons]
    by_cases h : p x.val = true
    · rw [if_pos h, if_pos h, List.map_cons, filter_val p l]
    · rw [if_neg h, if_neg h, filter_val p l]
theorem filter_len_le (p : ByteArray → Bool) (l : List Nm) : (l.filter fun x => p x.val).length ≤ l.length := List.length_filter_le _ _
theorem grown_then {W W1 W2 : World} {row : Option Nat} (h : W.grownBy W1 row) (hb : Below W1.heap.size W1 W2) : W.grownBy W2 row :=
  ⟨hb.os.trans h.os, hb.tape.trans h.tape, hb.output.trans h.output, Nat.le_trans h.size hb.size, fun k hk hne => (hb.block k (Nat.lt_of_lt_of_le hk h.size)).trans (h.block k hk hne)⟩
/-- The contract, on a row of one's own, for whatever predicate that only reads. -/
theorem deletefunc_any {w0 W : World} {v : Value} {xs : List ByteArray} (h : Ro Kd.string 9 w0 W v xs) (h0 : 0 < xs.length) (hm : xs.length ≤ 1000000) (hz : ∀ x ∈ xs, x.size ≤ 100000) (p : ByteArray → Bool) (g : Nat) (lb : Array Value) (eg : ∀ args w, (callFunc g args).run Try.prog w = .ok (.enter g args) w)
    (hp : ∀ (W' : World) (x : ByteArray), x.size ≤ 100000 → W.grownBy W' v.ownBlock → Calls Try.prog g (#[.string x] ++ lb) W' fun e w' => e = .returned (.bool (!p x)) ∧ ∃ q, w' = W'.drewN q) :
    Calls Try.prog 56 #[v, .func (.func g) #[] lb] W fun e W' => ∃ v', e = .returned v' ∧ Ro Kd.string 9 w0 W' v' (xs.filter p) ∧ W.grownBy W' v.ownBlock := by
  have ho := Kd.own_of_R h.row
  obtain ⟨hl, hc | ⟨gb, cap, cur, rfl, hb, hh, hnc, hm2, hs, ht⟩⟩ := id ho
  · have := hc.2; omega
  · have hln := nms_len xs hz
    have ho2 : W.ownsRow w0.heap.size 9 1 (.slice (some ⟨gb, 0, none⟩) xs.length cap) xs.length (encs encN (nms xs hz)) := by rw [encs_nm, nms_val]; exact ho
    have hH := own_holds (xs := nms xs hz) ho2 hln.symm
    have hc := AnyE.slices_DeleteFunc laysF encN encN_1 (fun x => !p x.val) g lb eg default Try.zeroValue9 gb 0 cap (nms xs hz).toArray W
      (fun W' x hb' => hp W' x.val x.property ⟨hb'.os, hb'.tape, hb'.output, hb'.size, fun k hk _ => hb'.block k hk⟩)
      (fun n os dk x _ => hp _ x.val x.property (grown_then (putRow_grown (W := W) dk n 0) (below_grown _ 0 os))) hH (by simp [hln]; omega) (by simp [hln]; omega)
    simp only [List.size_toArray, Bool.not_not] at hc
    rw [hln] at hc
    refine hc.mono ?_
    rintro e W' ⟨rfl, q, rfl⟩
    have hle := filter_len_le p (nms xs hz)
    refine ⟨_, rfl, ⟨Kd.R_of_own ?_ (fun _ _ => trivial)⟩, putRow_grown _ _ _⟩
    have h2 := putRow_own (enc := encN) ho2 (((nms xs hz).filter fun x => p x.val) ++ List.replicate (xs.length - ((nms xs hz).filter fun x => p x.val).length) default) (by rw [List.length_append, List.length_replicate]; omega) q
    have h3 := own_take h2 (m := ((nms xs hz).filter fun x => p x.val).length) (by omega)
    have e1 : (encs encN (((nms xs hz).filter fun x => p x.val) ++ List.replicate (xs.length - ((nms xs hz).filter fun x => p x.val).length) default)).take (((nms xs hz).filter fun x => p x.val).length * 1) = encs Value.string (xs.filter p) := by
      have e2 : xs.filter p = ((nms xs hz).filter fun x => p x.val).map (·.val) := by rw [filter_val, nms_val]
      rw [e2, ← encs_nm, Nat.mul_one]
      simp only [encs, List.map_append]
      rw [List.take_left' (by simp)]
    have e3 : (xs.filter p).length = ((nms xs hz).filter fun x => p x.val).length := by
      have h4 := congrArg List.length (filter_val p (nms xs hz))
      rw [nms_val, List.length_map] at h4
      exact h4.symm
    rw [e1] at h3
    rw [e3]
    exact h3
set_option maxRecDepth 100000
set_option maxHeartbeats 1000000 in
/-- gather's second closure: not seen. -/
theorem unseen_any {W : World} {gt b n : Nat} {p : ByteArray → Bool} (hb : Bk W gt 65 #[.map (some b)]) (hm : MB W b n p) (x : ByteArray) (hx : x.size ≤ 100000) : Calls Try.prog 64 #[.string x, .pointer (some ⟨gt, 0, none⟩)] W fun e w' => e = .returned (.bool (!p x)) ∧ ∃ q, w' = W.drewN q := by
  have M := Aside0.mk hm
  have x0 := hb.blk.cell 0 rfl
  have SZ : x.size ≤ maxLen := by unfold maxLen; omega
  obtain ⟨r, hr⟩ : ∃ r, Aside0 (p x = r) := ⟨_, ⟨rfl⟩⟩
  clear hm hb
  go_enter Try.func64, Try.ntmps64
  go_wp2_with (refine Mp.getB_ev rfl rfl (s := x) (v := r) rfl rfl SZ M.out hr.out ?_)
  go_ret
  exact ⟨by rw [hr.out]; rfl, 0, rfl⟩
theorem eg_un : ∀ args w, (callFunc 64 args).run Try.prog w = .ok (.enter 64 args) w := enters_of Try.func64 (by kernel_rfl) rfl
end Go.Proofs.Ytmacdknicgfglaa.Sh
