/- slices.IndexFunc, ContainsFunc at strings and at numbers, walked: whatever predicate. -/
import Derived.Test.YtmacdknicgfglaaGo
namespace Go.Proofs.Ytmacdknicgfglaa.Gw
open Go.RowKit Go.Shelf Go.Proofs.YtmacdknicgfglaaW.PrintWords Go.Proofs.YtmacdknicgfglaaW.PrintMore Go.Proofs.YtmacdknicgfglaaW.PrintLast Go.Proofs.Ytmacdknicgfglaa.Chg Go.Proofs.Ytmacdknicgfglaa.Evt Go.Proofs.Ytmacdknicgfglaa.Impl Go.Proofs.Ytmacdknicgfglaa.Gp Go.Proofs.Ytmacdknicgfglaa.Mp
set_option linter.unusedVariables false
set_option linter.unusedSimpArgs false
set_option maxRecDepth 100000
/-- A predicate as a function value: at each x of S, in every world in which all that lay in w lies. -/
structure PredV {α : Type} (k : Nat) (lb : Array Value) (enc : α → Value) (q : α → Bool) (S : α → Prop) (w : World) : Prop where
  out : ∀ (W : World) (x : α), S x → Below w.heap.size w W → Calls Try.prog k (#[enc x] ++ lb) W fun e W' => e = .returned (.bool (q x)) ∧ Below W.heap.size W W'
theorem PredV.at {α : Type} {k : Nat} {lb : Array Value} {enc : α → Value} {q : α → Bool} {S : α → Prop} {w W : World} (h : PredV k lb enc q S w) (x : α) (hx : S x) (hb : Below w.heap.size w W) {r : Bool} (hr : q x = r) : Calls Try.prog k (#[enc x] ++ lb) W fun e W' => e = .returned (.bool r) ∧ Below W.heap.size W W' := by
  subst hr; exact h.out W x hx hb
theorem PredV.below {α : Type} {k : Nat} {lb : Array Value} {enc : α → Value} {q : α → Bool} {S : α → Prop} {w W : World} (h : PredV k lb enc q S w) (hb : Below w.heap.size w W) : PredV k lb enc q S W := ⟨fun W' x hx hb' => h.out W' x hx (below_step hb hb')⟩
def idxF {α : Type} (q : α → Bool) (l : List α) : Int := match l.findIdx? q with
  | some i => (i : Int)
  | none => -1
theorem idxF_hit {α : Type} {q : α → Bool} {l : List α} {j : Nat} (hj : j < l.length) (h : q l[j] = true) (hl : ∀ i (hi : i < j), q (l[i]'(by omega)) = false) : idxF q l = (j : Int) := by
  have : l.findIdx? q = some j := by
    rw [List.findIdx?_eq_some_iff_getElem]
    exact ⟨hj, h, fun i hi => by simpa using hl i hi⟩
  unfold idxF
  rw [this]
theorem idxF_miss {α : Type} {q : α → Bool} {l : List α} (hl : ∀ i (hi : i < l.length), q l[i] = false) : idxF q l = -1 := by
  have : l.findIdx? q = none := by
    rw [List.findIdx?_eq_none_iff]
    intro x hx
    obtain ⟨i, hi, rfl⟩ := List.mem_iff_getElem.1 hx
    exact hl i hi
  unfold idxF
  rw [this]
theorem idxF_any {α : Type} (q : α → Bool) (l : List α) : decide (0 ≤ idxF q l) = l.any q := by
  unfold idxF
  cases h : l.findIdx? q with
  | none =>
    rw [List.findIdx?_eq_none_iff] at h
    simp only [show decide ((0 : Int) ≤ -1) = false from rfl]
    symm
    rw [List.any_eq_false]
    intro x hx
    simpa using h x hx
  | some i =>
    rw [List.findIdx?_eq_some_iff_getElem] at h
    obtain ⟨hi, hq, _⟩ := h
    rw [decide_eq_true (by omega : (0 : Int) ≤ (i : Int))]
    symm
    exact List.any_eq_true.2 ⟨_, List.getElem_mem hi, hq⟩
theorem at_int0 {w : World} {A : Option Addr} {n : Nat} {xs : List Int} (h : Kd.C (Kd.int .i64) w A n xs) (i : Int) (h0 : 0 ≤ i) (h1 : i < n) : ∃ ad, A = some ad ∧ w.cell? (ad.add i.toNat) = some (.int .i64 (rd xs i)) :=
  ReadsOf.at_ (Kd.reads_of_C (enc := Value.int .i64) (d := (0 : Int)) (h1 := fun _ => rfl) h) i h0 h1
/-- Nothing of w0 has turned. -/
structure Bw0 (w0 w : World) : Prop where
  out : Below w0.heap.size w0 w
theorem Bw0.below {w0 w w' : World} (h : Bw0 w0 w) (hb : Below w.heap.size w w') : Bw0 w0 w' := ⟨below_step h.out hb⟩
set_option maxHeartbeats 1000000 in
theorem idxfS {k : Nat} {lb : Array Value} {q : ByteArray → Bool} (eg : ∀ args w, (callFunc k args).run Try.prog w = .ok (.enter k args) w) {w : World} {A : Option Addr} {c : Nat} {zs : List ByteArray} (h : Rw Kd.string w A c zs) (hn : zs.length ≤ 1000000) (hp : PredV k lb Value.string q (fun x => x ∈ zs) w) :
    Calls Try.prog 46 #[.slice A zs.length c, .func (.func k) #[] lb] w fun e w' => e = .returned (.int .i64 (idxF q zs)) ∧ Below w.heap.size w w' := by
  have R := Aside0.mk h
  have PQ := Aside0.mk hp
  clear h hp
  go_enter Try.func46, Try.ntmps46
  go_wp2
  go_loopg [8] zs.length (fun kq v8 wr => ∃ j : Nat, v8 = .int .i64 j ∧ Aside0 (j + kq = zs.length) ∧ Aside0 (∀ i (hi : i < j) (hl : i < zs.length), q zs[i] = false) ∧ Aside0 (Below w.heap.size w wr))
  case atStart => exact ⟨0, rfl, ⟨by omega⟩, ⟨fun i hi => by omega⟩, ⟨Below.refl _ _⟩⟩
  case round =>
    obtain ⟨j, rfl, hj, HN, HW⟩ := hrel
    cases gk with
    | zero =>
      have e0 : j = zs.length := by have := hj.out; omega
      have q0 : decide (j < zs.length) = false := decide_eq_false (by omega)
      have q1 : decide ((j : Int) < (zs.length : Int)) = false := decide_eq_false (by omega)
      have NE := Aside0.mk e0
      clear e0 hj
      go_wp2
      go_ret
      refine ⟨?_, HW.out⟩
      rw [idxF_miss (fun i hi => HN.out i (by rw [NE.out]; exact hi) hi)]
      rfl
    | succ k1 =>
      have hjl : j < zs.length := by have := hj.out; omega
      have q0 : decide (j < zs.length) = true := decide_eq_true (by omega)
      have q1 : decide ((j : Int) < (zs.length : Int)) = true := decide_eq_true (by omega)
      obtain ⟨ad, rfl, x0⟩ := Kd.at_string (R.out.below HW.out).row (j : Int) (by omega) (by omega)
      rw [Int.toNat_natCast, show rdOf ByteArray.empty zs (j : Int) = zs[j] by simp [rdOf, List.getD_eq_getElem?_getD, List.getElem?_eq_getElem hjl]] at x0
      obtain ⟨r, hr⟩ : ∃ r, Aside0 (q zs[j] = r) := ⟨_, ⟨rfl⟩⟩
      have HB := Aside0.mk (Below.refl wr.heap.size wr)
      have BW := Aside0.mk (Bw0.mk HW.out)
      clear HW
      cases r with
      | true =>
        skip
        go_wp2_with ((go_at_fn k; (with_reducible refine (PQ.out.at zs[j] (List.getElem_mem hjl) (below_step BW.out.out (by repeat (first | (with_reducible first | exact Below.refl _ _ | apply below_alloc | apply pw_below_drewN | apply below_drew1) | exact Below.refl _ _))) hr.out).mono ?_); rintro e w1 ⟨rfl, hb⟩; have hbx : Below wr.heap.size wr w1 := below_step (by repeat (first | (with_reducible first | exact Below.refl _ _ | apply below_alloc | apply pw_below_drewN | apply below_drew1) | exact Below.refl _ _)) hb; have n_BW := Aside0.mk (BW.out.below hbx); have n_HB := Aside0.mk (below_step HB.out hbx); clear HB BW; have BW := n_BW; have HB := n_HB; clear hbx n_BW n_HB; clear hb))
        go_ret
        refine ⟨?_, BW.out.out⟩
        rw [idxF_hit hjl hr.out (fun i hi => HN.out i hi (by omega))]
        rfl
        skip
      | false =>
        go_wp2_with ((go_at_fn k; (with_reducible refine (PQ.out.at zs[j] (List.getElem_mem hjl) (below_step BW.out.out (by repeat (first | (with_reducible first | exact Below.refl _ _ | apply below_alloc | apply pw_below_drewN | apply below_drew1) | exact Below.refl _ _))) hr.out).mono ?_); rintro e w1 ⟨rfl, hb⟩; have hbx : Below wr.heap.size wr w1 := below_step (by repeat (first | (with_reducible first | exact Below.refl _ _ | apply below_alloc | apply pw_below_drewN | apply below_drew1) | exact Below.refl _ _)) hb; have n_BW := Aside0.mk (BW.out.below hbx); have n_HB := Aside0.mk (below_step HB.out hbx); clear HB BW; have BW := n_BW; have HB := n_HB; clear hbx n_BW n_HB; clear hb))
        go_roundg k1
        case measure => omega
        case rel =>
          refine ⟨j + 1, by go_num, ⟨by have := hj.out; omega⟩, ⟨fun i hi hl => ?_⟩, ⟨BW.out.out⟩⟩
          by_cases e : i = j
          · subst e; exact hr.out
          · exact HN.out i (by omega) hl
set_option maxHeartbeats 1000000 in
theorem idxfI {k : Nat} {lb : Array Value} {q : Int → Bool} (eg : ∀ args w, (callFunc k args).run Try.prog w = .ok (.enter k args) w) {w : World} {A : Option Addr} {c : Nat} {zs : List Int} (h : Rw (Kd.int .i64) w A c zs) (hn : zs.length ≤ 1000000) (hp : PredV k lb (Value.int .i64) q (fun x => x ∈ zs) w) :
    Calls Try.prog 60 #[.slice A zs.length c, .func (.func k) #[] lb] w fun e w' => e = .returned (.int .i64 (idxF q zs)) ∧ Below w.heap.size w w' := by
  have R := Aside0.mk h
  have PQ := Aside0.mk hp
  clear h hp
  go_enter Try.func60, Try.ntmps60
  go_wp2
  go_loopg [8] zs.length (fun kq v8 wr => ∃ j : Nat, v8 = .int .i64 j ∧ Aside0 (j + kq = zs.length) ∧ Aside0 (∀ i (hi : i < j) (hl : i < zs.length), q zs[i] = false) ∧ Aside0 (Below w.heap.size w wr))
  case atStart => exact ⟨0, rfl, ⟨by omega⟩, ⟨fun i hi => by omega⟩, ⟨Below.refl _ _⟩⟩
  case round =>
    obtain ⟨j, rfl, hj, HN, HW⟩ := hrel
    cases gk with
    | zero =>
      have e0 : j = zs.length := by have := hj.out; omega
      have q0 : decide (j < zs.length) = false := decide_eq_false (by omega)
      have q1 : decide ((j : Int) < (zs.length : Int)) = false := decide_eq_false (by omega)
      have NE := Aside0.mk e0
      clear e0 hj
      go_wp2
      go_ret
      refine ⟨?_, HW.out⟩
      rw [idxF_miss (fun i hi => HN.out i (by rw [NE.out]; exact hi) hi)]
      rfl
    | succ k1 =>
      have hjl : j < zs.length := by have := hj.out; omega
      have q0 : decide (j < zs.length) = true := decide_eq_true (by omega)
      have q1 : decide ((j : Int) < (zs.length : Int)) = true := decide_eq_true (by omega)
      obtain ⟨ad, rfl, x0⟩ := at_int0 (R.out.below HW.out).row (j : Int) (by omega) (by omega)
      rw [Int.toNat_natCast, show rd zs (j : Int) = zs[j] by simp [rd, List.getD_eq_getElem?_getD, List.getElem?_eq_getElem hjl]] at x0
      obtain ⟨r, hr⟩ : ∃ r, Aside0 (q zs[j] = r) := ⟨_, ⟨rfl⟩⟩
      have HB := Aside0.mk (Below.refl wr.heap.size wr)
      have BW := Aside0.mk (Bw0.mk HW.out)
      clear HW
      cases r with
      | true =>
        skip
        go_wp2_with ((go_at_fn k; (with_reducible refine (PQ.out.at zs[j] (List.getElem_mem hjl) (below_step BW.out.out (by repeat (first | (with_reducible first | exact Below.refl _ _ | apply below_alloc | apply pw_below_drewN | apply below_drew1) | exact Below.refl _ _))) hr.out).mono ?_); rintro e w1 ⟨rfl, hb⟩; have hbx : Below wr.heap.size wr w1 := below_step (by repeat (first | (with_reducible first | exact Below.refl _ _ | apply below_alloc | apply pw_below_drewN | apply below_drew1) | exact Below.refl _ _)) hb; have n_BW := Aside0.mk (BW.out.below hbx); have n_HB := Aside0.mk (below_step HB.out hbx); clear HB BW; have BW := n_BW; have HB := n_HB; clear hbx n_BW n_HB; clear hb))
        go_ret
        refine ⟨?_, BW.out.out⟩
        rw [idxF_hit hjl hr.out (fun i hi => HN.out i hi (by omega))]
        rfl
        skip
      | false =>
        go_wp2_with ((go_at_fn k; (with_reducible refine (PQ.out.at zs[j] (List.getElem_mem hjl) (below_step BW.out.out (by repeat (first | (with_reducible first | exact Below.refl _ _ | apply below_alloc | apply pw_below_drewN | apply below_drew1) | exact Below.refl _ _))) hr.out).mono ?_); rintro e w1 ⟨rfl, hb⟩; have hbx : Below wr.heap.size wr w1 := below_step (by repeat (first | (with_reducible first | exact Below.refl _ _ | apply below_alloc | apply pw_below_drewN | apply below_drew1) | exact Below.refl _ _)) hb; have n_BW := Aside0.mk (BW.out.below hbx); have n_HB := Aside0.mk (below_step HB.out hbx); clear HB BW; have BW := n_BW; have HB := n_HB; clear hbx n_BW n_HB; clear hb))
        go_roundg k1
        case measure => omega
        case rel =>
          refine ⟨j + 1, by go_num, ⟨by have := hj.out; omega⟩, ⟨fun i hi hl => ?_⟩, ⟨BW.out.out⟩⟩
          by_cases e : i = j
          · subst e; exact hr.out
          · exact HN.out i (by omega) hl
theorem idxfI' {k : Nat} {lb : Array Value} {q : Int → Bool} (eg : ∀ args w, (callFunc k args).run Try.prog w = .ok (.enter k args) w) {w : World} {A : Option Addr} {c : Nat} {zs : List Int} (h : Rw (Kd.int .i64) w A c zs) (hn : zs.length ≤ 1000000) (hp : PredV k lb (Value.int .i64) q (fun x => x ∈ zs) w) {r : Int} (hr : idxF q zs = r) :
    Calls Try.prog 60 #[.slice A zs.length c, .func (.func k) #[] lb] w fun e w' => e = .returned (.int .i64 r) ∧ Below w.heap.size w w' := by subst hr; exact idxfI eg h hn hp
theorem idxfS' {k : Nat} {lb : Array Value} {q : ByteArray → Bool} (eg : ∀ args w, (callFunc k args).run Try.prog w = .ok (.enter k args) w) {w : World} {A : Option Addr} {c : Nat} {zs : List ByteArray} (h : Rw Kd.string w A c zs) (hn : zs.length ≤ 1000000) (hp : PredV k lb Value.string q (fun x => x ∈ zs) w) {r : Int} (hr : idxF q zs = r) :
    Calls Try.prog 46 #[.slice A zs.length c, .func (.func k) #[] lb] w fun e w' => e = .returned (.int .i64 r) ∧ Below w.heap.size w w' := by subst hr; exact idxfS eg h hn hp
set_option maxHeartbeats 1000000 in
theorem contfI {k : Nat} {lb : Array Value} {q : Int → Bool} (eg : ∀ args w, (callFunc k args).run Try.prog w = .ok (.enter k args) w) {w : World} {A : Option Addr} {c : Nat} {zs : List Int} (h : Rw (Kd.int .i64) w A c zs) (hn : zs.length ≤ 1000000) (hp : PredV k lb (Value.int .i64) q (fun x => x ∈ zs) w) :
    Calls Try.prog 48 #[.slice A zs.length c, .func (.func k) #[] lb] w fun e w' => e = .returned (.bool (zs.any q)) ∧ Below w.heap.size w w' := by
  obtain ⟨r, hr⟩ : ∃ r, idxF q zs = r := ⟨_, rfl⟩
  have h2 := Aside0.mk (idxF_any q zs)
  rw [hr] at h2
  have HR := Aside0.mk hr
  have R := Aside0.mk h
  have PQ := Aside0.mk hp
  clear h hp hr
  go_enter Try.func48, Try.ntmps48
  go_wp2_with (go_at_call 60; refine (idxfI' eg R.out hn PQ.out HR.out).mono ?_; rintro e w' ⟨rfl, hb⟩)
  go_ret
  exact ⟨by rw [← h2.out]; rfl, hb⟩
theorem contfI' {k : Nat} {lb : Array Value} {q : Int → Bool} (eg : ∀ args w, (callFunc k args).run Try.prog w = .ok (.enter k args) w) {w : World} {A : Option Addr} {c : Nat} {zs : List Int} (h : Rw (Kd.int .i64) w A c zs) (hn : zs.length ≤ 1000000) (hp : PredV k lb (Value.int .i64) q (fun x => x ∈ zs) w) {r : Bool} (hr : zs.any q = r) :
    Calls Try.prog 48 #[.slice A zs.length c, .func (.func k) #[] lb] w fun e w' => e = .returned (.bool r) ∧ Below w.heap.size w w' := by subst hr; exact contfI eg h hn hp
end Go.Proofs.Ytmacdknicgfglaa.Gw
