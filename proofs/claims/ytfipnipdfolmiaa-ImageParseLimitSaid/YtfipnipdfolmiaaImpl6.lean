/- Printed by a program of this session (a copy of the kit's print.py, one text for all functions of the seat), with some contracts typed by hand among them: for each Go function a Lean function and a proof that the code comes to its answers. -/
import Derived.Test.YtfipnipdfolmiaaImpl0
import Derived.Test.YtfipnipdfolmiaaImpl1
import Derived.Test.YtfipnipdfolmiaaImpl2
import Derived.Test.YtfipnipdfolmiaaImpl4
namespace Go.Proofs.Ytfipnipdfolmiaa.Impl
open Go.RowKit Go.Proofs.YtfipnipdfolmiaaW.PrintWords Go.Proofs.YtfipnipdfolmiaaW.PrintLast Go.Proofs.YtfipnipdfolmiaaW.PrintMore
attribute [local go_sem] max2_int min2_int max_two min_two max_three min_three max_four min_four   -- for this text's walks alone
set_option linter.unusedVariables false
set_option linter.unusedSimpArgs false

/-! ### busbarlaw02_ImageSetChangesOneBit: function 7 -/
mutual
def busbarlaw02_ImageSetChangesOneBit.j0 : Nat → List Bool → Int → Bool → Bool → Option (Bool)
  | 0, _, _, _, _ => none
  | k + 1, x0, x1, x2, x21 => if x21 = true then ((busbarlaw02_alive.f k).bind fun t210 => (some t210)) else (if (x0.length : Int) = 0 then (none) else ((image_Set.f x0 (Int.tmod (wrap64 (x1)) (x0.length : Int)) x2).bind fun bt211 => ((image_Get.f bt211.1 (Int.tmod (wrap64 (x1)) (x0.length : Int))).bind fun bt215 => ((image_Diff.f k x0 bt211.1).bind fun bt217 => (if bt211.2 = 0 then (if bt215.2 = 0 then (if (bt215.1 != x2) = true then (busbarlaw02_ImageSetChangesOneBit.j1 k x0 x2 (Int.tmod (wrap64 (x1)) (x0.length : Int)) bt211.1 bt217.1 true) else (busbarlaw02_ImageSetChangesOneBit.j1 k x0 x2 (Int.tmod (wrap64 (x1)) (x0.length : Int)) bt211.1 bt217.1 (bt217.2 != 0))) else (busbarlaw02_ImageSetChangesOneBit.j1 k x0 x2 (Int.tmod (wrap64 (x1)) (x0.length : Int)) bt211.1 bt217.1 true)) else (busbarlaw02_ImageSetChangesOneBit.j1 k x0 x2 (Int.tmod (wrap64 (x1)) (x0.length : Int)) bt211.1 bt217.1 true))))))
def busbarlaw02_ImageSetChangesOneBit.j1 : Nat → List Bool → Bool → Int → List Bool → List Int → Bool → Option (Bool)
  | 0, _, _, _, _, _, _ => none
  | k + 1, x0, x2, x7, x8, x12, x61 => if x61 = true then (some false) else (if 0 ≤ x7 then (if x7 < (x0.length : Int) then (if ((rdOf false x0 x7) == x2) = true then ((busbarlaw02_alive.f k).bind fun t222 => (if t222 = true then ((image_Equal.f k x0 x8).bind fun t223 => (if t223 = true then (if (x12.length : Int) = 0 then ((image_Count.f k x0).bind fun t224 => ((image_Count.f k x8).bind fun t225 => (some (t224 == t225)))) else (some false)) else (some false))) else (some false))) else ((busbarlaw02_alive.f k).bind fun t226 => (if t226 = true then ((image_Equal.f k x0 x8).bind fun t227 => (if t227 = true then (some false) else (if (x12.length : Int) = 1 then (if 0 < (x12.length : Int) then (if (rd x12 0) = x7 then ((image_Format.f k x0).bind fun t229 => ((image_Format.f k x8).bind fun t230 => (some (t229.toList != t230.toList)))) else (some false)) else (none)) else (some false)))) else (some false)))) else (none)) else (none))
end
def busbarlaw02_ImageSetChangesOneBit.f (k : Nat) (l0 : List Bool) (a1 : Int) (a2 : Bool) : Option (Bool) := if (l0.length : Int) = 0 then (busbarlaw02_ImageSetChangesOneBit.j0 k l0 a1 a2 true) else (busbarlaw02_ImageSetChangesOneBit.j0 k l0 a1 a2 (decide ((l0.length : Int) > 2000)))
theorem busbarlaw02_ImageSetChangesOneBit.mono_l : ∀ k, (∀ y0 y1 y2 y3, LeO (busbarlaw02_ImageSetChangesOneBit.j0 k y0 y1 y2 y3) (busbarlaw02_ImageSetChangesOneBit.j0 (k + 1) y0 y1 y2 y3)) ∧ (∀ y0 y1 y2 y3 y4 y5, LeO (busbarlaw02_ImageSetChangesOneBit.j1 k y0 y1 y2 y3 y4 y5) (busbarlaw02_ImageSetChangesOneBit.j1 (k + 1) y0 y1 y2 y3 y4 y5))
  | 0 => ⟨fun _ _ _ _ r h => by simp [busbarlaw02_ImageSetChangesOneBit.j0] at h, fun _ _ _ _ _ _ r h => by simp [busbarlaw02_ImageSetChangesOneBit.j1] at h⟩
  | k + 1 => by
    obtain ⟨ih0, ih1⟩ := busbarlaw02_ImageSetChangesOneBit.mono_l k
    refine ⟨?_, ?_⟩
    · intro y0 y1 y2 y3
      unfold busbarlaw02_ImageSetChangesOneBit.j0
      repeat' first
      | (with_reducible exact ih0 _ _ _ _)
      | (with_reducible exact ih1 _ _ _ _ _ _)
      | (with_reducible exact busbarlaw02_alive.mono _)
      | (with_reducible exact image_Count.mono _ _)
      | (with_reducible exact image_Diff.mono _ _ _)
      | (with_reducible exact image_Equal.mono _ _ _)
      | (with_reducible exact image_Format.mono _ _)
      | (with_reducible exact LeO.refl _)
      | (with_reducible exact LeO.none _)
      | (with_reducible refine LeO.ite ?_ ?_)
      | (with_reducible refine LeO.bind ?_ (fun _ => ?_))
      | exact ih0 _ _ _ _
      | exact ih1 _ _ _ _ _ _
      | exact busbarlaw02_alive.mono _
      | exact image_Count.mono _ _
      | exact image_Diff.mono _ _ _
      | exact image_Equal.mono _ _ _
      | exact image_Format.mono _ _
      | exact LeO.none _
      | refine LeO.ite ?_ ?_
      | refine LeO.bind ?_ (fun _ => ?_)
    · intro y0 y1 y2 y3 y4 y5
      unfold busbarlaw02_ImageSetChangesOneBit.j1
      repeat' first
      | (with_reducible exact ih0 _ _ _ _)
      | (with_reducible exact ih1 _ _ _ _ _ _)
      | (with_reducible exact busbarlaw02_alive.mono _)
      | (with_reducible exact image_Count.mono _ _)
      | (with_reducible exact image_Diff.mono _ _ _)
      | (with_reducible exact image_Equal.mono _ _ _)
      | (with_reducible exact image_Format.mono _ _)
      | (with_reducible exact LeO.refl _)
      | (with_reducible exact LeO.none _)
      | (with_reducible refine LeO.ite ?_ ?_)
      | (with_reducible refine LeO.bind ?_ (fun _ => ?_))
      | exact ih0 _ _ _ _
      | exact ih1 _ _ _ _ _ _
      | exact busbarlaw02_alive.mono _
      | exact image_Count.mono _ _
      | exact image_Diff.mono _ _ _
      | exact image_Equal.mono _ _ _
      | exact image_Format.mono _ _
      | exact LeO.none _
      | refine LeO.ite ?_ ?_
      | refine LeO.bind ?_ (fun _ => ?_)
theorem busbarlaw02_ImageSetChangesOneBit.mono : ∀ a0 a1 a2 k, LeO (busbarlaw02_ImageSetChangesOneBit.f k a0 a1 a2) (busbarlaw02_ImageSetChangesOneBit.f (k + 1) a0 a1 a2) := by
  intro a0 a1 a2 k
  obtain ⟨ih0, ih1⟩ := busbarlaw02_ImageSetChangesOneBit.mono_l k
  unfold busbarlaw02_ImageSetChangesOneBit.f
  repeat' first
      | (with_reducible exact ih0 _ _ _ _)
      | (with_reducible exact ih1 _ _ _ _ _ _)
      | (with_reducible exact busbarlaw02_alive.mono _)
      | (with_reducible exact image_Count.mono _ _)
      | (with_reducible exact image_Diff.mono _ _ _)
      | (with_reducible exact image_Equal.mono _ _ _)
      | (with_reducible exact image_Format.mono _ _)
      | (with_reducible exact LeO.refl _)
      | (with_reducible exact LeO.none _)
      | (with_reducible refine LeO.ite ?_ ?_)
      | (with_reducible refine LeO.bind ?_ (fun _ => ?_))
      | exact ih0 _ _ _ _
      | exact ih1 _ _ _ _ _ _
      | exact busbarlaw02_alive.mono _
      | exact image_Count.mono _ _
      | exact image_Diff.mono _ _ _
      | exact image_Equal.mono _ _ _
      | exact image_Format.mono _ _
      | exact LeO.none _
      | refine LeO.ite ?_ ?_
      | refine LeO.bind ?_ (fun _ => ?_)
set_option maxHeartbeats 8000000 in
set_option maxRecDepth 100000 in
theorem busbarlaw02_ImageSetChangesOneBit.calls (k : Nat) (A0 : Option Addr) (c0 : Nat) (l0 : List Bool) (a1 : Int) (a2 : Bool) (r : Bool) (w : World) (hr0 : Kd.C Kd.bool w A0 l0.length l0) (hc0 : l0.length ≤ c0) (h : busbarlaw02_ImageSetChangesOneBit.f k l0 a1 a2 = some r) :
    Calls Try.prog 7 #[.slice A0 l0.length c0, .int .u16 a1, .bool a2] w fun e w' => e = .returned (.bool r) ∧ Below w.heap.size w w' := by
  have HR0 := Aside0.mk hr0
  have HC0 := Aside0.mk hc0
  clear hr0 hc0
  have HB := Aside0.mk (Below.refl w.heap.size w)
  have H : (if (l0.length : Int) = 0 then (busbarlaw02_ImageSetChangesOneBit.j0 k l0 a1 a2 true) else (busbarlaw02_ImageSetChangesOneBit.j0 k l0 a1 a2 (decide ((l0.length : Int) > 2000)))) = some r := h
  clear h
  have HC4 := Aside0.mk H
  clear H
  go_enter Try.func7, Try.ntmps7
  go_upto_region 1 with (fail)
  go_cut [21] (fun v21 wc => ∃ (kq : Nat) (x21_3 : Bool), v21 = .bool x21_3 ∧ Aside0 (busbarlaw02_ImageSetChangesOneBit.j0 kq l0 a1 a2 x21_3 = some r) ∧ Aside0 (kq ≤ k) ∧ Aside0 (Below w.heap.size w wc))
  case first =>
    have H := HC4.out
    clear HC4
    by_cases c5 : (l0.length : Int) = 0
    · rw [if_pos c5] at H
      have c5b0 : ((l0.length : Int) == 0) = true := beq_iff_eq.mpr c5
      have c5b1 : ((l0.length : Int) != 0) = false := bne_eq_false_iff_eq.mpr c5
      clear c5
      (first | rw [c5b0] | (simp only [i64_w, i32_w]; rw [c5b0]) | skip)
      have H' := Aside0.mk H
      clear H
      go_wp2
      go_meet
      case rel => exact ⟨_, (true), (by first | rfl | (simp; done) | (simp [*]; done)), H', ⟨by first | omega | exact Nat.le_refl _⟩, ⟨by repeat (first | (with_reducible first | exact HB.out | apply below_alloc | apply pw_below_drewN | apply below_drew1) | exact HB.out)⟩⟩
    · rw [if_neg c5] at H
      have c5b0 : ((l0.length : Int) == 0) = false := beq_eq_false_iff_ne.mpr c5
      have c5b1 : ((l0.length : Int) != 0) = true := bne_iff_ne.mpr c5
      have c5b2 : ¬ (l0 = []) := fun h_ => c5 (by rw [h_]; rfl)
      (first | rw [c5b0] | (simp only [i64_w, i32_w]; rw [c5b0]) | skip)
      have H' := Aside0.mk H
      clear H
      go_wp2
      go_meet
      case rel => exact ⟨_, (decide ((l0.length : Int) > 2000)), (by first | rfl | (simp; done) | (simp [*]; done)), H', ⟨by first | omega | exact Nat.le_refl _⟩, ⟨by repeat (first | (with_reducible first | exact HB.out | apply below_alloc | apply pw_below_drewN | apply below_drew1) | exact HB.out)⟩⟩
  case rest =>
    clear HC4
    try clear p2
    try clear c5
    try clear c5b0
    try clear c5b1
    try clear c5b2
    obtain ⟨kq, x21_3, rfl, HA, HJ3, HB⟩ := hcut
    cases kq with
    | zero => exact absurd HA.out (by simp [busbarlaw02_ImageSetChangesOneBit.j0])
    | succ kj3 =>
      have H := HA.out
      clear HA
      simp only [busbarlaw02_ImageSetChangesOneBit.j0] at H
      by_cases c6 : x21_3 = true
      · subst c6
        have H1 : ((busbarlaw02_alive.f kj3).bind fun t210 => (some t210)) = some r := by rw [if_pos rfl] at H; exact H
        clear H
        have H := H1
        clear H1
        replace H := Option.bind_eq_some_iff.mp H
        obtain ⟨t210, A70, H⟩ := H
        replace H : (some t210) = some r := H
        have A7 := Aside0.mk A70
        clear A70
        obtain rfl := Option.some.inj H
        go_wp2_with (first | ((with_reducible refine gate_callee (f := 10) rfl ?_); refine goesL_ (some 22) rfl rfl Try.func10 (by kernel_rfl) rfl #[] rfl (by (try simp only [List.map_toArray, List.map_cons, List.map_nil]); first | done | rfl | (simp only [List.length_drop, List.length_take]; rfl)) ?_; (with_reducible refine (busbarlaw02_alive.calls kj3  t210 _ A7.out).mono ?_); rintro e w8 ⟨rfl, hb⟩; refine ⟨_, rfl, ?_⟩; have n0_ := Aside0.mk (below_step (by repeat (first | (with_reducible first | exact HB.out | apply below_alloc | apply pw_below_drewN | apply below_drew1) | exact HB.out)) hb); clear HB; have HB := n0_; clear n0_; (try clear hb); (try clear hb2); (try clear hk); (try clear hi)))
        go_ret
        exact ⟨by first | rfl | (simp [errW_none, errW_some] <;> rfl) | (simp [*, errW_none, errW_some] <;> rfl), by repeat (first | (with_reducible first | exact HB.out | apply below_alloc | apply pw_below_drewN | apply below_drew1) | exact HB.out)⟩
      · replace c6 := Bool.eq_false_iff.mpr c6
        subst c6
        have H1 : (if (l0.length : Int) = 0 then (none) else ((image_Set.f l0 (Int.tmod (wrap64 (a1)) (l0.length : Int)) a2).bind fun bt211 => ((image_Get.f bt211.1 (Int.tmod (wrap64 (a1)) (l0.length : Int))).bind fun bt215 => ((image_Diff.f kj3 l0 bt211.1).bind fun bt217 => (if bt211.2 = 0 then (if bt215.2 = 0 then (if (bt215.1 != a2) = true then (busbarlaw02_ImageSetChangesOneBit.j1 kj3 l0 a2 (Int.tmod (wrap64 (a1)) (l0.length : Int)) bt211.1 bt217.1 true) else (busbarlaw02_ImageSetChangesOneBit.j1 kj3 l0 a2 (Int.tmod (wrap64 (a1)) (l0.length : Int)) bt211.1 bt217.1 (bt217.2 != 0))) else (busbarlaw02_ImageSetChangesOneBit.j1 kj3 l0 a2 (Int.tmod (wrap64 (a1)) (l0.length : Int)) bt211.1 bt217.1 true)) else (busbarlaw02_ImageSetChangesOneBit.j1 kj3 l0 a2 (Int.tmod (wrap64 (a1)) (l0.length : Int)) bt211.1 bt217.1 true)))))) = some r := by rw [if_neg (show ¬ (false = true) by decide)] at H; exact H
        clear H
        have H := H1
        clear H1
        by_cases c9 : (l0.length : Int) = 0
        · rw [if_pos c9] at H
          exact absurd H (by simp)
        · rw [if_neg c9] at H
          have c9b0 : ((l0.length : Int) == 0) = false := beq_eq_false_iff_ne.mpr c9
          have c9b1 : ((l0.length : Int) != 0) = true := bne_iff_ne.mpr c9
          have c9b2 : ¬ (l0 = []) := fun h_ => c9 (by rw [h_]; rfl)
          replace H := Option.bind_eq_some_iff.mp H
          obtain ⟨⟨t211, t212⟩, A100, H⟩ := H
          replace H : ((image_Get.f t211 (Int.tmod (wrap64 (a1)) (l0.length : Int))).bind fun bt215 => ((image_Diff.f kj3 l0 t211).bind fun bt217 => (if t212 = 0 then (if bt215.2 = 0 then (if (bt215.1 != a2) = true then (busbarlaw02_ImageSetChangesOneBit.j1 kj3 l0 a2 (Int.tmod (wrap64 (a1)) (l0.length : Int)) t211 bt217.1 true) else (busbarlaw02_ImageSetChangesOneBit.j1 kj3 l0 a2 (Int.tmod (wrap64 (a1)) (l0.length : Int)) t211 bt217.1 (bt217.2 != 0))) else (busbarlaw02_ImageSetChangesOneBit.j1 kj3 l0 a2 (Int.tmod (wrap64 (a1)) (l0.length : Int)) t211 bt217.1 true)) else (busbarlaw02_ImageSetChangesOneBit.j1 kj3 l0 a2 (Int.tmod (wrap64 (a1)) (l0.length : Int)) t211 bt217.1 true)))) = some r := H
          have A10 := Aside0.mk A100
          clear A100
          replace H := Option.bind_eq_some_iff.mp H
          obtain ⟨⟨t215, t216⟩, A110, H⟩ := H
          replace H : ((image_Diff.f kj3 l0 t211).bind fun bt217 => (if t212 = 0 then (if t216 = 0 then (if (t215 != a2) = true then (busbarlaw02_ImageSetChangesOneBit.j1 kj3 l0 a2 (Int.tmod (wrap64 (a1)) (l0.length : Int)) t211 bt217.1 true) else (busbarlaw02_ImageSetChangesOneBit.j1 kj3 l0 a2 (Int.tmod (wrap64 (a1)) (l0.length : Int)) t211 bt217.1 (bt217.2 != 0))) else (busbarlaw02_ImageSetChangesOneBit.j1 kj3 l0 a2 (Int.tmod (wrap64 (a1)) (l0.length : Int)) t211 bt217.1 true)) else (busbarlaw02_ImageSetChangesOneBit.j1 kj3 l0 a2 (Int.tmod (wrap64 (a1)) (l0.length : Int)) t211 bt217.1 true))) = some r := H
          have A11 := Aside0.mk A110
          clear A110
          replace H := Option.bind_eq_some_iff.mp H
          obtain ⟨⟨t217, t218⟩, A120, H⟩ := H
          replace H : (if t212 = 0 then (if t216 = 0 then (if (t215 != a2) = true then (busbarlaw02_ImageSetChangesOneBit.j1 kj3 l0 a2 (Int.tmod (wrap64 (a1)) (l0.length : Int)) t211 t217 true) else (busbarlaw02_ImageSetChangesOneBit.j1 kj3 l0 a2 (Int.tmod (wrap64 (a1)) (l0.length : Int)) t211 t217 (t218 != 0))) else (busbarlaw02_ImageSetChangesOneBit.j1 kj3 l0 a2 (Int.tmod (wrap64 (a1)) (l0.length : Int)) t211 t217 true)) else (busbarlaw02_ImageSetChangesOneBit.j1 kj3 l0 a2 (Int.tmod (wrap64 (a1)) (l0.length : Int)) t211 t217 true)) = some r := H
          have A12 := Aside0.mk A120
          clear A120
          have HC13 := Aside0.mk H
          clear H
          go_upto_region 7 with (first | ((with_reducible refine gate_callee (f := 15) rfl ?_); refine goesL_ (some 32) rfl rfl Try.func15 (by kernel_rfl) rfl #[.slice A0 l0.length c0, .int .i64 (Int.tmod (wrap64 (a1)) (l0.length : Int)), .bool a2] rfl (by (try simp only [List.map_toArray, List.map_cons, List.map_nil]); first | done | rfl | (simp only [List.length_drop, List.length_take]; rfl)) ?_; (with_reducible refine (image_Set.calls _ _ l0 (Int.tmod (wrap64 (a1)) (l0.length : Int)) a2 t211 t212 _ ?side1 ?side2 A10.out).mono ?_); (case side1 => repeat (first | exact (Kd.C_below HR0.out HB.out) | (with_reducible refine Kd.C_alloc ?_ _) | (with_reducible refine Kd.C_drewN ?_ _) | (with_reducible refine Kd.C_drew ?_))); (case side2 => exact HC0.out); rintro e w14 ⟨v213, rfl, ho0, hb⟩; refine ⟨_, rfl, ?_⟩; have n0_ := Aside0.mk (Kd.R_lower ho0 (below_size (by repeat (first | (with_reducible first | exact HB.out | apply below_alloc | apply pw_below_drewN | apply below_drew1) | exact HB.out)))); have n1_ := Aside0.mk (below_step (by repeat (first | (with_reducible first | exact HB.out | apply below_alloc | apply pw_below_drewN | apply below_drew1) | exact HB.out)) hb); clear HB; have HO214 := n0_; have HB := n1_; clear n0_ n1_; (try clear hb); (try clear hb2); (try clear hk); (try clear hi); (try clear ho0); obtain ⟨Ao15, co15, eo15⟩ := Kd.R_slice HO214.out; subst eo15) | ((with_reducible refine gate_callee (f := 14) rfl ?_); refine goesL_ (some 38) rfl rfl Try.func14 (by kernel_rfl) rfl #[.slice Ao15 t211.length co15, .int .i64 (Int.tmod (wrap64 (a1)) (l0.length : Int))] rfl (by (try simp only [List.map_toArray, List.map_cons, List.map_nil]); first | done | rfl | (simp only [List.length_drop, List.length_take]; rfl)) ?_; (with_reducible refine (image_Get.calls _ _ t211 (Int.tmod (wrap64 (a1)) (l0.length : Int)) t215 t216 _ ?side1 ?side2 A11.out).mono ?_); (case side1 => repeat (first | exact (Kd.R_reads' HO214.out).2.2 | (with_reducible refine Kd.C_alloc ?_ _) | (with_reducible refine Kd.C_drewN ?_ _) | (with_reducible refine Kd.C_drew ?_))); (case side2 => exact (Kd.R_reads' HO214.out).2.1); rintro e w' ⟨rfl, ⟨nd, rfl⟩⟩; refine ⟨_, rfl, ?_⟩) | ((with_reducible refine gate_callee (f := 20) rfl ?_); refine goesL_ (some 44) rfl rfl Try.func20 (by kernel_rfl) rfl #[.slice A0 l0.length c0, .slice Ao15 t211.length co15] rfl (by (try simp only [List.map_toArray, List.map_cons, List.map_nil]); first | done | rfl | (simp only [List.length_drop, List.length_take]; rfl)) ?_; (with_reducible refine (image_Diff.calls kj3 _ _ l0 _ _ t211 t217 t218 _ ?side1 ?side2 ?side3 ?side4 A12.out).mono ?_); (case side1 => repeat (first | exact (Kd.C_below HR0.out (by repeat (first | (with_reducible first | exact HB.out | apply below_alloc | apply pw_below_drewN | apply below_drew1) | exact HB.out))) | (with_reducible refine Kd.C_alloc ?_ _) | (with_reducible refine Kd.C_drewN ?_ _) | (with_reducible refine Kd.C_drew ?_))); (case side2 => exact HC0.out); (case side3 => repeat (first | exact (Kd.R_reads' HO214.out).2.2 | (with_reducible refine Kd.C_alloc ?_ _) | (with_reducible refine Kd.C_drewN ?_ _) | (with_reducible refine Kd.C_drew ?_))); (case side4 => exact (Kd.R_reads' HO214.out).2.1); rintro e w16 ⟨v219, rfl, ho0, hb⟩; refine ⟨_, rfl, ?_⟩; have n0_ := Aside0.mk (Kd.R_below (by (with_reducible repeat (first | apply Kd.R_alloc | apply Kd.R_drewN | apply Kd.R_drew)); exact HO214.out) hb); have n1_ := Aside0.mk (Kd.R_lower ho0 (below_size (by repeat (first | (with_reducible first | exact HB.out | apply below_alloc | apply pw_below_drewN | apply below_drew1) | exact HB.out)))); have n2_ := Aside0.mk (below_step (by repeat (first | (with_reducible first | exact HB.out | apply below_alloc | apply pw_below_drewN | apply below_drew1) | exact HB.out)) hb); clear HO214; clear HB; have HO214 := n0_; have HO220 := n1_; have HB := n2_; clear n0_ n1_ n2_; (try clear hb); (try clear hb2); (try clear hk); (try clear hi); (try clear ho0)))
          (try simp only [Act.put, List.setIfInBounds_toArray, List.set_cons_zero, List.set_cons_succ])
          go_cut [61] (fun v61 wc => ∃ (kq : Nat) (x61_12 : Bool), v61 = .bool x61_12 ∧ Aside0 (busbarlaw02_ImageSetChangesOneBit.j1 kq l0 a2 (Int.tmod (wrap64 (a1)) (l0.length : Int)) t211 t217 x61_12 = some r) ∧ Aside0 (kq ≤ kj3) ∧ Aside0 (Kd.R Kd.bool 4 wc w.heap.size (fun _ => True) (.slice Ao15 t211.length co15) t211) ∧ Aside0 (Kd.R (Kd.int .i64) 3 wc w.heap.size (fun _ => True) v219 t217) ∧ Aside0 (Below w.heap.size w wc))
          case first =>
            have H := HC13.out
            clear HC13
            by_cases c17 : t212 = 0
            · rw [if_pos c17] at H
              have c17b0 : (t212 == 0) = true := beq_iff_eq.mpr c17
              have c17b1 : (t212 != 0) = false := bne_eq_false_iff_eq.mpr c17
              clear c17
              (first | rw [c17b0] | (simp only [i64_w, i32_w]; rw [c17b0]) | skip)
              by_cases c18 : t216 = 0
              · rw [if_pos c18] at H
                have c18b0 : (t216 == 0) = true := beq_iff_eq.mpr c18
                have c18b1 : (t216 != 0) = false := bne_eq_false_iff_eq.mpr c18
                clear c18
                by_cases c19 : (t215 != a2) = true
                · rw [if_pos c19] at H
                  have c19b0 : (t215 != a2) = true := c19
                  (try (have c19b1 : decide (t215 = a2) = false := by simpa using c19))
                  (try (have c19b2 : (t215 == a2) = false := by simpa using c19))
                  (try (have c19b3 : ¬ (t215 = a2) := by simpa using c19))
                  clear c19
                  have H' := Aside0.mk H
                  clear H
                  go_wp2
                  go_meet
                  case rel => exact ⟨_, (true), (by first | rfl | (simp; done) | (simp [*]; done)), H', ⟨by have := HJ3.out; first | omega | exact Nat.le_refl _⟩, ⟨by (with_reducible repeat (first | apply Kd.R_alloc | apply Kd.R_drewN | apply Kd.R_drew)); exact HO214.out⟩, ⟨by (with_reducible repeat (first | apply Kd.R_alloc | apply Kd.R_drewN | apply Kd.R_drew)); exact HO220.out⟩, ⟨by repeat (first | (with_reducible first | exact HB.out | apply below_alloc | apply pw_below_drewN | apply below_drew1) | exact HB.out)⟩⟩
                · rw [if_neg c19] at H
                  have c19b0 : (t215 != a2) = false := by simpa using c19
                  (try (have c19b1 : decide (t215 = a2) = true := by simpa using c19))
                  (try (have c19b2 : (t215 == a2) = true := by simpa using c19))
                  clear c19
                  have H' := Aside0.mk H
                  clear H
                  go_wp2
                  go_meet
                  case rel => exact ⟨_, ((t218 != 0)), (by first | rfl | (simp; done) | (simp [*]; done)), H', ⟨by have := HJ3.out; first | omega | exact Nat.le_refl _⟩, ⟨by (with_reducible repeat (first | apply Kd.R_alloc | apply Kd.R_drewN | apply Kd.R_drew)); exact HO214.out⟩, ⟨by (with_reducible repeat (first | apply Kd.R_alloc | apply Kd.R_drewN | apply Kd.R_drew)); exact HO220.out⟩, ⟨by repeat (first | (with_reducible first | exact HB.out | apply below_alloc | apply pw_below_drewN | apply below_drew1) | exact HB.out)⟩⟩
              · rw [if_neg c18] at H
                have c18b0 : (t216 == 0) = false := beq_eq_false_iff_ne.mpr c18
                have c18b1 : (t216 != 0) = true := bne_iff_ne.mpr c18
                have H' := Aside0.mk H
                clear H
                go_wp2
                go_meet
                case rel => exact ⟨_, (true), (by first | rfl | (simp; done) | (simp [*]; done)), H', ⟨by have := HJ3.out; first | omega | exact Nat.le_refl _⟩, ⟨by (with_reducible repeat (first | apply Kd.R_alloc | apply Kd.R_drewN | apply Kd.R_drew)); exact HO214.out⟩, ⟨by (with_reducible repeat (first | apply Kd.R_alloc | apply Kd.R_drewN | apply Kd.R_drew)); exact HO220.out⟩, ⟨by repeat (first | (with_reducible first | exact HB.out | apply below_alloc | apply pw_below_drewN | apply below_drew1) | exact HB.out)⟩⟩
            · rw [if_neg c17] at H
              have c17b0 : (t212 == 0) = false := beq_eq_false_iff_ne.mpr c17
              have c17b1 : (t212 != 0) = true := bne_iff_ne.mpr c17
              (first | rw [c17b0] | (simp only [i64_w, i32_w]; rw [c17b0]) | skip)
              have H' := Aside0.mk H
              clear H
              go_wp2
              go_meet
              case rel => exact ⟨_, (true), (by first | rfl | (simp; done) | (simp [*]; done)), H', ⟨by have := HJ3.out; first | omega | exact Nat.le_refl _⟩, ⟨by (with_reducible repeat (first | apply Kd.R_alloc | apply Kd.R_drewN | apply Kd.R_drew)); exact HO214.out⟩, ⟨by (with_reducible repeat (first | apply Kd.R_alloc | apply Kd.R_drewN | apply Kd.R_drew)); exact HO220.out⟩, ⟨by repeat (first | (with_reducible first | exact HB.out | apply below_alloc | apply pw_below_drewN | apply below_drew1) | exact HB.out)⟩⟩
          case rest =>
            clear HC13
            try clear c1
            try clear c2
            try clear p2
            try clear c5
            try clear c5b0
            try clear c5b1
            try clear c5b2
            try clear c6
            try clear p6
            try clear c7
            try clear c9
            try clear c9b0
            try clear c9b1
            try clear c9b2
            try clear c10
            try clear c14
            try clear c15
            try clear c17
            try clear c17b0
            try clear c17b1
            try clear c18
            try clear c18b0
            try clear c18b1
            try clear c19
            try clear c19b0
            try clear c19b1
            try clear c19b2
            try clear p2
            obtain ⟨kq, x61_12, rfl, HA, HJ12, HO_8, HO_12, HB⟩ := hcut
            cases kq with
            | zero => exact absurd HA.out (by simp [busbarlaw02_ImageSetChangesOneBit.j1])
            | succ kj12 =>
              have H := HA.out
              clear HA
              simp only [busbarlaw02_ImageSetChangesOneBit.j1] at H
              by_cases c20 : x61_12 = true
              · subst c20
                have H1 : (some false) = some r := by rw [if_pos rfl] at H; exact H
                clear H
                have H := H1
                clear H1
                obtain rfl := Option.some.inj H
                go_wp2
                go_ret
                exact ⟨by first | rfl | (simp [errW_none, errW_some] <;> rfl) | (simp [*, errW_none, errW_some] <;> rfl), by repeat (first | (with_reducible first | exact HB.out | apply below_alloc | apply pw_below_drewN | apply below_drew1) | exact HB.out)⟩
              · replace c20 := Bool.eq_false_iff.mpr c20
                subst c20
                have H1 : (if 0 ≤ (Int.tmod (wrap64 (a1)) (l0.length : Int)) then (if (Int.tmod (wrap64 (a1)) (l0.length : Int)) < (l0.length : Int) then (if ((rdOf false l0 (Int.tmod (wrap64 (a1)) (l0.length : Int))) == a2) = true then ((busbarlaw02_alive.f kj12).bind fun t222 => (if t222 = true then ((image_Equal.f kj12 l0 t211).bind fun t223 => (if t223 = true then (if (t217.length : Int) = 0 then ((image_Count.f kj12 l0).bind fun t224 => ((image_Count.f kj12 t211).bind fun t225 => (some (t224 == t225)))) else (some false)) else (some false))) else (some false))) else ((busbarlaw02_alive.f kj12).bind fun t226 => (if t226 = true then ((image_Equal.f kj12 l0 t211).bind fun t227 => (if t227 = true then (some false) else (if (t217.length : Int) = 1 then (if 0 < (t217.length : Int) then (if (rd t217 0) = (Int.tmod (wrap64 (a1)) (l0.length : Int)) then ((image_Format.f kj12 l0).bind fun t229 => ((image_Format.f kj12 t211).bind fun t230 => (some (t229.toList != t230.toList)))) else (some false)) else (none)) else (some false)))) else (some false)))) else (none)) else (none)) = some r := by rw [if_neg (show ¬ (false = true) by decide)] at H; exact H
                clear H
                have H := H1
                clear H1
                obtain ⟨ji21, hji21⟩ : ∃ j_ : Int, (Int.tmod (wrap64 (a1)) (l0.length : Int)) = j_ := ⟨_, rfl⟩
                replace H : (if 0 ≤ (ji21) then (if (ji21) < (l0.length : Int) then (if ((rdOf false l0 (ji21)) == a2) = true then ((busbarlaw02_alive.f kj12).bind fun t222 => (if t222 = true then ((image_Equal.f kj12 l0 t211).bind fun t223 => (if t223 = true then (if (t217.length : Int) = 0 then ((image_Count.f kj12 l0).bind fun t224 => ((image_Count.f kj12 t211).bind fun t225 => (some (t224 == t225)))) else (some false)) else (some false))) else (some false))) else ((busbarlaw02_alive.f kj12).bind fun t226 => (if t226 = true then ((image_Equal.f kj12 l0 t211).bind fun t227 => (if t227 = true then (some false) else (if (t217.length : Int) = 1 then (if 0 < (t217.length : Int) then (if (rd t217 0) = (ji21) then ((image_Format.f kj12 l0).bind fun t229 => ((image_Format.f kj12 t211).bind fun t230 => (some (t229.toList != t230.toList)))) else (some false)) else (none)) else (some false)))) else (some false)))) else (none)) else (none)) = some r := by first | (rw [hji21] at H; exact H) | (simp only [hji21] at H ⊢; exact H)
                by_cases c22 : 0 ≤ (ji21)
                · rw [if_pos c22] at H
                  have c22b0 : decide (0 ≤ (ji21)) = true := decide_eq_true c22
                  clear c22
                  by_cases c23 : (ji21) < (l0.length : Int)
                  · rw [if_pos c23] at H
                    have c23b0 : decide ((ji21) < (l0.length : Int)) = true := decide_eq_true c23
                    clear c23
                    by_cases c24 : ((rdOf false l0 (ji21)) == a2) = true
                    · rw [if_pos c24] at H
                      have c24b0 : ((rdOf false l0 (ji21)) == a2) = true := c24
                      (try (have c24b1 : decide ((rdOf false l0 (ji21)) = a2) = true := by simpa using c24))
                      (try (have c24b2 : ((rdOf false l0 (ji21)) == a2) = true := by simpa using c24))
                      clear c24
                      replace H := Option.bind_eq_some_iff.mp H
                      obtain ⟨t222, A250, H⟩ := H
                      replace H : (if t222 = true then ((image_Equal.f kj12 l0 t211).bind fun t223 => (if t223 = true then (if (t217.length : Int) = 0 then ((image_Count.f kj12 l0).bind fun t224 => ((image_Count.f kj12 t211).bind fun t225 => (some (t224 == t225)))) else (some false)) else (some false))) else (some false)) = some r := H
                      have A25 := Aside0.mk A250
                      clear A250
                      by_cases c26 : t222 = true
                      · subst c26
                        have H1 : ((image_Equal.f kj12 l0 t211).bind fun t223 => (if t223 = true then (if (t217.length : Int) = 0 then ((image_Count.f kj12 l0).bind fun t224 => ((image_Count.f kj12 t211).bind fun t225 => (some (t224 == t225)))) else (some false)) else (some false))) = some r := by rw [if_pos rfl] at H; exact H
                        clear H
                        have H := H1
                        clear H1
                        replace H := Option.bind_eq_some_iff.mp H
                        obtain ⟨t223, A270, H⟩ := H
                        replace H : (if t223 = true then (if (t217.length : Int) = 0 then ((image_Count.f kj12 l0).bind fun t224 => ((image_Count.f kj12 t211).bind fun t225 => (some (t224 == t225)))) else (some false)) else (some false)) = some r := H
                        have A27 := Aside0.mk A270
                        clear A270
                        by_cases c28 : t223 = true
                        · subst c28
                          have H1 : (if (t217.length : Int) = 0 then ((image_Count.f kj12 l0).bind fun t224 => ((image_Count.f kj12 t211).bind fun t225 => (some (t224 == t225)))) else (some false)) = some r := by rw [if_pos rfl] at H; exact H
                          clear H
                          have H := H1
                          clear H1
                          by_cases c29 : (t217.length : Int) = 0
                          · rw [if_pos c29] at H
                            have c29b0 : ((t217.length : Int) == 0) = true := beq_iff_eq.mpr c29
                            have c29b1 : ((t217.length : Int) != 0) = false := bne_eq_false_iff_eq.mpr c29
                            clear c29
                            replace H := Option.bind_eq_some_iff.mp H
                            obtain ⟨t224, A300, H⟩ := H
                            replace H : ((image_Count.f kj12 t211).bind fun t225 => (some (t224 == t225))) = some r := H
                            have A30 := Aside0.mk A300
                            clear A300
                            replace H := Option.bind_eq_some_iff.mp H
                            obtain ⟨t225, A310, H⟩ := H
                            replace H : (some (t224 == t225)) = some r := H
                            have A31 := Aside0.mk A310
                            clear A310
                            obtain rfl := Option.some.inj H
                            have p221 : 0 ≤ ((ji21) : Int) := of_decide_eq_true (by first | (with_reducible assumption) | assumption)
                            have q221 : (ji21) < (l0.length : Int) := of_decide_eq_true (by first | (with_reducible assumption) | assumption)
                            obtain ⟨ad221, e221, hx221_0⟩ := Kd.at_bool HR0.out (ji21) p221 q221
                            cases e221
                            replace hx221_0 := (HB.out.cell (World.block_lt_of_cell? w _ hx221_0)).trans hx221_0
                            replace p221 := eq_true p221
                            replace q221 := eq_true q221
                            go_wp2_with (first | ((with_reducible refine gate_callee (f := 10) rfl ?_); refine goesL_ (some 68) rfl rfl Try.func10 (by kernel_rfl) rfl #[] rfl (by (try simp only [List.map_toArray, List.map_cons, List.map_nil]); first | done | rfl | (simp only [List.length_drop, List.length_take]; rfl)) ?_; (with_reducible refine (busbarlaw02_alive.calls kj12  true _ A25.out).mono ?_); rintro e w32 ⟨rfl, hb⟩; refine ⟨_, rfl, ?_⟩; have n0_ := Aside0.mk (Kd.R_below (by (with_reducible repeat (first | apply Kd.R_alloc | apply Kd.R_drewN | apply Kd.R_drew)); exact HO_8.out) hb); have n1_ := Aside0.mk (Kd.R_below (by (with_reducible repeat (first | apply Kd.R_alloc | apply Kd.R_drewN | apply Kd.R_drew)); exact HO_12.out) hb); have n2_ := Aside0.mk (below_step (by repeat (first | (with_reducible first | exact HB.out | apply below_alloc | apply pw_below_drewN | apply below_drew1) | exact HB.out)) hb); clear HO_8; clear HO_12; clear HB; have HO_8 := n0_; have HO_12 := n1_; have HB := n2_; clear n0_ n1_ n2_; (try clear hb); (try clear hb2); (try clear hk); (try clear hi)) | (go_at_call 22; (with_reducible refine (image_Equal.calls kj12 _ _ l0 _ _ t211 true _ ?side1 ?side2 ?side3 ?side4 A27.out).mono ?_); (case side1 => repeat (first | exact (Kd.C_below HR0.out HB.out) | (with_reducible refine Kd.C_alloc ?_ _) | (with_reducible refine Kd.C_drewN ?_ _) | (with_reducible refine Kd.C_drew ?_))); (case side2 => exact HC0.out); (case side3 => repeat (first | exact (Kd.R_reads' HO_8.out).2.2 | (with_reducible refine Kd.C_alloc ?_ _) | (with_reducible refine Kd.C_drewN ?_ _) | (with_reducible refine Kd.C_drew ?_))); (case side4 => exact (Kd.R_reads' HO_8.out).2.1); rintro e w' ⟨rfl, ⟨nd, rfl⟩⟩; obtain ⟨Ao33, co33, eo33⟩ := Kd.R_slice HO_12.out; subst eo33) | (go_at_call 11; (with_reducible refine (image_Count.calls kj12 _ _ l0 t224 _ ?side1 ?side2 A30.out).mono ?_); (case side1 => repeat (first | exact (Kd.C_below HR0.out (by repeat (first | (with_reducible first | exact HB.out | apply below_alloc | apply pw_below_drewN | apply below_drew1) | exact HB.out))) | (with_reducible refine Kd.C_alloc ?_ _) | (with_reducible refine Kd.C_drewN ?_ _) | (with_reducible refine Kd.C_drew ?_))); (case side2 => exact HC0.out); rintro e w' ⟨rfl, ⟨nd, rfl⟩⟩) | (go_at_call 11; (with_reducible refine (image_Count.calls kj12 _ _ t211 t225 _ ?side1 ?side2 A31.out).mono ?_); (case side1 => repeat (first | exact (Kd.R_reads' HO_8.out).2.2 | (with_reducible refine Kd.C_alloc ?_ _) | (with_reducible refine Kd.C_drewN ?_ _) | (with_reducible refine Kd.C_drew ?_))); (case side2 => exact (Kd.R_reads' HO_8.out).2.1); rintro e w' ⟨rfl, ⟨nd, rfl⟩⟩))
                            go_ret
                            exact ⟨by first | rfl | (simp [errW_none, errW_some] <;> rfl) | (simp only [← hji21]; first | rfl | (simp [errW_none, errW_some] <;> rfl)) | (simp [*, errW_none, errW_some] <;> rfl), by repeat (first | (with_reducible first | exact HB.out | apply below_alloc | apply pw_below_drewN | apply below_drew1) | exact HB.out)⟩
                          · rw [if_neg c29] at H
                            have c29b0 : ((t217.length : Int) == 0) = false := beq_eq_false_iff_ne.mpr c29
                            have c29b1 : ((t217.length : Int) != 0) = true := bne_iff_ne.mpr c29
                            have c29b2 : ¬ (t217 = []) := fun h_ => c29 (by rw [h_]; rfl)
                            obtain rfl := Option.some.inj H
                            have p221 : 0 ≤ ((ji21) : Int) := of_decide_eq_true (by first | (with_reducible assumption) | assumption)
                            have q221 : (ji21) < (l0.length : Int) := of_decide_eq_true (by first | (with_reducible assumption) | assumption)
                            obtain ⟨ad221, e221, hx221_0⟩ := Kd.at_bool HR0.out (ji21) p221 q221
                            cases e221
                            replace hx221_0 := (HB.out.cell (World.block_lt_of_cell? w _ hx221_0)).trans hx221_0
                            replace p221 := eq_true p221
                            replace q221 := eq_true q221
                            go_wp2_with (first | ((with_reducible refine gate_callee (f := 10) rfl ?_); refine goesL_ (some 68) rfl rfl Try.func10 (by kernel_rfl) rfl #[] rfl (by (try simp only [List.map_toArray, List.map_cons, List.map_nil]); first | done | rfl | (simp only [List.length_drop, List.length_take]; rfl)) ?_; (with_reducible refine (busbarlaw02_alive.calls kj12  true _ A25.out).mono ?_); rintro e w34 ⟨rfl, hb⟩; refine ⟨_, rfl, ?_⟩; have n0_ := Aside0.mk (Kd.R_below (by (with_reducible repeat (first | apply Kd.R_alloc | apply Kd.R_drewN | apply Kd.R_drew)); exact HO_8.out) hb); have n1_ := Aside0.mk (Kd.R_below (by (with_reducible repeat (first | apply Kd.R_alloc | apply Kd.R_drewN | apply Kd.R_drew)); exact HO_12.out) hb); have n2_ := Aside0.mk (below_step (by repeat (first | (with_reducible first | exact HB.out | apply below_alloc | apply pw_below_drewN | apply below_drew1) | exact HB.out)) hb); clear HO_8; clear HO_12; clear HB; have HO_8 := n0_; have HO_12 := n1_; have HB := n2_; clear n0_ n1_ n2_; (try clear hb); (try clear hb2); (try clear hk); (try clear hi)) | (go_at_call 22; (with_reducible refine (image_Equal.calls kj12 _ _ l0 _ _ t211 true _ ?side1 ?side2 ?side3 ?side4 A27.out).mono ?_); (case side1 => repeat (first | exact (Kd.C_below HR0.out HB.out) | (with_reducible refine Kd.C_alloc ?_ _) | (with_reducible refine Kd.C_drewN ?_ _) | (with_reducible refine Kd.C_drew ?_))); (case side2 => exact HC0.out); (case side3 => repeat (first | exact (Kd.R_reads' HO_8.out).2.2 | (with_reducible refine Kd.C_alloc ?_ _) | (with_reducible refine Kd.C_drewN ?_ _) | (with_reducible refine Kd.C_drew ?_))); (case side4 => exact (Kd.R_reads' HO_8.out).2.1); rintro e w' ⟨rfl, ⟨nd, rfl⟩⟩; obtain ⟨Ao35, co35, eo35⟩ := Kd.R_slice HO_12.out; subst eo35))
                            go_ret
                            exact ⟨by first | rfl | (simp [errW_none, errW_some] <;> rfl) | (simp only [← hji21]; first | rfl | (simp [errW_none, errW_some] <;> rfl)) | (simp [*, errW_none, errW_some] <;> rfl), by repeat (first | (with_reducible first | exact HB.out | apply below_alloc | apply pw_below_drewN | apply below_drew1) | exact HB.out)⟩
                        · replace c28 := Bool.eq_false_iff.mpr c28
                          subst c28
                          have H1 : (some false) = some r := by rw [if_neg (show ¬ (false = true) by decide)] at H; exact H
                          clear H
                          have H := H1
                          clear H1
                          obtain rfl := Option.some.inj H
                          have p221 : 0 ≤ ((ji21) : Int) := of_decide_eq_true (by first | (with_reducible assumption) | assumption)
                          have q221 : (ji21) < (l0.length : Int) := of_decide_eq_true (by first | (with_reducible assumption) | assumption)
                          obtain ⟨ad221, e221, hx221_0⟩ := Kd.at_bool HR0.out (ji21) p221 q221
                          cases e221
                          replace hx221_0 := (HB.out.cell (World.block_lt_of_cell? w _ hx221_0)).trans hx221_0
                          replace p221 := eq_true p221
                          replace q221 := eq_true q221
                          go_wp2_with (first | ((with_reducible refine gate_callee (f := 10) rfl ?_); refine goesL_ (some 68) rfl rfl Try.func10 (by kernel_rfl) rfl #[] rfl (by (try simp only [List.map_toArray, List.map_cons, List.map_nil]); first | done | rfl | (simp only [List.length_drop, List.length_take]; rfl)) ?_; (with_reducible refine (busbarlaw02_alive.calls kj12  true _ A25.out).mono ?_); rintro e w36 ⟨rfl, hb⟩; refine ⟨_, rfl, ?_⟩; have n0_ := Aside0.mk (Kd.R_below (by (with_reducible repeat (first | apply Kd.R_alloc | apply Kd.R_drewN | apply Kd.R_drew)); exact HO_8.out) hb); have n1_ := Aside0.mk (Kd.R_below (by (with_reducible repeat (first | apply Kd.R_alloc | apply Kd.R_drewN | apply Kd.R_drew)); exact HO_12.out) hb); have n2_ := Aside0.mk (below_step (by repeat (first | (with_reducible first | exact HB.out | apply below_alloc | apply pw_below_drewN | apply below_drew1) | exact HB.out)) hb); clear HO_8; clear HO_12; clear HB; have HO_8 := n0_; have HO_12 := n1_; have HB := n2_; clear n0_ n1_ n2_; (try clear hb); (try clear hb2); (try clear hk); (try clear hi)) | (go_at_call 22; (with_reducible refine (image_Equal.calls kj12 _ _ l0 _ _ t211 false _ ?side1 ?side2 ?side3 ?side4 A27.out).mono ?_); (case side1 => repeat (first | exact (Kd.C_below HR0.out HB.out) | (with_reducible refine Kd.C_alloc ?_ _) | (with_reducible refine Kd.C_drewN ?_ _) | (with_reducible refine Kd.C_drew ?_))); (case side2 => exact HC0.out); (case side3 => repeat (first | exact (Kd.R_reads' HO_8.out).2.2 | (with_reducible refine Kd.C_alloc ?_ _) | (with_reducible refine Kd.C_drewN ?_ _) | (with_reducible refine Kd.C_drew ?_))); (case side4 => exact (Kd.R_reads' HO_8.out).2.1); rintro e w' ⟨rfl, ⟨nd, rfl⟩⟩))
                          go_ret
                          exact ⟨by first | rfl | (simp [errW_none, errW_some] <;> rfl) | (simp only [← hji21]; first | rfl | (simp [errW_none, errW_some] <;> rfl)) | (simp [*, errW_none, errW_some] <;> rfl), by repeat (first | (with_reducible first | exact HB.out | apply below_alloc | apply pw_below_drewN | apply below_drew1) | exact HB.out)⟩
                      · replace c26 := Bool.eq_false_iff.mpr c26
                        subst c26
                        have H1 : (some false) = some r := by rw [if_neg (show ¬ (false = true) by decide)] at H; exact H
                        clear H
                        have H := H1
                        clear H1
                        obtain rfl := Option.some.inj H
                        have p221 : 0 ≤ ((ji21) : Int) := of_decide_eq_true (by first | (with_reducible assumption) | assumption)
                        have q221 : (ji21) < (l0.length : Int) := of_decide_eq_true (by first | (with_reducible assumption) | assumption)
                        obtain ⟨ad221, e221, hx221_0⟩ := Kd.at_bool HR0.out (ji21) p221 q221
                        cases e221
                        replace hx221_0 := (HB.out.cell (World.block_lt_of_cell? w _ hx221_0)).trans hx221_0
                        replace p221 := eq_true p221
                        replace q221 := eq_true q221
                        go_wp2_with (first | ((with_reducible refine gate_callee (f := 10) rfl ?_); refine goesL_ (some 68) rfl rfl Try.func10 (by kernel_rfl) rfl #[] rfl (by (try simp only [List.map_toArray, List.map_cons, List.map_nil]); first | done | rfl | (simp only [List.length_drop, List.length_take]; rfl)) ?_; (with_reducible refine (busbarlaw02_alive.calls kj12  false _ A25.out).mono ?_); rintro e w37 ⟨rfl, hb⟩; refine ⟨_, rfl, ?_⟩; have n0_ := Aside0.mk (Kd.R_below (by (with_reducible repeat (first | apply Kd.R_alloc | apply Kd.R_drewN | apply Kd.R_drew)); exact HO_8.out) hb); have n1_ := Aside0.mk (Kd.R_below (by (with_reducible repeat (first | apply Kd.R_alloc | apply Kd.R_drewN | apply Kd.R_drew)); exact HO_12.out) hb); have n2_ := Aside0.mk (below_step (by repeat (first | (with_reducible first | exact HB.out | apply below_alloc | apply pw_below_drewN | apply below_drew1) | exact HB.out)) hb); clear HO_8; clear HO_12; clear HB; have HO_8 := n0_; have HO_12 := n1_; have HB := n2_; clear n0_ n1_ n2_; (try clear hb); (try clear hb2); (try clear hk); (try clear hi)))
                        go_ret
                        exact ⟨by first | rfl | (simp [errW_none, errW_some] <;> rfl) | (simp only [← hji21]; first | rfl | (simp [errW_none, errW_some] <;> rfl)) | (simp [*, errW_none, errW_some] <;> rfl), by repeat (first | (with_reducible first | exact HB.out | apply below_alloc | apply pw_below_drewN | apply below_drew1) | exact HB.out)⟩
                    · rw [if_neg c24] at H
                      have c24b0 : ((rdOf false l0 (ji21)) == a2) = false := by simpa using c24
                      (try (have c24b1 : decide ((rdOf false l0 (ji21)) = a2) = false := by simpa using c24))
                      (try (have c24b2 : ((rdOf false l0 (ji21)) == a2) = false := by simpa using c24))
                      (try (have c24b3 : ¬ ((rdOf false l0 (ji21)) = a2) := by simpa using c24))
                      clear c24
                      replace H := Option.bind_eq_some_iff.mp H
                      obtain ⟨t226, A380, H⟩ := H
                      replace H : (if t226 = true then ((image_Equal.f kj12 l0 t211).bind fun t227 => (if t227 = true then (some false) else (if (t217.length : Int) = 1 then (if 0 < (t217.length : Int) then (if (rd t217 0) = (ji21) then ((image_Format.f kj12 l0).bind fun t229 => ((image_Format.f kj12 t211).bind fun t230 => (some (t229.toList != t230.toList)))) else (some false)) else (none)) else (some false)))) else (some false)) = some r := H
                      have A38 := Aside0.mk A380
                      clear A380
                      by_cases c39 : t226 = true
                      · subst c39
                        have H1 : ((image_Equal.f kj12 l0 t211).bind fun t227 => (if t227 = true then (some false) else (if (t217.length : Int) = 1 then (if 0 < (t217.length : Int) then (if (rd t217 0) = (ji21) then ((image_Format.f kj12 l0).bind fun t229 => ((image_Format.f kj12 t211).bind fun t230 => (some (t229.toList != t230.toList)))) else (some false)) else (none)) else (some false)))) = some r := by rw [if_pos rfl] at H; exact H
                        clear H
                        have H := H1
                        clear H1
                        replace H := Option.bind_eq_some_iff.mp H
                        obtain ⟨t227, A400, H⟩ := H
                        replace H : (if t227 = true then (some false) else (if (t217.length : Int) = 1 then (if 0 < (t217.length : Int) then (if (rd t217 0) = (ji21) then ((image_Format.f kj12 l0).bind fun t229 => ((image_Format.f kj12 t211).bind fun t230 => (some (t229.toList != t230.toList)))) else (some false)) else (none)) else (some false))) = some r := H
                        have A40 := Aside0.mk A400
                        clear A400
                        by_cases c41 : t227 = true
                        · subst c41
                          have H1 : (some false) = some r := by rw [if_pos rfl] at H; exact H
                          clear H
                          have H := H1
                          clear H1
                          obtain rfl := Option.some.inj H
                          have p221 : 0 ≤ ((ji21) : Int) := of_decide_eq_true (by first | (with_reducible assumption) | assumption)
                          have q221 : (ji21) < (l0.length : Int) := of_decide_eq_true (by first | (with_reducible assumption) | assumption)
                          obtain ⟨ad221, e221, hx221_0⟩ := Kd.at_bool HR0.out (ji21) p221 q221
                          cases e221
                          replace hx221_0 := (HB.out.cell (World.block_lt_of_cell? w _ hx221_0)).trans hx221_0
                          replace p221 := eq_true p221
                          replace q221 := eq_true q221
                          go_wp2_with (first | ((with_reducible refine gate_callee (f := 10) rfl ?_); refine goesL_ (some 86) rfl rfl Try.func10 (by kernel_rfl) rfl #[] rfl (by (try simp only [List.map_toArray, List.map_cons, List.map_nil]); first | done | rfl | (simp only [List.length_drop, List.length_take]; rfl)) ?_; (with_reducible refine (busbarlaw02_alive.calls kj12  true _ A38.out).mono ?_); rintro e w42 ⟨rfl, hb⟩; refine ⟨_, rfl, ?_⟩; have n0_ := Aside0.mk (Kd.R_below (by (with_reducible repeat (first | apply Kd.R_alloc | apply Kd.R_drewN | apply Kd.R_drew)); exact HO_8.out) hb); have n1_ := Aside0.mk (Kd.R_below (by (with_reducible repeat (first | apply Kd.R_alloc | apply Kd.R_drewN | apply Kd.R_drew)); exact HO_12.out) hb); have n2_ := Aside0.mk (below_step (by repeat (first | (with_reducible first | exact HB.out | apply below_alloc | apply pw_below_drewN | apply below_drew1) | exact HB.out)) hb); clear HO_8; clear HO_12; clear HB; have HO_8 := n0_; have HO_12 := n1_; have HB := n2_; clear n0_ n1_ n2_; (try clear hb); (try clear hb2); (try clear hk); (try clear hi)) | (go_at_call 22; (with_reducible refine (image_Equal.calls kj12 _ _ l0 _ _ t211 true _ ?side1 ?side2 ?side3 ?side4 A40.out).mono ?_); (case side1 => repeat (first | exact (Kd.C_below HR0.out HB.out) | (with_reducible refine Kd.C_alloc ?_ _) | (with_reducible refine Kd.C_drewN ?_ _) | (with_reducible refine Kd.C_drew ?_))); (case side2 => exact HC0.out); (case side3 => repeat (first | exact (Kd.R_reads' HO_8.out).2.2 | (with_reducible refine Kd.C_alloc ?_ _) | (with_reducible refine Kd.C_drewN ?_ _) | (with_reducible refine Kd.C_drew ?_))); (case side4 => exact (Kd.R_reads' HO_8.out).2.1); rintro e w' ⟨rfl, ⟨nd, rfl⟩⟩))
                          go_ret
                          exact ⟨by first | rfl | (simp [errW_none, errW_some] <;> rfl) | (simp only [← hji21]; first | rfl | (simp [errW_none, errW_some] <;> rfl)) | (simp [*, errW_none, errW_some] <;> rfl), by repeat (first | (with_reducible first | exact HB.out | apply below_alloc | apply pw_below_drewN | apply below_drew1) | exact HB.out)⟩
                        · replace c41 := Bool.eq_false_iff.mpr c41
                          subst c41
                          have H1 : (if (t217.length : Int) = 1 then (if 0 < (t217.length : Int) then (if (rd t217 0) = (ji21) then ((image_Format.f kj12 l0).bind fun t229 => ((image_Format.f kj12 t211).bind fun t230 => (some (t229.toList != t230.toList)))) else (some false)) else (none)) else (some false)) = some r := by rw [if_neg (show ¬ (false = true) by decide)] at H; exact H
                          clear H
                          have H := H1
                          clear H1
                          by_cases c43 : (t217.length : Int) = 1
                          · rw [if_pos c43] at H
                            have c43b0 : ((t217.length : Int) == 1) = true := beq_iff_eq.mpr c43
                            have c43b1 : ((t217.length : Int) != 1) = false := bne_eq_false_iff_eq.mpr c43
                            clear c43
                            by_cases c44 : 0 < (t217.length : Int)
                            · rw [if_pos c44] at H
                              have c44b0 : decide (0 < (t217.length : Int)) = true := decide_eq_true c44
                              have c44b1 : decide (0 < t217.length) = true := decide_eq_true (by omega)
                              clear c44
                              by_cases c45 : (rd t217 0) = (ji21)
                              · rw [if_pos c45] at H
                                have c45b0 : ((rd t217 0) == (ji21)) = true := beq_iff_eq.mpr c45
                                have c45b1 : ((rd t217 0) != (ji21)) = false := bne_eq_false_iff_eq.mpr c45
                                clear c45
                                replace H := Option.bind_eq_some_iff.mp H
                                obtain ⟨t229, A460, H⟩ := H
                                replace H : ((image_Format.f kj12 t211).bind fun t230 => (some (t229.toList != t230.toList))) = some r := H
                                have A46 := Aside0.mk A460
                                clear A460
                                replace H := Option.bind_eq_some_iff.mp H
                                obtain ⟨t230, A470, H⟩ := H
                                replace H : (some (t229.toList != t230.toList)) = some r := H
                                have A47 := Aside0.mk A470
                                clear A470
                                obtain rfl := Option.some.inj H
                                have p221 : 0 ≤ ((ji21) : Int) := of_decide_eq_true (by first | (with_reducible assumption) | assumption)
                                have q221 : (ji21) < (l0.length : Int) := of_decide_eq_true (by first | (with_reducible assumption) | assumption)
                                obtain ⟨ad221, e221, hx221_0⟩ := Kd.at_bool HR0.out (ji21) p221 q221
                                cases e221
                                replace hx221_0 := (HB.out.cell (World.block_lt_of_cell? w _ hx221_0)).trans hx221_0
                                replace p221 := eq_true p221
                                replace q221 := eq_true q221
                                go_wp2_with (first | ((with_reducible refine gate_callee (f := 10) rfl ?_); refine goesL_ (some 86) rfl rfl Try.func10 (by kernel_rfl) rfl #[] rfl (by (try simp only [List.map_toArray, List.map_cons, List.map_nil]); first | done | rfl | (simp only [List.length_drop, List.length_take]; rfl)) ?_; (with_reducible refine (busbarlaw02_alive.calls kj12  true _ A38.out).mono ?_); rintro e w48 ⟨rfl, hb⟩; refine ⟨_, rfl, ?_⟩; have n0_ := Aside0.mk (Kd.R_below (by (with_reducible repeat (first | apply Kd.R_alloc | apply Kd.R_drewN | apply Kd.R_drew)); exact HO_8.out) hb); have n1_ := Aside0.mk (Kd.R_below (by (with_reducible repeat (first | apply Kd.R_alloc | apply Kd.R_drewN | apply Kd.R_drew)); exact HO_12.out) hb); have n2_ := Aside0.mk (below_step (by repeat (first | (with_reducible first | exact HB.out | apply below_alloc | apply pw_below_drewN | apply below_drew1) | exact HB.out)) hb); clear HO_8; clear HO_12; clear HB; have HO_8 := n0_; have HO_12 := n1_; have HB := n2_; clear n0_ n1_ n2_; (try clear hb); (try clear hb2); (try clear hk); (try clear hi)) | (go_at_call 22; (with_reducible refine (image_Equal.calls kj12 _ _ l0 _ _ t211 false _ ?side1 ?side2 ?side3 ?side4 A40.out).mono ?_); (case side1 => repeat (first | exact (Kd.C_below HR0.out HB.out) | (with_reducible refine Kd.C_alloc ?_ _) | (with_reducible refine Kd.C_drewN ?_ _) | (with_reducible refine Kd.C_drew ?_))); (case side2 => exact HC0.out); (case side3 => repeat (first | exact (Kd.R_reads' HO_8.out).2.2 | (with_reducible refine Kd.C_alloc ?_ _) | (with_reducible refine Kd.C_drewN ?_ _) | (with_reducible refine Kd.C_drew ?_))); (case side4 => exact (Kd.R_reads' HO_8.out).2.1); rintro e w' ⟨rfl, ⟨nd, rfl⟩⟩; obtain ⟨Ao49, co49, eo49⟩ := Kd.R_slice HO_12.out; subst eo49; have p228 : 0 ≤ (0 : Int) := (by omega); have q228 : 0 < (t217.length : Int) := of_decide_eq_true (by first | (with_reducible assumption) | assumption); obtain ⟨ad228, e228, hx228_0⟩ := Kd.at_int (Kd.R_reads' HO_12.out).2.2 0 p228 q228; cases e228; have qi228 : (0 < t217.length) = True := eq_true (by omega); (try rw [show ((0 : Int)).toNat = 0 from rfl] at hx228_0); (try rw [Addr.add_zero'] at hx228_0); replace p228 := eq_true p228; replace q228 := eq_true q228) | (go_at_call 12; (with_reducible refine (image_Format.calls kj12 _ _ l0 t229 _ ?side1 ?side2 A46.out).mono ?_); (case side1 => repeat (first | exact (Kd.C_below HR0.out (by repeat (first | (with_reducible first | exact HB.out | apply below_alloc | apply pw_below_drewN | apply below_drew1) | exact HB.out))) | (with_reducible refine Kd.C_alloc ?_ _) | (with_reducible refine Kd.C_drewN ?_ _) | (with_reducible refine Kd.C_drew ?_))); (case side2 => exact HC0.out); rintro e w50 ⟨rfl, hb⟩; have n0_ := Aside0.mk (Kd.R_below (by (with_reducible repeat (first | apply Kd.R_alloc | apply Kd.R_drewN | apply Kd.R_drew)); exact HO_8.out) hb); have n1_ := Aside0.mk (Kd.R_below (by (with_reducible repeat (first | apply Kd.R_alloc | apply Kd.R_drewN | apply Kd.R_drew)); exact HO_12.out) hb); have n2_ := Aside0.mk (below_step (by repeat (first | (with_reducible first | exact HB.out | apply below_alloc | apply pw_below_drewN | apply below_drew1) | exact HB.out)) hb); clear HO_8; clear HO_12; clear HB; have HO_8 := n0_; have HO_12 := n1_; have HB := n2_; clear n0_ n1_ n2_; (try clear hb); (try clear hb2); (try clear hk); (try clear hi)) | (go_at_call 12; (with_reducible refine (image_Format.calls kj12 _ _ t211 t230 _ ?side1 ?side2 A47.out).mono ?_); (case side1 => repeat (first | exact (Kd.R_reads' HO_8.out).2.2 | (with_reducible refine Kd.C_alloc ?_ _) | (with_reducible refine Kd.C_drewN ?_ _) | (with_reducible refine Kd.C_drew ?_))); (case side2 => exact (Kd.R_reads' HO_8.out).2.1); rintro e w51 ⟨rfl, hb⟩; have n0_ := Aside0.mk (Kd.R_below (by (with_reducible repeat (first | apply Kd.R_alloc | apply Kd.R_drewN | apply Kd.R_drew)); exact HO_8.out) hb); have n1_ := Aside0.mk (Kd.R_below (by (with_reducible repeat (first | apply Kd.R_alloc | apply Kd.R_drewN | apply Kd.R_drew)); exact HO_12.out) hb); have n2_ := Aside0.mk (below_step (by repeat (first | (with_reducible first | exact HB.out | apply below_alloc | apply pw_below_drewN | apply below_drew1) | exact HB.out)) hb); clear HO_8; clear HO_12; clear HB; have HO_8 := n0_; have HO_12 := n1_; have HB := n2_; clear n0_ n1_ n2_; (try clear hb); (try clear hb2); (try clear hk); (try clear hi)))
                                go_ret
                                exact ⟨by first | rfl | (simp [errW_none, errW_some] <;> rfl) | (simp only [← hji21]; first | rfl | (simp [errW_none, errW_some] <;> rfl)) | (simp [*, errW_none, errW_some] <;> rfl), by repeat (first | (with_reducible first | exact HB.out | apply below_alloc | apply pw_below_drewN | apply below_drew1) | exact HB.out)⟩
                              · rw [if_neg c45] at H
                                have c45b0 : ((rd t217 0) == (ji21)) = false := beq_eq_false_iff_ne.mpr c45
                                have c45b1 : ((rd t217 0) != (ji21)) = true := bne_iff_ne.mpr c45
                                obtain rfl := Option.some.inj H
                                have p221 : 0 ≤ ((ji21) : Int) := of_decide_eq_true (by first | (with_reducible assumption) | assumption)
                                have q221 : (ji21) < (l0.length : Int) := of_decide_eq_true (by first | (with_reducible assumption) | assumption)
                                obtain ⟨ad221, e221, hx221_0⟩ := Kd.at_bool HR0.out (ji21) p221 q221
                                cases e221
                                replace hx221_0 := (HB.out.cell (World.block_lt_of_cell? w _ hx221_0)).trans hx221_0
                                replace p221 := eq_true p221
                                replace q221 := eq_true q221
                                go_wp2_with (first | ((with_reducible refine gate_callee (f := 10) rfl ?_); refine goesL_ (some 86) rfl rfl Try.func10 (by kernel_rfl) rfl #[] rfl (by (try simp only [List.map_toArray, List.map_cons, List.map_nil]); first | done | rfl | (simp only [List.length_drop, List.length_take]; rfl)) ?_; (with_reducible refine (busbarlaw02_alive.calls kj12  true _ A38.out).mono ?_); rintro e w52 ⟨rfl, hb⟩; refine ⟨_, rfl, ?_⟩; have n0_ := Aside0.mk (Kd.R_below (by (with_reducible repeat (first | apply Kd.R_alloc | apply Kd.R_drewN | apply Kd.R_drew)); exact HO_8.out) hb); have n1_ := Aside0.mk (Kd.R_below (by (with_reducible repeat (first | apply Kd.R_alloc | apply Kd.R_drewN | apply Kd.R_drew)); exact HO_12.out) hb); have n2_ := Aside0.mk (below_step (by repeat (first | (with_reducible first | exact HB.out | apply below_alloc | apply pw_below_drewN | apply below_drew1) | exact HB.out)) hb); clear HO_8; clear HO_12; clear HB; have HO_8 := n0_; have HO_12 := n1_; have HB := n2_; clear n0_ n1_ n2_; (try clear hb); (try clear hb2); (try clear hk); (try clear hi)) | (go_at_call 22; (with_reducible refine (image_Equal.calls kj12 _ _ l0 _ _ t211 false _ ?side1 ?side2 ?side3 ?side4 A40.out).mono ?_); (case side1 => repeat (first | exact (Kd.C_below HR0.out HB.out) | (with_reducible refine Kd.C_alloc ?_ _) | (with_reducible refine Kd.C_drewN ?_ _) | (with_reducible refine Kd.C_drew ?_))); (case side2 => exact HC0.out); (case side3 => repeat (first | exact (Kd.R_reads' HO_8.out).2.2 | (with_reducible refine Kd.C_alloc ?_ _) | (with_reducible refine Kd.C_drewN ?_ _) | (with_reducible refine Kd.C_drew ?_))); (case side4 => exact (Kd.R_reads' HO_8.out).2.1); rintro e w' ⟨rfl, ⟨nd, rfl⟩⟩; obtain ⟨Ao53, co53, eo53⟩ := Kd.R_slice HO_12.out; subst eo53; have p228 : 0 ≤ (0 : Int) := (by omega); have q228 : 0 < (t217.length : Int) := of_decide_eq_true (by first | (with_reducible assumption) | assumption); obtain ⟨ad228, e228, hx228_0⟩ := Kd.at_int (Kd.R_reads' HO_12.out).2.2 0 p228 q228; cases e228; have qi228 : (0 < t217.length) = True := eq_true (by omega); (try rw [show ((0 : Int)).toNat = 0 from rfl] at hx228_0); (try rw [Addr.add_zero'] at hx228_0); replace p228 := eq_true p228; replace q228 := eq_true q228))
                                go_ret
                                exact ⟨by first | rfl | (simp [errW_none, errW_some] <;> rfl) | (simp only [← hji21]; first | rfl | (simp [errW_none, errW_some] <;> rfl)) | (simp [*, errW_none, errW_some] <;> rfl), by repeat (first | (with_reducible first | exact HB.out | apply below_alloc | apply pw_below_drewN | apply below_drew1) | exact HB.out)⟩
                            · rw [if_neg c44] at H
                              exact absurd H (by simp)
                          · rw [if_neg c43] at H
                            have c43b0 : ((t217.length : Int) == 1) = false := beq_eq_false_iff_ne.mpr c43
                            have c43b1 : ((t217.length : Int) != 1) = true := bne_iff_ne.mpr c43
                            obtain rfl := Option.some.inj H
                            have p221 : 0 ≤ ((ji21) : Int) := of_decide_eq_true (by first | (with_reducible assumption) | assumption)
                            have q221 : (ji21) < (l0.length : Int) := of_decide_eq_true (by first | (with_reducible assumption) | assumption)
                            obtain ⟨ad221, e221, hx221_0⟩ := Kd.at_bool HR0.out (ji21) p221 q221
                            cases e221
                            replace hx221_0 := (HB.out.cell (World.block_lt_of_cell? w _ hx221_0)).trans hx221_0
                            replace p221 := eq_true p221
                            replace q221 := eq_true q221
                            go_wp2_with (first | ((with_reducible refine gate_callee (f := 10) rfl ?_); refine goesL_ (some 86) rfl rfl Try.func10 (by kernel_rfl) rfl #[] rfl (by (try simp only [List.map_toArray, List.map_cons, List.map_nil]); first | done | rfl | (simp only [List.length_drop, List.length_take]; rfl)) ?_; (with_reducible refine (busbarlaw02_alive.calls kj12  true _ A38.out).mono ?_); rintro e w54 ⟨rfl, hb⟩; refine ⟨_, rfl, ?_⟩; have n0_ := Aside0.mk (Kd.R_below (by (with_reducible repeat (first | apply Kd.R_alloc | apply Kd.R_drewN | apply Kd.R_drew)); exact HO_8.out) hb); have n1_ := Aside0.mk (Kd.R_below (by (with_reducible repeat (first | apply Kd.R_alloc | apply Kd.R_drewN | apply Kd.R_drew)); exact HO_12.out) hb); have n2_ := Aside0.mk (below_step (by repeat (first | (with_reducible first | exact HB.out | apply below_alloc | apply pw_below_drewN | apply below_drew1) | exact HB.out)) hb); clear HO_8; clear HO_12; clear HB; have HO_8 := n0_; have HO_12 := n1_; have HB := n2_; clear n0_ n1_ n2_; (try clear hb); (try clear hb2); (try clear hk); (try clear hi)) | (go_at_call 22; (with_reducible refine (image_Equal.calls kj12 _ _ l0 _ _ t211 false _ ?side1 ?side2 ?side3 ?side4 A40.out).mono ?_); (case side1 => repeat (first | exact (Kd.C_below HR0.out HB.out) | (with_reducible refine Kd.C_alloc ?_ _) | (with_reducible refine Kd.C_drewN ?_ _) | (with_reducible refine Kd.C_drew ?_))); (case side2 => exact HC0.out); (case side3 => repeat (first | exact (Kd.R_reads' HO_8.out).2.2 | (with_reducible refine Kd.C_alloc ?_ _) | (with_reducible refine Kd.C_drewN ?_ _) | (with_reducible refine Kd.C_drew ?_))); (case side4 => exact (Kd.R_reads' HO_8.out).2.1); rintro e w' ⟨rfl, ⟨nd, rfl⟩⟩; obtain ⟨Ao55, co55, eo55⟩ := Kd.R_slice HO_12.out; subst eo55))
                            go_ret
                            exact ⟨by first | rfl | (simp [errW_none, errW_some] <;> rfl) | (simp only [← hji21]; first | rfl | (simp [errW_none, errW_some] <;> rfl)) | (simp [*, errW_none, errW_some] <;> rfl), by repeat (first | (with_reducible first | exact HB.out | apply below_alloc | apply pw_below_drewN | apply below_drew1) | exact HB.out)⟩
                      · replace c39 := Bool.eq_false_iff.mpr c39
                        subst c39
                        have H1 : (some false) = some r := by rw [if_neg (show ¬ (false = true) by decide)] at H; exact H
                        clear H
                        have H := H1
                        clear H1
                        obtain rfl := Option.some.inj H
                        have p221 : 0 ≤ ((ji21) : Int) := of_decide_eq_true (by first | (with_reducible assumption) | assumption)
                        have q221 : (ji21) < (l0.length : Int) := of_decide_eq_true (by first | (with_reducible assumption) | assumption)
                        obtain ⟨ad221, e221, hx221_0⟩ := Kd.at_bool HR0.out (ji21) p221 q221
                        cases e221
                        replace hx221_0 := (HB.out.cell (World.block_lt_of_cell? w _ hx221_0)).trans hx221_0
                        replace p221 := eq_true p221
                        replace q221 := eq_true q221
                        go_wp2_with (first | ((with_reducible refine gate_callee (f := 10) rfl ?_); refine goesL_ (some 86) rfl rfl Try.func10 (by kernel_rfl) rfl #[] rfl (by (try simp only [List.map_toArray, List.map_cons, List.map_nil]); first | done | rfl | (simp only [List.length_drop, List.length_take]; rfl)) ?_; (with_reducible refine (busbarlaw02_alive.calls kj12  false _ A38.out).mono ?_); rintro e w56 ⟨rfl, hb⟩; refine ⟨_, rfl, ?_⟩; have n0_ := Aside0.mk (Kd.R_below (by (with_reducible repeat (first | apply Kd.R_alloc | apply Kd.R_drewN | apply Kd.R_drew)); exact HO_8.out) hb); have n1_ := Aside0.mk (Kd.R_below (by (with_reducible repeat (first | apply Kd.R_alloc | apply Kd.R_drewN | apply Kd.R_drew)); exact HO_12.out) hb); have n2_ := Aside0.mk (below_step (by repeat (first | (with_reducible first | exact HB.out | apply below_alloc | apply pw_below_drewN | apply below_drew1) | exact HB.out)) hb); clear HO_8; clear HO_12; clear HB; have HO_8 := n0_; have HO_12 := n1_; have HB := n2_; clear n0_ n1_ n2_; (try clear hb); (try clear hb2); (try clear hk); (try clear hi)))
                        go_ret
                        exact ⟨by first | rfl | (simp [errW_none, errW_some] <;> rfl) | (simp only [← hji21]; first | rfl | (simp [errW_none, errW_some] <;> rfl)) | (simp [*, errW_none, errW_some] <;> rfl), by repeat (first | (with_reducible first | exact HB.out | apply below_alloc | apply pw_below_drewN | apply below_drew1) | exact HB.out)⟩
                  · rw [if_neg c23] at H
                    exact absurd H (by simp)
                · rw [if_neg c22] at H
                  exact absurd H (by simp)

end Go.Proofs.Ytfipnipdfolmiaa.Impl
