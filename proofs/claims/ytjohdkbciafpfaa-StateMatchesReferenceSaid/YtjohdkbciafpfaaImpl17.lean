/- Printed by a program of this session (a copy of the kit's print.py, one text for all functions of the seat), with some contracts typed by hand among them: for each Go function a Lean function and a proof that the code comes to its answers. -/
import Derived.Test.YtjohdkbciafpfaaImpl0
import Derived.Test.YtjohdkbciafpfaaImpl16
namespace Go.Proofs.Ytjohdkbciafpfaa.Impl
open Go.RowKit Go.Proofs.YtjohdkbciafpfaaW.PrintWords Go.Proofs.YtjohdkbciafpfaaW.PrintLast Go.Proofs.YtjohdkbciafpfaaW.PrintMore
attribute [local go_sem] max2_int min2_int max_two min_two max_three min_three max_four min_four   -- for this text's walks alone
set_option linter.unusedVariables false
set_option linter.unusedSimpArgs false

/-! ### busbarref03_Format: function 31 -/
def busbarref03_Format.f (k : Nat) (l0_0 : List Bool) (l0_1 : List Bool) (l0_2 : List Bool) : Option (ByteArray) := (busbarref02_Format.f k l0_0).bind fun t259 => (if t259.size + 1 ≤ 9223372036854775807 then ((busbarref02_Format.f k l0_1).bind fun t260 => (if (t259 ++ (⟨#[32]⟩ : ByteArray)).size + t260.size ≤ 9223372036854775807 then (if ((t259 ++ (⟨#[32]⟩ : ByteArray)) ++ t260).size + 1 ≤ 9223372036854775807 then ((busbarref02_Format.f k l0_2).bind fun t261 => (if (((t259 ++ (⟨#[32]⟩ : ByteArray)) ++ t260) ++ (⟨#[32]⟩ : ByteArray)).size + t261.size ≤ 9223372036854775807 then (some ((((t259 ++ (⟨#[32]⟩ : ByteArray)) ++ t260) ++ (⟨#[32]⟩ : ByteArray)) ++ t261)) else (none))) else (none)) else (none))) else (none))
theorem busbarref03_Format.mono : ∀ a0 a1 a2 k, LeO (busbarref03_Format.f k a0 a1 a2) (busbarref03_Format.f (k + 1) a0 a1 a2) := by
  intro a0 a1 a2 k
  unfold busbarref03_Format.f
  repeat' first
      | (with_reducible exact busbarref02_Format.mono _ _)
      | (with_reducible exact LeO.refl _)
      | (with_reducible exact LeO.none _)
      | (with_reducible refine LeO.ite ?_ ?_)
      | (with_reducible refine LeO.bind ?_ (fun _ => ?_))
      | exact busbarref02_Format.mono _ _
      | exact LeO.none _
      | refine LeO.ite ?_ ?_
      | refine LeO.bind ?_ (fun _ => ?_)
set_option maxHeartbeats 1000000 in
set_option maxRecDepth 100000 in
theorem busbarref03_Format.calls (k : Nat) (A0_0 : Option Addr) (c0_0 : Nat) (l0_0 : List Bool) (A0_1 : Option Addr) (c0_1 : Nat) (l0_1 : List Bool) (A0_2 : Option Addr) (c0_2 : Nat) (l0_2 : List Bool) (r : ByteArray) (w : World) (hr0_0 : Kd.C Kd.bool w A0_0 l0_0.length l0_0) (hc0_0 : l0_0.length ≤ c0_0) (hr0_1 : Kd.C Kd.bool w A0_1 l0_1.length l0_1) (hc0_1 : l0_1.length ≤ c0_1) (hr0_2 : Kd.C Kd.bool w A0_2 l0_2.length l0_2) (hc0_2 : l0_2.length ≤ c0_2) (h : busbarref03_Format.f k l0_0 l0_1 l0_2 = some r) :
    Calls Try.prog 31 #[.agg #[.slice A0_0 l0_0.length c0_0, .slice A0_1 l0_1.length c0_1, .slice A0_2 l0_2.length c0_2]] w fun e w' => e = .returned (.string r) ∧ Below w.heap.size w w' := by
  have hu24 := Try.underlying24
  have HR0_0 := Aside0.mk hr0_0
  have HC0_0 := Aside0.mk hc0_0
  clear hr0_0 hc0_0
  have HR0_1 := Aside0.mk hr0_1
  have HC0_1 := Aside0.mk hc0_1
  clear hr0_1 hc0_1
  have HR0_2 := Aside0.mk hr0_2
  have HC0_2 := Aside0.mk hc0_2
  clear hr0_2 hc0_2
  have HB := Aside0.mk (Below.refl w.heap.size w)
  have H : ((busbarref02_Format.f k l0_0).bind fun t259 => (if t259.size + 1 ≤ 9223372036854775807 then ((busbarref02_Format.f k l0_1).bind fun t260 => (if (t259 ++ (⟨#[32]⟩ : ByteArray)).size + t260.size ≤ 9223372036854775807 then (if ((t259 ++ (⟨#[32]⟩ : ByteArray)) ++ t260).size + 1 ≤ 9223372036854775807 then ((busbarref02_Format.f k l0_2).bind fun t261 => (if (((t259 ++ (⟨#[32]⟩ : ByteArray)) ++ t260) ++ (⟨#[32]⟩ : ByteArray)).size + t261.size ≤ 9223372036854775807 then (some ((((t259 ++ (⟨#[32]⟩ : ByteArray)) ++ t260) ++ (⟨#[32]⟩ : ByteArray)) ++ t261)) else (none))) else (none)) else (none))) else (none))) = some r := h
  clear h
  replace H := Option.bind_eq_some_iff.mp H
  obtain ⟨t259, A20, H⟩ := H
  replace H : (if t259.size + 1 ≤ 9223372036854775807 then ((busbarref02_Format.f k l0_1).bind fun t260 => (if (t259 ++ (⟨#[32]⟩ : ByteArray)).size + t260.size ≤ 9223372036854775807 then (if ((t259 ++ (⟨#[32]⟩ : ByteArray)) ++ t260).size + 1 ≤ 9223372036854775807 then ((busbarref02_Format.f k l0_2).bind fun t261 => (if (((t259 ++ (⟨#[32]⟩ : ByteArray)) ++ t260) ++ (⟨#[32]⟩ : ByteArray)).size + t261.size ≤ 9223372036854775807 then (some ((((t259 ++ (⟨#[32]⟩ : ByteArray)) ++ t260) ++ (⟨#[32]⟩ : ByteArray)) ++ t261)) else (none))) else (none)) else (none))) else (none)) = some r := H
  have A2 := Aside0.mk A20
  clear A20
  by_cases c3 : t259.size + 1 ≤ 9223372036854775807
  · rw [if_pos c3] at H
    have c3b0 := eq_true c3
    have c3b1 : decide (t259.size + 1 ≤ 9223372036854775807) = true := decide_eq_true c3
    try have c3b2 : (9223372036854775807 < t259.size + 1) = False := eq_false (Nat.not_lt.2 c3)
    replace H := Option.bind_eq_some_iff.mp H
    obtain ⟨t260, A40, H⟩ := H
    replace H : (if (t259 ++ (⟨#[32]⟩ : ByteArray)).size + t260.size ≤ 9223372036854775807 then (if ((t259 ++ (⟨#[32]⟩ : ByteArray)) ++ t260).size + 1 ≤ 9223372036854775807 then ((busbarref02_Format.f k l0_2).bind fun t261 => (if (((t259 ++ (⟨#[32]⟩ : ByteArray)) ++ t260) ++ (⟨#[32]⟩ : ByteArray)).size + t261.size ≤ 9223372036854775807 then (some ((((t259 ++ (⟨#[32]⟩ : ByteArray)) ++ t260) ++ (⟨#[32]⟩ : ByteArray)) ++ t261)) else (none))) else (none)) else (none)) = some r := H
    have A4 := Aside0.mk A40
    clear A40
    by_cases c5 : (t259 ++ (⟨#[32]⟩ : ByteArray)).size + t260.size ≤ 9223372036854775807
    · rw [if_pos c5] at H
      have c5b0 := eq_true c5
      have c5b1 : decide ((t259 ++ (⟨#[32]⟩ : ByteArray)).size + t260.size ≤ 9223372036854775807) = true := decide_eq_true c5
      try have c5b2 : (9223372036854775807 < (t259 ++ (⟨#[32]⟩ : ByteArray)).size + t260.size) = False := eq_false (Nat.not_lt.2 c5)
      by_cases c6 : ((t259 ++ (⟨#[32]⟩ : ByteArray)) ++ t260).size + 1 ≤ 9223372036854775807
      · rw [if_pos c6] at H
        have c6b0 := eq_true c6
        have c6b1 : decide (((t259 ++ (⟨#[32]⟩ : ByteArray)) ++ t260).size + 1 ≤ 9223372036854775807) = true := decide_eq_true c6
        try have c6b2 : (9223372036854775807 < ((t259 ++ (⟨#[32]⟩ : ByteArray)) ++ t260).size + 1) = False := eq_false (Nat.not_lt.2 c6)
        replace H := Option.bind_eq_some_iff.mp H
        obtain ⟨t261, A70, H⟩ := H
        replace H : (if (((t259 ++ (⟨#[32]⟩ : ByteArray)) ++ t260) ++ (⟨#[32]⟩ : ByteArray)).size + t261.size ≤ 9223372036854775807 then (some ((((t259 ++ (⟨#[32]⟩ : ByteArray)) ++ t260) ++ (⟨#[32]⟩ : ByteArray)) ++ t261)) else (none)) = some r := H
        have A7 := Aside0.mk A70
        clear A70
        by_cases c8 : (((t259 ++ (⟨#[32]⟩ : ByteArray)) ++ t260) ++ (⟨#[32]⟩ : ByteArray)).size + t261.size ≤ 9223372036854775807
        · rw [if_pos c8] at H
          have c8b0 := eq_true c8
          have c8b1 : decide ((((t259 ++ (⟨#[32]⟩ : ByteArray)) ++ t260) ++ (⟨#[32]⟩ : ByteArray)).size + t261.size ≤ 9223372036854775807) = true := decide_eq_true c8
          try have c8b2 : (9223372036854775807 < (((t259 ++ (⟨#[32]⟩ : ByteArray)) ++ t260) ++ (⟨#[32]⟩ : ByteArray)).size + t261.size) = False := eq_false (Nat.not_lt.2 c8)
          obtain rfl := Option.some.inj H
          go_enter Try.func31, Try.ntmps31
          go_wp2_with (first | ((with_reducible refine gate_dst (N := 1) rfl ?_); refine box_event ?hg (N := 1) ?hd (cs := #[.slice A0_0 l0_0.length c0_0, .slice A0_1 l0_1.length c0_1, .slice A0_2 l0_2.length c0_2]) (t := 24) ?hr ?_; (case hd => rfl); (case hg => rfl); (case hr => first | (go_simp; done) | (go_simp; rfl)); intro gb258 hg w9 hbox hb; have n0_ := Aside0.mk (below_step (by repeat (first | (with_reducible first | exact HB.out | apply below_alloc | apply pw_below_drewN | apply below_drew1) | exact HB.out)) hb); have n1_ := Aside0.mk (hbox); have n2_ := Aside0.mk ((by rw [hg]; exact (below_size (by repeat (first | (with_reducible first | exact HB.out | apply below_alloc | apply pw_below_drewN | apply below_drew1) | exact HB.out))) : w.heap.size ≤ gb258)); have n3_ := Aside0.mk ((by rw [hg]; exact (below_size (by repeat (first | (with_reducible first | exact HB.out | apply below_alloc | apply pw_below_drewN | apply below_drew1) | exact HB.out))) : w.heap.size ≤ gb258)); clear HB; have HB := n0_; have BK258 := n1_; have GW258 := n2_; have GE258 := n3_; clear n0_ n1_ n2_ n3_; clear hb hbox hg; have hcz10_0 : w9.cell? ⟨gb258, 0, none⟩ = some (.slice A0_0 l0_0.length c0_0) := (blk_cell BK258.out 0).trans rfl; have hcz10_1 : w9.cell? ⟨gb258, 1, none⟩ = some (.slice A0_1 l0_1.length c0_1) := (blk_cell BK258.out 1).trans rfl; have hcz10_2 : w9.cell? ⟨gb258, 2, none⟩ = some (.slice A0_2 l0_2.length c0_2) := (blk_cell BK258.out 2).trans rfl; have hfz10_0 := blk_frozen BK258.out 0; have hfz10_1 := blk_frozen BK258.out 1; have hfz10_2 := blk_frozen BK258.out 2) | (go_at_call 53; (with_reducible refine (busbarref02_Format.calls k _ _ l0_0 t259 _ ?side1 ?side2 A2.out).mono ?_); (case side1 => repeat (first | exact (Kd.C_below HR0_0.out HB.out) | (with_reducible refine Kd.C_alloc ?_ _) | (with_reducible refine Kd.C_drewN ?_ _) | (with_reducible refine Kd.C_drew ?_))); (case side2 => exact HC0_0.out); rintro e w' ⟨rfl, ⟨nd, rfl⟩⟩; (try first | exact ⟨rfl, _, World.drewN_drewN _ _ _⟩ | exact ⟨rfl, _, Eq.trans (World.drewN_drewN _ _ _) (congrArg (World.drewN _) (Nat.add_assoc _ _ _))⟩)) | (go_at_call 53; (with_reducible refine (busbarref02_Format.calls k _ _ l0_1 t260 _ ?side1 ?side2 A4.out).mono ?_); (case side1 => repeat (first | exact (Kd.C_below HR0_1.out (by repeat (first | (with_reducible first | exact HB.out | apply below_alloc | apply pw_below_drewN | apply below_drew1 | refine below_set ?_ GE258.out) | exact HB.out))) | (with_reducible refine Kd.C_alloc ?_ _) | (with_reducible refine Kd.C_drewN ?_ _) | (with_reducible refine Kd.C_drew ?_))); (case side2 => exact HC0_1.out); rintro e w' ⟨rfl, ⟨nd, rfl⟩⟩; (try first | exact ⟨rfl, _, World.drewN_drewN _ _ _⟩ | exact ⟨rfl, _, Eq.trans (World.drewN_drewN _ _ _) (congrArg (World.drewN _) (Nat.add_assoc _ _ _))⟩)) | (go_at_call 53; (with_reducible refine (busbarref02_Format.calls k _ _ l0_2 t261 _ ?side1 ?side2 A7.out).mono ?_); (case side1 => repeat (first | exact (Kd.C_below HR0_2.out (by repeat (first | (with_reducible first | exact HB.out | apply below_alloc | apply pw_below_drewN | apply below_drew1 | refine below_set ?_ GE258.out) | exact HB.out))) | (with_reducible refine Kd.C_alloc ?_ _) | (with_reducible refine Kd.C_drewN ?_ _) | (with_reducible refine Kd.C_drew ?_))); (case side2 => exact HC0_2.out); rintro e w' ⟨rfl, ⟨nd, rfl⟩⟩; (try first | exact ⟨rfl, _, World.drewN_drewN _ _ _⟩ | exact ⟨rfl, _, Eq.trans (World.drewN_drewN _ _ _) (congrArg (World.drewN _) (Nat.add_assoc _ _ _))⟩)))
          have hz : ((⟨#[32]⟩ : ByteArray)).size = 1 := rfl
          simp only [ByteArray.size_append, hz] at c5 c6 c8
          have d5 : (9223372036854775807 < t259.size + 1 + t260.size) = False := eq_false (Nat.not_lt.2 c5)
          have d6 : (9223372036854775807 < t259.size + 1 + t260.size + 1) = False := eq_false (Nat.not_lt.2 c6)
          have d8 : (9223372036854775807 < t259.size + 1 + t260.size + 1 + t261.size) = False := eq_false (Nat.not_lt.2 c8)
          clear c3 c5 c6 c8 hz
          go_region_held3 (fun w' => w'.cell? ⟨gb258, 0, none⟩ = some (.slice A0_0 l0_0.length c0_0) ∧ w'.cell? ⟨gb258, 1, none⟩ = some (.slice A0_1 l0_1.length c0_1) ∧ w'.cell? ⟨gb258, 2, none⟩ = some (.slice A0_2 l0_2.length c0_2)) (go_keep) (first | (go_at_call 53; (with_reducible refine (busbarref02_Format.calls k _ _ l0_0 t259 _ (Kd.C_below HR0_0.out (by repeat (first | (with_reducible first | exact HB.out | apply below_alloc | apply pw_below_drewN | apply below_drew1) | exact HB.out))) HC0_0.out A2.out).mono ?_); rintro e w_ ⟨rfl, ⟨nd, rfl⟩⟩) | (go_at_call 53; (with_reducible refine (busbarref02_Format.calls k _ _ l0_1 t260 _ (Kd.C_below HR0_1.out (by repeat (first | (with_reducible first | exact HB.out | apply below_alloc | apply pw_below_drewN | apply below_drew1) | exact HB.out))) HC0_1.out A4.out).mono ?_); rintro e w_ ⟨rfl, ⟨nd, rfl⟩⟩) | (go_at_call 53; (with_reducible refine (busbarref02_Format.calls k _ _ l0_2 t261 _ (Kd.C_below HR0_2.out (by repeat (first | (with_reducible first | exact HB.out | apply below_alloc | apply pw_below_drewN | apply below_drew1) | exact HB.out))) HC0_2.out A7.out).mono ?_); rintro e w_ ⟨rfl, ⟨nd, rfl⟩⟩))
          go_wp2
          go_ret
          exact ⟨rfl, (by repeat (first | (with_reducible first | exact HB.out | apply below_alloc | apply pw_below_drewN | apply below_drew1) | exact HB.out))⟩
        · rw [if_neg c8] at H
          exact absurd H (by simp)
      · rw [if_neg c6] at H
        exact absurd H (by simp)
    · rw [if_neg c5] at H
      exact absurd H (by simp)
  · rw [if_neg c3] at H
    exact absurd H (by simp)

-- NOT PRINTED: function 6 (busbarlaw03_StateMatchesReference)

-- NOT PRINTED: function 7 (busbarlaw03_StateWritesCommute)

end Go.Proofs.Ytjohdkbciafpfaa.Impl
