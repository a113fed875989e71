/- Several texts of this session in one (merge.py): Impl10, Dq, Ck, Lw1, Al3. -/
import Derived.Test.YtmacdknicgfglaaMc0
import Derived.Test.YtmacdknicgfglaaMc2
import Derived.Test.YtmacdknicgfglaaMc3
import Derived.Test.YtmacdknicgfglaaMc1
section
/- Printed by a program of this session (a copy of the kit's print.py, one text for all functions of the seat), with some contracts typed by hand among them: for each Go function a Lean function and a proof that the code comes to its answers. -/
namespace Go.Proofs.Ytmacdknicgfglaa.Impl
open Go.RowKit Go.Proofs.YtmacdknicgfglaaW.PrintWords Go.Proofs.YtmacdknicgfglaaW.PrintLast Go.Proofs.YtmacdknicgfglaaW.PrintMore
attribute [local go_sem] max2_int min2_int max_two min_two
set_option linter.unusedVariables false
set_option linter.unusedSimpArgs false

/-! ### busbarref13_Check: function 34 -/
def busbarref13_Check.f (k : Nat) (a0_0 : ByteArray) (l0_1 : List (S41)) (l0_2 : List (S101)) (a0_3 : ByteArray) : Option (Int) := if (l0_1.length : Int) = 0 then (some 4) else ((busbarref12_TopoSort.f k a0_0 l0_1 l0_2 a0_3).bind fun bt243 => (if bt243.2 = 0 then ((busbarref13_DeadNodes.f k a0_0 l0_1 l0_2 a0_3).bind fun t247 => (if (t247.length : Int) > 0 then (some 13) else (some 0))) else (some bt243.2)))
theorem busbarref13_Check.mono : ∀ a0 a1 a2 a3 k, LeO (busbarref13_Check.f k a0 a1 a2 a3) (busbarref13_Check.f (k + 1) a0 a1 a2 a3) := by
  intro a0 a1 a2 a3 k
  unfold busbarref13_Check.f
  repeat' first
      | (with_reducible exact busbarref12_TopoSort.mono _ _ _ _ _)
      | (with_reducible exact busbarref13_DeadNodes.mono _ _ _ _ _)
      | (with_reducible exact LeO.refl _)
      | (with_reducible exact LeO.none _)
      | (with_reducible refine LeO.ite ?_ ?_)
      | (with_reducible refine LeO.bind ?_ (fun _ => ?_))
      | exact busbarref12_TopoSort.mono _ _ _ _ _
      | exact busbarref13_DeadNodes.mono _ _ _ _ _
      | exact LeO.none _
      | refine LeO.ite ?_ ?_
      | refine LeO.bind ?_ (fun _ => ?_)
set_option maxHeartbeats 8000000 in
set_option maxRecDepth 100000 in
theorem busbarref13_Check.calls (k : Nat) (a0_0 : ByteArray) (A0_1 : Option Addr) (c0_1 : Nat) (l0_1 : List (S41)) (A0_2 : Option Addr) (c0_2 : Nat) (l0_2 : List (S101)) (a0_3 : ByteArray) (r : Int) (w : World) (hr0_1 : Kd.C k41 w A0_1 l0_1.length l0_1) (hc0_1 : l0_1.length ≤ c0_1) (hr0_2 : Kd.C k101 w A0_2 l0_2.length l0_2) (hc0_2 : l0_2.length ≤ c0_2) (h : busbarref13_Check.f k a0_0 l0_1 l0_2 a0_3 = some r) :
    Calls Try.prog 34 #[.agg #[.string a0_0, .slice A0_1 l0_1.length c0_1, .slice A0_2 l0_2.length c0_2, .string a0_3]] w fun e w' => e = .returned (.int .i64 r) ∧ Below w.heap.size w w' := by
  have hu25 := Try.underlying25
  have HR0_1 := Aside0.mk hr0_1
  have HC0_1 := Aside0.mk hc0_1
  clear hr0_1 hc0_1
  have HR0_2 := Aside0.mk hr0_2
  have HC0_2 := Aside0.mk hc0_2
  clear hr0_2 hc0_2
  have HB := Aside0.mk (Below.refl w.heap.size w)
  have H : (if (l0_1.length : Int) = 0 then (some 4) else ((busbarref12_TopoSort.f k a0_0 l0_1 l0_2 a0_3).bind fun bt243 => (if bt243.2 = 0 then ((busbarref13_DeadNodes.f k a0_0 l0_1 l0_2 a0_3).bind fun t247 => (if (t247.length : Int) > 0 then (some 13) else (some 0))) else (some bt243.2)))) = some r := h
  clear h
  by_cases c2 : (l0_1.length : Int) = 0
  · rw [if_pos c2] at H
    have c2b0 : ((l0_1.length : Int) == 0) = true := beq_iff_eq.mpr c2
    have c2b1 : ((l0_1.length : Int) != 0) = false := bne_eq_false_iff_eq.mpr c2
    clear c2
    obtain rfl := Option.some.inj H
    go_enter Try.func34, Try.ntmps34
    go_wp2_with (first | ((with_reducible refine gate_dst (N := 1) rfl ?_); refine box_event ?hg (N := 1) ?hd (cs := #[.string a0_0, .slice A0_1 l0_1.length c0_1, .slice A0_2 l0_2.length c0_2, .string a0_3]) (t := 25) ?hr ?_; (case hd => rfl); (case hg => rfl); (case hr => first | (go_simp; done) | (go_simp; rfl)); intro gb242 hg w3 hbox hb; have n0_ := Aside0.mk (below_step (by repeat (first | (with_reducible first | exact HB.out | apply below_alloc | apply pw_below_drewN | apply below_drew1) | exact HB.out)) hb); have n1_ := Aside0.mk (hbox); have n2_ := Aside0.mk ((by rw [hg]; exact (below_size (by repeat (first | (with_reducible first | exact HB.out | apply below_alloc | apply pw_below_drewN | apply below_drew1) | exact HB.out))) : w.heap.size ≤ gb242)); have n3_ := Aside0.mk ((by rw [hg]; exact (below_size (by repeat (first | (with_reducible first | exact HB.out | apply below_alloc | apply pw_below_drewN | apply below_drew1) | exact HB.out))) : w.heap.size ≤ gb242)); clear HB; have HB := n0_; have BK242 := n1_; have GW242 := n2_; have GE242 := n3_; clear n0_ n1_ n2_ n3_; clear hb hbox hg; have hcz4_0 : w3.cell? ⟨gb242, 0, none⟩ = some (.string a0_0) := (blk_cell BK242.out 0).trans rfl; have hcz4_1 : w3.cell? ⟨gb242, 1, none⟩ = some (.slice A0_1 l0_1.length c0_1) := (blk_cell BK242.out 1).trans rfl; have hcz4_2 : w3.cell? ⟨gb242, 2, none⟩ = some (.slice A0_2 l0_2.length c0_2) := (blk_cell BK242.out 2).trans rfl; have hcz4_3 : w3.cell? ⟨gb242, 3, none⟩ = some (.string a0_3) := (blk_cell BK242.out 3).trans rfl; have hfz4_0 := blk_frozen BK242.out 0; have hfz4_1 := blk_frozen BK242.out 1; have hfz4_2 := blk_frozen BK242.out 2; have hfz4_3 := blk_frozen BK242.out 3))
    go_ret
    exact ⟨by first | rfl | (simp [errW_none, errW_some] <;> rfl) | (simp [*, errW_none, errW_some] <;> rfl), by repeat (first | (with_reducible first | exact HB.out | apply below_alloc | apply pw_below_drewN | apply below_drew1 | refine below_set ?_ GE242.out) | exact HB.out)⟩
  · rw [if_neg c2] at H
    have c2b0 : ((l0_1.length : Int) == 0) = false := beq_eq_false_iff_ne.mpr c2
    have c2b1 : ((l0_1.length : Int) != 0) = true := bne_iff_ne.mpr c2
    have c2b2 : ¬ (l0_1 = []) := fun h_ => c2 (by rw [h_]; rfl)
    replace H := Option.bind_eq_some_iff.mp H
    obtain ⟨⟨t243, t246⟩, A50, H⟩ := H
    replace H : (if t246 = 0 then ((busbarref13_DeadNodes.f k a0_0 l0_1 l0_2 a0_3).bind fun t247 => (if (t247.length : Int) > 0 then (some 13) else (some 0))) else (some t246)) = some r := H
    have A5 := Aside0.mk A50
    clear A50
    by_cases c6 : t246 = 0
    · rw [if_pos c6] at H
      have c6b0 : (t246 == 0) = true := beq_iff_eq.mpr c6
      have c6b1 : (t246 != 0) = false := bne_eq_false_iff_eq.mpr c6
      clear c6
      replace H := Option.bind_eq_some_iff.mp H
      obtain ⟨t247, A70, H⟩ := H
      replace H : (if (t247.length : Int) > 0 then (some 13) else (some 0)) = some r := H
      have A7 := Aside0.mk A70
      clear A70
      by_cases c8 : (t247.length : Int) > 0
      · rw [if_pos c8] at H
        have c8b0 : decide (0 < (t247.length : Int)) = true := decide_eq_true c8
        have c8b1 : decide (0 < t247.length) = true := decide_eq_true (by omega)
        clear c8
        obtain rfl := Option.some.inj H
        go_enter Try.func34, Try.ntmps34
        go_wp2_with (first | ((with_reducible refine gate_dst (N := 1) rfl ?_); refine box_event ?hg (N := 1) ?hd (cs := #[.string a0_0, .slice A0_1 l0_1.length c0_1, .slice A0_2 l0_2.length c0_2, .string a0_3]) (t := 25) ?hr ?_; (case hd => rfl); (case hg => rfl); (case hr => first | (go_simp; done) | (go_simp; rfl)); intro gb242 hg w9 hbox hb; have n0_ := Aside0.mk (below_step (by repeat (first | (with_reducible first | exact HB.out | apply below_alloc | apply pw_below_drewN | apply below_drew1) | exact HB.out)) hb); have n1_ := Aside0.mk (hbox); have n2_ := Aside0.mk ((by rw [hg]; exact (below_size (by repeat (first | (with_reducible first | exact HB.out | apply below_alloc | apply pw_below_drewN | apply below_drew1) | exact HB.out))) : w.heap.size ≤ gb242)); have n3_ := Aside0.mk ((by rw [hg]; exact (below_size (by repeat (first | (with_reducible first | exact HB.out | apply below_alloc | apply pw_below_drewN | apply below_drew1) | exact HB.out))) : w.heap.size ≤ gb242)); clear HB; have HB := n0_; have BK242 := n1_; have GW242 := n2_; have GE242 := n3_; clear n0_ n1_ n2_ n3_; clear hb hbox hg; have hcz10_0 : w9.cell? ⟨gb242, 0, none⟩ = some (.string a0_0) := (blk_cell BK242.out 0).trans rfl; have hcz10_1 : w9.cell? ⟨gb242, 1, none⟩ = some (.slice A0_1 l0_1.length c0_1) := (blk_cell BK242.out 1).trans rfl; have hcz10_2 : w9.cell? ⟨gb242, 2, none⟩ = some (.slice A0_2 l0_2.length c0_2) := (blk_cell BK242.out 2).trans rfl; have hcz10_3 : w9.cell? ⟨gb242, 3, none⟩ = some (.string a0_3) := (blk_cell BK242.out 3).trans rfl; have hfz10_0 := blk_frozen BK242.out 0; have hfz10_1 := blk_frozen BK242.out 1; have hfz10_2 := blk_frozen BK242.out 2; have hfz10_3 := blk_frozen BK242.out 3) | ((with_reducible refine gate_callee (f := 28) rfl ?_); refine goesL_ (some 11) rfl rfl Try.func28 (by kernel_rfl) rfl #[.agg #[.string a0_0, .slice A0_1 l0_1.length c0_1, .slice A0_2 l0_2.length c0_2, .string a0_3]] rfl (by (try simp only [List.map_toArray, List.map_cons, List.map_nil]); first | done | rfl | (simp only [List.length_drop, List.length_take]; rfl)) ?_; (with_reducible refine (busbarref12_TopoSort.calls k a0_0 _ _ l0_1 _ _ l0_2 a0_3 t243 t246 _ ?side1 ?side2 ?side3 ?side4 A5.out).mono ?_); (case side1 => repeat (first | exact (Kd.C_below HR0_1.out HB.out) | (with_reducible refine Kd.C_alloc ?_ _) | (with_reducible refine Kd.C_drewN ?_ _) | (with_reducible refine Kd.C_drew ?_))); (case side2 => exact HC0_1.out); (case side3 => repeat (first | exact (Kd.C_below HR0_2.out HB.out) | (with_reducible refine Kd.C_alloc ?_ _) | (with_reducible refine Kd.C_drewN ?_ _) | (with_reducible refine Kd.C_drew ?_))); (case side4 => exact HC0_2.out); rintro e w11 ⟨v244, rfl, ho0, hb⟩; refine ⟨_, rfl, ?_⟩; have n0_ := Aside0.mk (Kd.R_lower ho0 (below_size (by repeat (first | (with_reducible first | exact HB.out | apply below_alloc | apply pw_below_drewN | apply below_drew1 | refine below_set ?_ GE242.out) | exact HB.out)))); have n1_ := Aside0.mk (blk_below (g := gb242) (o := .cells #[.string a0_0, .slice A0_1 l0_1.length c0_1, .slice A0_2 l0_2.length c0_2, .string a0_3] 25 (0, 0)) (by (with_reducible repeat (first | refine blk_drewN ?_ _ | refine blk_drew ?_ | refine blk_alloc ?_ _)); exact BK242.out) hb); have n2_ := Aside0.mk (below_step (by repeat (first | (with_reducible first | exact HB.out | apply below_alloc | apply pw_below_drewN | apply below_drew1 | refine below_set ?_ GE242.out) | exact HB.out)) hb); clear BK242; clear HB; have HO245 := n0_; have BK242 := n1_; have HB := n2_; clear n0_ n1_ n2_; (try clear hb); (try clear hb2); (try clear hk); (try clear hi); (try clear ho0); have hcz12_0 : w11.cell? ⟨gb242, 0, none⟩ = some (.string a0_0) := (blk_cell BK242.out 0).trans rfl; have hcz12_1 : w11.cell? ⟨gb242, 1, none⟩ = some (.slice A0_1 l0_1.length c0_1) := (blk_cell BK242.out 1).trans rfl; have hcz12_2 : w11.cell? ⟨gb242, 2, none⟩ = some (.slice A0_2 l0_2.length c0_2) := (blk_cell BK242.out 2).trans rfl; have hcz12_3 : w11.cell? ⟨gb242, 3, none⟩ = some (.string a0_3) := (blk_cell BK242.out 3).trans rfl; have hfz12_0 := blk_frozen BK242.out 0; have hfz12_1 := blk_frozen BK242.out 1; have hfz12_2 := blk_frozen BK242.out 2; have hfz12_3 := blk_frozen BK242.out 3) | ((with_reducible refine gate_callee (f := 36) rfl ?_); refine goesL_ (some 18) rfl rfl Try.func36 (by kernel_rfl) rfl #[.agg #[.string a0_0, .slice A0_1 l0_1.length c0_1, .slice A0_2 l0_2.length c0_2, .string a0_3]] rfl (by (try simp only [List.map_toArray, List.map_cons, List.map_nil]); first | done | rfl | (simp only [List.length_drop, List.length_take]; rfl)) ?_; (with_reducible refine (busbarref13_DeadNodes.calls k a0_0 _ _ l0_1 _ _ l0_2 a0_3 t247 _ ?side1 ?side2 ?side3 ?side4 A7.out).mono ?_); (case side1 => repeat (first | exact (Kd.C_below HR0_1.out HB.out) | (with_reducible refine Kd.C_alloc ?_ _) | (with_reducible refine Kd.C_drewN ?_ _) | (with_reducible refine Kd.C_drew ?_))); (case side2 => exact HC0_1.out); (case side3 => repeat (first | exact (Kd.C_below HR0_2.out HB.out) | (with_reducible refine Kd.C_alloc ?_ _) | (with_reducible refine Kd.C_drewN ?_ _) | (with_reducible refine Kd.C_drew ?_))); (case side4 => exact HC0_2.out); rintro e w13 ⟨v248, rfl, ho0, hb⟩; refine ⟨_, rfl, ?_⟩; have n0_ := Aside0.mk (Kd.R_elder' (by (with_reducible repeat (first | apply Kd.R_alloc | apply Kd.R_drewN | apply Kd.R_drew)); exact HO245.out) (Kd.R_base ho0) hb); have n1_ := Aside0.mk (Kd.R_lower (Kd.R_new' ho0 (Kd.R_lt (by (with_reducible repeat (first | apply Kd.R_alloc | apply Kd.R_drewN | apply Kd.R_drew)); exact HO245.out))) (below_size (by repeat (first | (with_reducible first | exact HB.out | apply below_alloc | apply pw_below_drewN | apply below_drew1 | refine below_set ?_ GE242.out) | exact HB.out)))); have n2_ := Aside0.mk (blk_below (g := gb242) (o := .cells #[.string a0_0, .slice A0_1 l0_1.length c0_1, .slice A0_2 l0_2.length c0_2, .string a0_3] 25 (0, 0)) (by (with_reducible repeat (first | refine blk_drewN ?_ _ | refine blk_drew ?_ | refine blk_alloc ?_ _)); exact BK242.out) hb); have n3_ := Aside0.mk (below_step (by repeat (first | (with_reducible first | exact HB.out | apply below_alloc | apply pw_below_drewN | apply below_drew1 | refine below_set ?_ GE242.out) | exact HB.out)) hb); clear HO245; clear BK242; clear HB; have HO245 := n0_; have HO249 := n1_; have BK242 := n2_; have HB := n3_; clear n0_ n1_ n2_ n3_; (try clear hb); (try clear hb2); (try clear hk); (try clear hi); (try clear ho0); obtain ⟨Ao14, co14, eo14⟩ := Kd.R_slice HO249.out; subst eo14))
        go_ret
        exact ⟨by first | rfl | (simp [errW_none, errW_some] <;> rfl) | (simp [*, errW_none, errW_some] <;> rfl), by repeat (first | (with_reducible first | exact HB.out | apply below_alloc | apply pw_below_drewN | apply below_drew1 | refine below_set ?_ GE242.out) | exact HB.out)⟩
      · rw [if_neg c8] at H
        have c8b0 : decide (0 < (t247.length : Int)) = false := decide_eq_false c8
        have c8b1 : decide (0 < t247.length) = false := decide_eq_false (by omega)
        clear c8
        obtain rfl := Option.some.inj H
        go_enter Try.func34, Try.ntmps34
        go_wp2_with (first | ((with_reducible refine gate_dst (N := 1) rfl ?_); refine box_event ?hg (N := 1) ?hd (cs := #[.string a0_0, .slice A0_1 l0_1.length c0_1, .slice A0_2 l0_2.length c0_2, .string a0_3]) (t := 25) ?hr ?_; (case hd => rfl); (case hg => rfl); (case hr => first | (go_simp; done) | (go_simp; rfl)); intro gb242 hg w15 hbox hb; have n0_ := Aside0.mk (below_step (by repeat (first | (with_reducible first | exact HB.out | apply below_alloc | apply pw_below_drewN | apply below_drew1) | exact HB.out)) hb); have n1_ := Aside0.mk (hbox); have n2_ := Aside0.mk ((by rw [hg]; exact (below_size (by repeat (first | (with_reducible first | exact HB.out | apply below_alloc | apply pw_below_drewN | apply below_drew1) | exact HB.out))) : w.heap.size ≤ gb242)); have n3_ := Aside0.mk ((by rw [hg]; exact (below_size (by repeat (first | (with_reducible first | exact HB.out | apply below_alloc | apply pw_below_drewN | apply below_drew1) | exact HB.out))) : w.heap.size ≤ gb242)); clear HB; have HB := n0_; have BK242 := n1_; have GW242 := n2_; have GE242 := n3_; clear n0_ n1_ n2_ n3_; clear hb hbox hg; have hcz16_0 : w15.cell? ⟨gb242, 0, none⟩ = some (.string a0_0) := (blk_cell BK242.out 0).trans rfl; have hcz16_1 : w15.cell? ⟨gb242, 1, none⟩ = some (.slice A0_1 l0_1.length c0_1) := (blk_cell BK242.out 1).trans rfl; have hcz16_2 : w15.cell? ⟨gb242, 2, none⟩ = some (.slice A0_2 l0_2.length c0_2) := (blk_cell BK242.out 2).trans rfl; have hcz16_3 : w15.cell? ⟨gb242, 3, none⟩ = some (.string a0_3) := (blk_cell BK242.out 3).trans rfl; have hfz16_0 := blk_frozen BK242.out 0; have hfz16_1 := blk_frozen BK242.out 1; have hfz16_2 := blk_frozen BK242.out 2; have hfz16_3 := blk_frozen BK242.out 3) | ((with_reducible refine gate_callee (f := 28) rfl ?_); refine goesL_ (some 11) rfl rfl Try.func28 (by kernel_rfl) rfl #[.agg #[.string a0_0, .slice A0_1 l0_1.length c0_1, .slice A0_2 l0_2.length c0_2, .string a0_3]] rfl (by (try simp only [List.map_toArray, List.map_cons, List.map_nil]); first | done | rfl | (simp only [List.length_drop, List.length_take]; rfl)) ?_; (with_reducible refine (busbarref12_TopoSort.calls k a0_0 _ _ l0_1 _ _ l0_2 a0_3 t243 t246 _ ?side1 ?side2 ?side3 ?side4 A5.out).mono ?_); (case side1 => repeat (first | exact (Kd.C_below HR0_1.out HB.out) | (with_reducible refine Kd.C_alloc ?_ _) | (with_reducible refine Kd.C_drewN ?_ _) | (with_reducible refine Kd.C_drew ?_))); (case side2 => exact HC0_1.out); (case side3 => repeat (first | exact (Kd.C_below HR0_2.out HB.out) | (with_reducible refine Kd.C_alloc ?_ _) | (with_reducible refine Kd.C_drewN ?_ _) | (with_reducible refine Kd.C_drew ?_))); (case side4 => exact HC0_2.out); rintro e w17 ⟨v244, rfl, ho0, hb⟩; refine ⟨_, rfl, ?_⟩; have n0_ := Aside0.mk (Kd.R_lower ho0 (below_size (by repeat (first | (with_reducible first | exact HB.out | apply below_alloc | apply pw_below_drewN | apply below_drew1 | refine below_set ?_ GE242.out) | exact HB.out)))); have n1_ := Aside0.mk (blk_below (g := gb242) (o := .cells #[.string a0_0, .slice A0_1 l0_1.length c0_1, .slice A0_2 l0_2.length c0_2, .string a0_3] 25 (0, 0)) (by (with_reducible repeat (first | refine blk_drewN ?_ _ | refine blk_drew ?_ | refine blk_alloc ?_ _)); exact BK242.out) hb); have n2_ := Aside0.mk (below_step (by repeat (first | (with_reducible first | exact HB.out | apply below_alloc | apply pw_below_drewN | apply below_drew1 | refine below_set ?_ GE242.out) | exact HB.out)) hb); clear BK242; clear HB; have HO245 := n0_; have BK242 := n1_; have HB := n2_; clear n0_ n1_ n2_; (try clear hb); (try clear hb2); (try clear hk); (try clear hi); (try clear ho0); have hcz18_0 : w17.cell? ⟨gb242, 0, none⟩ = some (.string a0_0) := (blk_cell BK242.out 0).trans rfl; have hcz18_1 : w17.cell? ⟨gb242, 1, none⟩ = some (.slice A0_1 l0_1.length c0_1) := (blk_cell BK242.out 1).trans rfl; have hcz18_2 : w17.cell? ⟨gb242, 2, none⟩ = some (.slice A0_2 l0_2.length c0_2) := (blk_cell BK242.out 2).trans rfl; have hcz18_3 : w17.cell? ⟨gb242, 3, none⟩ = some (.string a0_3) := (blk_cell BK242.out 3).trans rfl; have hfz18_0 := blk_frozen BK242.out 0; have hfz18_1 := blk_frozen BK242.out 1; have hfz18_2 := blk_frozen BK242.out 2; have hfz18_3 := blk_frozen BK242.out 3) | ((with_reducible refine gate_callee (f := 36) rfl ?_); refine goesL_ (some 18) rfl rfl Try.func36 (by kernel_rfl) rfl #[.agg #[.string a0_0, .slice A0_1 l0_1.length c0_1, .slice A0_2 l0_2.length c0_2, .string a0_3]] rfl (by (try simp only [List.map_toArray, List.map_cons, List.map_nil]); first | done | rfl | (simp only [List.length_drop, List.length_take]; rfl)) ?_; (with_reducible refine (busbarref13_DeadNodes.calls k a0_0 _ _ l0_1 _ _ l0_2 a0_3 t247 _ ?side1 ?side2 ?side3 ?side4 A7.out).mono ?_); (case side1 => repeat (first | exact (Kd.C_below HR0_1.out HB.out) | (with_reducible refine Kd.C_alloc ?_ _) | (with_reducible refine Kd.C_drewN ?_ _) | (with_reducible refine Kd.C_drew ?_))); (case side2 => exact HC0_1.out); (case side3 => repeat (first | exact (Kd.C_below HR0_2.out HB.out) | (with_reducible refine Kd.C_alloc ?_ _) | (with_reducible refine Kd.C_drewN ?_ _) | (with_reducible refine Kd.C_drew ?_))); (case side4 => exact HC0_2.out); rintro e w19 ⟨v248, rfl, ho0, hb⟩; refine ⟨_, rfl, ?_⟩; have n0_ := Aside0.mk (Kd.R_elder' (by (with_reducible repeat (first | apply Kd.R_alloc | apply Kd.R_drewN | apply Kd.R_drew)); exact HO245.out) (Kd.R_base ho0) hb); have n1_ := Aside0.mk (Kd.R_lower (Kd.R_new' ho0 (Kd.R_lt (by (with_reducible repeat (first | apply Kd.R_alloc | apply Kd.R_drewN | apply Kd.R_drew)); exact HO245.out))) (below_size (by repeat (first | (with_reducible first | exact HB.out | apply below_alloc | apply pw_below_drewN | apply below_drew1 | refine below_set ?_ GE242.out) | exact HB.out)))); have n2_ := Aside0.mk (blk_below (g := gb242) (o := .cells #[.string a0_0, .slice A0_1 l0_1.length c0_1, .slice A0_2 l0_2.length c0_2, .string a0_3] 25 (0, 0)) (by (with_reducible repeat (first | refine blk_drewN ?_ _ | refine blk_drew ?_ | refine blk_alloc ?_ _)); exact BK242.out) hb); have n3_ := Aside0.mk (below_step (by repeat (first | (with_reducible first | exact HB.out | apply below_alloc | apply pw_below_drewN | apply below_drew1 | refine below_set ?_ GE242.out) | exact HB.out)) hb); clear HO245; clear BK242; clear HB; have HO245 := n0_; have HO249 := n1_; have BK242 := n2_; have HB := n3_; clear n0_ n1_ n2_ n3_; (try clear hb); (try clear hb2); (try clear hk); (try clear hi); (try clear ho0); obtain ⟨Ao20, co20, eo20⟩ := Kd.R_slice HO249.out; subst eo20))
        go_ret
        exact ⟨by first | rfl | (simp [errW_none, errW_some] <;> rfl) | (simp [*, errW_none, errW_some] <;> rfl), by repeat (first | (with_reducible first | exact HB.out | apply below_alloc | apply pw_below_drewN | apply below_drew1 | refine below_set ?_ GE242.out) | exact HB.out)⟩
    · rw [if_neg c6] at H
      have c6b0 : (t246 == 0) = false := beq_eq_false_iff_ne.mpr c6
      have c6b1 : (t246 != 0) = true := bne_iff_ne.mpr c6
      obtain rfl := Option.some.inj H
      go_enter Try.func34, Try.ntmps34
      go_wp2_with (first | ((with_reducible refine gate_dst (N := 1) rfl ?_); refine box_event ?hg (N := 1) ?hd (cs := #[.string a0_0, .slice A0_1 l0_1.length c0_1, .slice A0_2 l0_2.length c0_2, .string a0_3]) (t := 25) ?hr ?_; (case hd => rfl); (case hg => rfl); (case hr => first | (go_simp; done) | (go_simp; rfl)); intro gb242 hg w21 hbox hb; have n0_ := Aside0.mk (below_step (by repeat (first | (with_reducible first | exact HB.out | apply below_alloc | apply pw_below_drewN | apply below_drew1) | exact HB.out)) hb); have n1_ := Aside0.mk (hbox); have n2_ := Aside0.mk ((by rw [hg]; exact (below_size (by repeat (first | (with_reducible first | exact HB.out | apply below_alloc | apply pw_below_drewN | apply below_drew1) | exact HB.out))) : w.heap.size ≤ gb242)); have n3_ := Aside0.mk ((by rw [hg]; exact (below_size (by repeat (first | (with_reducible first | exact HB.out | apply below_alloc | apply pw_below_drewN | apply below_drew1) | exact HB.out))) : w.heap.size ≤ gb242)); clear HB; have HB := n0_; have BK242 := n1_; have GW242 := n2_; have GE242 := n3_; clear n0_ n1_ n2_ n3_; clear hb hbox hg; have hcz22_0 : w21.cell? ⟨gb242, 0, none⟩ = some (.string a0_0) := (blk_cell BK242.out 0).trans rfl; have hcz22_1 : w21.cell? ⟨gb242, 1, none⟩ = some (.slice A0_1 l0_1.length c0_1) := (blk_cell BK242.out 1).trans rfl; have hcz22_2 : w21.cell? ⟨gb242, 2, none⟩ = some (.slice A0_2 l0_2.length c0_2) := (blk_cell BK242.out 2).trans rfl; have hcz22_3 : w21.cell? ⟨gb242, 3, none⟩ = some (.string a0_3) := (blk_cell BK242.out 3).trans rfl; have hfz22_0 := blk_frozen BK242.out 0; have hfz22_1 := blk_frozen BK242.out 1; have hfz22_2 := blk_frozen BK242.out 2; have hfz22_3 := blk_frozen BK242.out 3) | ((with_reducible refine gate_callee (f := 28) rfl ?_); refine goesL_ (some 11) rfl rfl Try.func28 (by kernel_rfl) rfl #[.agg #[.string a0_0, .slice A0_1 l0_1.length c0_1, .slice A0_2 l0_2.length c0_2, .string a0_3]] rfl (by (try simp only [List.map_toArray, List.map_cons, List.map_nil]); first | done | rfl | (simp only [List.length_drop, List.length_take]; rfl)) ?_; (with_reducible refine (busbarref12_TopoSort.calls k a0_0 _ _ l0_1 _ _ l0_2 a0_3 t243 t246 _ ?side1 ?side2 ?side3 ?side4 A5.out).mono ?_); (case side1 => repeat (first | exact (Kd.C_below HR0_1.out HB.out) | (with_reducible refine Kd.C_alloc ?_ _) | (with_reducible refine Kd.C_drewN ?_ _) | (with_reducible refine Kd.C_drew ?_))); (case side2 => exact HC0_1.out); (case side3 => repeat (first | exact (Kd.C_below HR0_2.out HB.out) | (with_reducible refine Kd.C_alloc ?_ _) | (with_reducible refine Kd.C_drewN ?_ _) | (with_reducible refine Kd.C_drew ?_))); (case side4 => exact HC0_2.out); rintro e w23 ⟨v244, rfl, ho0, hb⟩; refine ⟨_, rfl, ?_⟩; have n0_ := Aside0.mk (Kd.R_lower ho0 (below_size (by repeat (first | (with_reducible first | exact HB.out | apply below_alloc | apply pw_below_drewN | apply below_drew1 | refine below_set ?_ GE242.out) | exact HB.out)))); have n1_ := Aside0.mk (blk_below (g := gb242) (o := .cells #[.string a0_0, .slice A0_1 l0_1.length c0_1, .slice A0_2 l0_2.length c0_2, .string a0_3] 25 (0, 0)) (by (with_reducible repeat (first | refine blk_drewN ?_ _ | refine blk_drew ?_ | refine blk_alloc ?_ _)); exact BK242.out) hb); have n2_ := Aside0.mk (below_step (by repeat (first | (with_reducible first | exact HB.out | apply below_alloc | apply pw_below_drewN | apply below_drew1 | refine below_set ?_ GE242.out) | exact HB.out)) hb); clear BK242; clear HB; have HO245 := n0_; have BK242 := n1_; have HB := n2_; clear n0_ n1_ n2_; (try clear hb); (try clear hb2); (try clear hk); (try clear hi); (try clear ho0)))
      go_ret
      exact ⟨by first | rfl | (simp [errW_none, errW_some] <;> rfl) | (simp [*, errW_none, errW_some] <;> rfl), by repeat (first | (with_reducible first | exact HB.out | apply below_alloc | apply pw_below_drewN | apply below_drew1 | refine below_set ?_ GE242.out) | exact HB.out)⟩

-- NOT PRINTED: function 9 (busbarlaw13_FlowCheckMatchesReference)

end Go.Proofs.Ytmacdknicgfglaa.Impl
end
section
/- What the printed reference functions DeadNodes and Check compute. -/
namespace Go.Proofs.Ytmacdknicgfglaa.Gp
set_option linter.unusedVariables false
/-- The nodes that are on no path from rail to rail. -/
def deadL (l : List Ed) : List ByteArray := (nodesL l).filter fun s => !(decide (s ∈ reachL l ⟨#[76]⟩) && decide (s ∈ ancL l ⟨#[82]⟩))
def checkL (l : List Ed) : Int := if l.length = 0 then 4 else if errT (topo l) = 0 then (if (deadL l).length = 0 then 0 else 13) else errT (topo l)
end Go.Proofs.Ytmacdknicgfglaa.Gp
namespace Go.Proofs.Ytmacdknicgfglaa.Pe
open Go.RowKit Go.Proofs.YtmacdknicgfglaaW.PrintWords Go.Proofs.YtmacdknicgfglaaW.PrintMore Go.Proofs.Ytmacdknicgfglaa.Impl Go.Proofs.Ytmacdknicgfglaa.Gp Go.Proofs.Ytmacdknicgfglaa.Gw
set_option linter.unusedVariables false
set_option linter.unusedSimpArgs false
section
variable {a0 a3 : ByteArray} {l1 : List S41} {l2 : List S101}
theorem has13_l0 (l : List ByteArray) (s : ByteArray) (hn : l.length ≤ 9223372036854775807) : ∀ (d j : Nat), l.length = j + d →
    Ev (fun k => busbarref13_has.l0 k l s (j : Int)) (decide (s ∈ l.drop j))
  | 0, j, h => by
    refine Ev.step (f := fun _ => some false) (fun k => ?_) ?_
    · simp only [busbarref13_has.l0]; rw [if_neg (by omega)]
    · rw [List.drop_of_length_le (by omega), decide_eq_false (by simp)]; exact Ev.now _
  | d + 1, j, h => by
    have hj : j < l.length := by omega
    have ih := has13_l0 l s hn d (j + 1) (by omega)
    by_cases hb : l[j] = s
    · refine Ev.step (fun k => ?_) (f := fun k => some true) ?_
      · simp only [busbarref13_has.l0]
        rw [if_pos (by omega), if_pos (by omega), rdOf_lt _ _ _ hj, if_pos (by rw [hb])]
      · rw [drop_cons l j hj, decide_eq_true (by rw [hb]; exact List.mem_cons_self)]; exact Ev.now _
    · refine Ev.step (fun k => ?_) (f := fun k => busbarref13_has.l0 k l s ((j + 1 : Nat) : Int)) ?_
      · simp only [busbarref13_has.l0]
        rw [if_pos (by omega), if_pos (by omega), rdOf_lt _ _ _ hj, if_neg (fun e => hb (toList_inj.1 e)), w64 hj hn]
      · have : decide (s ∈ l.drop j) = decide (s ∈ l.drop (j + 1)) := by
          apply decide_eq_decide.2
          rw [drop_cons l j hj, List.mem_cons]
          exact ⟨fun h => h.resolve_left (fun e => hb e.symm), .inr⟩
        rw [this]; exact ih
theorem has13_ev (l : List ByteArray) (s : ByteArray) (hn : l.length ≤ 9223372036854775807) : Ev (fun k => busbarref13_has.f k l s) (decide (s ∈ l)) := has13_l0 l s hn l.length 0 (by omega)
theorem dead_l0 (all ra rb : List ByteArray) (ha : all.length ≤ 3000) (hra : ra.length ≤ 3000) (hrb : rb.length ≤ 3000) : ∀ (d j : Nat), all.length = j + d →
    Ev (fun k => busbarref13_DeadNodes.l0 k all ra rb ((all.take j).filter fun s => !(decide (s ∈ ra) && decide (s ∈ rb))) (j : Int)) (all.filter fun s => !(decide (s ∈ ra) && decide (s ∈ rb)))
  | 0, j, h => by
    refine Ev.step (f := fun _ => some (all.filter fun s => !(decide (s ∈ ra) && decide (s ∈ rb)))) (fun k => ?_) (Ev.now _)
    simp only [busbarref13_DeadNodes.l0]; rw [if_neg (by omega), List.take_of_length_le (by omega)]
  | d + 1, j, h => by
    have hj : j < all.length := by omega
    have ih := dead_l0 all ra rb ha hra hrb d (j + 1) (by omega)
    have hl : ((all.take j).filter fun s => !(decide (s ∈ ra) && decide (s ∈ rb))).length ≤ 3000 := by
      refine Nat.le_trans (List.length_filter_le _ _) ?_
      rw [List.length_take]; omega
    rw [List.take_succ_eq_append_getElem hj, List.filter_append] at ih
    generalize (all.take j).filter (fun s => !(decide (s ∈ ra) && decide (s ∈ rb))) = X at hl ih ⊢
    refine Ev.step (f := fun k => (busbarref13_has.f k ra all[j]).bind fun t => if t = true then ((busbarref13_has.f k rb all[j]).bind fun u => busbarref13_DeadNodes.l0 k all ra rb (if u = true then X else X ++ [all[j]]) ((j + 1 : Nat) : Int)) else busbarref13_DeadNodes.l0 k all ra rb (X ++ [all[j]]) ((j + 1 : Nat) : Int)) (fun k => ?_) ?_
    · simp only [busbarref13_DeadNodes.l0]
      rw [if_pos (by omega), if_pos (by omega), rdOf_lt _ _ _ hj, w64 hj (by omega)]
      congr 1
      funext t
      cases t with
      | true =>
        simp only [if_true]
        congr 1
        funext u
        cases u with
        | true => rfl
        | false => simp only [Bool.false_eq_true, if_false]; rw [if_pos (by omega)]
      | false => simp only [Bool.false_eq_true, if_false]; rw [if_pos (by omega)]
    · refine Ev.bind (has13_ev ra all[j] (by omega)) ?_
      by_cases h1 : all[j] ∈ ra
      · rw [decide_eq_true h1]
        simp only [if_true]
        refine Ev.bind (has13_ev rb all[j] (by omega)) ?_
        by_cases h2 : all[j] ∈ rb
        · simp only [List.filter_cons, h1, h2, decide_true, Bool.and_self, Bool.not_true, Bool.false_eq_true, if_false, List.filter_nil, List.append_nil, if_true] at ih ⊢
          exact ih
        · simp only [List.filter_cons, h1, h2, decide_true, decide_false, Bool.and_false, Bool.not_false, if_true, List.filter_nil, Bool.false_eq_true, if_false] at ih ⊢
          exact ih
      · rw [decide_eq_false h1]
        simp only [List.filter_cons, h1, decide_false, Bool.false_and, Bool.not_false, if_true, List.filter_nil, Bool.false_eq_true, if_false] at ih ⊢
        exact ih
theorem gath_le (l : List Ed) (q : ByteArray → List ByteArray) (n : ByteArray) : (gathL l q n).length ≤ (nodesL l).length := by
  unfold gathL
  split
  · exact List.length_filter_le _ _
  · simp
theorem rdead_ev (hn : l1.length ≤ 1000) : Ev (fun k => busbarref13_DeadNodes.f k a0 l1 l2 a3) (deadL (es l1)) := by
  have hlen : (nodesL (es l1)).length ≤ 3000 := by have := nodesL_len (es l1); rw [es_len] at this; omega
  unfold busbarref13_DeadNodes.f
  refine Ev.bind (nodes_ev a0 a3 l1 l2 hn) (Ev.bind (rreach_ev hn _) (Ev.bind (ranc_ev hn _) ?_))
  have := dead_l0 (nodesL (es l1)) (reachL (es l1) ⟨#[76]⟩) (ancL (es l1) ⟨#[82]⟩) hlen (Nat.le_trans (gath_le _ _ _) hlen) (Nat.le_trans (gath_le _ _ _) hlen) (nodesL (es l1)).length 0 (by omega)
  exact this
theorem rcheck_ev (hn : l1.length ≤ 1000) : Ev (fun k => busbarref13_Check.f k a0 l1 l2 a3) (checkL (es l1)) := by
  unfold busbarref13_Check.f checkL
  rw [es_len]
  by_cases h0 : l1.length = 0
  · rw [if_pos h0]
    simp only [if_pos (show (l1.length : Int) = 0 by omega)]
    exact Ev.now _
  · rw [if_neg h0]
    simp only [if_neg (show ¬ (l1.length : Int) = 0 by omega)]
    refine Ev.bind (rtopo_ev hn) ?_
    unfold pairT
    by_cases h1 : errT (topo (es l1)) = 0
    · simp only [if_pos h1]
      refine Ev.bind (rdead_ev hn) ?_
      by_cases h2 : (deadL (es l1)).length = 0
      · simp only [if_pos h2, if_neg (show ¬ ((deadL (es l1)).length : Int) > 0 by omega)]; exact Ev.now _
      · simp only [if_neg h2, if_pos (show ((deadL (es l1)).length : Int) > 0 by omega)]; exact Ev.now _
    · simp only [if_neg h1]
      exact Ev.now _
end
end Go.Proofs.Ytmacdknicgfglaa.Pe
end
section
/- flow.Check, walked. -/
namespace Go.Proofs.Ytmacdknicgfglaa.Gw
open Go.RowKit Go.Shelf Go.Proofs.YtmacdknicgfglaaW.PrintWords Go.Proofs.YtmacdknicgfglaaW.PrintMore Go.Proofs.YtmacdknicgfglaaW.PrintLast Go.Proofs.Ytmacdknicgfglaa.Chg Go.Proofs.Ytmacdknicgfglaa.Evt Go.Proofs.Ytmacdknicgfglaa.Impl Go.Proofs.Ytmacdknicgfglaa.Gp Go.Proofs.Ytmacdknicgfglaa.Mp
set_option linter.unusedVariables false
set_option linter.unusedSimpArgs false
set_option maxRecDepth 100000
section
variable {w w' : World} {A1 A2 : Option Addr} {c1 c2 : Nat} {l1 : List S41} {l2 : List S101} {a0 a3 : ByteArray}
theorem dead_e (w : World) (h : Rg w A1 c1 l1 A2 c2 l2) (hok : okG (es l1) = true) {o : List ByteArray} (ho : deadL (es l1) = o) :
    Calls Try.prog 35 #[.agg #[.string a0, .slice A1 l1.length c1, .slice A2 l2.length c2, .string a3]] w fun e w' => ∃ v, e = .returned v ∧ Ro Kd.string 9 w w' v o ∧ Below w.heap.size w w' := by subst ho; exact dead_any w h hok
theorem topo_oe (w : World) (h : Rg w A1 c1 l1 A2 c2 l2) (hok : okG (es l1) = true) {e1 : Int} (he : errT (topo (es l1)) = e1) : Calls Try.prog 25 #[.agg #[.string a0, .slice A1 l1.length c1, .slice A2 l2.length c2, .string a3]] w fun e w' => ∃ v, e = .returned (.tuple #[v, .int .i64 e1]) ∧ Ro Kd.string 9 w w' v ((topo (es l1)).getD []) ∧ Below w.heap.size w w' := by subst he; exact topo_any w h hok
set_option maxHeartbeats 2000000 in
theorem check_any (w : World) (h : Rg w A1 c1 l1 A2 c2 l2) (hok : okG (es l1) = true) {x : Int} (hx : checkL (es l1) = x) :
    Calls Try.prog 33 #[.agg #[.string a0, .slice A1 l1.length c1, .slice A2 l2.length c2, .string a3]] w fun e w' => e = .returned (.int .i64 x) ∧ Below w.heap.size w w' := by
  subst hx
  have OK := Aside0.mk hok
  have LN : l1.length ≤ 1000 := by have := okG_len hok; rw [es_len] at this; exact this
  have HB := Aside0.mk (Below.refl w.heap.size w)
  have R := Aside0.mk (h)
  clear h hok
  by_cases h0 : l1.length = 0
  · have EX : Aside0 (checkL (es l1) = 4) := ⟨by unfold checkL; rw [es_len, if_pos h0]⟩
    have q0 : decide (l1.length = 0) = true := decide_eq_true h0
    have q1 : decide ((l1.length : Int) = 0) = true := decide_eq_true (by omega)
    have q2 : ((l1.length : Int) == 0) = true := by rw [h0]; rfl
    rw [EX.out]
    clear h0
    go_enter Try.func33, Try.ntmps33
    skip
    go_wp2_with (((with_reducible refine gate_dst (N := 1) rfl ?_); go_loud (refine box_event ?hg (N := 1) ?hd (cs := #[.string a0, .slice A1 l1.length c1, .slice A2 l2.length c2, .string a3]) (t := 25) ?hr ?_; (case hd => rfl); (case hg => rfl); (case hr => first | (go_simp; done) | (go_simp; rfl)); intro g1 hg w1 hbox hb; have hbx : Below w.heap.size w w1 := below_step (by repeat (first | (with_reducible first | exact Below.refl _ _ | apply below_alloc | apply pw_below_drewN | apply below_drew1) | exact Below.refl _ _)) hb; have n_R := Aside0.mk (R.out.below hbx); have n_HB := Aside0.mk (below_step HB.out hbx); clear HB R; have R := n_R; have HB := n_HB; clear hbx n_R n_HB; have BK1 := Aside0.mk (Bk.mk (hbox : Blk w1 g1 25 #[.string a0, .slice A1 l1.length c1, .slice A2 l2.length c2, .string a3])); clear hbox hg hb; have zBK1_0 : w1.cell? ⟨g1, 0, none⟩ = some (.string a0) := (blk_cell BK1.out.blk 0).trans rfl; have zBK1_1 : w1.cell? ⟨g1, 1, none⟩ = some (.slice A1 l1.length c1) := (blk_cell BK1.out.blk 1).trans rfl; have zBK1_2 : w1.cell? ⟨g1, 2, none⟩ = some (.slice A2 l2.length c2) := (blk_cell BK1.out.blk 2).trans rfl; have zBK1_3 : w1.cell? ⟨g1, 3, none⟩ = some (.string a3) := (blk_cell BK1.out.blk 3).trans rfl)))
    go_ret
    exact ⟨rfl, HB.out⟩
    skip
  · have q0 : decide (l1.length = 0) = false := decide_eq_false h0
    have q1 : decide ((l1.length : Int) = 0) = false := decide_eq_false (by omega)
    have q2 : ((l1.length : Int) == 0) = false := beq_eq_false_iff_ne.mpr (by omega)
    by_cases ht : errT (topo (es l1)) = 0
    · obtain ⟨o, ho⟩ : ∃ o, Aside0 (deadL (es l1) = o) := ⟨_, ⟨rfl⟩⟩
      have HT := Aside0.mk ht
      by_cases hd : o.length = 0
      · have EX : Aside0 (checkL (es l1) = 0) := ⟨by unfold checkL; rw [es_len, if_neg h0, if_pos ht, ho.out, if_pos hd]⟩
        have d0 : decide (o.length > 0) = false := decide_eq_false (by omega)
        have d1 : decide ((o.length : Int) > 0) = false := decide_eq_false (by omega)
        have d2 : decide (0 < o.length) = false := decide_eq_false (by omega)
        have d3 : decide (0 < (o.length : Int)) = false := decide_eq_false (by omega)
        rw [EX.out]
        clear h0 ht hd
        go_enter Try.func33, Try.ntmps33
        skip
        go_wp2_with (first | ((with_reducible refine gate_dst (N := 1) rfl ?_); go_loud (refine box_event ?hg (N := 1) ?hd (cs := #[.string a0, .slice A1 l1.length c1, .slice A2 l2.length c2, .string a3]) (t := 25) ?hr ?_; (case hd => rfl); (case hg => rfl); (case hr => first | (go_simp; done) | (go_simp; rfl)); intro g1 hg w1 hbox hb; have hbx : Below w.heap.size w w1 := below_step (by repeat (first | (with_reducible first | exact Below.refl _ _ | apply below_alloc | apply pw_below_drewN | apply below_drew1) | exact Below.refl _ _)) hb; have n_R := Aside0.mk (R.out.below hbx); have n_HB := Aside0.mk (below_step HB.out hbx); clear HB R; have R := n_R; have HB := n_HB; clear hbx n_R n_HB; have BK1 := Aside0.mk (Bk.mk (hbox : Blk w1 g1 25 #[.string a0, .slice A1 l1.length c1, .slice A2 l2.length c2, .string a3])); clear hbox hg hb; have zBK1_0 : w1.cell? ⟨g1, 0, none⟩ = some (.string a0) := (blk_cell BK1.out.blk 0).trans rfl; have zBK1_1 : w1.cell? ⟨g1, 1, none⟩ = some (.slice A1 l1.length c1) := (blk_cell BK1.out.blk 1).trans rfl; have zBK1_2 : w1.cell? ⟨g1, 2, none⟩ = some (.slice A2 l2.length c2) := (blk_cell BK1.out.blk 2).trans rfl; have zBK1_3 : w1.cell? ⟨g1, 3, none⟩ = some (.string a3) := (blk_cell BK1.out.blk 3).trans rfl)) | ((with_reducible refine gate_callee (f := 25) rfl ?_); go_loud (refine goesL_ (some 11) rfl rfl Try.func25 (by kernel_rfl) rfl #[.agg #[.string a0, .slice A1 l1.length c1, .slice A2 l2.length c2, .string a3]] rfl (by (try simp only [List.map_toArray, List.map_cons, List.map_nil]); first | done | rfl | (simp only [List.length_drop, List.length_take]; rfl)) ?_; (with_reducible refine (topo_oe _ (R.out.below (by repeat (first | (with_reducible first | exact Below.refl _ _ | apply below_alloc | apply pw_below_drewN | apply below_drew1) | exact Below.refl _ _))) OK.out HT.out).mono ?_); rintro e w2 ⟨v, rfl, ho_, hb⟩; have hbx : Below w1.heap.size w1 w2 := below_step (by repeat (first | (with_reducible first | exact Below.refl _ _ | apply below_alloc | apply pw_below_drewN | apply below_drew1) | exact Below.refl _ _)) hb; clear zBK1_0 zBK1_1 zBK1_2 zBK1_3; have n_R := Aside0.mk (R.out.below hbx); have n_BK1 := Aside0.mk (BK1.out.below hbx); have n_HB := Aside0.mk (below_step HB.out hbx); clear HB R BK1; have R := n_R; have BK1 := n_BK1; have HB := n_HB; clear hbx n_R n_BK1 n_HB; clear hb; have zBK1_0 : w2.cell? ⟨g1, 0, none⟩ = some (.string a0) := (blk_cell BK1.out.blk 0).trans rfl; have zBK1_1 : w2.cell? ⟨g1, 1, none⟩ = some (.slice A1 l1.length c1) := (blk_cell BK1.out.blk 1).trans rfl; have zBK1_2 : w2.cell? ⟨g1, 2, none⟩ = some (.slice A2 l2.length c2) := (blk_cell BK1.out.blk 2).trans rfl; have zBK1_3 : w2.cell? ⟨g1, 3, none⟩ = some (.string a3) := (blk_cell BK1.out.blk 3).trans rfl; refine ⟨_, rfl, ?_⟩)) | ((with_reducible refine gate_callee (f := 35) rfl ?_); go_loud (refine goesL_ (some 18) rfl rfl Try.func35 (by kernel_rfl) rfl #[.agg #[.string a0, .slice A1 l1.length c1, .slice A2 l2.length c2, .string a3]] rfl (by (try simp only [List.map_toArray, List.map_cons, List.map_nil]); first | done | rfl | (simp only [List.length_drop, List.length_take]; rfl)) ?_; (with_reducible refine (dead_e _ (R.out.below (by repeat (first | (with_reducible first | exact Below.refl _ _ | apply below_alloc | apply pw_below_drewN | apply below_drew1) | exact Below.refl _ _))) OK.out ho.out).mono ?_); rintro e w3 ⟨v, rfl, ho2_, hb⟩; have hbx : Below w2.heap.size w2 w3 := below_step (by repeat (first | (with_reducible first | exact Below.refl _ _ | apply below_alloc | apply pw_below_drewN | apply below_drew1) | exact Below.refl _ _)) hb; obtain ⟨Y1, y1, rfl, _⟩ := Ro.sliceS ho2_; clear zBK1_0 zBK1_1 zBK1_2 zBK1_3; have n_R := Aside0.mk (R.out.below hbx); have n_BK1 := Aside0.mk (BK1.out.below hbx); have n_HB := Aside0.mk (below_step HB.out hbx); clear HB R BK1; have R := n_R; have BK1 := n_BK1; have HB := n_HB; clear hbx n_R n_BK1 n_HB; clear hb; clear ho2_; have zBK1_0 : w3.cell? ⟨g1, 0, none⟩ = some (.string a0) := (blk_cell BK1.out.blk 0).trans rfl; have zBK1_1 : w3.cell? ⟨g1, 1, none⟩ = some (.slice A1 l1.length c1) := (blk_cell BK1.out.blk 1).trans rfl; have zBK1_2 : w3.cell? ⟨g1, 2, none⟩ = some (.slice A2 l2.length c2) := (blk_cell BK1.out.blk 2).trans rfl; have zBK1_3 : w3.cell? ⟨g1, 3, none⟩ = some (.string a3) := (blk_cell BK1.out.blk 3).trans rfl; refine ⟨_, rfl, ?_⟩)))
        go_ret
        exact ⟨rfl, HB.out⟩
        skip
      · have EX : Aside0 (checkL (es l1) = 13) := ⟨by unfold checkL; rw [es_len, if_neg h0, if_pos ht, ho.out, if_neg hd]⟩
        have d0 : decide (o.length > 0) = true := decide_eq_true (by omega)
        have d1 : decide ((o.length : Int) > 0) = true := decide_eq_true (by omega)
        have d2 : decide (0 < o.length) = true := decide_eq_true (by omega)
        have d3 : decide (0 < (o.length : Int)) = true := decide_eq_true (by omega)
        rw [EX.out]
        clear h0 ht hd
        go_enter Try.func33, Try.ntmps33
        skip
        go_wp2_with (first | ((with_reducible refine gate_dst (N := 1) rfl ?_); go_loud (refine box_event ?hg (N := 1) ?hd (cs := #[.string a0, .slice A1 l1.length c1, .slice A2 l2.length c2, .string a3]) (t := 25) ?hr ?_; (case hd => rfl); (case hg => rfl); (case hr => first | (go_simp; done) | (go_simp; rfl)); intro g1 hg w1 hbox hb; have hbx : Below w.heap.size w w1 := below_step (by repeat (first | (with_reducible first | exact Below.refl _ _ | apply below_alloc | apply pw_below_drewN | apply below_drew1) | exact Below.refl _ _)) hb; have n_R := Aside0.mk (R.out.below hbx); have n_HB := Aside0.mk (below_step HB.out hbx); clear HB R; have R := n_R; have HB := n_HB; clear hbx n_R n_HB; have BK1 := Aside0.mk (Bk.mk (hbox : Blk w1 g1 25 #[.string a0, .slice A1 l1.length c1, .slice A2 l2.length c2, .string a3])); clear hbox hg hb; have zBK1_0 : w1.cell? ⟨g1, 0, none⟩ = some (.string a0) := (blk_cell BK1.out.blk 0).trans rfl; have zBK1_1 : w1.cell? ⟨g1, 1, none⟩ = some (.slice A1 l1.length c1) := (blk_cell BK1.out.blk 1).trans rfl; have zBK1_2 : w1.cell? ⟨g1, 2, none⟩ = some (.slice A2 l2.length c2) := (blk_cell BK1.out.blk 2).trans rfl; have zBK1_3 : w1.cell? ⟨g1, 3, none⟩ = some (.string a3) := (blk_cell BK1.out.blk 3).trans rfl)) | ((with_reducible refine gate_callee (f := 25) rfl ?_); go_loud (refine goesL_ (some 11) rfl rfl Try.func25 (by kernel_rfl) rfl #[.agg #[.string a0, .slice A1 l1.length c1, .slice A2 l2.length c2, .string a3]] rfl (by (try simp only [List.map_toArray, List.map_cons, List.map_nil]); first | done | rfl | (simp only [List.length_drop, List.length_take]; rfl)) ?_; (with_reducible refine (topo_oe _ (R.out.below (by repeat (first | (with_reducible first | exact Below.refl _ _ | apply below_alloc | apply pw_below_drewN | apply below_drew1) | exact Below.refl _ _))) OK.out HT.out).mono ?_); rintro e w2 ⟨v, rfl, ho_, hb⟩; have hbx : Below w1.heap.size w1 w2 := below_step (by repeat (first | (with_reducible first | exact Below.refl _ _ | apply below_alloc | apply pw_below_drewN | apply below_drew1) | exact Below.refl _ _)) hb; clear zBK1_0 zBK1_1 zBK1_2 zBK1_3; have n_R := Aside0.mk (R.out.below hbx); have n_BK1 := Aside0.mk (BK1.out.below hbx); have n_HB := Aside0.mk (below_step HB.out hbx); clear HB R BK1; have R := n_R; have BK1 := n_BK1; have HB := n_HB; clear hbx n_R n_BK1 n_HB; clear hb; have zBK1_0 : w2.cell? ⟨g1, 0, none⟩ = some (.string a0) := (blk_cell BK1.out.blk 0).trans rfl; have zBK1_1 : w2.cell? ⟨g1, 1, none⟩ = some (.slice A1 l1.length c1) := (blk_cell BK1.out.blk 1).trans rfl; have zBK1_2 : w2.cell? ⟨g1, 2, none⟩ = some (.slice A2 l2.length c2) := (blk_cell BK1.out.blk 2).trans rfl; have zBK1_3 : w2.cell? ⟨g1, 3, none⟩ = some (.string a3) := (blk_cell BK1.out.blk 3).trans rfl; refine ⟨_, rfl, ?_⟩)) | ((with_reducible refine gate_callee (f := 35) rfl ?_); go_loud (refine goesL_ (some 18) rfl rfl Try.func35 (by kernel_rfl) rfl #[.agg #[.string a0, .slice A1 l1.length c1, .slice A2 l2.length c2, .string a3]] rfl (by (try simp only [List.map_toArray, List.map_cons, List.map_nil]); first | done | rfl | (simp only [List.length_drop, List.length_take]; rfl)) ?_; (with_reducible refine (dead_e _ (R.out.below (by repeat (first | (with_reducible first | exact Below.refl _ _ | apply below_alloc | apply pw_below_drewN | apply below_drew1) | exact Below.refl _ _))) OK.out ho.out).mono ?_); rintro e w3 ⟨v, rfl, ho2_, hb⟩; have hbx : Below w2.heap.size w2 w3 := below_step (by repeat (first | (with_reducible first | exact Below.refl _ _ | apply below_alloc | apply pw_below_drewN | apply below_drew1) | exact Below.refl _ _)) hb; obtain ⟨Y1, y1, rfl, _⟩ := Ro.sliceS ho2_; clear zBK1_0 zBK1_1 zBK1_2 zBK1_3; have n_R := Aside0.mk (R.out.below hbx); have n_BK1 := Aside0.mk (BK1.out.below hbx); have n_HB := Aside0.mk (below_step HB.out hbx); clear HB R BK1; have R := n_R; have BK1 := n_BK1; have HB := n_HB; clear hbx n_R n_BK1 n_HB; clear hb; clear ho2_; have zBK1_0 : w3.cell? ⟨g1, 0, none⟩ = some (.string a0) := (blk_cell BK1.out.blk 0).trans rfl; have zBK1_1 : w3.cell? ⟨g1, 1, none⟩ = some (.slice A1 l1.length c1) := (blk_cell BK1.out.blk 1).trans rfl; have zBK1_2 : w3.cell? ⟨g1, 2, none⟩ = some (.slice A2 l2.length c2) := (blk_cell BK1.out.blk 2).trans rfl; have zBK1_3 : w3.cell? ⟨g1, 3, none⟩ = some (.string a3) := (blk_cell BK1.out.blk 3).trans rfl; refine ⟨_, rfl, ?_⟩)))
        go_ret
        exact ⟨rfl, HB.out⟩
        skip
    · have E12 : errT (topo (es l1)) = 12 := by unfold errT at ht ⊢; split at ht <;> simp_all
      have HT := Aside0.mk E12
      have EX : Aside0 (checkL (es l1) = 12) := ⟨by unfold checkL; rw [es_len, if_neg h0, if_neg ht, E12]⟩
      rw [EX.out]
      clear h0 ht E12
      go_enter Try.func33, Try.ntmps33
      go_wp2_with (first | ((with_reducible refine gate_dst (N := 1) rfl ?_); go_loud (refine box_event ?hg (N := 1) ?hd (cs := #[.string a0, .slice A1 l1.length c1, .slice A2 l2.length c2, .string a3]) (t := 25) ?hr ?_; (case hd => rfl); (case hg => rfl); (case hr => first | (go_simp; done) | (go_simp; rfl)); intro g1 hg w1 hbox hb; have hbx : Below w.heap.size w w1 := below_step (by repeat (first | (with_reducible first | exact Below.refl _ _ | apply below_alloc | apply pw_below_drewN | apply below_drew1) | exact Below.refl _ _)) hb; have n_R := Aside0.mk (R.out.below hbx); have n_HB := Aside0.mk (below_step HB.out hbx); clear HB R; have R := n_R; have HB := n_HB; clear hbx n_R n_HB; have BK1 := Aside0.mk (Bk.mk (hbox : Blk w1 g1 25 #[.string a0, .slice A1 l1.length c1, .slice A2 l2.length c2, .string a3])); clear hbox hg hb; have zBK1_0 : w1.cell? ⟨g1, 0, none⟩ = some (.string a0) := (blk_cell BK1.out.blk 0).trans rfl; have zBK1_1 : w1.cell? ⟨g1, 1, none⟩ = some (.slice A1 l1.length c1) := (blk_cell BK1.out.blk 1).trans rfl; have zBK1_2 : w1.cell? ⟨g1, 2, none⟩ = some (.slice A2 l2.length c2) := (blk_cell BK1.out.blk 2).trans rfl; have zBK1_3 : w1.cell? ⟨g1, 3, none⟩ = some (.string a3) := (blk_cell BK1.out.blk 3).trans rfl)) | ((with_reducible refine gate_callee (f := 25) rfl ?_); go_loud (refine goesL_ (some 11) rfl rfl Try.func25 (by kernel_rfl) rfl #[.agg #[.string a0, .slice A1 l1.length c1, .slice A2 l2.length c2, .string a3]] rfl (by (try simp only [List.map_toArray, List.map_cons, List.map_nil]); first | done | rfl | (simp only [List.length_drop, List.length_take]; rfl)) ?_; (with_reducible refine (topo_oe _ (R.out.below (by repeat (first | (with_reducible first | exact Below.refl _ _ | apply below_alloc | apply pw_below_drewN | apply below_drew1) | exact Below.refl _ _))) OK.out HT.out).mono ?_); rintro e w2 ⟨v, rfl, ho_, hb⟩; have hbx : Below w1.heap.size w1 w2 := below_step (by repeat (first | (with_reducible first | exact Below.refl _ _ | apply below_alloc | apply pw_below_drewN | apply below_drew1) | exact Below.refl _ _)) hb; clear zBK1_0 zBK1_1 zBK1_2 zBK1_3; have n_R := Aside0.mk (R.out.below hbx); have n_BK1 := Aside0.mk (BK1.out.below hbx); have n_HB := Aside0.mk (below_step HB.out hbx); clear HB R BK1; have R := n_R; have BK1 := n_BK1; have HB := n_HB; clear hbx n_R n_BK1 n_HB; clear hb; have zBK1_0 : w2.cell? ⟨g1, 0, none⟩ = some (.string a0) := (blk_cell BK1.out.blk 0).trans rfl; have zBK1_1 : w2.cell? ⟨g1, 1, none⟩ = some (.slice A1 l1.length c1) := (blk_cell BK1.out.blk 1).trans rfl; have zBK1_2 : w2.cell? ⟨g1, 2, none⟩ = some (.slice A2 l2.length c2) := (blk_cell BK1.out.blk 2).trans rfl; have zBK1_3 : w2.cell? ⟨g1, 3, none⟩ = some (.string a3) := (blk_cell BK1.out.blk 3).trans rfl; refine ⟨_, rfl, ?_⟩)))
      go_ret
      exact ⟨rfl, HB.out⟩
end
end Go.Proofs.Ytmacdknicgfglaa.Gw
end
section
/- GraphNodesMatchReference, walked. -/
namespace Go.Proofs.Ytmacdknicgfglaa.Gw
open Go.RowKit Go.Shelf Go.Proofs.YtmacdknicgfglaaW.PrintWords Go.Proofs.YtmacdknicgfglaaW.PrintMore Go.Proofs.YtmacdknicgfglaaW.PrintLast Go.Proofs.Ytmacdknicgfglaa.Chg Go.Proofs.Ytmacdknicgfglaa.Evt Go.Proofs.Ytmacdknicgfglaa.Impl Go.Proofs.Ytmacdknicgfglaa.Gp Go.Proofs.Ytmacdknicgfglaa.Mp Go.Proofs.Ytmacdknicgfglaa.Open
open Go.Proofs.Ytmacdknicgfglaa.Pe (tl)
set_option linter.unusedVariables false
set_option linter.unusedSimpArgs false
set_option maxRecDepth 100000
theorem eqI_any (A0 : Option Addr) (c0 : Nat) (l0 : List Int) (A1 : Option Addr) (c1 : Nat) (l1 : List Int) (w : World) (h0 : Rw (Kd.int .i64) w A0 c0 l0) (h1 : Rw (Kd.int .i64) w A1 c1 l1) (hn : l0.length ≤ 1000000) {r : Bool} (hr : decide (l0 = l1) = r) :
    Calls Try.prog 20 #[.slice A0 l0.length c0, .slice A1 l1.length c1] w fun e w' => e = .returned (.bool r) ∧ Below w.heap.size w w' := by
  subst hr
  obtain ⟨k, hk⟩ := (Pe.eqI_ev l0 l1 (by omega)).rounds
  exact (slices_Equal_int_int.calls k A0 c0 l0 A1 c1 l1 _ w h0.row h0.cap h1.row h1.cap hk).mono (by rintro e w' ⟨rfl, ⟨n, rfl⟩⟩; exact ⟨rfl, pw_below_drewN (Below.refl _ _) n⟩)
section
variable {A1 A2 : Option Addr} {c1 c2 : Nat} {l1 : List S41} {l2 : List S101} {a0 a3 s : ByteArray}
set_option maxHeartbeats 4000000 in
theorem nmr_core (w : World) (h : Rg w A1 c1 l1 A2 c2 l2) (hz : SzR l1) : Calls Try.prog 3 #[.agg #[.string a0, .slice A1 l1.length c1, .slice A2 l2.length c2, .string a3], .string s] w fun x w' => x = .returned (.bool true) ∧ Below w.heap.size w w' := by
  have SZ := Aside0.mk hz
  have HB := Aside0.mk (Below.refl w.heap.size w)
  have R := Aside0.mk (h)
  clear h hz
  by_cases hb : tl (es l1) ≤ 0
  · have OK := Aside0.mk (Pe.tl_ok hb).1
    have LN : l1.length ≤ 1000 := by have := (Pe.tl_ok hb).2; rw [es_len] at this; omega
    have LO : Aside0 ((outL (es l1) s).length ≤ 1000000) := ⟨by have := idxs_len (fun c => decide (c.1 = s)) (es l1); rw [es_len] at this; unfold outL; omega⟩
    have LI : Aside0 ((inL (es l1) s).length ≤ 1000000) := ⟨by have := idxs_len (fun c => decide (c.2 = s)) (es l1); rw [es_len] at this; unfold inL; omega⟩
    have LL : Aside0 ((nodesL (es l1)).length ≤ 1000000) := ⟨by have := nodesL_len (es l1); rw [es_len] at this; omega⟩
    have TL : Aside0 (tl (es l1) = 0) := ⟨by unfold tl at hb ⊢; split at hb; omega; rename_i hh; rw [if_neg hh]⟩
    clear hb
    skip
    go_enter Try.func3, Try.ntmps3
    go_wp2_with (first | ((with_reducible refine gate_dst (N := 2) rfl ?_); refine box_event ?hg (N := 2) ?hd (cs := #[.string a0, .slice A1 l1.length c1, .slice A2 l2.length c2, .string a3]) (t := 25) ?hr ?_; (case hd => rfl); (case hg => rfl); (case hr => first | (go_simp; done) | (go_simp; rfl)); intro g2 hg w1 hbox hb; have hbx : Below w.heap.size w w1 := below_step (by repeat (first | (with_reducible first | exact Below.refl _ _ | apply below_alloc | apply pw_below_drewN | apply below_drew1) | exact Below.refl _ _)) hb; have n_R := Aside0.mk (R.out.below hbx); have n_HB := Aside0.mk (below_step HB.out hbx); clear HB R; have R := n_R; have HB := n_HB; clear hbx n_R n_HB; have BK2 := Aside0.mk (Bk.mk (hbox : Blk w1 g2 25 #[.string a0, .slice A1 l1.length c1, .slice A2 l2.length c2, .string a3])); clear hbox hg hb; have zBK2_0 : w1.cell? ⟨g2, 0, none⟩ = some (.string a0) := (blk_cell BK2.out.blk 0).trans rfl; have zBK2_1 : w1.cell? ⟨g2, 1, none⟩ = some (.slice A1 l1.length c1) := (blk_cell BK2.out.blk 1).trans rfl; have zBK2_2 : w1.cell? ⟨g2, 2, none⟩ = some (.slice A2 l2.length c2) := (blk_cell BK2.out.blk 2).trans rfl; have zBK2_3 : w1.cell? ⟨g2, 3, none⟩ = some (.string a3) := (blk_cell BK2.out.blk 3).trans rfl) | ((with_reducible refine gate_callee (f := 15) rfl ?_); refine goesL_ (some 6) rfl rfl Try.func15 (by kernel_rfl) rfl #[.agg #[.string a0, .slice A1 l1.length c1, .slice A2 l2.length c2, .string a3]] rfl (by (try simp only [List.map_toArray, List.map_cons, List.map_nil]); first | done | rfl | (simp only [List.length_drop, List.length_take]; rfl)) ?_; (with_reducible refine (Pe.tl_any _ (R.out.below (by repeat (first | (with_reducible first | exact Below.refl _ _ | apply below_alloc | apply pw_below_drewN | apply below_drew1) | exact Below.refl _ _))) SZ.out TL.out).mono ?_); rintro e w2 ⟨rfl, hb⟩; have hbx : Below w1.heap.size w1 w2 := below_step (by repeat (first | (with_reducible first | exact Below.refl _ _ | apply below_alloc | apply pw_below_drewN | apply below_drew1) | exact Below.refl _ _)) hb; clear zBK2_0 zBK2_1 zBK2_2 zBK2_3; have n_R := Aside0.mk (R.out.below hbx); have n_BK2 := Aside0.mk (BK2.out.below hbx); have n_HB := Aside0.mk (below_step HB.out hbx); clear HB R BK2; have R := n_R; have BK2 := n_BK2; have HB := n_HB; clear hbx n_R n_BK2 n_HB; clear hb; have zBK2_0 : w2.cell? ⟨g2, 0, none⟩ = some (.string a0) := (blk_cell BK2.out.blk 0).trans rfl; have zBK2_1 : w2.cell? ⟨g2, 1, none⟩ = some (.slice A1 l1.length c1) := (blk_cell BK2.out.blk 1).trans rfl; have zBK2_2 : w2.cell? ⟨g2, 2, none⟩ = some (.slice A2 l2.length c2) := (blk_cell BK2.out.blk 2).trans rfl; have zBK2_3 : w2.cell? ⟨g2, 3, none⟩ = some (.string a3) := (blk_cell BK2.out.blk 3).trans rfl; refine ⟨_, rfl, ?_⟩))
    have KP : Aside0 (∀ w', Below w2.heap.size w2 w' → (w'.cell? ⟨g2, 0, none⟩ = some (.string a0) ∧ w'.cell? ⟨g2, 1, none⟩ = some (.slice A1 l1.length c1) ∧ w'.cell? ⟨g2, 2, none⟩ = some (.slice A2 l2.length c2) ∧ w'.cell? ⟨g2, 3, none⟩ = some (.string a3))) := Aside0.mk (fun w' hb => ⟨(blk_cell (BK2.out.below hb).blk 0).trans rfl, (blk_cell (BK2.out.below hb).blk 1).trans rfl, (blk_cell (BK2.out.below hb).blk 2).trans rfl, (blk_cell (BK2.out.below hb).blk 3).trans rfl⟩)
    clear zBK2_0 zBK2_1 zBK2_2 zBK2_3
    refine Evt.ow_start (w0 := w2) (T := (true, [([], []), ([0, 0], [0]), ([1], [1]), ([2, 1, 1], [1, 2]), ([1], [1]), ([4, 3, 1], [1, 4]), ([3, 5, 5, 1], [1, 3, 5]), ([1, 6], [1, 6]), ([7, 6], [7]), ([8], [8]), ([8], [8]), ([9, 10, 8, 8], [8, 9, 10]), ([8], [8]), ([8], [8]), ([12, 13, 11, 8], [8, 12, 13]), ([11, 14, 14, 8], [8, 11, 14]), ([8, 15], [8, 15]), ([16, 15], [16]), ([17], [17]), ([17], [17]), ([18, 19, 17, 17], [17, 18, 19]), ([17], [17]), ([17], [17]), ([21, 22, 20, 17], [17, 21, 22]), ([20, 23, 23, 17], [17, 20, 23]), ([17, 24], [17, 24]), ([25, 24, 0, 1, 2, 3, 4, 5, 6, 7, 8, 9, 10, 11, 12, 13, 14, 15, 16, 17, 18, 19, 20, 21, 22, 23, 24, 25], [25])])) (B := [0, 1, 3, 7, 3, 31, 63, 127, 255, 511, 511, 2047, 511, 511, 16383, 32767, 65535, 131071, 262143, 262143, 1048575, 262143, 262143, 8388607, 16777215, 33554431, 67108863]) 27 [(0, some 9), (1, some 10), (2, some 11), (4, some 13), (3, some 12), (5, some 14), (6, some 15), (7, some 16), (8, some 17), (10, some 19), (13, some 22), (9, some 18), (12, some 21), (11, some 20), (14, some 23), (15, some 24), (16, some 25), (17, some 26), (19, some 28), (22, some 31), (18, some 27), (21, some 30), (20, some 29), (23, some 32), (24, some 33), (25, some 34), (26, some 4)] (by kernel_rfl) rfl (by kernel_rfl) (by kernel_rfl) (by kernel_rfl) (by repeat (first | (with_reducible first | exact Below.refl _ _ | apply below_alloc | apply pw_below_drewN | apply below_drew1) | exact Below.refl _ _)) ?_
    intro HT_ HW_ w_ hHeld
    refine Evt.ow_call HT_ hHeld rfl rfl rfl (by kernel_rfl) Try.func16 (by kernel_rfl) rfl #[] (by rfl) (by (try simp only [List.map_toArray, List.map_cons, List.map_nil]); first | done | rfl | (simp only [List.length_drop, List.length_take]; rfl)) ?_
    (with_reducible refine (alive_any _).mono ?_)
    rintro e w_ ⟨rfl, hb⟩
    refine ⟨_, rfl, hb, fun hHeld_ => ?_⟩
    clear hHeld hb
    have hHeld := hHeld_
    clear hHeld_
    refine Evt.ow_norm (a' := ?_) ?_ ?_
    rotate_left
    · simp only [Act.put, List.setIfInBounds_toArray, List.set_cons_zero, List.set_cons_succ, i64_w, i32_w]; rfl
    iterate 3 (first | (refine Evt.ow_off (a' := ?_) HT_ rfl rfl (by rfl) (by kernel_rfl) (fun _ _ _ h => h) ?_ ?_; rotate_left; (· (try simp only [Act.put, List.setIfInBounds_toArray, List.set_cons_zero, List.set_cons_succ, i64_w, i32_w]); rfl)) | (refine Evt.ow_pure (a' := ?_) (v := ?_) HT_ rfl rfl rfl (by rfl) (by kernel_rfl) (fun _ _ _ h => h) ?_ ?_ ?_; rotate_left 2; (· intro w'; go_simp; with_reducible rfl); (· (try simp only [Act.put, List.setIfInBounds_toArray, List.set_cons_zero, List.set_cons_succ, i64_w, i32_w]); rfl)) | (refine Evt.ow_load (a' := ?_) (v := ?_) HT_ HW_ hHeld rfl rfl rfl (by rfl) (by kernel_rfl) (fun _ _ _ h => h) ?_ ?_ ?_; rotate_left 2; (· intro w' hS_; obtain ⟨s0, s1, s2, s3⟩ := KP.out w' hS_.out; go_simp; with_reducible rfl); (· (try simp only [Act.put, List.setIfInBounds_toArray, List.set_cons_zero, List.set_cons_succ, i64_w, i32_w]); rfl)))
    refine Evt.ow_call HT_ hHeld rfl rfl rfl (by kernel_rfl) Try.func18 (by kernel_rfl) rfl #[.agg #[.string a0, .slice A1 l1.length c1, .slice A2 l2.length c2, .string a3]] (by rfl) (by (try simp only [List.map_toArray, List.map_cons, List.map_nil]); first | done | rfl | (simp only [List.length_drop, List.length_take]; rfl)) ?_
    (with_reducible refine (nodes_any _ (R.out.below hHeld.out) OK.out).mono ?_)
    rintro e w_ ⟨v, rfl, ho, hb⟩
    obtain ⟨X1, x1, rfl, N1⟩ := Ro.sliceS ho; clear ho
    refine ⟨_, rfl, hb, fun hHeld_ => ?_⟩
    clear hHeld hb
    have hHeld := hHeld_
    clear hHeld_
    refine Evt.ow_norm (a' := ?_) ?_ ?_
    rotate_left
    · simp only [Act.put, List.setIfInBounds_toArray, List.set_cons_zero, List.set_cons_succ, i64_w, i32_w]; rfl
    refine Evt.ow_call HT_ hHeld rfl rfl rfl (by kernel_rfl) Try.func19 (by kernel_rfl) rfl #[.agg #[.string a0, .slice A1 l1.length c1, .slice A2 l2.length c2, .string a3]] (by rfl) (by (try simp only [List.map_toArray, List.map_cons, List.map_nil]); first | done | rfl | (simp only [List.length_drop, List.length_take]; rfl)) ?_
    (with_reducible refine (Pe.refnodes_any _ (R.out.below hHeld.out) LN).mono ?_)
    rintro e w_ ⟨v, rfl, ho, hb⟩
    obtain ⟨X2, x2, rfl, N2⟩ := Ro.sliceS ho; clear ho; have n_ := Aside0.mk (N1.out.below hb); clear N1; have N1 := n_; clear n_
    refine ⟨_, rfl, hb, fun hHeld_ => ?_⟩
    clear hHeld hb
    have hHeld := hHeld_
    clear hHeld_
    refine Evt.ow_norm (a' := ?_) ?_ ?_
    rotate_left
    · simp only [Act.put, List.setIfInBounds_toArray, List.set_cons_zero, List.set_cons_succ, i64_w, i32_w]; rfl
    refine Evt.ow_call HT_ hHeld rfl rfl rfl (by kernel_rfl) Try.func17 (by kernel_rfl) rfl #[.slice X1 (nodesL (es l1)).length x1, .slice X2 (nodesL (es l1)).length x2] (by rfl) (by (try simp only [List.map_toArray, List.map_cons, List.map_nil]); first | done | rfl | (simp only [List.length_drop, List.length_take]; rfl)) ?_
    (with_reducible refine (eqS_any X1 x1 _ X2 x2 _ _ N1.out N2.out LL.out (decide_eq_true rfl)).mono ?_)
    rintro e w_ ⟨rfl, hb⟩
    refine ⟨_, rfl, hb, fun hHeld_ => ?_⟩
    clear hHeld hb
    have hHeld := hHeld_
    clear hHeld_
    refine Evt.ow_norm (a' := ?_) ?_ ?_
    rotate_left
    · simp only [Act.put, List.setIfInBounds_toArray, List.set_cons_zero, List.set_cons_succ, i64_w, i32_w]; rfl
    iterate 6 (first | (refine Evt.ow_off (a' := ?_) HT_ rfl rfl (by rfl) (by kernel_rfl) (fun _ _ _ h => h) ?_ ?_; rotate_left; (· (try simp only [Act.put, List.setIfInBounds_toArray, List.set_cons_zero, List.set_cons_succ, i64_w, i32_w]); rfl)) | (refine Evt.ow_pure (a' := ?_) (v := ?_) HT_ rfl rfl rfl (by rfl) (by kernel_rfl) (fun _ _ _ h => h) ?_ ?_ ?_; rotate_left 2; (· intro w'; go_simp; with_reducible rfl); (· (try simp only [Act.put, List.setIfInBounds_toArray, List.set_cons_zero, List.set_cons_succ, i64_w, i32_w]); rfl)) | (refine Evt.ow_load (a' := ?_) (v := ?_) HT_ HW_ hHeld rfl rfl rfl (by rfl) (by kernel_rfl) (fun _ _ _ h => h) ?_ ?_ ?_; rotate_left 2; (· intro w' hS_; obtain ⟨s0, s1, s2, s3⟩ := KP.out w' hS_.out; go_simp; with_reducible rfl); (· (try simp only [Act.put, List.setIfInBounds_toArray, List.set_cons_zero, List.set_cons_succ, i64_w, i32_w]); rfl)))
    refine Evt.ow_call HT_ hHeld rfl rfl rfl (by kernel_rfl) Try.func21 (by kernel_rfl) rfl #[.agg #[.string a0, .slice A1 l1.length c1, .slice A2 l2.length c2, .string a3], .string s] (by rfl) (by (try simp only [List.map_toArray, List.map_cons, List.map_nil]); first | done | rfl | (simp only [List.length_drop, List.length_take]; rfl)) ?_
    (with_reducible refine (outgoing_any _ (R.out.below hHeld.out) LN s).mono ?_)
    rintro e w_ ⟨v, rfl, ho, hb⟩
    obtain ⟨X3, x3, rfl, N3⟩ := Ro.sliceI ho; clear ho
    refine ⟨_, rfl, hb, fun hHeld_ => ?_⟩
    clear hHeld hb
    have hHeld := hHeld_
    clear hHeld_
    refine Evt.ow_norm (a' := ?_) ?_ ?_
    rotate_left
    · simp only [Act.put, List.setIfInBounds_toArray, List.set_cons_zero, List.set_cons_succ, i64_w, i32_w]; rfl
    refine Evt.ow_call HT_ hHeld rfl rfl rfl (by kernel_rfl) Try.func22 (by kernel_rfl) rfl #[.agg #[.string a0, .slice A1 l1.length c1, .slice A2 l2.length c2, .string a3], .string s] (by rfl) (by (try simp only [List.map_toArray, List.map_cons, List.map_nil]); first | done | rfl | (simp only [List.length_drop, List.length_take]; rfl)) ?_
    (with_reducible refine (Pe.refout_any _ (R.out.below hHeld.out) LN).mono ?_)
    rintro e w_ ⟨v, rfl, ho, hb⟩
    obtain ⟨X4, x4, rfl, N4⟩ := Ro.sliceI ho; clear ho; have n_ := Aside0.mk (N3.out.below hb); clear N3; have N3 := n_; clear n_
    refine ⟨_, rfl, hb, fun hHeld_ => ?_⟩
    clear hHeld hb
    have hHeld := hHeld_
    clear hHeld_
    refine Evt.ow_norm (a' := ?_) ?_ ?_
    rotate_left
    · simp only [Act.put, List.setIfInBounds_toArray, List.set_cons_zero, List.set_cons_succ, i64_w, i32_w]; rfl
    refine Evt.ow_call HT_ hHeld rfl rfl rfl (by kernel_rfl) Try.func20 (by kernel_rfl) rfl #[.slice X3 (outL (es l1) s).length x3, .slice X4 (outL (es l1) s).length x4] (by rfl) (by (try simp only [List.map_toArray, List.map_cons, List.map_nil]); first | done | rfl | (simp only [List.length_drop, List.length_take]; rfl)) ?_
    (with_reducible refine (eqI_any X3 x3 _ X4 x4 _ _ N3.out N4.out LO.out (decide_eq_true rfl)).mono ?_)
    rintro e w_ ⟨rfl, hb⟩
    refine ⟨_, rfl, hb, fun hHeld_ => ?_⟩
    clear hHeld hb
    have hHeld := hHeld_
    clear hHeld_
    refine Evt.ow_norm (a' := ?_) ?_ ?_
    rotate_left
    · simp only [Act.put, List.setIfInBounds_toArray, List.set_cons_zero, List.set_cons_succ, i64_w, i32_w]; rfl
    iterate 6 (first | (refine Evt.ow_off (a' := ?_) HT_ rfl rfl (by rfl) (by kernel_rfl) (fun _ _ _ h => h) ?_ ?_; rotate_left; (· (try simp only [Act.put, List.setIfInBounds_toArray, List.set_cons_zero, List.set_cons_succ, i64_w, i32_w]); rfl)) | (refine Evt.ow_pure (a' := ?_) (v := ?_) HT_ rfl rfl rfl (by rfl) (by kernel_rfl) (fun _ _ _ h => h) ?_ ?_ ?_; rotate_left 2; (· intro w'; go_simp; with_reducible rfl); (· (try simp only [Act.put, List.setIfInBounds_toArray, List.set_cons_zero, List.set_cons_succ, i64_w, i32_w]); rfl)) | (refine Evt.ow_load (a' := ?_) (v := ?_) HT_ HW_ hHeld rfl rfl rfl (by rfl) (by kernel_rfl) (fun _ _ _ h => h) ?_ ?_ ?_; rotate_left 2; (· intro w' hS_; obtain ⟨s0, s1, s2, s3⟩ := KP.out w' hS_.out; go_simp; with_reducible rfl); (· (try simp only [Act.put, List.setIfInBounds_toArray, List.set_cons_zero, List.set_cons_succ, i64_w, i32_w]); rfl)))
    refine Evt.ow_call HT_ hHeld rfl rfl rfl (by kernel_rfl) Try.func23 (by kernel_rfl) rfl #[.agg #[.string a0, .slice A1 l1.length c1, .slice A2 l2.length c2, .string a3], .string s] (by rfl) (by (try simp only [List.map_toArray, List.map_cons, List.map_nil]); first | done | rfl | (simp only [List.length_drop, List.length_take]; rfl)) ?_
    (with_reducible refine (incoming_any _ (R.out.below hHeld.out) LN s).mono ?_)
    rintro e w_ ⟨v, rfl, ho, hb⟩
    obtain ⟨X5, x5, rfl, N5⟩ := Ro.sliceI ho; clear ho
    refine ⟨_, rfl, hb, fun hHeld_ => ?_⟩
    clear hHeld hb
    have hHeld := hHeld_
    clear hHeld_
    refine Evt.ow_norm (a' := ?_) ?_ ?_
    rotate_left
    · simp only [Act.put, List.setIfInBounds_toArray, List.set_cons_zero, List.set_cons_succ, i64_w, i32_w]; rfl
    refine Evt.ow_call HT_ hHeld rfl rfl rfl (by kernel_rfl) Try.func24 (by kernel_rfl) rfl #[.agg #[.string a0, .slice A1 l1.length c1, .slice A2 l2.length c2, .string a3], .string s] (by rfl) (by (try simp only [List.map_toArray, List.map_cons, List.map_nil]); first | done | rfl | (simp only [List.length_drop, List.length_take]; rfl)) ?_
    (with_reducible refine (Pe.refin_any _ (R.out.below hHeld.out) LN).mono ?_)
    rintro e w_ ⟨v, rfl, ho, hb⟩
    obtain ⟨X6, x6, rfl, N6⟩ := Ro.sliceI ho; clear ho; have n_ := Aside0.mk (N5.out.below hb); clear N5; have N5 := n_; clear n_
    refine ⟨_, rfl, hb, fun hHeld_ => ?_⟩
    clear hHeld hb
    have hHeld := hHeld_
    clear hHeld_
    refine Evt.ow_norm (a' := ?_) ?_ ?_
    rotate_left
    · simp only [Act.put, List.setIfInBounds_toArray, List.set_cons_zero, List.set_cons_succ, i64_w, i32_w]; rfl
    refine Evt.ow_call HT_ hHeld rfl rfl rfl (by kernel_rfl) Try.func20 (by kernel_rfl) rfl #[.slice X5 (inL (es l1) s).length x5, .slice X6 (inL (es l1) s).length x6] (by rfl) (by (try simp only [List.map_toArray, List.map_cons, List.map_nil]); first | done | rfl | (simp only [List.length_drop, List.length_take]; rfl)) ?_
    (with_reducible refine (eqI_any X5 x5 _ X6 x6 _ _ N5.out N6.out LI.out (decide_eq_true rfl)).mono ?_)
    rintro e w_ ⟨rfl, hb⟩
    refine ⟨_, rfl, hb, fun hHeld_ => ?_⟩
    clear hHeld hb
    have hHeld := hHeld_
    clear hHeld_
    refine Evt.ow_norm (a' := ?_) ?_ ?_
    rotate_left
    · simp only [Act.put, List.setIfInBounds_toArray, List.set_cons_zero, List.set_cons_succ, i64_w, i32_w]; rfl
    iterate 2 (first | (refine Evt.ow_off (a' := ?_) HT_ rfl rfl (by rfl) (by kernel_rfl) (fun _ _ _ h => h) ?_ ?_; rotate_left; (· (try simp only [Act.put, List.setIfInBounds_toArray, List.set_cons_zero, List.set_cons_succ, i64_w, i32_w]); rfl)) | (refine Evt.ow_pure (a' := ?_) (v := ?_) HT_ rfl rfl rfl (by rfl) (by kernel_rfl) (fun _ _ _ h => h) ?_ ?_ ?_; rotate_left 2; (· intro w'; go_simp; with_reducible rfl); (· (try simp only [Act.put, List.setIfInBounds_toArray, List.set_cons_zero, List.set_cons_succ, i64_w, i32_w]); rfl)) | (refine Evt.ow_load (a' := ?_) (v := ?_) HT_ HW_ hHeld rfl rfl rfl (by rfl) (by kernel_rfl) (fun _ _ _ h => h) ?_ ?_ ?_; rotate_left 2; (· intro w' hS_; obtain ⟨s0, s1, s2, s3⟩ := KP.out w' hS_.out; go_simp; with_reducible rfl); (· (try simp only [Act.put, List.setIfInBounds_toArray, List.set_cons_zero, List.set_cons_succ, i64_w, i32_w]); rfl)))
    refine Evt.ow_done HT_ (by kernel_rfl) ?_
    refine Evt.gen_any (w0 := w2) hHeld.out ?_
    intro w3 hbx
    clear hHeld HT_ HW_ KP
    have n_R := Aside0.mk (R.out.below hbx)
    have n_BK2 := Aside0.mk (BK2.out.below hbx)
    have n_HB := Aside0.mk (below_step HB.out hbx)
    clear HB R BK2
    have R := n_R
    have BK2 := n_BK2
    have HB := n_HB
    clear hbx n_R n_BK2 n_HB
    have zBK2_0 : w3.cell? ⟨g2, 0, none⟩ = some (.string a0) := (blk_cell BK2.out.blk 0).trans rfl
    have zBK2_1 : w3.cell? ⟨g2, 1, none⟩ = some (.slice A1 l1.length c1) := (blk_cell BK2.out.blk 1).trans rfl
    have zBK2_2 : w3.cell? ⟨g2, 2, none⟩ = some (.slice A2 l2.length c2) := (blk_cell BK2.out.blk 2).trans rfl
    have zBK2_3 : w3.cell? ⟨g2, 3, none⟩ = some (.string a3) := (blk_cell BK2.out.blk 3).trans rfl
    go_wp2
    go_ret
    exact ⟨rfl, HB.out⟩
    skip
  · have TL : Aside0 (tl (es l1) = 1) := ⟨by unfold tl at hb ⊢; split at hb; rename_i hh; rw [if_pos hh]; omega⟩
    clear hb
    go_enter Try.func3, Try.ntmps3
    go_wp2_with (first | ((with_reducible refine gate_dst (N := 2) rfl ?_); refine box_event ?hg (N := 2) ?hd (cs := #[.string a0, .slice A1 l1.length c1, .slice A2 l2.length c2, .string a3]) (t := 25) ?hr ?_; (case hd => rfl); (case hg => rfl); (case hr => first | (go_simp; done) | (go_simp; rfl)); intro g2 hg w1 hbox hb; have hbx : Below w.heap.size w w1 := below_step (by repeat (first | (with_reducible first | exact Below.refl _ _ | apply below_alloc | apply pw_below_drewN | apply below_drew1) | exact Below.refl _ _)) hb; have n_R := Aside0.mk (R.out.below hbx); have n_HB := Aside0.mk (below_step HB.out hbx); clear HB R; have R := n_R; have HB := n_HB; clear hbx n_R n_HB; have BK2 := Aside0.mk (Bk.mk (hbox : Blk w1 g2 25 #[.string a0, .slice A1 l1.length c1, .slice A2 l2.length c2, .string a3])); clear hbox hg hb; have zBK2_0 : w1.cell? ⟨g2, 0, none⟩ = some (.string a0) := (blk_cell BK2.out.blk 0).trans rfl; have zBK2_1 : w1.cell? ⟨g2, 1, none⟩ = some (.slice A1 l1.length c1) := (blk_cell BK2.out.blk 1).trans rfl; have zBK2_2 : w1.cell? ⟨g2, 2, none⟩ = some (.slice A2 l2.length c2) := (blk_cell BK2.out.blk 2).trans rfl; have zBK2_3 : w1.cell? ⟨g2, 3, none⟩ = some (.string a3) := (blk_cell BK2.out.blk 3).trans rfl) | ((with_reducible refine gate_callee (f := 15) rfl ?_); refine goesL_ (some 6) rfl rfl Try.func15 (by kernel_rfl) rfl #[.agg #[.string a0, .slice A1 l1.length c1, .slice A2 l2.length c2, .string a3]] rfl (by (try simp only [List.map_toArray, List.map_cons, List.map_nil]); first | done | rfl | (simp only [List.length_drop, List.length_take]; rfl)) ?_; (with_reducible refine (Pe.tl_any _ (R.out.below (by repeat (first | (with_reducible first | exact Below.refl _ _ | apply below_alloc | apply pw_below_drewN | apply below_drew1) | exact Below.refl _ _))) SZ.out TL.out).mono ?_); rintro e w2 ⟨rfl, hb⟩; have hbx : Below w1.heap.size w1 w2 := below_step (by repeat (first | (with_reducible first | exact Below.refl _ _ | apply below_alloc | apply pw_below_drewN | apply below_drew1) | exact Below.refl _ _)) hb; clear zBK2_0 zBK2_1 zBK2_2 zBK2_3; have n_R := Aside0.mk (R.out.below hbx); have n_BK2 := Aside0.mk (BK2.out.below hbx); have n_HB := Aside0.mk (below_step HB.out hbx); clear HB R BK2; have R := n_R; have BK2 := n_BK2; have HB := n_HB; clear hbx n_R n_BK2 n_HB; clear hb; have zBK2_0 : w2.cell? ⟨g2, 0, none⟩ = some (.string a0) := (blk_cell BK2.out.blk 0).trans rfl; have zBK2_1 : w2.cell? ⟨g2, 1, none⟩ = some (.slice A1 l1.length c1) := (blk_cell BK2.out.blk 1).trans rfl; have zBK2_2 : w2.cell? ⟨g2, 2, none⟩ = some (.slice A2 l2.length c2) := (blk_cell BK2.out.blk 2).trans rfl; have zBK2_3 : w2.cell? ⟨g2, 3, none⟩ = some (.string a3) := (blk_cell BK2.out.blk 3).trans rfl; refine ⟨_, rfl, ?_⟩) | ((with_reducible refine gate_callee (f := 16) rfl ?_); refine goesL_ (some 8) rfl rfl Try.func16 (by kernel_rfl) rfl #[] rfl (by (try simp only [List.map_toArray, List.map_cons, List.map_nil]); first | done | rfl | (simp only [List.length_drop, List.length_take]; rfl)) ?_; (with_reducible refine (alive_any _).mono ?_); rintro e w3 ⟨rfl, hb⟩; have hbx : Below w2.heap.size w2 w3 := below_step (by repeat (first | (with_reducible first | exact Below.refl _ _ | apply below_alloc | apply pw_below_drewN | apply below_drew1) | exact Below.refl _ _)) hb; clear zBK2_0 zBK2_1 zBK2_2 zBK2_3; have n_R := Aside0.mk (R.out.below hbx); have n_BK2 := Aside0.mk (BK2.out.below hbx); have n_HB := Aside0.mk (below_step HB.out hbx); clear HB R BK2; have R := n_R; have BK2 := n_BK2; have HB := n_HB; clear hbx n_R n_BK2 n_HB; clear hb; have zBK2_0 : w3.cell? ⟨g2, 0, none⟩ = some (.string a0) := (blk_cell BK2.out.blk 0).trans rfl; have zBK2_1 : w3.cell? ⟨g2, 1, none⟩ = some (.slice A1 l1.length c1) := (blk_cell BK2.out.blk 1).trans rfl; have zBK2_2 : w3.cell? ⟨g2, 2, none⟩ = some (.slice A2 l2.length c2) := (blk_cell BK2.out.blk 2).trans rfl; have zBK2_3 : w3.cell? ⟨g2, 3, none⟩ = some (.string a3) := (blk_cell BK2.out.blk 3).trans rfl; refine ⟨_, rfl, ?_⟩))
    go_ret
    exact ⟨rfl, HB.out⟩
theorem nmr_walk (w : World) (k1 : List Value) (y1 : ByteArray × List S41 × List S101 × ByteArray) (h1 : KRung.K w y1 k1) (hq : QRung y1) (s : ByteArray) (_ : s.size ≤ maxLen) :
    Calls Try.prog 3 #[.agg k1.toArray, .string s] w fun x w' => x = .returned (.bool true) ∧ Below w.heap.size w w' := by
  obtain ⟨A1, c1, A2, c2, rfl, r1, hz⟩ := rung_form h1 hq
  exact nmr_core w r1 hz
end
end Go.Proofs.Ytmacdknicgfglaa.Gw
end
section
/- busbarlaw13.alive, walked. -/
namespace Go.Proofs.Ytmacdknicgfglaa.Gw
open Go.RowKit Go.Shelf Go.Proofs.YtmacdknicgfglaaW.PrintWords Go.Proofs.YtmacdknicgfglaaW.PrintMore Go.Proofs.YtmacdknicgfglaaW.PrintLast Go.Proofs.Ytmacdknicgfglaa.Chg Go.Proofs.Ytmacdknicgfglaa.Evt Go.Proofs.Ytmacdknicgfglaa.Impl Go.Proofs.Ytmacdknicgfglaa.Gp Go.Proofs.Ytmacdknicgfglaa.Mp
set_option linter.unusedVariables false
set_option linter.unusedSimpArgs false
set_option maxRecDepth 100000
section
variable {w w' : World} {A1 A2 : Option Addr} {c1 c2 : Nat} {l1 : List S41} {l2 : List S101} {a0 a3 : ByteArray}
/-- ShortestPath by its path. -/
theorem short_any (w : World) (h : Rg w A1 c1 l1 A2 c2 l2) (hok : okG (es l1) = true) {o : Option (List Int)} (ho : shortL (es l1) = o) {x : Int} (hx : errP o = x) :
    Calls Try.prog 39 #[.agg #[.string a0, .slice A1 l1.length c1, .slice A2 l2.length c2, .string a3]] w fun e w' => ∃ v, e = .returned (.tuple #[v, .int .i64 x]) ∧ Ro (Kd.int .i64) 3 w w' v (o.getD []) ∧ Below w.heap.size w w' := by subst ho; subst hx; exact short_any' w h hok
end
def al3 : List Ed := [(sL, sA), (sA, sR), (sL, sR)]
theorem al3_ok : okG (es (al3.map mkC)) = true := by rw [es_mk]; decide
theorem al3_count : countL (es (al3.map mkC)) = (2, 0) := by rw [es_mk]; decide +kernel
theorem al3_short : shortL (es (al3.map mkC)) = some [2] := by rw [es_mk]; decide +kernel
theorem al3_check : checkL (es (al3.map mkC)) = 0 := by rw [es_mk]; decide +kernel
abbrev c3A : Array Value := #[.int .i64 0, .int .i64 0, .int .i64 0, .string sL, .string sA, .int .i64 0, .int .i64 0, .int .i64 0, .string sA, .string sR, .int .i64 0, .int .i64 0, .int .i64 0, .string sL, .string sR]
theorem al3_rg {w : World} {g : Nat} (h : Bk w g 41 c3A) : Rg w (some ⟨g, 0, none⟩) 3 (al3.map mkC) none 0 [] := Rg.of_blk (l := al3) h (by decide)
theorem al3_c (w : World) {g : Nat} (h : Bk w g 41 c3A) : Calls Try.prog 37 #[.agg #[.string ⟨#[]⟩, .slice (some ⟨g, 0, none⟩) 3 3, .slice none 0 0, .string ⟨#[]⟩]] w fun e w' => e = .returned (.tuple #[.int .i64 2, .int .i64 0]) ∧ Below w.heap.size w w' :=
  count_any (l1 := al3.map mkC) (l2 := []) (A2 := none) (c2 := 0) w (al3_rg h) al3_ok al3_count
theorem al3_s (w : World) {g : Nat} (h : Bk w g 41 c3A) : Calls Try.prog 39 #[.agg #[.string ⟨#[]⟩, .slice (some ⟨g, 0, none⟩) 3 3, .slice none 0 0, .string ⟨#[]⟩]] w fun e w' => ∃ v, e = .returned (.tuple #[v, .int .i64 0]) ∧ Ro (Kd.int .i64) 3 w w' v ([2] : List Int) ∧ Below w.heap.size w w' :=
  short_any (l1 := al3.map mkC) (l2 := []) (A2 := none) (c2 := 0) w (al3_rg h) al3_ok al3_short rfl
theorem al3_k (w : World) {g : Nat} (h : Bk w g 41 c3A) : Calls Try.prog 33 #[.agg #[.string ⟨#[]⟩, .slice (some ⟨g, 0, none⟩) 3 3, .slice none 0 0, .string ⟨#[]⟩]] w fun e w' => e = .returned (.int .i64 0) ∧ Below w.heap.size w w' :=
  check_any (l1 := al3.map mkC) (l2 := []) (A2 := none) (c2 := 0) w (al3_rg h) al3_ok al3_check
theorem RwI.lit {w : World} {g : Nat} {l : List Int} (h : Bk w g 3 (encs (Value.int .i64) l).toArray) (hl : l.length ≤ 1000) : Rw (Kd.int .i64) w (some ⟨g, 0, none⟩) l.length l := by
  refine ⟨Nat.le_refl _, Kd.C_of_reads (enc := Value.int .i64) (d := 0) (h1 := fun _ => rfl) ⟨rfl, by omega, fun _ => ⟨_, rfl, fun j hj => ?_⟩⟩⟩
  rw [Addr.add_lit, Nat.zero_add]
  refine h.blk.cell j ?_
  simp [encs, List.getElem?_eq_getElem hj, List.getD_eq_getElem?_getD]
theorem al3_eq (A0 : Option Addr) (c0 : Nat) (w : World) {g : Nat} (h0 : Rw (Kd.int .i64) w A0 c0 [2]) (h1 : Bk w g 3 #[.int .i64 2]) :
    Calls Try.prog 20 #[.slice A0 1 c0, .slice (some ⟨g, 0, none⟩) 1 1] w fun e w' => e = .returned (.bool true) ∧ Below w.heap.size w w' :=
  eqI_any A0 c0 [2] (some ⟨g, 0, none⟩) 1 [2] w h0 (RwI.lit (l := [2]) h1 (by simp)) (by simp) (decide_eq_true rfl)
set_option maxHeartbeats 4000000 in
theorem alive13_any (w : World) : Calls Try.prog 32 #[] w fun e w' => e = .returned (.bool true) ∧ Below w.heap.size w w' := by
  have HB := Aside0.mk (Below.refl w.heap.size w)
  go_enter Try.func32, Try.ntmps32
  go_wp2_with (first | ((with_reducible refine gate_dst (N := 9) rfl ?_); go_loud (refine Evt.slice_event ?hg (N := 9) ?hd (cs := #[.int .i64 0, .int .i64 0, .int .i64 0, .string sL, .string sA, .int .i64 0, .int .i64 0, .int .i64 0, .string sA, .string sR, .int .i64 0, .int .i64 0, .int .i64 0, .string sL, .string sR]) (t := 41) (n := 3) ?hr ?_; (case hd => rfl); (case hg => rfl); (case hr => first | (go_simp; done) | (go_simp; rfl)); intro g9 hg w1 hbox hb; have hbx : Below w.heap.size w w1 := below_step (by repeat (first | (with_reducible first | exact Below.refl _ _ | apply below_alloc | apply pw_below_drewN | apply below_drew1) | exact Below.refl _ _)) hb; have n_HB := Aside0.mk (below_step HB.out hbx); clear HB ; have HB := n_HB; clear hbx n_HB; have BK9 := Aside0.mk (Bk.mk (hbox : Blk w1 g9 41 #[.int .i64 0, .int .i64 0, .int .i64 0, .string sL, .string sA, .int .i64 0, .int .i64 0, .int .i64 0, .string sA, .string sR, .int .i64 0, .int .i64 0, .int .i64 0, .string sL, .string sR])); clear hbox hg hb; have zBK9_0 : w1.cell? ⟨g9, 0, none⟩ = some (.int .i64 0) := (blk_cell BK9.out.blk 0).trans rfl; have zBK9_1 : w1.cell? ⟨g9, 1, none⟩ = some (.int .i64 0) := (blk_cell BK9.out.blk 1).trans rfl; have zBK9_2 : w1.cell? ⟨g9, 2, none⟩ = some (.int .i64 0) := (blk_cell BK9.out.blk 2).trans rfl; have zBK9_3 : w1.cell? ⟨g9, 3, none⟩ = some (.string sL) := (blk_cell BK9.out.blk 3).trans rfl; have zBK9_4 : w1.cell? ⟨g9, 4, none⟩ = some (.string sA) := (blk_cell BK9.out.blk 4).trans rfl; have zBK9_5 : w1.cell? ⟨g9, 5, none⟩ = some (.int .i64 0) := (blk_cell BK9.out.blk 5).trans rfl; have zBK9_6 : w1.cell? ⟨g9, 6, none⟩ = some (.int .i64 0) := (blk_cell BK9.out.blk 6).trans rfl; have zBK9_7 : w1.cell? ⟨g9, 7, none⟩ = some (.int .i64 0) := (blk_cell BK9.out.blk 7).trans rfl; have zBK9_8 : w1.cell? ⟨g9, 8, none⟩ = some (.string sA) := (blk_cell BK9.out.blk 8).trans rfl; have zBK9_9 : w1.cell? ⟨g9, 9, none⟩ = some (.string sR) := (blk_cell BK9.out.blk 9).trans rfl; have zBK9_10 : w1.cell? ⟨g9, 10, none⟩ = some (.int .i64 0) := (blk_cell BK9.out.blk 10).trans rfl; have zBK9_11 : w1.cell? ⟨g9, 11, none⟩ = some (.int .i64 0) := (blk_cell BK9.out.blk 11).trans rfl; have zBK9_12 : w1.cell? ⟨g9, 12, none⟩ = some (.int .i64 0) := (blk_cell BK9.out.blk 12).trans rfl; have zBK9_13 : w1.cell? ⟨g9, 13, none⟩ = some (.string sL) := (blk_cell BK9.out.blk 13).trans rfl; have zBK9_14 : w1.cell? ⟨g9, 14, none⟩ = some (.string sR) := (blk_cell BK9.out.blk 14).trans rfl)) | ((with_reducible refine gate_dst (N := 1) rfl ?_); go_loud (refine Evt.box2 ?hg (N := 1) ?hd (z := #[.string ⟨#[]⟩, .slice none 0 0, .slice none 0 0, .string ⟨#[]⟩]) (cs := #[.string ⟨#[]⟩, .slice (some ⟨g9, 0, none⟩) 3 3, .slice none 0 0, .string ⟨#[]⟩]) (T := 25) ?hr ?hg2 (.tmp 10) ?ho2 ?hd2 ?hy ?hx ?hi ?hz ?h1 ?_; (case hd => rfl); (case hg => rfl); (case hr => first | (go_simp; done) | (go_simp; rfl)); (case hg2 => rfl); (case ho2 => rfl); (case hd2 => rfl); (case hy => first | rfl | (go_simp; done)); (case hx => first | rfl | (go_simp; done)); (case hi => kernel_rfl); (case hz => rfl); (case h1 => first | rfl | (simp [Value.oneCell'])); intro g1 hg w2 hbox hb; have hbx : Below w1.heap.size w1 w2 := below_step (by repeat (first | (with_reducible first | exact Below.refl _ _ | apply below_alloc | apply pw_below_drewN | apply below_drew1) | exact Below.refl _ _)) hb; clear zBK9_0 zBK9_1 zBK9_2 zBK9_3 zBK9_4 zBK9_5 zBK9_6 zBK9_7 zBK9_8 zBK9_9 zBK9_10 zBK9_11 zBK9_12 zBK9_13 zBK9_14; have n_BK9 := Aside0.mk (BK9.out.below hbx); have n_HB := Aside0.mk (below_step HB.out hbx); clear HB BK9; have BK9 := n_BK9; have HB := n_HB; clear hbx n_BK9 n_HB; have BK1 := Aside0.mk (Bk.mk (hbox : Blk w2 g1 25 #[.string ⟨#[]⟩, .slice (some ⟨g9, 0, none⟩) 3 3, .slice none 0 0, .string ⟨#[]⟩])); clear hbox hg hb; have zBK9_0 : w2.cell? ⟨g9, 0, none⟩ = some (.int .i64 0) := (blk_cell BK9.out.blk 0).trans rfl; have zBK9_1 : w2.cell? ⟨g9, 1, none⟩ = some (.int .i64 0) := (blk_cell BK9.out.blk 1).trans rfl; have zBK9_2 : w2.cell? ⟨g9, 2, none⟩ = some (.int .i64 0) := (blk_cell BK9.out.blk 2).trans rfl; have zBK9_3 : w2.cell? ⟨g9, 3, none⟩ = some (.string sL) := (blk_cell BK9.out.blk 3).trans rfl; have zBK9_4 : w2.cell? ⟨g9, 4, none⟩ = some (.string sA) := (blk_cell BK9.out.blk 4).trans rfl; have zBK9_5 : w2.cell? ⟨g9, 5, none⟩ = some (.int .i64 0) := (blk_cell BK9.out.blk 5).trans rfl; have zBK9_6 : w2.cell? ⟨g9, 6, none⟩ = some (.int .i64 0) := (blk_cell BK9.out.blk 6).trans rfl; have zBK9_7 : w2.cell? ⟨g9, 7, none⟩ = some (.int .i64 0) := (blk_cell BK9.out.blk 7).trans rfl; have zBK9_8 : w2.cell? ⟨g9, 8, none⟩ = some (.string sA) := (blk_cell BK9.out.blk 8).trans rfl; have zBK9_9 : w2.cell? ⟨g9, 9, none⟩ = some (.string sR) := (blk_cell BK9.out.blk 9).trans rfl; have zBK9_10 : w2.cell? ⟨g9, 10, none⟩ = some (.int .i64 0) := (blk_cell BK9.out.blk 10).trans rfl; have zBK9_11 : w2.cell? ⟨g9, 11, none⟩ = some (.int .i64 0) := (blk_cell BK9.out.blk 11).trans rfl; have zBK9_12 : w2.cell? ⟨g9, 12, none⟩ = some (.int .i64 0) := (blk_cell BK9.out.blk 12).trans rfl; have zBK9_13 : w2.cell? ⟨g9, 13, none⟩ = some (.string sL) := (blk_cell BK9.out.blk 13).trans rfl; have zBK9_14 : w2.cell? ⟨g9, 14, none⟩ = some (.string sR) := (blk_cell BK9.out.blk 14).trans rfl; have zBK1_0 : w2.cell? ⟨g1, 0, none⟩ = some (.string ⟨#[]⟩) := (blk_cell BK1.out.blk 0).trans rfl; have zBK1_1 : w2.cell? ⟨g1, 1, none⟩ = some (.slice (some ⟨g9, 0, none⟩) 3 3) := (blk_cell BK1.out.blk 1).trans rfl; have zBK1_2 : w2.cell? ⟨g1, 2, none⟩ = some (.slice none 0 0) := (blk_cell BK1.out.blk 2).trans rfl; have zBK1_3 : w2.cell? ⟨g1, 3, none⟩ = some (.string ⟨#[]⟩) := (blk_cell BK1.out.blk 3).trans rfl)) | ((with_reducible refine gate_callee (f := 37) rfl ?_); go_loud (refine goesL_ (some 13) rfl rfl Try.func37 (by kernel_rfl) rfl #[.agg #[.string ⟨#[]⟩, .slice (some ⟨g9, 0, none⟩) 3 3, .slice none 0 0, .string ⟨#[]⟩]] rfl (by (try simp only [List.map_toArray, List.map_cons, List.map_nil]); first | done | rfl | (simp only [List.length_drop, List.length_take]; rfl)) ?_; (with_reducible refine (al3_c _ (BK9.out.below (by repeat (first | (with_reducible first | exact Below.refl _ _ | apply below_alloc | apply pw_below_drewN | apply below_drew1) | exact Below.refl _ _)))).mono ?_); rintro e w3 ⟨rfl, hb⟩; have hbx : Below w2.heap.size w2 w3 := below_step (by repeat (first | (with_reducible first | exact Below.refl _ _ | apply below_alloc | apply pw_below_drewN | apply below_drew1) | exact Below.refl _ _)) hb; clear zBK9_0 zBK9_1 zBK9_2 zBK9_3 zBK9_4 zBK9_5 zBK9_6 zBK9_7 zBK9_8 zBK9_9 zBK9_10 zBK9_11 zBK9_12 zBK9_13 zBK9_14 zBK1_0 zBK1_1 zBK1_2 zBK1_3; have n_BK9 := Aside0.mk (BK9.out.below hbx); have n_BK1 := Aside0.mk (BK1.out.below hbx); have n_HB := Aside0.mk (below_step HB.out hbx); clear HB BK9 BK1; have BK9 := n_BK9; have BK1 := n_BK1; have HB := n_HB; clear hbx n_BK9 n_BK1 n_HB; clear hb; have zBK9_0 : w3.cell? ⟨g9, 0, none⟩ = some (.int .i64 0) := (blk_cell BK9.out.blk 0).trans rfl; have zBK9_1 : w3.cell? ⟨g9, 1, none⟩ = some (.int .i64 0) := (blk_cell BK9.out.blk 1).trans rfl; have zBK9_2 : w3.cell? ⟨g9, 2, none⟩ = some (.int .i64 0) := (blk_cell BK9.out.blk 2).trans rfl; have zBK9_3 : w3.cell? ⟨g9, 3, none⟩ = some (.string sL) := (blk_cell BK9.out.blk 3).trans rfl; have zBK9_4 : w3.cell? ⟨g9, 4, none⟩ = some (.string sA) := (blk_cell BK9.out.blk 4).trans rfl; have zBK9_5 : w3.cell? ⟨g9, 5, none⟩ = some (.int .i64 0) := (blk_cell BK9.out.blk 5).trans rfl; have zBK9_6 : w3.cell? ⟨g9, 6, none⟩ = some (.int .i64 0) := (blk_cell BK9.out.blk 6).trans rfl; have zBK9_7 : w3.cell? ⟨g9, 7, none⟩ = some (.int .i64 0) := (blk_cell BK9.out.blk 7).trans rfl; have zBK9_8 : w3.cell? ⟨g9, 8, none⟩ = some (.string sA) := (blk_cell BK9.out.blk 8).trans rfl; have zBK9_9 : w3.cell? ⟨g9, 9, none⟩ = some (.string sR) := (blk_cell BK9.out.blk 9).trans rfl; have zBK9_10 : w3.cell? ⟨g9, 10, none⟩ = some (.int .i64 0) := (blk_cell BK9.out.blk 10).trans rfl; have zBK9_11 : w3.cell? ⟨g9, 11, none⟩ = some (.int .i64 0) := (blk_cell BK9.out.blk 11).trans rfl; have zBK9_12 : w3.cell? ⟨g9, 12, none⟩ = some (.int .i64 0) := (blk_cell BK9.out.blk 12).trans rfl; have zBK9_13 : w3.cell? ⟨g9, 13, none⟩ = some (.string sL) := (blk_cell BK9.out.blk 13).trans rfl; have zBK9_14 : w3.cell? ⟨g9, 14, none⟩ = some (.string sR) := (blk_cell BK9.out.blk 14).trans rfl; have zBK1_0 : w3.cell? ⟨g1, 0, none⟩ = some (.string ⟨#[]⟩) := (blk_cell BK1.out.blk 0).trans rfl; have zBK1_1 : w3.cell? ⟨g1, 1, none⟩ = some (.slice (some ⟨g9, 0, none⟩) 3 3) := (blk_cell BK1.out.blk 1).trans rfl; have zBK1_2 : w3.cell? ⟨g1, 2, none⟩ = some (.slice none 0 0) := (blk_cell BK1.out.blk 2).trans rfl; have zBK1_3 : w3.cell? ⟨g1, 3, none⟩ = some (.string ⟨#[]⟩) := (blk_cell BK1.out.blk 3).trans rfl; refine ⟨_, rfl, ?_⟩)) | ((with_reducible refine gate_callee (f := 39) rfl ?_); go_loud (refine goesL_ (some 18) rfl rfl Try.func39 (by kernel_rfl) rfl #[.agg #[.string ⟨#[]⟩, .slice (some ⟨g9, 0, none⟩) 3 3, .slice none 0 0, .string ⟨#[]⟩]] rfl (by (try simp only [List.map_toArray, List.map_cons, List.map_nil]); first | done | rfl | (simp only [List.length_drop, List.length_take]; rfl)) ?_; (with_reducible refine (al3_s _ (BK9.out.below (by repeat (first | (with_reducible first | exact Below.refl _ _ | apply below_alloc | apply pw_below_drewN | apply below_drew1) | exact Below.refl _ _)))).mono ?_); rintro e w4 ⟨v, rfl, ho, hb⟩; have hbx : Below w3.heap.size w3 w4 := below_step (by repeat (first | (with_reducible first | exact Below.refl _ _ | apply below_alloc | apply pw_below_drewN | apply below_drew1) | exact Below.refl _ _)) hb; obtain ⟨A_, c_, rfl, hw_⟩ := Ro.sliceI ho; clear zBK9_0 zBK9_1 zBK9_2 zBK9_3 zBK9_4 zBK9_5 zBK9_6 zBK9_7 zBK9_8 zBK9_9 zBK9_10 zBK9_11 zBK9_12 zBK9_13 zBK9_14 zBK1_0 zBK1_1 zBK1_2 zBK1_3; have n_BK9 := Aside0.mk (BK9.out.below hbx); have n_BK1 := Aside0.mk (BK1.out.below hbx); have n_HB := Aside0.mk (below_step HB.out hbx); clear HB BK9 BK1; have BK9 := n_BK9; have BK1 := n_BK1; have HB := n_HB; clear hbx n_BK9 n_BK1 n_HB; have TW := Aside0.mk (hw_.out); clear hb; clear ho hw_; have zBK9_0 : w4.cell? ⟨g9, 0, none⟩ = some (.int .i64 0) := (blk_cell BK9.out.blk 0).trans rfl; have zBK9_1 : w4.cell? ⟨g9, 1, none⟩ = some (.int .i64 0) := (blk_cell BK9.out.blk 1).trans rfl; have zBK9_2 : w4.cell? ⟨g9, 2, none⟩ = some (.int .i64 0) := (blk_cell BK9.out.blk 2).trans rfl; have zBK9_3 : w4.cell? ⟨g9, 3, none⟩ = some (.string sL) := (blk_cell BK9.out.blk 3).trans rfl; have zBK9_4 : w4.cell? ⟨g9, 4, none⟩ = some (.string sA) := (blk_cell BK9.out.blk 4).trans rfl; have zBK9_5 : w4.cell? ⟨g9, 5, none⟩ = some (.int .i64 0) := (blk_cell BK9.out.blk 5).trans rfl; have zBK9_6 : w4.cell? ⟨g9, 6, none⟩ = some (.int .i64 0) := (blk_cell BK9.out.blk 6).trans rfl; have zBK9_7 : w4.cell? ⟨g9, 7, none⟩ = some (.int .i64 0) := (blk_cell BK9.out.blk 7).trans rfl; have zBK9_8 : w4.cell? ⟨g9, 8, none⟩ = some (.string sA) := (blk_cell BK9.out.blk 8).trans rfl; have zBK9_9 : w4.cell? ⟨g9, 9, none⟩ = some (.string sR) := (blk_cell BK9.out.blk 9).trans rfl; have zBK9_10 : w4.cell? ⟨g9, 10, none⟩ = some (.int .i64 0) := (blk_cell BK9.out.blk 10).trans rfl; have zBK9_11 : w4.cell? ⟨g9, 11, none⟩ = some (.int .i64 0) := (blk_cell BK9.out.blk 11).trans rfl; have zBK9_12 : w4.cell? ⟨g9, 12, none⟩ = some (.int .i64 0) := (blk_cell BK9.out.blk 12).trans rfl; have zBK9_13 : w4.cell? ⟨g9, 13, none⟩ = some (.string sL) := (blk_cell BK9.out.blk 13).trans rfl; have zBK9_14 : w4.cell? ⟨g9, 14, none⟩ = some (.string sR) := (blk_cell BK9.out.blk 14).trans rfl; have zBK1_0 : w4.cell? ⟨g1, 0, none⟩ = some (.string ⟨#[]⟩) := (blk_cell BK1.out.blk 0).trans rfl; have zBK1_1 : w4.cell? ⟨g1, 1, none⟩ = some (.slice (some ⟨g9, 0, none⟩) 3 3) := (blk_cell BK1.out.blk 1).trans rfl; have zBK1_2 : w4.cell? ⟨g1, 2, none⟩ = some (.slice none 0 0) := (blk_cell BK1.out.blk 2).trans rfl; have zBK1_3 : w4.cell? ⟨g1, 3, none⟩ = some (.string ⟨#[]⟩) := (blk_cell BK1.out.blk 3).trans rfl; refine ⟨_, rfl, ?_⟩)) | (go_at_call 20; (with_reducible refine (al3_eq A_ c_ _ (TW.out.below (by repeat (first | (with_reducible first | exact Below.refl _ _ | apply below_alloc | apply pw_below_drewN | apply below_drew1) | exact Below.refl _ _))) (Bk.new_eq rfl)).mono ?_); rintro e w5 ⟨rfl, hb⟩; have hbx : Below w4.heap.size w4 w5 := below_step (by repeat (first | (with_reducible first | exact Below.refl _ _ | apply below_alloc | apply pw_below_drewN | apply below_drew1) | exact Below.refl _ _)) hb; clear zBK9_0 zBK9_1 zBK9_2 zBK9_3 zBK9_4 zBK9_5 zBK9_6 zBK9_7 zBK9_8 zBK9_9 zBK9_10 zBK9_11 zBK9_12 zBK9_13 zBK9_14 zBK1_0 zBK1_1 zBK1_2 zBK1_3; have n_BK9 := Aside0.mk (BK9.out.below hbx); have n_BK1 := Aside0.mk (BK1.out.below hbx); have n_TW := Aside0.mk (TW.out.below hbx); have n_HB := Aside0.mk (below_step HB.out hbx); clear HB BK9 BK1 TW; have BK9 := n_BK9; have BK1 := n_BK1; have TW := n_TW; have HB := n_HB; clear hbx n_BK9 n_BK1 n_TW n_HB; clear hb; have zBK9_0 : w5.cell? ⟨g9, 0, none⟩ = some (.int .i64 0) := (blk_cell BK9.out.blk 0).trans rfl; have zBK9_1 : w5.cell? ⟨g9, 1, none⟩ = some (.int .i64 0) := (blk_cell BK9.out.blk 1).trans rfl; have zBK9_2 : w5.cell? ⟨g9, 2, none⟩ = some (.int .i64 0) := (blk_cell BK9.out.blk 2).trans rfl; have zBK9_3 : w5.cell? ⟨g9, 3, none⟩ = some (.string sL) := (blk_cell BK9.out.blk 3).trans rfl; have zBK9_4 : w5.cell? ⟨g9, 4, none⟩ = some (.string sA) := (blk_cell BK9.out.blk 4).trans rfl; have zBK9_5 : w5.cell? ⟨g9, 5, none⟩ = some (.int .i64 0) := (blk_cell BK9.out.blk 5).trans rfl; have zBK9_6 : w5.cell? ⟨g9, 6, none⟩ = some (.int .i64 0) := (blk_cell BK9.out.blk 6).trans rfl; have zBK9_7 : w5.cell? ⟨g9, 7, none⟩ = some (.int .i64 0) := (blk_cell BK9.out.blk 7).trans rfl; have zBK9_8 : w5.cell? ⟨g9, 8, none⟩ = some (.string sA) := (blk_cell BK9.out.blk 8).trans rfl; have zBK9_9 : w5.cell? ⟨g9, 9, none⟩ = some (.string sR) := (blk_cell BK9.out.blk 9).trans rfl; have zBK9_10 : w5.cell? ⟨g9, 10, none⟩ = some (.int .i64 0) := (blk_cell BK9.out.blk 10).trans rfl; have zBK9_11 : w5.cell? ⟨g9, 11, none⟩ = some (.int .i64 0) := (blk_cell BK9.out.blk 11).trans rfl; have zBK9_12 : w5.cell? ⟨g9, 12, none⟩ = some (.int .i64 0) := (blk_cell BK9.out.blk 12).trans rfl; have zBK9_13 : w5.cell? ⟨g9, 13, none⟩ = some (.string sL) := (blk_cell BK9.out.blk 13).trans rfl; have zBK9_14 : w5.cell? ⟨g9, 14, none⟩ = some (.string sR) := (blk_cell BK9.out.blk 14).trans rfl; have zBK1_0 : w5.cell? ⟨g1, 0, none⟩ = some (.string ⟨#[]⟩) := (blk_cell BK1.out.blk 0).trans rfl; have zBK1_1 : w5.cell? ⟨g1, 1, none⟩ = some (.slice (some ⟨g9, 0, none⟩) 3 3) := (blk_cell BK1.out.blk 1).trans rfl; have zBK1_2 : w5.cell? ⟨g1, 2, none⟩ = some (.slice none 0 0) := (blk_cell BK1.out.blk 2).trans rfl; have zBK1_3 : w5.cell? ⟨g1, 3, none⟩ = some (.string ⟨#[]⟩) := (blk_cell BK1.out.blk 3).trans rfl) | (go_at_call 33; (with_reducible refine (al3_k _ (BK9.out.below (by repeat (first | (with_reducible first | exact Below.refl _ _ | apply below_alloc | apply pw_below_drewN | apply below_drew1) | exact Below.refl _ _)))).mono ?_); rintro e w6 ⟨rfl, hb⟩; have hbx : Below w5.heap.size w5 w6 := below_step (by repeat (first | (with_reducible first | exact Below.refl _ _ | apply below_alloc | apply pw_below_drewN | apply below_drew1) | exact Below.refl _ _)) hb; clear zBK9_0 zBK9_1 zBK9_2 zBK9_3 zBK9_4 zBK9_5 zBK9_6 zBK9_7 zBK9_8 zBK9_9 zBK9_10 zBK9_11 zBK9_12 zBK9_13 zBK9_14 zBK1_0 zBK1_1 zBK1_2 zBK1_3; have n_BK9 := Aside0.mk (BK9.out.below hbx); have n_BK1 := Aside0.mk (BK1.out.below hbx); have n_TW := Aside0.mk (TW.out.below hbx); have n_HB := Aside0.mk (below_step HB.out hbx); clear HB BK9 BK1 TW; have BK9 := n_BK9; have BK1 := n_BK1; have TW := n_TW; have HB := n_HB; clear hbx n_BK9 n_BK1 n_TW n_HB; clear hb; have zBK9_0 : w6.cell? ⟨g9, 0, none⟩ = some (.int .i64 0) := (blk_cell BK9.out.blk 0).trans rfl; have zBK9_1 : w6.cell? ⟨g9, 1, none⟩ = some (.int .i64 0) := (blk_cell BK9.out.blk 1).trans rfl; have zBK9_2 : w6.cell? ⟨g9, 2, none⟩ = some (.int .i64 0) := (blk_cell BK9.out.blk 2).trans rfl; have zBK9_3 : w6.cell? ⟨g9, 3, none⟩ = some (.string sL) := (blk_cell BK9.out.blk 3).trans rfl; have zBK9_4 : w6.cell? ⟨g9, 4, none⟩ = some (.string sA) := (blk_cell BK9.out.blk 4).trans rfl; have zBK9_5 : w6.cell? ⟨g9, 5, none⟩ = some (.int .i64 0) := (blk_cell BK9.out.blk 5).trans rfl; have zBK9_6 : w6.cell? ⟨g9, 6, none⟩ = some (.int .i64 0) := (blk_cell BK9.out.blk 6).trans rfl; have zBK9_7 : w6.cell? ⟨g9, 7, none⟩ = some (.int .i64 0) := (blk_cell BK9.out.blk 7).trans rfl; have zBK9_8 : w6.cell? ⟨g9, 8, none⟩ = some (.string sA) := (blk_cell BK9.out.blk 8).trans rfl; have zBK9_9 : w6.cell? ⟨g9, 9, none⟩ = some (.string sR) := (blk_cell BK9.out.blk 9).trans rfl; have zBK9_10 : w6.cell? ⟨g9, 10, none⟩ = some (.int .i64 0) := (blk_cell BK9.out.blk 10).trans rfl; have zBK9_11 : w6.cell? ⟨g9, 11, none⟩ = some (.int .i64 0) := (blk_cell BK9.out.blk 11).trans rfl; have zBK9_12 : w6.cell? ⟨g9, 12, none⟩ = some (.int .i64 0) := (blk_cell BK9.out.blk 12).trans rfl; have zBK9_13 : w6.cell? ⟨g9, 13, none⟩ = some (.string sL) := (blk_cell BK9.out.blk 13).trans rfl; have zBK9_14 : w6.cell? ⟨g9, 14, none⟩ = some (.string sR) := (blk_cell BK9.out.blk 14).trans rfl; have zBK1_0 : w6.cell? ⟨g1, 0, none⟩ = some (.string ⟨#[]⟩) := (blk_cell BK1.out.blk 0).trans rfl; have zBK1_1 : w6.cell? ⟨g1, 1, none⟩ = some (.slice (some ⟨g9, 0, none⟩) 3 3) := (blk_cell BK1.out.blk 1).trans rfl; have zBK1_2 : w6.cell? ⟨g1, 2, none⟩ = some (.slice none 0 0) := (blk_cell BK1.out.blk 2).trans rfl; have zBK1_3 : w6.cell? ⟨g1, 3, none⟩ = some (.string ⟨#[]⟩) := (blk_cell BK1.out.blk 3).trans rfl))
  go_ret
  exact ⟨rfl, HB.out⟩
end Go.Proofs.Ytmacdknicgfglaa.Gw
end
