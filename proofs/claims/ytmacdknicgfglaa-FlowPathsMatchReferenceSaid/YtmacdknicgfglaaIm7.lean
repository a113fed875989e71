/- Printed by a program of this session (see the other printed texts): the proofs that the code of some functions comes to their answers. -/
import Derived.Test.YtmacdknicgfglaaIm1
import Derived.Test.YtmacdknicgfglaaIm2
import Derived.Test.YtmacdknicgfglaaIm3
namespace Go.Proofs.Ytmacdknicgfglaa.Impl
open Go.RowKit Go.Proofs.YtmacdknicgfglaaW.PrintWords Go.Proofs.YtmacdknicgfglaaW.PrintLast Go.Proofs.YtmacdknicgfglaaW.PrintMore
attribute [local go_sem] max2_int min2_int max_two min_two
set_option linter.unusedVariables false
set_option linter.unusedSimpArgs false

/-! ### busbarref13_place, its code -/
set_option maxHeartbeats 8000000 in
set_option maxRecDepth 100000 in
theorem busbarref13_place.calls (k : Nat) (A0 : Option Addr) (c0 : Nat) (l0 : List ByteArray) (a1 : ByteArray) (r : Int) (w : World) (hr0 : Kd.C Kd.string w A0 l0.length l0) (hc0 : l0.length ≤ c0) (h : busbarref13_place.f k l0 a1 = some r) :
    Calls Try.prog 62 #[.slice A0 l0.length c0, .string a1] w fun e w' => e = .returned (.int .i64 r) ∧ Drawn0 w w' := by
  have HR0 := Aside0.mk hr0
  have HC0 := Aside0.mk hc0
  clear hr0 hc0
  have H : (busbarref13_place.l0 k l0 a1 0) = some r := h
  clear h
  have H' := Aside0.mk H
  clear H
  go_enter Try.func62, Try.ntmps62
  go_wp2
  go_loopg [5] k (fun kq v5 w' => ∃ (x5_1 : Int), v5 = .int .i64 x5_1 ∧ Aside0 (busbarref13_place.l0 kq l0 a1 x5_1 = some r) ∧ Aside0 (kq ≤ k) ∧ Drawn0 w w')
  case atStart => exact ⟨(0), (by first | rfl | (simp; done) | (simp [*]; done)), H', ⟨Nat.le_refl _⟩, by repeat (first | exact Drawn0.refl _ | apply Drawn0.step)⟩
  case round =>
    clear H'
    (try clear p2)
    obtain ⟨x5_1, rfl, HA, HK1, ⟨m1, rfl⟩⟩ := hrel
    cases gk with
    | zero => exact absurd HA.out (by simp [busbarref13_place.l0])
    | succ k1 =>
      have H := HA.out
      clear HA
      simp only [busbarref13_place.l0] at H
      by_cases c3 : x5_1 < (l0.length : Int)
      case neg => rw [if_neg c3] at H; have c3b0 : decide (x5_1 < (l0.length : Int)) = false := decide_eq_false c3; clear c3; obtain rfl := Option.some.inj H; go_wp2; go_ret; exact ⟨by first | rfl | (simp; done) | (simp [*]; done), by repeat (first | exact Drawn0.refl _ | apply Drawn0.step)⟩
      rw [if_pos c3] at H
      have c3b0 : decide (x5_1 < (l0.length : Int)) = true := decide_eq_true c3
      clear c3
      by_cases c4 : 0 ≤ x5_1
      case neg => rw [if_neg c4] at H; exact absurd H (by simp)
      rw [if_pos c4] at H
      have c4b0 : decide (0 ≤ x5_1) = true := decide_eq_true c4
      clear c4
      by_cases c5 : (rdOf ByteArray.empty l0 x5_1).toList = a1.toList
      case pos =>
        rw [if_pos c5] at H
        have c5b0 : ((rdOf ByteArray.empty l0 x5_1).toList == a1.toList) = true := beq_iff_eq.mpr c5
        have c5b1 : ((rdOf ByteArray.empty l0 x5_1).toList != a1.toList) = false := bne_eq_false_iff_eq.mpr c5
        clear c5
        obtain rfl := Option.some.inj H
        have p275 : 0 ≤ (x5_1 : Int) := of_decide_eq_true (by first | (with_reducible assumption) | assumption)
        have q275 : x5_1 < (l0.length : Int) := of_decide_eq_true (by first | (with_reducible assumption) | assumption)
        obtain ⟨ad275, e275, hx275_0⟩ := Kd.at_string HR0.out x5_1 p275 q275
        cases e275
        replace p275 := eq_true p275
        replace q275 := eq_true q275
        go_wp2
        go_ret
        exact ⟨by first | rfl | (simp; done) | (simp [*]; done), by repeat (first | exact Drawn0.refl _ | apply Drawn0.step)⟩
      rw [if_neg c5] at H
      have c5b0 : ((rdOf ByteArray.empty l0 x5_1).toList == a1.toList) = false := beq_eq_false_iff_ne.mpr c5
      have c5b1 : ((rdOf ByteArray.empty l0 x5_1).toList != a1.toList) = true := bne_iff_ne.mpr c5
      have H' := Aside0.mk H
      clear H
      have p275 : 0 ≤ (x5_1 : Int) := of_decide_eq_true (by first | (with_reducible assumption) | assumption)
      have q275 : x5_1 < (l0.length : Int) := of_decide_eq_true (by first | (with_reducible assumption) | assumption)
      obtain ⟨ad275, e275, hx275_0⟩ := Kd.at_string HR0.out x5_1 p275 q275
      cases e275
      replace p275 := eq_true p275
      replace q275 := eq_true q275
      go_wp2
      go_roundg k1
      case measure => have := HK1.out; omega
      case rel => exact ⟨(wrap64 (x5_1 + 1)), (by first | rfl | (simp; done) | (simp [*]; done)), H', ⟨by have := HK1.out; omega⟩, by repeat (first | exact Drawn0.refl _ | apply Drawn0.step)⟩


/-! ### busbarref13_CountPaths, its code -/
set_option maxHeartbeats 8000000 in
set_option maxRecDepth 100000 in
theorem busbarref13_CountPaths.calls (k : Nat) (a0_0 : ByteArray) (A0_1 : Option Addr) (c0_1 : Nat) (l0_1 : List (S41)) (A0_2 : Option Addr) (c0_2 : Nat) (l0_2 : List (S101)) (a0_3 : ByteArray) (r1 : Int) (r2 : Int) (w : World) (hr0_1 : Kd.C k41 w A0_1 l0_1.length l0_1) (hc0_1 : l0_1.length ≤ c0_1) (hr0_2 : Kd.C k101 w A0_2 l0_2.length l0_2) (hc0_2 : l0_2.length ≤ c0_2) (h : busbarref13_CountPaths.f k a0_0 l0_1 l0_2 a0_3 = some (r1, r2)) :
    Calls Try.prog 38 #[.agg #[.string a0_0, .slice A0_1 l0_1.length c0_1, .slice A0_2 l0_2.length c0_2, .string a0_3]] w fun e w' => e = .returned (.tuple #[.int .i64 r1, .int .i64 r2]) ∧ Below w.heap.size w w' := by
  have hu25 := Try.underlying25
  have HR0_1 := Aside0.mk hr0_1
  have HC0_1 := Aside0.mk hc0_1
  clear hr0_1 hc0_1
  have HR0_2 := Aside0.mk hr0_2
  have HC0_2 := Aside0.mk hc0_2
  clear hr0_2 hc0_2
  have HB := Aside0.mk (Below.refl w.heap.size w)
  have H : ((busbarref12_TopoSort.f k a0_0 l0_1 l0_2 a0_3).bind fun bt253 => (if bt253.2 = 0 then (if 0 ≤ (bt253.1.length : Int) then (if ((bt253.1.length : Int) : Int).toNat ≤ 35184372088832 then (busbarref13_CountPaths.l0 k bt253.1 (List.replicate ((bt253.1.length : Int) : Int).toNat 0) 0 a0_0 l0_1 l0_2 a0_3) else (none)) else (none)) else (some (0, bt253.2)))) = some (r1, r2) := h
  clear h
  replace H := Option.bind_eq_some_iff.mp H
  obtain ⟨⟨t253, t256⟩, A20, H⟩ := H
  replace H : (if t256 = 0 then (if 0 ≤ (t253.length : Int) then (if ((t253.length : Int) : Int).toNat ≤ 35184372088832 then (busbarref13_CountPaths.l0 k t253 (List.replicate ((t253.length : Int) : Int).toNat 0) 0 a0_0 l0_1 l0_2 a0_3) else (none)) else (none)) else (some (0, t256))) = some (r1, r2) := H
  have A2 := Aside0.mk A20
  clear A20
  by_cases c3 : t256 = 0
  case neg =>
    rw [if_neg c3] at H
    have c3b0 : (t256 == 0) = false := beq_eq_false_iff_ne.mpr c3
    have c3b1 : (t256 != 0) = true := bne_iff_ne.mpr c3
    simp only [Option.some.injEq, Prod.mk.injEq] at H
    obtain ⟨rfl, rfl⟩ := H
    go_enter Try.func38, Try.ntmps38
    go_wp2_with (first | ((with_reducible refine gate_dst (N := 1) rfl ?_); refine box_event ?hg (N := 1) ?hd (cs := #[.string a0_0, .slice A0_1 l0_1.length c0_1, .slice A0_2 l0_2.length c0_2, .string a0_3]) (t := 25) ?hr ?_; (case hd => rfl); (case hg => rfl); (case hr => first | (go_simp; done) | (go_simp; rfl)); intro gb252 hg w64 hbox hb; have n0_ := Aside0.mk (below_step (by repeat (first | (with_reducible first | exact HB.out | apply below_alloc | apply pw_below_drewN | apply below_drew1) | exact HB.out)) hb); have n1_ := Aside0.mk (hbox); have n2_ := Aside0.mk ((by rw [hg]; exact (below_size (by repeat (first | (with_reducible first | exact HB.out | apply below_alloc | apply pw_below_drewN | apply below_drew1) | exact HB.out))) : w.heap.size ≤ gb252)); have n3_ := Aside0.mk ((by rw [hg]; exact (below_size (by repeat (first | (with_reducible first | exact HB.out | apply below_alloc | apply pw_below_drewN | apply below_drew1) | exact HB.out))) : w.heap.size ≤ gb252)); clear HB; have HB := n0_; have BK252 := n1_; have GW252 := n2_; have GE252 := n3_; clear n0_ n1_ n2_ n3_; clear hb hbox hg; have hcz65_0 : w64.cell? ⟨gb252, 0, none⟩ = some (.string a0_0) := (blk_cell BK252.out 0).trans rfl; have hcz65_1 : w64.cell? ⟨gb252, 1, none⟩ = some (.slice A0_1 l0_1.length c0_1) := (blk_cell BK252.out 1).trans rfl; have hcz65_2 : w64.cell? ⟨gb252, 2, none⟩ = some (.slice A0_2 l0_2.length c0_2) := (blk_cell BK252.out 2).trans rfl; have hcz65_3 : w64.cell? ⟨gb252, 3, none⟩ = some (.string a0_3) := (blk_cell BK252.out 3).trans rfl; have hfz65_0 := blk_frozen BK252.out 0; have hfz65_1 := blk_frozen BK252.out 1; have hfz65_2 := blk_frozen BK252.out 2; have hfz65_3 := blk_frozen BK252.out 3) | ((with_reducible refine gate_callee (f := 28) rfl ?_); refine goesL_ (some 12) rfl rfl Try.func28 (by kernel_rfl) rfl #[.agg #[.string a0_0, .slice A0_1 l0_1.length c0_1, .slice A0_2 l0_2.length c0_2, .string a0_3]] rfl (by (try simp only [List.map_toArray, List.map_cons, List.map_nil]); first | done | rfl | (simp only [List.length_drop, List.length_take]; rfl)) ?_; (with_reducible refine (busbarref12_TopoSort.calls k a0_0 _ _ l0_1 _ _ l0_2 a0_3 t253 t256 _ ?side1 ?side2 ?side3 ?side4 A2.out).mono ?_); (case side1 => repeat (first | exact (Kd.C_below HR0_1.out HB.out) | (with_reducible refine Kd.C_alloc ?_ _) | (with_reducible refine Kd.C_drewN ?_ _) | (with_reducible refine Kd.C_drew ?_))); (case side2 => exact HC0_1.out); (case side3 => repeat (first | exact (Kd.C_below HR0_2.out HB.out) | (with_reducible refine Kd.C_alloc ?_ _) | (with_reducible refine Kd.C_drewN ?_ _) | (with_reducible refine Kd.C_drew ?_))); (case side4 => exact HC0_2.out); rintro e w66 ⟨v254, rfl, ho0, hb⟩; refine ⟨_, rfl, ?_⟩; have n0_ := Aside0.mk (Kd.R_lower ho0 (below_size (by repeat (first | (with_reducible first | exact HB.out | apply below_alloc | apply pw_below_drewN | apply below_drew1 | refine below_set ?_ GE252.out) | exact HB.out)))); have n1_ := Aside0.mk (blk_below (g := gb252) (o := .cells #[.string a0_0, .slice A0_1 l0_1.length c0_1, .slice A0_2 l0_2.length c0_2, .string a0_3] 25 (0, 0)) (by (with_reducible repeat (first | refine blk_drewN ?_ _ | refine blk_drew ?_ | refine blk_alloc ?_ _)); exact BK252.out) hb); have n2_ := Aside0.mk (below_step (by repeat (first | (with_reducible first | exact HB.out | apply below_alloc | apply pw_below_drewN | apply below_drew1 | refine below_set ?_ GE252.out) | exact HB.out)) hb); clear BK252; clear HB; have HO255 := n0_; have BK252 := n1_; have HB := n2_; clear n0_ n1_ n2_; (try clear hb); (try clear hb2); (try clear hk); (try clear hi); (try clear ho0)))
    go_ret2
    exact ⟨by first | rfl | (simp [errW_none, errW_some] <;> rfl) | (simp [*, errW_none, errW_some] <;> rfl), by repeat (first | (with_reducible first | exact HB.out | apply below_alloc | apply pw_below_drewN | apply below_drew1 | refine below_set ?_ GE252.out) | exact HB.out)⟩
  rw [if_pos c3] at H
  have c3b0 : (t256 == 0) = true := beq_iff_eq.mpr c3
  have c3b1 : (t256 != 0) = false := bne_eq_false_iff_eq.mpr c3
  clear c3
  by_cases c4 : 0 ≤ (t253.length : Int)
  case neg => rw [if_neg c4] at H; exact absurd H (by simp)
  rw [if_pos c4] at H
  have c4b0 := eq_true c4
  have c4b1 : decide (0 ≤ (t253.length : Int)) = true := decide_eq_true c4
  clear c4
  by_cases c5 : ((t253.length : Int) : Int).toNat ≤ 35184372088832
  case neg => rw [if_neg c5] at H; exact absurd H (by simp)
  rw [if_pos c5] at H
  have c5b0 := eq_true c5
  have c5b1 : decide (((t253.length : Int) : Int).toNat ≤ 35184372088832) = true := decide_eq_true c5
  clear c5
  obtain ⟨y257, hy257⟩ : ∃ y_ : List Int, y_ = (List.replicate ((t253.length : Int) : Int).toNat 0) := ⟨_, rfl⟩
  replace H : (busbarref13_CountPaths.l0 k t253 y257 0 a0_0 l0_1 l0_2 a0_3) = some (r1, r2) := by first | (rw [hy257]; with_reducible exact H) | (have H2_ := (Option.bind_some _ _).symm.trans H; rw [hy257]; with_reducible exact H2_) | (have H2_ := (Option.bind_some _ _).symm.trans H; with_reducible exact H2_) | with_reducible exact H | (rw [hy257]; exact H) | exact H
  have Ny257 := Aside0.mk hy257
  clear hy257
  have H' := Aside0.mk H
  clear H
  go_enter Try.func38, Try.ntmps38
  go_wp2_with (first | ((with_reducible refine gate_dst (N := 1) rfl ?_); refine box_event ?hg (N := 1) ?hd (cs := #[.string a0_0, .slice A0_1 l0_1.length c0_1, .slice A0_2 l0_2.length c0_2, .string a0_3]) (t := 25) ?hr ?_; (case hd => rfl); (case hg => rfl); (case hr => first | (go_simp; done) | (go_simp; rfl)); intro gb252 hg w6 hbox hb; have n0_ := Aside0.mk (below_step (by repeat (first | (with_reducible first | exact HB.out | apply below_alloc | apply pw_below_drewN | apply below_drew1) | exact HB.out)) hb); have n1_ := Aside0.mk (hbox); have n2_ := Aside0.mk ((by rw [hg]; exact (below_size (by repeat (first | (with_reducible first | exact HB.out | apply below_alloc | apply pw_below_drewN | apply below_drew1) | exact HB.out))) : w.heap.size ≤ gb252)); have n3_ := Aside0.mk ((by rw [hg]; exact (below_size (by repeat (first | (with_reducible first | exact HB.out | apply below_alloc | apply pw_below_drewN | apply below_drew1) | exact HB.out))) : w.heap.size ≤ gb252)); clear HB; have HB := n0_; have BK252 := n1_; have GW252 := n2_; have GE252 := n3_; clear n0_ n1_ n2_ n3_; clear hb hbox hg; have hcz7_0 : w6.cell? ⟨gb252, 0, none⟩ = some (.string a0_0) := (blk_cell BK252.out 0).trans rfl; have hcz7_1 : w6.cell? ⟨gb252, 1, none⟩ = some (.slice A0_1 l0_1.length c0_1) := (blk_cell BK252.out 1).trans rfl; have hcz7_2 : w6.cell? ⟨gb252, 2, none⟩ = some (.slice A0_2 l0_2.length c0_2) := (blk_cell BK252.out 2).trans rfl; have hcz7_3 : w6.cell? ⟨gb252, 3, none⟩ = some (.string a0_3) := (blk_cell BK252.out 3).trans rfl; have hfz7_0 := blk_frozen BK252.out 0; have hfz7_1 := blk_frozen BK252.out 1; have hfz7_2 := blk_frozen BK252.out 2; have hfz7_3 := blk_frozen BK252.out 3) | ((with_reducible refine gate_callee (f := 28) rfl ?_); refine goesL_ (some 12) rfl rfl Try.func28 (by kernel_rfl) rfl #[.agg #[.string a0_0, .slice A0_1 l0_1.length c0_1, .slice A0_2 l0_2.length c0_2, .string a0_3]] rfl (by (try simp only [List.map_toArray, List.map_cons, List.map_nil]); first | done | rfl | (simp only [List.length_drop, List.length_take]; rfl)) ?_; (with_reducible refine (busbarref12_TopoSort.calls k a0_0 _ _ l0_1 _ _ l0_2 a0_3 t253 t256 _ ?side1 ?side2 ?side3 ?side4 A2.out).mono ?_); (case side1 => repeat (first | exact (Kd.C_below HR0_1.out HB.out) | (with_reducible refine Kd.C_alloc ?_ _) | (with_reducible refine Kd.C_drewN ?_ _) | (with_reducible refine Kd.C_drew ?_))); (case side2 => exact HC0_1.out); (case side3 => repeat (first | exact (Kd.C_below HR0_2.out HB.out) | (with_reducible refine Kd.C_alloc ?_ _) | (with_reducible refine Kd.C_drewN ?_ _) | (with_reducible refine Kd.C_drew ?_))); (case side4 => exact HC0_2.out); rintro e w8 ⟨v254, rfl, ho0, hb⟩; refine ⟨_, rfl, ?_⟩; have n0_ := Aside0.mk (Kd.R_lower ho0 (below_size (by repeat (first | (with_reducible first | exact HB.out | apply below_alloc | apply pw_below_drewN | apply below_drew1 | refine below_set ?_ GE252.out) | exact HB.out)))); have n1_ := Aside0.mk (blk_below (g := gb252) (o := .cells #[.string a0_0, .slice A0_1 l0_1.length c0_1, .slice A0_2 l0_2.length c0_2, .string a0_3] 25 (0, 0)) (by (with_reducible repeat (first | refine blk_drewN ?_ _ | refine blk_drew ?_ | refine blk_alloc ?_ _)); exact BK252.out) hb); have n2_ := Aside0.mk (below_step (by repeat (first | (with_reducible first | exact HB.out | apply below_alloc | apply pw_below_drewN | apply below_drew1 | refine below_set ?_ GE252.out) | exact HB.out)) hb); clear BK252; clear HB; have HO255 := n0_; have BK252 := n1_; have HB := n2_; clear n0_ n1_ n2_; (try clear hb); (try clear hb2); (try clear hk); (try clear hi); (try clear ho0); obtain ⟨Ao9, co9, eo9⟩ := Kd.R_slice HO255.out; subst eo9) | ((with_reducible refine gate_dst (N := 20) rfl ?_); refine Kd.R_make (Kd.int .i64) _ 3 rfl (N := 20) rfl 32 _ _ rfl (t253.length : Int) rfl rfl Try.underlying32 (.int .i64 0) 8 info3 rfl (by decide) (by omega) 0 (ok := fun _ => True) (okp := fun _ => True) rfl (fun _ hk => hk) trivial (of_decide_eq_true (by first | (with_reducible assumption) | assumption)) (Nat.le_trans (Nat.mul_le_mul_right _ (of_decide_eq_true (by first | (with_reducible assumption) | assumption) : (t253.length : Int).toNat ≤ 35184372088832)) (by omega)) (Below.refl _ _) (Nat.le_refl _) ?_; intro v258 w10 ho11 hb hg_ hnew_; clear hg_ hnew_; (first | rw [← Ny257.out] at ho11 | (simp only [Int.reduceToNat] at ho11; rw [← Ny257.out] at ho11)); have n0_ := Aside0.mk (Kd.R_below (by (with_reducible repeat (first | apply Kd.R_alloc | apply Kd.R_drewN | apply Kd.R_drew)); exact HO255.out) hb); have n1_ := Aside0.mk (Kd.R_lower ho11 (below_size (by repeat (first | (with_reducible first | exact HB.out | apply below_alloc | apply pw_below_drewN | apply below_drew1 | refine below_set ?_ GE252.out) | exact HB.out)))); have n2_ := Aside0.mk (blk_below (g := gb252) (o := .cells #[.string a0_0, .slice A0_1 l0_1.length c0_1, .slice A0_2 l0_2.length c0_2, .string a0_3] 25 (0, 0)) (by (with_reducible repeat (first | refine blk_drewN ?_ _ | refine blk_drew ?_ | refine blk_alloc ?_ _)); exact BK252.out) hb); have n3_ := Aside0.mk (below_step (by repeat (first | (with_reducible first | exact HB.out | apply below_alloc | apply pw_below_drewN | apply below_drew1 | refine below_set ?_ GE252.out) | exact HB.out)) hb); clear HO255; clear BK252; clear HB; have HO255 := n0_; have HO259 := n1_; have BK252 := n2_; have HB := n3_; clear n0_ n1_ n2_ n3_; clear hb ho11))
  go_loopg [7] k (fun kq v7 w' => ∃ (x6_1 : List Int) (x7_1 : Int), v7 = .int .i64 x7_1 ∧ Aside0 (busbarref13_CountPaths.l0 kq t253 x6_1 x7_1 a0_0 l0_1 l0_2 a0_3 = some (r1, r2)) ∧ Aside0 (kq ≤ k) ∧ Aside0 (Kd.R Kd.string 9 w' w.heap.size (fun _ => True) (.slice Ao9 t253.length co9) t253) ∧ Aside0 (Kd.R (Kd.int .i64) 3 w' w.heap.size (fun _ => True) v258 x6_1) ∧ Aside0 (w'.heap[gb252]? = some (.cells #[.string a0_0, (.slice A0_1 l0_1.length c0_1), (.slice A0_2 l0_2.length c0_2), .string a0_3] 25 (0, 0))) ∧ Aside0 (Below w.heap.size w w'))
  case atStart => exact ⟨(y257), (0), (by first | rfl | (simp; done) | (simp [*]; done)), H', ⟨Nat.le_refl _⟩, ⟨by (with_reducible repeat (first | apply Kd.R_alloc | apply Kd.R_drewN | apply Kd.R_drew)); exact HO255.out⟩, ⟨by (with_reducible repeat (first | apply Kd.R_alloc | apply Kd.R_drewN | apply Kd.R_drew)); exact HO259.out⟩, ⟨by (with_reducible repeat (first | refine blk_drewN ?_ _ | refine blk_drew ?_ | refine blk_alloc ?_ _)); exact BK252.out⟩, ⟨by repeat (first | (with_reducible first | exact HB.out | apply below_alloc | apply pw_below_drewN | apply below_drew1 | refine below_set ?_ GE252.out) | exact HB.out)⟩⟩
  case round =>
    clear H'
    (try clear c2); (try clear p2); (try clear c3); (try clear c3b0); (try clear c3b1); (try clear c4); (try clear c4b0); (try clear c4b1); (try clear c5); (try clear c5b0); (try clear c5b1); (try clear hcz7_0); (try clear hcz7_1); (try clear hcz7_2); (try clear hcz7_3); (try clear hfz7_0); (try clear hfz7_1); (try clear hfz7_2); (try clear hfz7_3)
    obtain ⟨x6_1, x7_1, rfl, HA, HK1, HO_4, HO_6, BK252, HB⟩ := hrel
    cases gk with
    | zero => exact absurd HA.out (by simp [busbarref13_CountPaths.l0])
    | succ k1 =>
      have H := HA.out
      clear HA
      simp only [busbarref13_CountPaths.l0] at H
      by_cases c12 : x7_1 < (t253.length : Int)
      case neg => rw [if_neg c12] at H; have c12b0 : decide (x7_1 < (t253.length : Int)) = false := decide_eq_false c12; clear c12; simp only [Option.some.injEq, Prod.mk.injEq] at H; obtain ⟨rfl, rfl⟩ := H; go_wp2; go_ret2; exact ⟨by first | rfl | (simp [errW_none, errW_some] <;> rfl) | (simp [*, errW_none, errW_some] <;> rfl), by repeat (first | (with_reducible first | exact HB.out | apply below_alloc | apply pw_below_drewN | apply below_drew1 | refine below_set ?_ GE252.out) | exact HB.out)⟩
      rw [if_pos c12] at H
      have c12b0 : decide (x7_1 < (t253.length : Int)) = true := decide_eq_true c12
      clear c12
      by_cases c13 : 0 ≤ x7_1
      case neg => rw [if_neg c13] at H; exact absurd H (by simp)
      rw [if_pos c13] at H
      have c13b0 : decide (0 ≤ x7_1) = true := decide_eq_true c13
      clear c13
      have HC14 := Aside0.mk H
      clear H
      have p260 : 0 ≤ (x7_1 : Int) := of_decide_eq_true (by first | (with_reducible assumption) | assumption)
      have q260 : x7_1 < (t253.length : Int) := of_decide_eq_true (by first | (with_reducible assumption) | assumption)
      obtain ⟨ad260, e260, hx260_0⟩ := Kd.at_string (Kd.R_reads' HO_4.out).2.2 x7_1 p260 q260
      cases e260
      replace p260 := eq_true p260
      replace q260 := eq_true q260
      go_upto_if 31 with (fail)
      go_cut [] (fun wc => ∃ (kq : Nat) (x6_13 : List Int), Aside0 (busbarref13_CountPaths.j1 kq t253 x6_13 x7_1 a0_0 l0_1 l0_2 a0_3 = some (r1, r2)) ∧ Aside0 (kq ≤ k1) ∧ Aside0 (Kd.R Kd.string 9 wc w.heap.size (fun _ => True) (.slice (some ad260) t253.length co9) t253) ∧ Aside0 (Kd.R (Kd.int .i64) 3 wc w.heap.size (fun _ => True) v258 x6_13) ∧ Aside0 (wc.heap[gb252]? = some (.cells #[.string a0_0, (.slice A0_1 l0_1.length c0_1), (.slice A0_2 l0_2.length c0_2), .string a0_3] 25 (0, 0))) ∧ Aside0 (Below w.heap.size w wc))
      case first =>
        have H := HC14.out
        clear HC14
        by_cases c15 : (rdOf ByteArray.empty t253 x7_1).toList = ([76] : List UInt8)
        case neg =>
          rw [if_neg c15] at H
          have c15b0 : ((rdOf ByteArray.empty t253 x7_1).toList == ([76] : List UInt8)) = false := beq_eq_false_iff_ne.mpr c15
          have c15b1 : ((rdOf ByteArray.empty t253 x7_1).toList != ([76] : List UInt8)) = true := bne_iff_ne.mpr c15
          (first | rw [c15b0] | (simp only [i64_w, i32_w]; rw [c15b0]) | skip)
          have H' := Aside0.mk H
          clear H
          go_wp2
          go_meet
          case rel => exact ⟨_, (x6_1), H', ⟨by have := HK1.out; first | omega | exact Nat.le_refl _⟩, ⟨by (with_reducible repeat (first | apply Kd.R_alloc | apply Kd.R_drewN | apply Kd.R_drew)); exact HO_4.out⟩, ⟨by (with_reducible repeat (first | apply Kd.R_alloc | apply Kd.R_drewN | apply Kd.R_drew)); exact HO_6.out⟩, ⟨by (with_reducible repeat (first | refine blk_drewN ?_ _ | refine blk_drew ?_ | refine blk_alloc ?_ _)); exact BK252.out⟩, ⟨by repeat (first | (with_reducible first | exact HB.out | apply below_alloc | apply pw_below_drewN | apply below_drew1 | refine below_set ?_ GE252.out) | exact HB.out)⟩⟩
        rw [if_pos c15] at H
        have c15b0 : ((rdOf ByteArray.empty t253 x7_1).toList == ([76] : List UInt8)) = true := beq_iff_eq.mpr c15
        have c15b1 : ((rdOf ByteArray.empty t253 x7_1).toList != ([76] : List UInt8)) = false := bne_eq_false_iff_eq.mpr c15
        clear c15
        (first | rw [c15b0] | (simp only [i64_w, i32_w]; rw [c15b0]) | skip)
        by_cases c16 : x7_1 < (x6_1.length : Int)
        case neg => rw [if_neg c16] at H; exact absurd H (by simp)
        rw [if_pos c16] at H
        have c16b0 : decide (x7_1 < (x6_1.length : Int)) = true := decide_eq_true c16
        clear c16
        obtain ⟨y261, hy261⟩ : ∃ y_ : List Int, y_ = (x6_1.set (x7_1 : Int).toNat 1) := ⟨_, rfl⟩
        replace H : (busbarref13_CountPaths.j1 k1 t253 y261 x7_1 a0_0 l0_1 l0_2 a0_3) = some (r1, r2) := by first | (rw [hy261]; with_reducible exact H) | (have H2_ := (Option.bind_some _ _).symm.trans H; rw [hy261]; with_reducible exact H2_) | (have H2_ := (Option.bind_some _ _).symm.trans H; with_reducible exact H2_) | with_reducible exact H | (rw [hy261]; exact H) | exact H
        have Ny261 := Aside0.mk hy261
        clear hy261
        have H' := Aside0.mk H
        clear H
        have p17 : 0 ≤ (x7_1 : Int) := of_decide_eq_true (by first | (with_reducible assumption) | assumption)
        have q17 : (x7_1 : Int) < ((x6_1.length : Int) : Int) := of_decide_eq_true (by first | (with_reducible assumption) | assumption)
        obtain ⟨go17, co17, eo17, gb17, gl17, cl17, HG17⟩ := Kd.R_form HO_6.out (by omega)
        (first | cases eo17 | (injection eo17 with ea_ en_ ec_; (first | subst ea_ | (injection ea_ with ea_; subst ea_)); subst ec_; clear en_))
        have GB17 := Aside0.mk gb17
        have GG17 := Aside0.mk HG17
        clear gb17 gl17 HG17
        obtain ⟨hx17_0, hf17_0⟩ := Kd.R_celln 0 HO_6.out (x7_1 : Int) p17 q17
        replace p17 := eq_true p17
        replace q17 := eq_true q17
        have HP18 := Kd.R_putg HO_6.out (x7_1 : Int) 1
        go_wp2_with (first | ((with_reducible refine gate_store (t := 3) (p := 34) rfl ?_); refine store_event (t := 3) (p := 34) (v := ?vo_w19) (w1 := (wr.setCell ⟨go17, (x7_1 : Int).toNat, none⟩ (.int .i64 1))) ?hg ?ho ?hn ?hr ?_; (case ho => rfl); (case hg => rfl); (case hn => rfl); (case hr => first | (go_simp; done) | (go_simp; rfl)); intro w19 hw; have hg : wr.grownBy w19 (some go17) := (by rw [hw]; exact HP18.2); have hp_ : Kd.R (Kd.int .i64) 3 w19 w.heap.size (fun _ => True) (.slice (some ⟨go17, 0, none⟩) x6_1.length co17) y261 := (by rw [hw, Ny261.out]; exact HP18.1); clear HP18; have n0_ := Aside0.mk (Kd.R_over' (v := (.slice (some ⟨go17, 0, none⟩) x6_1.length co17)) (by (with_reducible repeat (first | apply Kd.R_alloc | apply Kd.R_drewN | apply Kd.R_drew)); exact HO_4.out) (Kd.R_typed HO_6.out) (by decide) hg); have n1_ := Aside0.mk (hp_); have n2_ := Aside0.mk (blk_grown (g := gb252) (o := .cells #[.string a0_0, .slice A0_1 l0_1.length c0_1, .slice A0_2 l0_2.length c0_2, .string a0_3] 25 (0, 0)) (by (with_reducible repeat (first | refine blk_drewN ?_ _ | refine blk_drew ?_ | refine blk_alloc ?_ _)); exact BK252.out) hg (Kd.R_ne HO_6.out BK252.out (by decide))); have n3_ := Aside0.mk ((by rw [hw]; exact below_set (HB.out) GB17.out : Below w.heap.size w w19)); clear HO_4; clear HO_6; clear BK252; clear HB; have HO_4 := n0_; have HO_6 := n1_; have BK252 := n2_; have HB := n3_; clear n0_ n1_ n2_ n3_; clear hg hw hp_))
        go_meet
        case rel => exact ⟨_, (y261), H', ⟨by have := HK1.out; first | omega | exact Nat.le_refl _⟩, ⟨by (with_reducible repeat (first | apply Kd.R_alloc | apply Kd.R_drewN | apply Kd.R_drew)); exact HO_4.out⟩, ⟨by (with_reducible repeat (first | apply Kd.R_alloc | apply Kd.R_drewN | apply Kd.R_drew)); exact HO_6.out⟩, ⟨by (with_reducible repeat (first | refine blk_drewN ?_ _ | refine blk_drew ?_ | refine blk_alloc ?_ _)); exact BK252.out⟩, ⟨by repeat (first | (with_reducible first | exact HB.out | apply below_alloc | apply pw_below_drewN | apply below_drew1 | refine below_set ?_ GE252.out) | exact HB.out)⟩⟩
      case rest =>
        clear HC14
        (try clear c1); (try clear p1); (try clear q1); (try clear hx1); (try clear hf1); (try clear c2); (try clear p2); (try clear q2); (try clear hx2); (try clear c3); (try clear c3b0); (try clear c3b1); (try clear c4); (try clear c4b0); (try clear c4b1); (try clear c5); (try clear c5b0); (try clear c5b1); (try clear c12); (try clear c12b0); (try clear c13); (try clear c13b0); (try clear c15); (try clear c15b0); (try clear c15b1); (try clear c16); (try clear c16b0); (try clear p17); (try clear q17); (try clear hx17); (try clear hf17); (try clear hcz7_0); (try clear hcz7_1); (try clear hcz7_2); (try clear hcz7_3); (try clear hfz7_0); (try clear hfz7_1); (try clear hfz7_2); (try clear hfz7_3); (try clear hx17_0); (try clear hx260_0); (try clear p17); (try clear p2); (try clear p260); (try clear q17); (try clear q260)
        obtain ⟨kq, x6_13, HA, HJ13, HO_4, HO_6, BK252, HB⟩ := hcut
        cases kq with
        | zero => exact absurd HA.out (by simp [busbarref13_CountPaths.j1])
        | succ kj13 =>
          have H := HA.out
          clear HA
          simp only [busbarref13_CountPaths.j1] at H
          have H' := Aside0.mk H
          clear H
          go_wp2
          go_loopg [8] kj13 (fun kq v8 w' => ∃ (x6_3 : List Int) (x8_3 : Int), v8 = .int .i64 x8_3 ∧ Aside0 (busbarref13_CountPaths.l1 kq t253 x6_3 x7_1 x8_3 a0_0 l0_1 l0_2 a0_3 = some (r1, r2)) ∧ Aside0 (kq ≤ kj13) ∧ Aside0 (Kd.R Kd.string 9 w' w.heap.size (fun _ => True) (.slice (some ad260) t253.length co9) t253) ∧ Aside0 (Kd.R (Kd.int .i64) 3 w' w.heap.size (fun _ => True) v258 x6_3) ∧ Aside0 (w'.heap[gb252]? = some (.cells #[.string a0_0, (.slice A0_1 l0_1.length c0_1), (.slice A0_2 l0_2.length c0_2), .string a0_3] 25 (0, 0))) ∧ Aside0 (Below w.heap.size w w'))
          case atStart => exact ⟨(x6_13), (0), (by first | rfl | (simp; done) | (simp [*]; done)), H', ⟨Nat.le_refl _⟩, ⟨by (with_reducible repeat (first | apply Kd.R_alloc | apply Kd.R_drewN | apply Kd.R_drew)); exact HO_4.out⟩, ⟨by (with_reducible repeat (first | apply Kd.R_alloc | apply Kd.R_drewN | apply Kd.R_drew)); exact HO_6.out⟩, ⟨by (with_reducible repeat (first | refine blk_drewN ?_ _ | refine blk_drew ?_ | refine blk_alloc ?_ _)); exact BK252.out⟩, ⟨by repeat (first | (with_reducible first | exact HB.out | apply below_alloc | apply pw_below_drewN | apply below_drew1 | refine below_set ?_ GE252.out) | exact HB.out)⟩⟩
          case round =>
            clear H'
            (try clear c1); (try clear p1); (try clear q1); (try clear hx1); (try clear hf1); (try clear c2); (try clear p2); (try clear q2); (try clear hx2); (try clear c3); (try clear c3b0); (try clear c3b1); (try clear c4); (try clear c4b0); (try clear c4b1); (try clear c5); (try clear c5b0); (try clear c5b1); (try clear c12); (try clear c12b0); (try clear c13); (try clear c13b0); (try clear c15); (try clear c15b0); (try clear c15b1); (try clear c16); (try clear c16b0); (try clear p17); (try clear q17); (try clear hx17); (try clear hf17); (try clear hcz7_0); (try clear hcz7_1); (try clear hcz7_2); (try clear hcz7_3); (try clear hfz7_0); (try clear hfz7_1); (try clear hfz7_2); (try clear hfz7_3); (try clear hx17_0); (try clear hx260_0); (try clear p1); (try clear p17); (try clear p2); (try clear p260); (try clear q1); (try clear q17); (try clear q2); (try clear q260)
            obtain ⟨x6_3, x8_3, rfl, HA, HK3, HO_4, HO_6, BK252, HB⟩ := hrel
            cases gk with
            | zero => exact absurd HA.out (by simp [busbarref13_CountPaths.l1])
            | succ k3 =>
              have H := HA.out
              clear HA
              simp only [busbarref13_CountPaths.l1] at H
              by_cases c20 : x8_3 < (l0_1.length : Int)
              case neg =>
                rw [if_neg c20] at H
                have c20b0 : decide (x8_3 < (l0_1.length : Int)) = false := decide_eq_false c20
                clear c20
                by_cases c44 : 0 ≤ x7_1
                case neg => rw [if_neg c44] at H; exact absurd H (by simp)
                rw [if_pos c44] at H
                have c44b0 : decide (0 ≤ x7_1) = true := decide_eq_true c44
                clear c44
                by_cases c45 : x7_1 < (x6_3.length : Int)
                case neg => rw [if_neg c45] at H; exact absurd H (by simp)
                rw [if_pos c45] at H
                have c45b0 : decide (x7_1 < (x6_3.length : Int)) = true := decide_eq_true c45
                clear c45
                by_cases c46 : (rd x6_3 x7_1) > 1073741824
                case neg =>
                  rw [if_neg c46] at H
                  have c46b0 : decide (1073741824 < (rd x6_3 x7_1)) = false := decide_eq_false c46
                  clear c46
                  by_cases c58 : x7_1 < (t253.length : Int)
                  case neg => rw [if_neg c58] at H; exact absurd H (by simp)
                  rw [if_pos c58] at H
                  have c58b0 : decide (x7_1 < (t253.length : Int)) = true := decide_eq_true c58
                  clear c58
                  by_cases c59 : (rdOf ByteArray.empty t253 x7_1).toList = ([82] : List UInt8)
                  case neg =>
                    rw [if_neg c59] at H
                    have c59b0 : ((rdOf ByteArray.empty t253 x7_1).toList == ([82] : List UInt8)) = false := beq_eq_false_iff_ne.mpr c59
                    have c59b1 : ((rdOf ByteArray.empty t253 x7_1).toList != ([82] : List UInt8)) = true := bne_iff_ne.mpr c59
                    have H' := Aside0.mk H
                    clear H
                    have hcz62_0 : wr.cell? ⟨gb252, 0, none⟩ = some (.string a0_0) := (blk_cell BK252.out 0).trans rfl
                    have hcz62_1 : wr.cell? ⟨gb252, 1, none⟩ = some (.slice A0_1 l0_1.length c0_1) := (blk_cell BK252.out 1).trans rfl
                    have hcz62_2 : wr.cell? ⟨gb252, 2, none⟩ = some (.slice A0_2 l0_2.length c0_2) := (blk_cell BK252.out 2).trans rfl
                    have hcz62_3 : wr.cell? ⟨gb252, 3, none⟩ = some (.string a0_3) := (blk_cell BK252.out 3).trans rfl
                    have hfz62_0 := blk_frozen BK252.out 0
                    have hfz62_1 := blk_frozen BK252.out 1
                    have hfz62_2 := blk_frozen BK252.out 2
                    have hfz62_3 := blk_frozen BK252.out 3
                    obtain ⟨Ao63, co63, eo63⟩ := Kd.R_slice HO_6.out
                    subst eo63
                    have p269 : 0 ≤ (x7_1 : Int) := of_decide_eq_true (by first | (with_reducible assumption) | assumption)
                    have q269 : x7_1 < (x6_3.length : Int) := of_decide_eq_true (by first | (with_reducible assumption) | assumption)
                    obtain ⟨ad269, e269, hx269_0⟩ := Kd.at_int (Kd.R_reads' HO_6.out).2.2 x7_1 p269 q269
                    cases e269
                    replace p269 := eq_true p269
                    replace q269 := eq_true q269
                    have p273 : 0 ≤ (x7_1 : Int) := of_decide_eq_true (by first | (with_reducible assumption) | assumption)
                    have q273 : x7_1 < (t253.length : Int) := of_decide_eq_true (by first | (with_reducible assumption) | assumption)
                    obtain ⟨ad273, e273, hx273_0⟩ := Kd.at_string (Kd.R_reads' HO_4.out).2.2 x7_1 p273 q273
                    obtain rfl : ad260 = ad273 := (by injection e273)
                    replace p273 := eq_true p273
                    replace q273 := eq_true q273
                    go_wp2
                    go_roundg k3
                    case measure => have := HK1.out; have := HJ13.out; have := HK3.out; omega
                    case rel => exact ⟨(x6_3), (wrap64 (x7_1 + 1)), (by first | rfl | (simp; done) | (simp [*]; done)), H', ⟨by have := HK1.out; have := HJ13.out; have := HK3.out; omega⟩, ⟨by (with_reducible repeat (first | apply Kd.R_alloc | apply Kd.R_drewN | apply Kd.R_drew)); exact HO_4.out⟩, ⟨by (with_reducible repeat (first | apply Kd.R_alloc | apply Kd.R_drewN | apply Kd.R_drew)); exact HO_6.out⟩, ⟨by (with_reducible repeat (first | refine blk_drewN ?_ _ | refine blk_drew ?_ | refine blk_alloc ?_ _)); exact BK252.out⟩, ⟨by repeat (first | (with_reducible first | exact HB.out | apply below_alloc | apply pw_below_drewN | apply below_drew1 | refine below_set ?_ GE252.out) | exact HB.out)⟩⟩
                  rw [if_pos c59] at H
                  have c59b0 : ((rdOf ByteArray.empty t253 x7_1).toList == ([82] : List UInt8)) = true := beq_iff_eq.mpr c59
                  have c59b1 : ((rdOf ByteArray.empty t253 x7_1).toList != ([82] : List UInt8)) = false := bne_eq_false_iff_eq.mpr c59
                  clear c59
                  simp only [Option.some.injEq, Prod.mk.injEq] at H
                  obtain ⟨rfl, rfl⟩ := H
                  have hcz60_0 : wr.cell? ⟨gb252, 0, none⟩ = some (.string a0_0) := (blk_cell BK252.out 0).trans rfl
                  have hcz60_1 : wr.cell? ⟨gb252, 1, none⟩ = some (.slice A0_1 l0_1.length c0_1) := (blk_cell BK252.out 1).trans rfl
                  have hcz60_2 : wr.cell? ⟨gb252, 2, none⟩ = some (.slice A0_2 l0_2.length c0_2) := (blk_cell BK252.out 2).trans rfl
                  have hcz60_3 : wr.cell? ⟨gb252, 3, none⟩ = some (.string a0_3) := (blk_cell BK252.out 3).trans rfl
                  have hfz60_0 := blk_frozen BK252.out 0
                  have hfz60_1 := blk_frozen BK252.out 1
                  have hfz60_2 := blk_frozen BK252.out 2
                  have hfz60_3 := blk_frozen BK252.out 3
                  obtain ⟨Ao61, co61, eo61⟩ := Kd.R_slice HO_6.out
                  subst eo61
                  have p269 : 0 ≤ (x7_1 : Int) := of_decide_eq_true (by first | (with_reducible assumption) | assumption)
                  have q269 : x7_1 < (x6_3.length : Int) := of_decide_eq_true (by first | (with_reducible assumption) | assumption)
                  obtain ⟨ad269, e269, hx269_0⟩ := Kd.at_int (Kd.R_reads' HO_6.out).2.2 x7_1 p269 q269
                  cases e269
                  replace p269 := eq_true p269
                  replace q269 := eq_true q269
                  have p273 : 0 ≤ (x7_1 : Int) := of_decide_eq_true (by first | (with_reducible assumption) | assumption)
                  have q273 : x7_1 < (t253.length : Int) := of_decide_eq_true (by first | (with_reducible assumption) | assumption)
                  obtain ⟨ad273, e273, hx273_0⟩ := Kd.at_string (Kd.R_reads' HO_4.out).2.2 x7_1 p273 q273
                  obtain rfl : ad260 = ad273 := (by injection e273)
                  replace p273 := eq_true p273
                  replace q273 := eq_true q273
                  have p274 : 0 ≤ (x7_1 : Int) := of_decide_eq_true (by first | (with_reducible assumption) | assumption)
                  have q274 : x7_1 < (x6_3.length : Int) := of_decide_eq_true (by first | (with_reducible assumption) | assumption)
                  obtain ⟨ad274, e274, hx274_0⟩ := Kd.at_int (Kd.R_reads' HO_6.out).2.2 x7_1 p274 q274
                  obtain rfl : ad269 = ad274 := (by injection e274)
                  replace p274 := eq_true p274
                  replace q274 := eq_true q274
                  go_wp2
                  go_ret2
                  exact ⟨by first | rfl | (simp [errW_none, errW_some] <;> rfl) | (simp [*, errW_none, errW_some] <;> rfl), by repeat (first | (with_reducible first | exact HB.out | apply below_alloc | apply pw_below_drewN | apply below_drew1 | refine below_set ?_ GE252.out) | exact HB.out)⟩
                rw [if_pos c46] at H
                have c46b0 : decide (1073741824 < (rd x6_3 x7_1)) = true := decide_eq_true c46
                clear c46
                obtain ⟨y270, hy270⟩ : ∃ y_ : List Int, y_ = (x6_3.set (x7_1 : Int).toNat 1073741824) := ⟨_, rfl⟩
                replace H : (if x7_1 < (t253.length : Int) then (if (rdOf ByteArray.empty t253 x7_1).toList = ([82] : List UInt8) then (some (rd y270 x7_1, 0)) else (busbarref13_CountPaths.l0 k3 t253 y270 (wrap64 (x7_1 + 1)) a0_0 l0_1 l0_2 a0_3)) else (none)) = some (r1, r2) := by first | (rw [hy270]; with_reducible exact H) | (have H2_ := (Option.bind_some _ _).symm.trans H; rw [hy270]; with_reducible exact H2_) | (have H2_ := (Option.bind_some _ _).symm.trans H; with_reducible exact H2_) | with_reducible exact H | (rw [hy270]; exact H) | exact H
                have Ny270 := Aside0.mk hy270
                clear hy270
                by_cases c48 : x7_1 < (t253.length : Int)
                case neg => rw [if_neg c48] at H; exact absurd H (by simp)
                rw [if_pos c48] at H
                have c48b0 : decide (x7_1 < (t253.length : Int)) = true := decide_eq_true c48
                clear c48
                by_cases c49 : (rdOf ByteArray.empty t253 x7_1).toList = ([82] : List UInt8)
                case neg =>
                  rw [if_neg c49] at H
                  have c49b0 : ((rdOf ByteArray.empty t253 x7_1).toList == ([82] : List UInt8)) = false := beq_eq_false_iff_ne.mpr c49
                  have c49b1 : ((rdOf ByteArray.empty t253 x7_1).toList != ([82] : List UInt8)) = true := bne_iff_ne.mpr c49
                  have H' := Aside0.mk H
                  clear H
                  have hcz54_0 : wr.cell? ⟨gb252, 0, none⟩ = some (.string a0_0) := (blk_cell BK252.out 0).trans rfl
                  have hcz54_1 : wr.cell? ⟨gb252, 1, none⟩ = some (.slice A0_1 l0_1.length c0_1) := (blk_cell BK252.out 1).trans rfl
                  have hcz54_2 : wr.cell? ⟨gb252, 2, none⟩ = some (.slice A0_2 l0_2.length c0_2) := (blk_cell BK252.out 2).trans rfl
                  have hcz54_3 : wr.cell? ⟨gb252, 3, none⟩ = some (.string a0_3) := (blk_cell BK252.out 3).trans rfl
                  have hfz54_0 := blk_frozen BK252.out 0
                  have hfz54_1 := blk_frozen BK252.out 1
                  have hfz54_2 := blk_frozen BK252.out 2
                  have hfz54_3 := blk_frozen BK252.out 3
                  obtain ⟨Ao55, co55, eo55⟩ := Kd.R_slice HO_6.out
                  subst eo55
                  have p269 : 0 ≤ (x7_1 : Int) := of_decide_eq_true (by first | (with_reducible assumption) | assumption)
                  have q269 : x7_1 < (x6_3.length : Int) := of_decide_eq_true (by first | (with_reducible assumption) | assumption)
                  obtain ⟨ad269, e269, hx269_0⟩ := Kd.at_int (Kd.R_reads' HO_6.out).2.2 x7_1 p269 q269
                  cases e269
                  replace p269 := eq_true p269
                  replace q269 := eq_true q269
                  have p47 : 0 ≤ (x7_1 : Int) := of_decide_eq_true (by first | (with_reducible assumption) | assumption)
                  have q47 : (x7_1 : Int) < ((x6_3.length : Int) : Int) := of_decide_eq_true (by first | (with_reducible assumption) | assumption)
                  obtain ⟨go47, co47, eo47, gb47, gl47, cl47, HG47⟩ := Kd.R_form HO_6.out (by omega)
                  (first | cases eo47 | (injection eo47 with ea_ en_ ec_; (first | subst ea_ | (injection ea_ with ea_; subst ea_)); subst ec_; clear en_))
                  have GB47 := Aside0.mk gb47
                  have GG47 := Aside0.mk HG47
                  clear gb47 gl47 HG47
                  (first | simp only [add_plain] at hx269_0 | skip)
                  obtain ⟨hx47_0, hf47_0⟩ := Kd.R_celln 0 HO_6.out (x7_1 : Int) p47 q47
                  replace p47 := eq_true p47
                  replace q47 := eq_true q47
                  have HP56 := Kd.R_putg HO_6.out (x7_1 : Int) 1073741824
                  go_wp2_with (first | ((with_reducible refine gate_store (t := 3) (p := 86) rfl ?_); refine store_event (t := 3) (p := 86) (v := ?vo_w57) (w1 := (wr.setCell ⟨go47, (x7_1 : Int).toNat, none⟩ (.int .i64 1073741824))) ?hg ?ho ?hn ?hr ?_; (case ho => rfl); (case hg => rfl); (case hn => rfl); (case hr => first | (go_simp; done) | (go_simp; rfl)); intro w57 hw; have hg : wr.grownBy w57 (some go47) := (by rw [hw]; exact HP56.2); have hp_ : Kd.R (Kd.int .i64) 3 w57 w.heap.size (fun _ => True) (.slice (some ⟨go47, 0, none⟩) x6_3.length co55) y270 := (by rw [hw, Ny270.out]; exact HP56.1); clear HP56; have n0_ := Aside0.mk (Kd.R_over' (v := (.slice (some ⟨go47, 0, none⟩) x6_3.length co55)) (by (with_reducible repeat (first | apply Kd.R_alloc | apply Kd.R_drewN | apply Kd.R_drew)); exact HO_4.out) (Kd.R_typed HO_6.out) (by decide) hg); have n1_ := Aside0.mk (hp_); have n2_ := Aside0.mk (blk_grown (g := gb252) (o := .cells #[.string a0_0, .slice A0_1 l0_1.length c0_1, .slice A0_2 l0_2.length c0_2, .string a0_3] 25 (0, 0)) (by (with_reducible repeat (first | refine blk_drewN ?_ _ | refine blk_drew ?_ | refine blk_alloc ?_ _)); exact BK252.out) hg (Kd.R_ne HO_6.out BK252.out (by decide))); have n3_ := Aside0.mk ((by rw [hw]; exact below_set (HB.out) GB47.out : Below w.heap.size w w57)); clear HO_4; clear HO_6; clear BK252; clear HB; have HO_4 := n0_; have HO_6 := n1_; have BK252 := n2_; have HB := n3_; clear n0_ n1_ n2_ n3_; clear hg hw hp_; have p271 : 0 ≤ (x7_1 : Int) := of_decide_eq_true (by first | (with_reducible assumption) | assumption); have q271 : x7_1 < (t253.length : Int) := of_decide_eq_true (by first | (with_reducible assumption) | assumption); obtain ⟨ad271, e271, hx271_0⟩ := Kd.at_string (Kd.R_reads' HO_4.out).2.2 x7_1 p271 q271; obtain rfl : ad260 = ad271 := (by injection e271); replace p271 := eq_true p271; replace q271 := eq_true q271))
                  go_roundg k3
                  case measure => have := HK1.out; have := HJ13.out; have := HK3.out; omega
                  case rel => exact ⟨(y270), (wrap64 (x7_1 + 1)), (by first | rfl | (simp; done) | (simp [*]; done)), H', ⟨by have := HK1.out; have := HJ13.out; have := HK3.out; omega⟩, ⟨by (with_reducible repeat (first | apply Kd.R_alloc | apply Kd.R_drewN | apply Kd.R_drew)); exact HO_4.out⟩, ⟨by (with_reducible repeat (first | apply Kd.R_alloc | apply Kd.R_drewN | apply Kd.R_drew)); exact HO_6.out⟩, ⟨by (with_reducible repeat (first | refine blk_drewN ?_ _ | refine blk_drew ?_ | refine blk_alloc ?_ _)); exact BK252.out⟩, ⟨by repeat (first | (with_reducible first | exact HB.out | apply below_alloc | apply pw_below_drewN | apply below_drew1 | refine below_set ?_ GE252.out) | exact HB.out)⟩⟩
                rw [if_pos c49] at H
                have c49b0 : ((rdOf ByteArray.empty t253 x7_1).toList == ([82] : List UInt8)) = true := beq_iff_eq.mpr c49
                have c49b1 : ((rdOf ByteArray.empty t253 x7_1).toList != ([82] : List UInt8)) = false := bne_eq_false_iff_eq.mpr c49
                clear c49
                simp only [Option.some.injEq, Prod.mk.injEq] at H
                obtain ⟨rfl, rfl⟩ := H
                have hcz50_0 : wr.cell? ⟨gb252, 0, none⟩ = some (.string a0_0) := (blk_cell BK252.out 0).trans rfl
                have hcz50_1 : wr.cell? ⟨gb252, 1, none⟩ = some (.slice A0_1 l0_1.length c0_1) := (blk_cell BK252.out 1).trans rfl
                have hcz50_2 : wr.cell? ⟨gb252, 2, none⟩ = some (.slice A0_2 l0_2.length c0_2) := (blk_cell BK252.out 2).trans rfl
                have hcz50_3 : wr.cell? ⟨gb252, 3, none⟩ = some (.string a0_3) := (blk_cell BK252.out 3).trans rfl
                have hfz50_0 := blk_frozen BK252.out 0
                have hfz50_1 := blk_frozen BK252.out 1
                have hfz50_2 := blk_frozen BK252.out 2
                have hfz50_3 := blk_frozen BK252.out 3
                obtain ⟨Ao51, co51, eo51⟩ := Kd.R_slice HO_6.out
                subst eo51
                have p269 : 0 ≤ (x7_1 : Int) := of_decide_eq_true (by first | (with_reducible assumption) | assumption)
                have q269 : x7_1 < (x6_3.length : Int) := of_decide_eq_true (by first | (with_reducible assumption) | assumption)
                obtain ⟨ad269, e269, hx269_0⟩ := Kd.at_int (Kd.R_reads' HO_6.out).2.2 x7_1 p269 q269
                cases e269
                replace p269 := eq_true p269
                replace q269 := eq_true q269
                have p47 : 0 ≤ (x7_1 : Int) := of_decide_eq_true (by first | (with_reducible assumption) | assumption)
                have q47 : (x7_1 : Int) < ((x6_3.length : Int) : Int) := of_decide_eq_true (by first | (with_reducible assumption) | assumption)
                obtain ⟨go47, co47, eo47, gb47, gl47, cl47, HG47⟩ := Kd.R_form HO_6.out (by omega)
                (first | cases eo47 | (injection eo47 with ea_ en_ ec_; (first | subst ea_ | (injection ea_ with ea_; subst ea_)); subst ec_; clear en_))
                have GB47 := Aside0.mk gb47
                have GG47 := Aside0.mk HG47
                clear gb47 gl47 HG47
                (first | simp only [add_plain] at hx269_0 | skip)
                obtain ⟨hx47_0, hf47_0⟩ := Kd.R_celln 0 HO_6.out (x7_1 : Int) p47 q47
                replace p47 := eq_true p47
                replace q47 := eq_true q47
                have HP52 := Kd.R_putg HO_6.out (x7_1 : Int) 1073741824
                go_wp2_with (first | ((with_reducible refine gate_store (t := 3) (p := 86) rfl ?_); refine store_event (t := 3) (p := 86) (v := ?vo_w53) (w1 := (wr.setCell ⟨go47, (x7_1 : Int).toNat, none⟩ (.int .i64 1073741824))) ?hg ?ho ?hn ?hr ?_; (case ho => rfl); (case hg => rfl); (case hn => rfl); (case hr => first | (go_simp; done) | (go_simp; rfl)); intro w53 hw; have hg : wr.grownBy w53 (some go47) := (by rw [hw]; exact HP52.2); have hp_ : Kd.R (Kd.int .i64) 3 w53 w.heap.size (fun _ => True) (.slice (some ⟨go47, 0, none⟩) x6_3.length co51) y270 := (by rw [hw, Ny270.out]; exact HP52.1); clear HP52; have n0_ := Aside0.mk (Kd.R_over' (v := (.slice (some ⟨go47, 0, none⟩) x6_3.length co51)) (by (with_reducible repeat (first | apply Kd.R_alloc | apply Kd.R_drewN | apply Kd.R_drew)); exact HO_4.out) (Kd.R_typed HO_6.out) (by decide) hg); have n1_ := Aside0.mk (hp_); have n2_ := Aside0.mk (blk_grown (g := gb252) (o := .cells #[.string a0_0, .slice A0_1 l0_1.length c0_1, .slice A0_2 l0_2.length c0_2, .string a0_3] 25 (0, 0)) (by (with_reducible repeat (first | refine blk_drewN ?_ _ | refine blk_drew ?_ | refine blk_alloc ?_ _)); exact BK252.out) hg (Kd.R_ne HO_6.out BK252.out (by decide))); have n3_ := Aside0.mk ((by rw [hw]; exact below_set (HB.out) GB47.out : Below w.heap.size w w53)); clear HO_4; clear HO_6; clear BK252; clear HB; have HO_4 := n0_; have HO_6 := n1_; have BK252 := n2_; have HB := n3_; clear n0_ n1_ n2_ n3_; clear hg hw hp_; have p271 : 0 ≤ (x7_1 : Int) := of_decide_eq_true (by first | (with_reducible assumption) | assumption); have q271 : x7_1 < (t253.length : Int) := of_decide_eq_true (by first | (with_reducible assumption) | assumption); obtain ⟨ad271, e271, hx271_0⟩ := Kd.at_string (Kd.R_reads' HO_4.out).2.2 x7_1 p271 q271; obtain rfl : ad260 = ad271 := (by injection e271); replace p271 := eq_true p271; replace q271 := eq_true q271; have p272 : 0 ≤ (x7_1 : Int) := of_decide_eq_true (by first | (with_reducible assumption) | assumption); have q272 : x7_1 < (y270.length : Int) := (by have h_ : (x7_1 : Int) < ((x6_3.length : Int) : Int) := of_decide_eq_true (by first | (with_reducible assumption) | assumption); first | (have e_ := (Kd.R_reads' HO_6.out).1; omega) | simpa only [Ny270.out, List.length_set] using h_); have ql272 : ((x7_1 : Int) < ((x6_3.length : Int) : Int)) = True := eq_true (of_decide_eq_true (by first | (with_reducible assumption) | assumption)); obtain ⟨ad272, e272, hx272_0⟩ := Kd.at_int (Kd.R_reads' HO_6.out).2.2 x7_1 p272 q272; obtain rfl : (⟨go47, 0, none⟩ : Addr) = ad272 := (by injection e272); (first | simp only [add_plain] at hx272_0 | simp only [add_at] at hx272_0 | simp only [Addr.add, Nat.zero_add] at hx272_0 | skip); replace p272 := eq_true p272; replace q272 := eq_true q272))
                go_ret2
                exact ⟨by first | rfl | (simp [errW_none, errW_some] <;> rfl) | (simp [*, errW_none, errW_some] <;> rfl), by repeat (first | (with_reducible first | exact HB.out | apply below_alloc | apply pw_below_drewN | apply below_drew1 | refine below_set ?_ GE252.out) | exact HB.out)⟩
              rw [if_pos c20] at H
              have c20b0 : decide (x8_3 < (l0_1.length : Int)) = true := decide_eq_true c20
              clear c20
              by_cases c21 : 0 ≤ x8_3
              case neg => rw [if_neg c21] at H; exact absurd H (by simp)
              rw [if_pos c21] at H
              have c21b0 : decide (0 ≤ x8_3) = true := decide_eq_true c21
              clear c21
              by_cases c22 : 0 ≤ x7_1
              case neg => rw [if_neg c22] at H; exact absurd H (by simp)
              rw [if_pos c22] at H
              have c22b0 : decide (0 ≤ x7_1) = true := decide_eq_true c22
              clear c22
              by_cases c23 : x7_1 < (t253.length : Int)
              case neg => rw [if_neg c23] at H; exact absurd H (by simp)
              rw [if_pos c23] at H
              have c23b0 : decide (x7_1 < (t253.length : Int)) = true := decide_eq_true c23
              clear c23
              by_cases c24 : ((rd_T41 l0_1 x8_3).f3).toList = (rdOf ByteArray.empty t253 x7_1).toList
              case neg =>
                rw [if_neg c24] at H
                have c24b0 : (((rd_T41 l0_1 x8_3).f3).toList == (rdOf ByteArray.empty t253 x7_1).toList) = false := beq_eq_false_iff_ne.mpr c24
                have c24b1 : (((rd_T41 l0_1 x8_3).f3).toList != (rdOf ByteArray.empty t253 x7_1).toList) = true := bne_iff_ne.mpr c24
                have H' := Aside0.mk H
                clear H
                have hcz42_0 : wr.cell? ⟨gb252, 0, none⟩ = some (.string a0_0) := (blk_cell BK252.out 0).trans rfl
                have hcz42_1 : wr.cell? ⟨gb252, 1, none⟩ = some (.slice A0_1 l0_1.length c0_1) := (blk_cell BK252.out 1).trans rfl
                have hcz42_2 : wr.cell? ⟨gb252, 2, none⟩ = some (.slice A0_2 l0_2.length c0_2) := (blk_cell BK252.out 2).trans rfl
                have hcz42_3 : wr.cell? ⟨gb252, 3, none⟩ = some (.string a0_3) := (blk_cell BK252.out 3).trans rfl
                have hfz42_0 := blk_frozen BK252.out 0
                have hfz42_1 := blk_frozen BK252.out 1
                have hfz42_2 := blk_frozen BK252.out 2
                have hfz42_3 := blk_frozen BK252.out 3
                try go_wp2
                have n0_ := Aside0.mk (Kd.R_drew HO_4.out)
                have n1_ := Aside0.mk (Kd.R_drew HO_6.out)
                have n2_ := Aside0.mk (blk_drew BK252.out)
                have n3_ := Aside0.mk (below_drew1 HB.out)
                clear HO_4
                clear HO_6
                clear BK252
                clear HB
                have HO_4 := n0_
                have HO_6 := n1_
                have BK252 := n2_
                have HB := n3_
                clear n0_ n1_ n2_ n3_
                have p262 : 0 ≤ (x8_3 : Int) := of_decide_eq_true (by first | (with_reducible assumption) | assumption)
                have q262 : x8_3 < (l0_1.length : Int) := of_decide_eq_true (by first | (with_reducible assumption) | assumption)
                obtain ⟨ad262, e262, hx262_0, hx262_1, hx262_2, hx262_3, hx262_4⟩ := at_T41 HR0_1.out x8_3 p262 q262
                have hw262_4 := hx262_4
                have hw262_3 := hx262_3
                have hw262_2 := hx262_2
                have hw262_1 := hx262_1
                have hw262_0 := hx262_0
                cases e262
                replace hx262_0 := (HB.out.cell (World.block_lt_of_cell? w _ hx262_0)).trans hx262_0
                replace hx262_1 := (HB.out.cell (World.block_lt_of_cell? w _ hx262_1)).trans hx262_1
                replace hx262_2 := (HB.out.cell (World.block_lt_of_cell? w _ hx262_2)).trans hx262_2
                replace hx262_3 := (HB.out.cell (World.block_lt_of_cell? w _ hx262_3)).trans hx262_3
                replace hx262_4 := (HB.out.cell (World.block_lt_of_cell? w _ hx262_4)).trans hx262_4
                replace p262 := eq_true p262
                replace q262 := eq_true q262
                have p263 : 0 ≤ (x7_1 : Int) := of_decide_eq_true (by first | (with_reducible assumption) | assumption)
                have q263 : x7_1 < (t253.length : Int) := of_decide_eq_true (by first | (with_reducible assumption) | assumption)
                obtain ⟨ad263, e263, hx263_0⟩ := Kd.at_string (Kd.R_reads' HO_4.out).2.2 x7_1 p263 q263
                obtain rfl : ad260 = ad263 := (by injection e263)
                replace p263 := eq_true p263
                replace q263 := eq_true q263
                refine start_ (n := 11) (S := fun w' => w'.cell? ⟨gb252, 0, none⟩ = some (.string a0_0) ∧ w'.cell? ⟨gb252, 1, none⟩ = some (.slice (some ad262) l0_1.length c0_1) ∧ w'.cell? ⟨gb252, 2, none⟩ = some (.slice A0_2 l0_2.length c0_2) ∧ w'.cell? ⟨gb252, 3, none⟩ = some (.string a0_3) ∧ w'.cell? (ad262.add ((x8_3).toNat * 5)) = some (.int .i64 ((rd_T41 l0_1 x8_3).f0)) ∧ w'.cell? ⟨(ad262.add ((x8_3).toNat * 5)).block, (ad262.add ((x8_3).toNat * 5)).off + 1, none⟩ = some (.int .i64 ((rd_T41 l0_1 x8_3).f1.f0)) ∧ w'.cell? ⟨(ad262.add ((x8_3).toNat * 5)).block, (ad262.add ((x8_3).toNat * 5)).off + 2, none⟩ = some (.int .i64 ((rd_T41 l0_1 x8_3).f1.f1)) ∧ w'.cell? ⟨(ad262.add ((x8_3).toNat * 5)).block, (ad262.add ((x8_3).toNat * 5)).off + 3, none⟩ = some (.string ((rd_T41 l0_1 x8_3).f2)) ∧ w'.cell? ⟨(ad262.add ((x8_3).toNat * 5)).block, (ad262.add ((x8_3).toNat * 5)).off + 4, none⟩ = some (.string ((rd_T41 l0_1 x8_3).f3)) ∧ w'.cell? (ad260.add (x7_1).toNat) = some (.string (rdOf ByteArray.empty t253 x7_1))) (ds := []) #[false, false, false, false, false, false, false, false, false, false, false] (by kernel_rfl) rfl rfl ⟨(blk_cell BK252.out 0).trans rfl, (blk_cell BK252.out 1).trans rfl, (blk_cell BK252.out 2).trans rfl, (blk_cell BK252.out 3).trans rfl, ((HB.out.cell (World.block_lt_of_cell? w _ hw262_0)).trans hw262_0), ((HB.out.cell (World.block_lt_of_cell? w _ hw262_1)).trans hw262_1), ((HB.out.cell (World.block_lt_of_cell? w _ hw262_2)).trans hw262_2), ((HB.out.cell (World.block_lt_of_cell? w _ hw262_3)).trans hw262_3), ((HB.out.cell (World.block_lt_of_cell? w _ hw262_4)).trans hw262_4), hx263_0⟩ (fun hHeld => ?_); refine with_tabW busbarref13_CountPaths.tab13 busbarref13_CountPaths.bits13 (fun HT_ HW_ => ?_)
                generalize wr.drew = w43 at HO_4 HO_6 BK252 HB hx262_0 hx262_1 hx262_2 hx262_3 hx262_4 hx263_0 hHeld ⊢
                refine pure_ (i := 0) (N := some 42) (v := ?_) (a' := ?_) #[true, false, false, false, false, false, false, false, false, false, false] rfl rfl (any_of HT_.out (by kernel_rfl)) (fun _ _ _ h => h) (Or.inl ⟨by rfl, ?_⟩) ?_ ?_
                rotate_left
                · intro w'
                  go_simp
                  with_reducible rfl
                rotate_left
                · simp only [Act.put, List.setIfInBounds_toArray, List.set_cons_zero, List.set_cons_succ, i64_w, i32_w]
                  rfl
                refine pure_ (i := 2) (N := some 44) (v := ?_) (a' := ?_) #[true, false, true, false, false, false, false, false, false, false, false] rfl rfl (any_of HT_.out (by kernel_rfl)) (fun _ _ _ h => h) (Or.inl ⟨by rfl, ?_⟩) ?_ ?_
                rotate_left
                · intro w'
                  go_simp
                  with_reducible rfl
                rotate_left
                · simp only [Act.put, List.setIfInBounds_toArray, List.set_cons_zero, List.set_cons_succ, i64_w, i32_w]
                  rfl
                refine pure_ (i := 6) (N := some 48) (v := ?_) (a' := ?_) #[true, false, true, false, false, false, true, false, false, false, false] rfl rfl (any_of HT_.out (by kernel_rfl)) (fun _ _ _ h => h) (Or.inl ⟨by rfl, ?_⟩) ?_ ?_
                rotate_left
                · intro w'
                  go_simp
                  with_reducible rfl
                rotate_left
                · simp only [Act.put, List.setIfInBounds_toArray, List.set_cons_zero, List.set_cons_succ, i64_w, i32_w]
                  rfl
                refine pure_ (i := 7) (N := some 49) (v := ?_) (a' := ?_) #[true, false, true, false, false, false, true, true, false, false, false] rfl rfl (any_of HT_.out (by kernel_rfl)) (fun _ _ _ h => h) (Or.inl ⟨by rfl, ?_⟩) ?_ ?_
                rotate_left
                · intro w'
                  go_simp
                  with_reducible rfl
                rotate_left
                · simp only [Act.put, List.setIfInBounds_toArray, List.set_cons_zero, List.set_cons_succ, i64_w, i32_w]
                  rfl
                refine pure_ (i := 8) (N := some 50) (v := ?_) (a' := ?_) #[true, false, true, false, false, false, true, true, true, false, false] rfl rfl (any_of HT_.out (by kernel_rfl)) (fun _ _ _ h => h) (Or.inl ⟨by rfl, ?_⟩) ?_ ?_
                rotate_left
                · intro w'
                  go_simp
                  with_reducible rfl
                rotate_left
                · simp only [Act.put, List.setIfInBounds_toArray, List.set_cons_zero, List.set_cons_succ, i64_w, i32_w]
                  rfl
                refine take_ (i := 1) (N := some 43) (v := ?_) (a' := ?_) #[true, true, true, false, false, false, true, true, true, false, false] rfl rfl (take_ofW HT_.out HW_.out (by kernel_rfl)) (fun _ _ _ h => h) (Or.inl ⟨by rfl, ?_⟩) hHeld ?_ ?_
                rotate_left
                · rintro w' ⟨s0, s1, s2, s3, s4, s5, s6, s7, s8, s9⟩
                  go_simp
                  with_reducible rfl
                rotate_left
                · simp only [Act.put, List.setIfInBounds_toArray, List.set_cons_zero, List.set_cons_succ, i64_w, i32_w]
                  rfl
                refine pure_ (i := 3) (N := some 45) (v := ?_) (a' := ?_) #[true, true, true, true, false, false, true, true, true, false, false] rfl rfl (any_of HT_.out (by kernel_rfl)) (fun _ _ _ h => h) (Or.inl ⟨by rfl, ?_⟩) ?_ ?_
                rotate_left
                · intro w'
                  go_simp
                  with_reducible rfl
                rotate_left
                · simp only [Act.put, List.setIfInBounds_toArray, List.set_cons_zero, List.set_cons_succ, i64_w, i32_w]
                  rfl
                refine pure_ (i := 4) (N := some 46) (v := ?_) (a' := ?_) #[true, true, true, true, true, false, true, true, true, false, false] rfl rfl (any_of HT_.out (by kernel_rfl)) (fun _ _ _ h => h) (Or.inl ⟨by rfl, ?_⟩) ?_ ?_
                rotate_left
                · intro w'
                  go_simp
                  with_reducible rfl
                rotate_left
                · simp only [Act.put, List.setIfInBounds_toArray, List.set_cons_zero, List.set_cons_succ, i64_w, i32_w]
                  rfl
                refine take_ (i := 5) (N := some 47) (v := ?_) (a' := ?_) #[true, true, true, true, true, true, true, true, true, false, false] rfl rfl (take_ofW HT_.out HW_.out (by kernel_rfl)) (fun _ _ _ h => h) (Or.inl ⟨by rfl, ?_⟩) hHeld ?_ ?_
                rotate_left
                · rintro w' ⟨s0, s1, s2, s3, s4, s5, s6, s7, s8, s9⟩
                  go_simp
                  with_reducible rfl
                rotate_left
                · simp only [Act.put, List.setIfInBounds_toArray, List.set_cons_zero, List.set_cons_succ, i64_w, i32_w]
                  rfl
                refine take_ (i := 9) (N := some 51) (v := ?_) (a' := ?_) #[true, true, true, true, true, true, true, true, true, true, false] rfl rfl (take_ofW HT_.out HW_.out (by kernel_rfl)) (fun _ _ _ h => h) (Or.inl ⟨by rfl, ?_⟩) hHeld ?_ ?_
                rotate_left
                · rintro w' ⟨s0, s1, s2, s3, s4, s5, s6, s7, s8, s9⟩
                  go_simp
                  with_reducible rfl
                rotate_left
                · simp only [Act.put, List.setIfInBounds_toArray, List.set_cons_zero, List.set_cons_succ, i64_w, i32_w]
                  rfl
                refine pure_ (i := 10) (N := some 52) (v := ?_) (a' := ?_) #[true, true, true, true, true, true, true, true, true, true, true] rfl rfl (any_of HT_.out (by kernel_rfl)) (fun _ _ _ h => h) (Or.inl ⟨by rfl, ?_⟩) ?_ ?_
                rotate_left
                · intro w'
                  go_simp
                  with_reducible rfl
                rotate_left
                · simp only [Act.put, List.setIfInBounds_toArray, List.set_cons_zero, List.set_cons_succ, i64_w, i32_w]
                  rfl
                refine done_ (done_of HT_.out (by kernel_rfl)) ?_
                try go_wp2
                go_roundg k3
                case measure => have := HK1.out; have := HJ13.out; have := HK3.out; omega
                case rel => exact ⟨(x6_3), (wrap64 (x8_3 + 1)), (by first | rfl | (simp; done) | (simp [*]; done)), H', ⟨by have := HK1.out; have := HJ13.out; have := HK3.out; omega⟩, ⟨by (with_reducible repeat (first | apply Kd.R_alloc | apply Kd.R_drewN | apply Kd.R_drew)); exact HO_4.out⟩, ⟨by (with_reducible repeat (first | apply Kd.R_alloc | apply Kd.R_drewN | apply Kd.R_drew)); exact HO_6.out⟩, ⟨by (with_reducible repeat (first | refine blk_drewN ?_ _ | refine blk_drew ?_ | refine blk_alloc ?_ _)); exact BK252.out⟩, ⟨by repeat (first | (with_reducible first | exact HB.out | apply below_alloc | apply pw_below_drewN | apply below_drew1 | refine below_set ?_ GE252.out) | exact HB.out)⟩⟩
              rw [if_pos c24] at H
              have c24b0 : (((rd_T41 l0_1 x8_3).f3).toList == (rdOf ByteArray.empty t253 x7_1).toList) = true := beq_iff_eq.mpr c24
              have c24b1 : (((rd_T41 l0_1 x8_3).f3).toList != (rdOf ByteArray.empty t253 x7_1).toList) = false := bne_eq_false_iff_eq.mpr c24
              clear c24
              have H' := Aside0.mk H
              clear H
              have hcz25_0 : wr.cell? ⟨gb252, 0, none⟩ = some (.string a0_0) := (blk_cell BK252.out 0).trans rfl
              have hcz25_1 : wr.cell? ⟨gb252, 1, none⟩ = some (.slice A0_1 l0_1.length c0_1) := (blk_cell BK252.out 1).trans rfl
              have hcz25_2 : wr.cell? ⟨gb252, 2, none⟩ = some (.slice A0_2 l0_2.length c0_2) := (blk_cell BK252.out 2).trans rfl
              have hcz25_3 : wr.cell? ⟨gb252, 3, none⟩ = some (.string a0_3) := (blk_cell BK252.out 3).trans rfl
              have hfz25_0 := blk_frozen BK252.out 0
              have hfz25_1 := blk_frozen BK252.out 1
              have hfz25_2 := blk_frozen BK252.out 2
              have hfz25_3 := blk_frozen BK252.out 3
              try go_wp2
              have n0_ := Aside0.mk (Kd.R_drew HO_4.out)
              have n1_ := Aside0.mk (Kd.R_drew HO_6.out)
              have n2_ := Aside0.mk (blk_drew BK252.out)
              have n3_ := Aside0.mk (below_drew1 HB.out)
              clear HO_4
              clear HO_6
              clear BK252
              clear HB
              have HO_4 := n0_
              have HO_6 := n1_
              have BK252 := n2_
              have HB := n3_
              clear n0_ n1_ n2_ n3_
              have p262 : 0 ≤ (x8_3 : Int) := of_decide_eq_true (by first | (with_reducible assumption) | assumption)
              have q262 : x8_3 < (l0_1.length : Int) := of_decide_eq_true (by first | (with_reducible assumption) | assumption)
              obtain ⟨ad262, e262, hx262_0, hx262_1, hx262_2, hx262_3, hx262_4⟩ := at_T41 HR0_1.out x8_3 p262 q262
              have hw262_4 := hx262_4
              have hw262_3 := hx262_3
              have hw262_2 := hx262_2
              have hw262_1 := hx262_1
              have hw262_0 := hx262_0
              cases e262
              replace hx262_0 := (HB.out.cell (World.block_lt_of_cell? w _ hx262_0)).trans hx262_0
              replace hx262_1 := (HB.out.cell (World.block_lt_of_cell? w _ hx262_1)).trans hx262_1
              replace hx262_2 := (HB.out.cell (World.block_lt_of_cell? w _ hx262_2)).trans hx262_2
              replace hx262_3 := (HB.out.cell (World.block_lt_of_cell? w _ hx262_3)).trans hx262_3
              replace hx262_4 := (HB.out.cell (World.block_lt_of_cell? w _ hx262_4)).trans hx262_4
              replace p262 := eq_true p262
              replace q262 := eq_true q262
              have p263 : 0 ≤ (x7_1 : Int) := of_decide_eq_true (by first | (with_reducible assumption) | assumption)
              have q263 : x7_1 < (t253.length : Int) := of_decide_eq_true (by first | (with_reducible assumption) | assumption)
              obtain ⟨ad263, e263, hx263_0⟩ := Kd.at_string (Kd.R_reads' HO_4.out).2.2 x7_1 p263 q263
              obtain rfl : ad260 = ad263 := (by injection e263)
              replace p263 := eq_true p263
              replace q263 := eq_true q263
              refine start_ (n := 11) (S := fun w' => w'.cell? ⟨gb252, 0, none⟩ = some (.string a0_0) ∧ w'.cell? ⟨gb252, 1, none⟩ = some (.slice (some ad262) l0_1.length c0_1) ∧ w'.cell? ⟨gb252, 2, none⟩ = some (.slice A0_2 l0_2.length c0_2) ∧ w'.cell? ⟨gb252, 3, none⟩ = some (.string a0_3) ∧ w'.cell? (ad262.add ((x8_3).toNat * 5)) = some (.int .i64 ((rd_T41 l0_1 x8_3).f0)) ∧ w'.cell? ⟨(ad262.add ((x8_3).toNat * 5)).block, (ad262.add ((x8_3).toNat * 5)).off + 1, none⟩ = some (.int .i64 ((rd_T41 l0_1 x8_3).f1.f0)) ∧ w'.cell? ⟨(ad262.add ((x8_3).toNat * 5)).block, (ad262.add ((x8_3).toNat * 5)).off + 2, none⟩ = some (.int .i64 ((rd_T41 l0_1 x8_3).f1.f1)) ∧ w'.cell? ⟨(ad262.add ((x8_3).toNat * 5)).block, (ad262.add ((x8_3).toNat * 5)).off + 3, none⟩ = some (.string ((rd_T41 l0_1 x8_3).f2)) ∧ w'.cell? ⟨(ad262.add ((x8_3).toNat * 5)).block, (ad262.add ((x8_3).toNat * 5)).off + 4, none⟩ = some (.string ((rd_T41 l0_1 x8_3).f3)) ∧ w'.cell? (ad260.add (x7_1).toNat) = some (.string (rdOf ByteArray.empty t253 x7_1))) (ds := []) #[false, false, false, false, false, false, false, false, false, false, false] (by kernel_rfl) rfl rfl ⟨(blk_cell BK252.out 0).trans rfl, (blk_cell BK252.out 1).trans rfl, (blk_cell BK252.out 2).trans rfl, (blk_cell BK252.out 3).trans rfl, ((HB.out.cell (World.block_lt_of_cell? w _ hw262_0)).trans hw262_0), ((HB.out.cell (World.block_lt_of_cell? w _ hw262_1)).trans hw262_1), ((HB.out.cell (World.block_lt_of_cell? w _ hw262_2)).trans hw262_2), ((HB.out.cell (World.block_lt_of_cell? w _ hw262_3)).trans hw262_3), ((HB.out.cell (World.block_lt_of_cell? w _ hw262_4)).trans hw262_4), hx263_0⟩ (fun hHeld => ?_); refine with_tabW busbarref13_CountPaths.tab13 busbarref13_CountPaths.bits13 (fun HT_ HW_ => ?_)
              generalize wr.drew = w26 at HO_4 HO_6 BK252 HB hx262_0 hx262_1 hx262_2 hx262_3 hx262_4 hx263_0 hHeld ⊢
              refine pure_ (i := 0) (N := some 42) (v := ?_) (a' := ?_) #[true, false, false, false, false, false, false, false, false, false, false] rfl rfl (any_of HT_.out (by kernel_rfl)) (fun _ _ _ h => h) (Or.inl ⟨by rfl, ?_⟩) ?_ ?_
              rotate_left
              · intro w'
                go_simp
                with_reducible rfl
              rotate_left
              · simp only [Act.put, List.setIfInBounds_toArray, List.set_cons_zero, List.set_cons_succ, i64_w, i32_w]
                rfl
              refine pure_ (i := 2) (N := some 44) (v := ?_) (a' := ?_) #[true, false, true, false, false, false, false, false, false, false, false] rfl rfl (any_of HT_.out (by kernel_rfl)) (fun _ _ _ h => h) (Or.inl ⟨by rfl, ?_⟩) ?_ ?_
              rotate_left
              · intro w'
                go_simp
                with_reducible rfl
              rotate_left
              · simp only [Act.put, List.setIfInBounds_toArray, List.set_cons_zero, List.set_cons_succ, i64_w, i32_w]
                rfl
              refine pure_ (i := 6) (N := some 48) (v := ?_) (a' := ?_) #[true, false, true, false, false, false, true, false, false, false, false] rfl rfl (any_of HT_.out (by kernel_rfl)) (fun _ _ _ h => h) (Or.inl ⟨by rfl, ?_⟩) ?_ ?_
              rotate_left
              · intro w'
                go_simp
                with_reducible rfl
              rotate_left
              · simp only [Act.put, List.setIfInBounds_toArray, List.set_cons_zero, List.set_cons_succ, i64_w, i32_w]
                rfl
              refine pure_ (i := 7) (N := some 49) (v := ?_) (a' := ?_) #[true, false, true, false, false, false, true, true, false, false, false] rfl rfl (any_of HT_.out (by kernel_rfl)) (fun _ _ _ h => h) (Or.inl ⟨by rfl, ?_⟩) ?_ ?_
              rotate_left
              · intro w'
                go_simp
                with_reducible rfl
              rotate_left
              · simp only [Act.put, List.setIfInBounds_toArray, List.set_cons_zero, List.set_cons_succ, i64_w, i32_w]
                rfl
              refine pure_ (i := 8) (N := some 50) (v := ?_) (a' := ?_) #[true, false, true, false, false, false, true, true, true, false, false] rfl rfl (any_of HT_.out (by kernel_rfl)) (fun _ _ _ h => h) (Or.inl ⟨by rfl, ?_⟩) ?_ ?_
              rotate_left
              · intro w'
                go_simp
                with_reducible rfl
              rotate_left
              · simp only [Act.put, List.setIfInBounds_toArray, List.set_cons_zero, List.set_cons_succ, i64_w, i32_w]
                rfl
              refine take_ (i := 1) (N := some 43) (v := ?_) (a' := ?_) #[true, true, true, false, false, false, true, true, true, false, false] rfl rfl (take_ofW HT_.out HW_.out (by kernel_rfl)) (fun _ _ _ h => h) (Or.inl ⟨by rfl, ?_⟩) hHeld ?_ ?_
              rotate_left
              · rintro w' ⟨s0, s1, s2, s3, s4, s5, s6, s7, s8, s9⟩
                go_simp
                with_reducible rfl
              rotate_left
              · simp only [Act.put, List.setIfInBounds_toArray, List.set_cons_zero, List.set_cons_succ, i64_w, i32_w]
                rfl
              refine pure_ (i := 3) (N := some 45) (v := ?_) (a' := ?_) #[true, true, true, true, false, false, true, true, true, false, false] rfl rfl (any_of HT_.out (by kernel_rfl)) (fun _ _ _ h => h) (Or.inl ⟨by rfl, ?_⟩) ?_ ?_
              rotate_left
              · intro w'
                go_simp
                with_reducible rfl
              rotate_left
              · simp only [Act.put, List.setIfInBounds_toArray, List.set_cons_zero, List.set_cons_succ, i64_w, i32_w]
                rfl
              refine pure_ (i := 4) (N := some 46) (v := ?_) (a' := ?_) #[true, true, true, true, true, false, true, true, true, false, false] rfl rfl (any_of HT_.out (by kernel_rfl)) (fun _ _ _ h => h) (Or.inl ⟨by rfl, ?_⟩) ?_ ?_
              rotate_left
              · intro w'
                go_simp
                with_reducible rfl
              rotate_left
              · simp only [Act.put, List.setIfInBounds_toArray, List.set_cons_zero, List.set_cons_succ, i64_w, i32_w]
                rfl
              refine take_ (i := 5) (N := some 47) (v := ?_) (a' := ?_) #[true, true, true, true, true, true, true, true, true, false, false] rfl rfl (take_ofW HT_.out HW_.out (by kernel_rfl)) (fun _ _ _ h => h) (Or.inl ⟨by rfl, ?_⟩) hHeld ?_ ?_
              rotate_left
              · rintro w' ⟨s0, s1, s2, s3, s4, s5, s6, s7, s8, s9⟩
                go_simp
                with_reducible rfl
              rotate_left
              · simp only [Act.put, List.setIfInBounds_toArray, List.set_cons_zero, List.set_cons_succ, i64_w, i32_w]
                rfl
              refine take_ (i := 9) (N := some 51) (v := ?_) (a' := ?_) #[true, true, true, true, true, true, true, true, true, true, false] rfl rfl (take_ofW HT_.out HW_.out (by kernel_rfl)) (fun _ _ _ h => h) (Or.inl ⟨by rfl, ?_⟩) hHeld ?_ ?_
              rotate_left
              · rintro w' ⟨s0, s1, s2, s3, s4, s5, s6, s7, s8, s9⟩
                go_simp
                with_reducible rfl
              rotate_left
              · simp only [Act.put, List.setIfInBounds_toArray, List.set_cons_zero, List.set_cons_succ, i64_w, i32_w]
                rfl
              refine pure_ (i := 10) (N := some 52) (v := ?_) (a' := ?_) #[true, true, true, true, true, true, true, true, true, true, true] rfl rfl (any_of HT_.out (by kernel_rfl)) (fun _ _ _ h => h) (Or.inl ⟨by rfl, ?_⟩) ?_ ?_
              rotate_left
              · intro w'
                go_simp
                with_reducible rfl
              rotate_left
              · simp only [Act.put, List.setIfInBounds_toArray, List.set_cons_zero, List.set_cons_succ, i64_w, i32_w]
                rfl
              refine done_ (done_of HT_.out (by kernel_rfl)) ?_
              try go_wp2
              go_loopg [9] k3 (fun kq v9 w' => ∃ (x6_4 : List Int) (x9_4 : Int), v9 = .int .i64 x9_4 ∧ Aside0 (busbarref13_CountPaths.l2 kq t253 x6_4 x7_1 x8_3 x9_4 a0_0 l0_1 l0_2 a0_3 = some (r1, r2)) ∧ Aside0 (kq ≤ k3) ∧ Aside0 (Kd.R Kd.string 9 w' w.heap.size (fun _ => True) (.slice (some ad260) t253.length co9) t253) ∧ Aside0 (Kd.R (Kd.int .i64) 3 w' w.heap.size (fun _ => True) v258 x6_4) ∧ Aside0 (w'.heap[gb252]? = some (.cells #[.string a0_0, (.slice (some ad262) l0_1.length c0_1), (.slice A0_2 l0_2.length c0_2), .string a0_3] 25 (0, 0))) ∧ Aside0 (Below w.heap.size w w'))
              case atStart => exact ⟨(x6_3), (0), (by first | rfl | (simp; done) | (simp [*]; done)), H', ⟨Nat.le_refl _⟩, ⟨by (with_reducible repeat (first | apply Kd.R_alloc | apply Kd.R_drewN | apply Kd.R_drew)); exact HO_4.out⟩, ⟨by (with_reducible repeat (first | apply Kd.R_alloc | apply Kd.R_drewN | apply Kd.R_drew)); exact HO_6.out⟩, ⟨by (with_reducible repeat (first | refine blk_drewN ?_ _ | refine blk_drew ?_ | refine blk_alloc ?_ _)); exact BK252.out⟩, ⟨by repeat (first | (with_reducible first | exact HB.out | apply below_alloc | apply pw_below_drewN | apply below_drew1 | refine below_set ?_ GE252.out) | exact HB.out)⟩⟩
              case round =>
                clear H'
                (try clear c1); (try clear p1); (try clear q1); (try clear hx1); (try clear hf1); (try clear c2); (try clear p2); (try clear q2); (try clear hx2); (try clear c3); (try clear c3b0); (try clear c3b1); (try clear c4); (try clear c4b0); (try clear c4b1); (try clear c5); (try clear c5b0); (try clear c5b1); (try clear c12); (try clear c12b0); (try clear c13); (try clear c13b0); (try clear c15); (try clear c15b0); (try clear c15b1); (try clear c16); (try clear c16b0); (try clear p17); (try clear q17); (try clear hx17); (try clear hf17); (try clear c20); (try clear c20b0); (try clear c21); (try clear c21b0); (try clear c22); (try clear c22b0); (try clear c23); (try clear c23b0); (try clear c24); (try clear c24b0); (try clear c24b1); (try clear p26); (try clear q26); (try clear hx26); (try clear hcz25_0); (try clear hcz25_1); (try clear hcz25_2); (try clear hcz25_3); (try clear hcz7_0); (try clear hcz7_1); (try clear hcz7_2); (try clear hcz7_3); (try clear hfz25_0); (try clear hfz25_1); (try clear hfz25_2); (try clear hfz25_3); (try clear hfz7_0); (try clear hfz7_1); (try clear hfz7_2); (try clear hfz7_3); (try clear hx17_0); (try clear hx260_0); (try clear hx262_0); (try clear hx262_1); (try clear hx262_2); (try clear hx262_3); (try clear hx262_4); (try clear hx263_0); (try clear p1); (try clear p17); (try clear p2); (try clear p260); (try clear p262); (try clear p263); (try clear q1); (try clear q17); (try clear q2); (try clear q260); (try clear q262); (try clear q263)
                obtain ⟨x6_4, x9_4, rfl, HA, HK4, HO_4, HO_6, BK252, HB⟩ := hrel
                cases gk with
                | zero => exact absurd HA.out (by simp [busbarref13_CountPaths.l2])
                | succ k4 =>
                  have H := HA.out
                  clear HA
                  simp only [busbarref13_CountPaths.l2] at H
                  by_cases c27 : x9_4 < x7_1
                  case neg =>
                    rw [if_neg c27] at H
                    have c27b0 : decide (x9_4 < x7_1) = false := decide_eq_false c27
                    clear c27
                    have H' := Aside0.mk H
                    clear H
                    go_wp2
                    go_roundg k4
                    case measure => have := HK1.out; have := HJ13.out; have := HK3.out; have := HK4.out; omega
                    case rel => exact ⟨(x6_4), (wrap64 (x8_3 + 1)), (by first | rfl | (simp; done) | (simp [*]; done)), H', ⟨by have := HK1.out; have := HJ13.out; have := HK3.out; have := HK4.out; omega⟩, ⟨by (with_reducible repeat (first | apply Kd.R_alloc | apply Kd.R_drewN | apply Kd.R_drew)); exact HO_4.out⟩, ⟨by (with_reducible repeat (first | apply Kd.R_alloc | apply Kd.R_drewN | apply Kd.R_drew)); exact HO_6.out⟩, ⟨by (with_reducible repeat (first | refine blk_drewN ?_ _ | refine blk_drew ?_ | refine blk_alloc ?_ _)); exact BK252.out⟩, ⟨by repeat (first | (with_reducible first | exact HB.out | apply below_alloc | apply pw_below_drewN | apply below_drew1 | refine below_set ?_ GE252.out) | exact HB.out)⟩⟩
                  rw [if_pos c27] at H
                  have c27b0 : decide (x9_4 < x7_1) = true := decide_eq_true c27
                  clear c27
                  by_cases c28 : 0 ≤ x9_4
                  case neg => rw [if_neg c28] at H; exact absurd H (by simp)
                  rw [if_pos c28] at H
                  have c28b0 : decide (0 ≤ x9_4) = true := decide_eq_true c28
                  clear c28
                  by_cases c29 : x9_4 < (t253.length : Int)
                  case neg => rw [if_neg c29] at H; exact absurd H (by simp)
                  rw [if_pos c29] at H
                  have c29b0 : decide (x9_4 < (t253.length : Int)) = true := decide_eq_true c29
                  clear c29
                  by_cases c30 : 0 ≤ x8_3
                  case neg => rw [if_neg c30] at H; exact absurd H (by simp)
                  rw [if_pos c30] at H
                  have c30b0 : decide (0 ≤ x8_3) = true := decide_eq_true c30
                  clear c30
                  by_cases c31 : x8_3 < (l0_1.length : Int)
                  case neg => rw [if_neg c31] at H; exact absurd H (by simp)
                  rw [if_pos c31] at H
                  have c31b0 : decide (x8_3 < (l0_1.length : Int)) = true := decide_eq_true c31
                  clear c31
                  by_cases c32 : (rdOf ByteArray.empty t253 x9_4).toList = ((rd_T41 l0_1 x8_3).f2).toList
                  case neg =>
                    rw [if_neg c32] at H
                    have c32b0 : ((rdOf ByteArray.empty t253 x9_4).toList == ((rd_T41 l0_1 x8_3).f2).toList) = false := beq_eq_false_iff_ne.mpr c32
                    have c32b1 : ((rdOf ByteArray.empty t253 x9_4).toList != ((rd_T41 l0_1 x8_3).f2).toList) = true := bne_iff_ne.mpr c32
                    have H' := Aside0.mk H
                    clear H
                    try go_wp2
                    have n0_ := Aside0.mk (Kd.R_drew HO_4.out)
                    have n1_ := Aside0.mk (Kd.R_drew HO_6.out)
                    have n2_ := Aside0.mk (blk_drew BK252.out)
                    have n3_ := Aside0.mk (below_drew1 HB.out)
                    clear HO_4
                    clear HO_6
                    clear BK252
                    clear HB
                    have HO_4 := n0_
                    have HO_6 := n1_
                    have BK252 := n2_
                    have HB := n3_
                    clear n0_ n1_ n2_ n3_
                    have p264 : 0 ≤ (x9_4 : Int) := of_decide_eq_true (by first | (with_reducible assumption) | assumption)
                    have q264 : x9_4 < (t253.length : Int) := of_decide_eq_true (by first | (with_reducible assumption) | assumption)
                    obtain ⟨ad264, e264, hx264_0⟩ := Kd.at_string (Kd.R_reads' HO_4.out).2.2 x9_4 p264 q264
                    obtain rfl : ad260 = ad264 := (by injection e264)
                    replace p264 := eq_true p264
                    replace q264 := eq_true q264
                    have p265 : 0 ≤ (x8_3 : Int) := of_decide_eq_true (by first | (with_reducible assumption) | assumption)
                    have q265 : x8_3 < (l0_1.length : Int) := of_decide_eq_true (by first | (with_reducible assumption) | assumption)
                    obtain ⟨ad265, e265, hx265_0, hx265_1, hx265_2, hx265_3, hx265_4⟩ := at_T41 HR0_1.out x8_3 p265 q265
                    have hw265_4 := hx265_4
                    have hw265_3 := hx265_3
                    have hw265_2 := hx265_2
                    have hw265_1 := hx265_1
                    have hw265_0 := hx265_0
                    obtain rfl : ad262 = ad265 := (by injection e265)
                    replace hx265_0 := (HB.out.cell (World.block_lt_of_cell? w _ hx265_0)).trans hx265_0
                    replace hx265_1 := (HB.out.cell (World.block_lt_of_cell? w _ hx265_1)).trans hx265_1
                    replace hx265_2 := (HB.out.cell (World.block_lt_of_cell? w _ hx265_2)).trans hx265_2
                    replace hx265_3 := (HB.out.cell (World.block_lt_of_cell? w _ hx265_3)).trans hx265_3
                    replace hx265_4 := (HB.out.cell (World.block_lt_of_cell? w _ hx265_4)).trans hx265_4
                    replace p265 := eq_true p265
                    replace q265 := eq_true q265
                    refine start_ (n := 11) (S := fun w' => w'.cell? ⟨gb252, 0, none⟩ = some (.string a0_0) ∧ w'.cell? ⟨gb252, 1, none⟩ = some (.slice (some ad262) l0_1.length c0_1) ∧ w'.cell? ⟨gb252, 2, none⟩ = some (.slice A0_2 l0_2.length c0_2) ∧ w'.cell? ⟨gb252, 3, none⟩ = some (.string a0_3) ∧ w'.cell? (ad260.add (x9_4).toNat) = some (.string (rdOf ByteArray.empty t253 x9_4)) ∧ w'.cell? (ad262.add ((x8_3).toNat * 5)) = some (.int .i64 ((rd_T41 l0_1 x8_3).f0)) ∧ w'.cell? ⟨(ad262.add ((x8_3).toNat * 5)).block, (ad262.add ((x8_3).toNat * 5)).off + 1, none⟩ = some (.int .i64 ((rd_T41 l0_1 x8_3).f1.f0)) ∧ w'.cell? ⟨(ad262.add ((x8_3).toNat * 5)).block, (ad262.add ((x8_3).toNat * 5)).off + 2, none⟩ = some (.int .i64 ((rd_T41 l0_1 x8_3).f1.f1)) ∧ w'.cell? ⟨(ad262.add ((x8_3).toNat * 5)).block, (ad262.add ((x8_3).toNat * 5)).off + 3, none⟩ = some (.string ((rd_T41 l0_1 x8_3).f2)) ∧ w'.cell? ⟨(ad262.add ((x8_3).toNat * 5)).block, (ad262.add ((x8_3).toNat * 5)).off + 4, none⟩ = some (.string ((rd_T41 l0_1 x8_3).f3))) (ds := []) #[false, false, false, false, false, false, false, false, false, false, false] (by kernel_rfl) rfl rfl ⟨(blk_cell BK252.out 0).trans rfl, (blk_cell BK252.out 1).trans rfl, (blk_cell BK252.out 2).trans rfl, (blk_cell BK252.out 3).trans rfl, hx264_0, ((HB.out.cell (World.block_lt_of_cell? w _ hw265_0)).trans hw265_0), ((HB.out.cell (World.block_lt_of_cell? w _ hw265_1)).trans hw265_1), ((HB.out.cell (World.block_lt_of_cell? w _ hw265_2)).trans hw265_2), ((HB.out.cell (World.block_lt_of_cell? w _ hw265_3)).trans hw265_3), ((HB.out.cell (World.block_lt_of_cell? w _ hw265_4)).trans hw265_4)⟩ (fun hHeld => ?_); refine with_tabW busbarref13_CountPaths.tab17 busbarref13_CountPaths.bits17 (fun HT_ HW_ => ?_)
                    generalize wr.drew = w41 at HO_4 HO_6 BK252 HB hx264_0 hx265_0 hx265_1 hx265_2 hx265_3 hx265_4 hHeld ⊢
                    refine pure_ (i := 0) (N := some 58) (v := ?_) (a' := ?_) #[true, false, false, false, false, false, false, false, false, false, false] rfl rfl (any_of HT_.out (by kernel_rfl)) (fun _ _ _ h => h) (Or.inl ⟨by rfl, ?_⟩) ?_ ?_
                    rotate_left
                    · intro w'
                      go_simp
                      with_reducible rfl
                    rotate_left
                    · simp only [Act.put, List.setIfInBounds_toArray, List.set_cons_zero, List.set_cons_succ, i64_w, i32_w]
                      rfl
                    refine pure_ (i := 1) (N := some 59) (v := ?_) (a' := ?_) #[true, true, false, false, false, false, false, false, false, false, false] rfl rfl (any_of HT_.out (by kernel_rfl)) (fun _ _ _ h => h) (Or.inl ⟨by rfl, ?_⟩) ?_ ?_
                    rotate_left
                    · intro w'
                      go_simp
                      with_reducible rfl
                    rotate_left
                    · simp only [Act.put, List.setIfInBounds_toArray, List.set_cons_zero, List.set_cons_succ, i64_w, i32_w]
                      rfl
                    refine pure_ (i := 2) (N := some 60) (v := ?_) (a' := ?_) #[true, true, true, false, false, false, false, false, false, false, false] rfl rfl (any_of HT_.out (by kernel_rfl)) (fun _ _ _ h => h) (Or.inl ⟨by rfl, ?_⟩) ?_ ?_
                    rotate_left
                    · intro w'
                      go_simp
                      with_reducible rfl
                    rotate_left
                    · simp only [Act.put, List.setIfInBounds_toArray, List.set_cons_zero, List.set_cons_succ, i64_w, i32_w]
                      rfl
                    refine pure_ (i := 4) (N := some 62) (v := ?_) (a' := ?_) #[true, true, true, false, true, false, false, false, false, false, false] rfl rfl (any_of HT_.out (by kernel_rfl)) (fun _ _ _ h => h) (Or.inl ⟨by rfl, ?_⟩) ?_ ?_
                    rotate_left
                    · intro w'
                      go_simp
                      with_reducible rfl
                    rotate_left
                    · simp only [Act.put, List.setIfInBounds_toArray, List.set_cons_zero, List.set_cons_succ, i64_w, i32_w]
                      rfl
                    refine pure_ (i := 6) (N := some 64) (v := ?_) (a' := ?_) #[true, true, true, false, true, false, true, false, false, false, false] rfl rfl (any_of HT_.out (by kernel_rfl)) (fun _ _ _ h => h) (Or.inl ⟨by rfl, ?_⟩) ?_ ?_
                    rotate_left
                    · intro w'
                      go_simp
                      with_reducible rfl
                    rotate_left
                    · simp only [Act.put, List.setIfInBounds_toArray, List.set_cons_zero, List.set_cons_succ, i64_w, i32_w]
                      rfl
                    refine take_ (i := 3) (N := some 61) (v := ?_) (a' := ?_) #[true, true, true, true, true, false, true, false, false, false, false] rfl rfl (take_ofW HT_.out HW_.out (by kernel_rfl)) (fun _ _ _ h => h) (Or.inl ⟨by rfl, ?_⟩) hHeld ?_ ?_
                    rotate_left
                    · rintro w' ⟨s0, s1, s2, s3, s4, s5, s6, s7, s8, s9⟩
                      go_simp
                      with_reducible rfl
                    rotate_left
                    · simp only [Act.put, List.setIfInBounds_toArray, List.set_cons_zero, List.set_cons_succ, i64_w, i32_w]
                      rfl
                    refine take_ (i := 5) (N := some 63) (v := ?_) (a' := ?_) #[true, true, true, true, true, true, true, false, false, false, false] rfl rfl (take_ofW HT_.out HW_.out (by kernel_rfl)) (fun _ _ _ h => h) (Or.inl ⟨by rfl, ?_⟩) hHeld ?_ ?_
                    rotate_left
                    · rintro w' ⟨s0, s1, s2, s3, s4, s5, s6, s7, s8, s9⟩
                      go_simp
                      with_reducible rfl
                    rotate_left
                    · simp only [Act.put, List.setIfInBounds_toArray, List.set_cons_zero, List.set_cons_succ, i64_w, i32_w]
                      rfl
                    refine pure_ (i := 7) (N := some 65) (v := ?_) (a' := ?_) #[true, true, true, true, true, true, true, true, false, false, false] rfl rfl (any_of HT_.out (by kernel_rfl)) (fun _ _ _ h => h) (Or.inl ⟨by rfl, ?_⟩) ?_ ?_
                    rotate_left
                    · intro w'
                      go_simp
                      with_reducible rfl
                    rotate_left
                    · simp only [Act.put, List.setIfInBounds_toArray, List.set_cons_zero, List.set_cons_succ, i64_w, i32_w]
                      rfl
                    refine pure_ (i := 8) (N := some 66) (v := ?_) (a' := ?_) #[true, true, true, true, true, true, true, true, true, false, false] rfl rfl (any_of HT_.out (by kernel_rfl)) (fun _ _ _ h => h) (Or.inl ⟨by rfl, ?_⟩) ?_ ?_
                    rotate_left
                    · intro w'
                      go_simp
                      with_reducible rfl
                    rotate_left
                    · simp only [Act.put, List.setIfInBounds_toArray, List.set_cons_zero, List.set_cons_succ, i64_w, i32_w]
                      rfl
                    refine take_ (i := 9) (N := some 67) (v := ?_) (a' := ?_) #[true, true, true, true, true, true, true, true, true, true, false] rfl rfl (take_ofW HT_.out HW_.out (by kernel_rfl)) (fun _ _ _ h => h) (Or.inl ⟨by rfl, ?_⟩) hHeld ?_ ?_
                    rotate_left
                    · rintro w' ⟨s0, s1, s2, s3, s4, s5, s6, s7, s8, s9⟩
                      go_simp
                      with_reducible rfl
                    rotate_left
                    · simp only [Act.put, List.setIfInBounds_toArray, List.set_cons_zero, List.set_cons_succ, i64_w, i32_w]
                      rfl
                    refine pure_ (i := 10) (N := some 68) (v := ?_) (a' := ?_) #[true, true, true, true, true, true, true, true, true, true, true] rfl rfl (any_of HT_.out (by kernel_rfl)) (fun _ _ _ h => h) (Or.inl ⟨by rfl, ?_⟩) ?_ ?_
                    rotate_left
                    · intro w'
                      go_simp
                      with_reducible rfl
                    rotate_left
                    · simp only [Act.put, List.setIfInBounds_toArray, List.set_cons_zero, List.set_cons_succ, i64_w, i32_w]
                      rfl
                    refine done_ (done_of HT_.out (by kernel_rfl)) ?_
                    try go_wp2
                    go_roundg k4
                    case measure => have := HK1.out; have := HJ13.out; have := HK3.out; have := HK4.out; omega
                    case rel => exact ⟨(x6_4), (wrap64 (x9_4 + 1)), (by first | rfl | (simp; done) | (simp [*]; done)), H', ⟨by have := HK1.out; have := HJ13.out; have := HK3.out; have := HK4.out; omega⟩, ⟨by (with_reducible repeat (first | apply Kd.R_alloc | apply Kd.R_drewN | apply Kd.R_drew)); exact HO_4.out⟩, ⟨by (with_reducible repeat (first | apply Kd.R_alloc | apply Kd.R_drewN | apply Kd.R_drew)); exact HO_6.out⟩, ⟨by (with_reducible repeat (first | refine blk_drewN ?_ _ | refine blk_drew ?_ | refine blk_alloc ?_ _)); exact BK252.out⟩, ⟨by repeat (first | (with_reducible first | exact HB.out | apply below_alloc | apply pw_below_drewN | apply below_drew1 | refine below_set ?_ GE252.out) | exact HB.out)⟩⟩
                  rw [if_pos c32] at H
                  have c32b0 : ((rdOf ByteArray.empty t253 x9_4).toList == ((rd_T41 l0_1 x8_3).f2).toList) = true := beq_iff_eq.mpr c32
                  have c32b1 : ((rdOf ByteArray.empty t253 x9_4).toList != ((rd_T41 l0_1 x8_3).f2).toList) = false := bne_eq_false_iff_eq.mpr c32
                  clear c32
                  by_cases c33 : 0 ≤ x7_1
                  case neg => rw [if_neg c33] at H; exact absurd H (by simp)
                  rw [if_pos c33] at H
                  have c33b0 : decide (0 ≤ x7_1) = true := decide_eq_true c33
                  clear c33
                  by_cases c34 : x7_1 < (x6_4.length : Int)
                  case neg => rw [if_neg c34] at H; exact absurd H (by simp)
                  rw [if_pos c34] at H
                  have c34b0 : decide (x7_1 < (x6_4.length : Int)) = true := decide_eq_true c34
                  clear c34
                  by_cases c35 : x9_4 < (x6_4.length : Int)
                  case neg => rw [if_neg c35] at H; exact absurd H (by simp)
                  rw [if_pos c35] at H
                  have c35b0 : decide (x9_4 < (x6_4.length : Int)) = true := decide_eq_true c35
                  clear c35
                  obtain ⟨y268, hy268⟩ : ∃ y_ : List Int, y_ = (x6_4.set (x7_1 : Int).toNat (wrap64 ((rd x6_4 x7_1) + (rd x6_4 x9_4)))) := ⟨_, rfl⟩
                  replace H : (busbarref13_CountPaths.l2 k4 t253 y268 x7_1 x8_3 (wrap64 (x9_4 + 1)) a0_0 l0_1 l0_2 a0_3) = some (r1, r2) := by first | (rw [hy268]; with_reducible exact H) | (have H2_ := (Option.bind_some _ _).symm.trans H; rw [hy268]; with_reducible exact H2_) | (have H2_ := (Option.bind_some _ _).symm.trans H; with_reducible exact H2_) | with_reducible exact H | (rw [hy268]; exact H) | exact H
                  have Ny268 := Aside0.mk hy268
                  clear hy268
                  have H' := Aside0.mk H
                  clear H
                  try go_wp2
                  have n0_ := Aside0.mk (Kd.R_drew HO_4.out)
                  have n1_ := Aside0.mk (Kd.R_drew HO_6.out)
                  have n2_ := Aside0.mk (blk_drew BK252.out)
                  have n3_ := Aside0.mk (below_drew1 HB.out)
                  clear HO_4
                  clear HO_6
                  clear BK252
                  clear HB
                  have HO_4 := n0_
                  have HO_6 := n1_
                  have BK252 := n2_
                  have HB := n3_
                  clear n0_ n1_ n2_ n3_
                  have p264 : 0 ≤ (x9_4 : Int) := of_decide_eq_true (by first | (with_reducible assumption) | assumption)
                  have q264 : x9_4 < (t253.length : Int) := of_decide_eq_true (by first | (with_reducible assumption) | assumption)
                  obtain ⟨ad264, e264, hx264_0⟩ := Kd.at_string (Kd.R_reads' HO_4.out).2.2 x9_4 p264 q264
                  obtain rfl : ad260 = ad264 := (by injection e264)
                  replace p264 := eq_true p264
                  replace q264 := eq_true q264
                  have p265 : 0 ≤ (x8_3 : Int) := of_decide_eq_true (by first | (with_reducible assumption) | assumption)
                  have q265 : x8_3 < (l0_1.length : Int) := of_decide_eq_true (by first | (with_reducible assumption) | assumption)
                  obtain ⟨ad265, e265, hx265_0, hx265_1, hx265_2, hx265_3, hx265_4⟩ := at_T41 HR0_1.out x8_3 p265 q265
                  have hw265_4 := hx265_4
                  have hw265_3 := hx265_3
                  have hw265_2 := hx265_2
                  have hw265_1 := hx265_1
                  have hw265_0 := hx265_0
                  obtain rfl : ad262 = ad265 := (by injection e265)
                  replace hx265_0 := (HB.out.cell (World.block_lt_of_cell? w _ hx265_0)).trans hx265_0
                  replace hx265_1 := (HB.out.cell (World.block_lt_of_cell? w _ hx265_1)).trans hx265_1
                  replace hx265_2 := (HB.out.cell (World.block_lt_of_cell? w _ hx265_2)).trans hx265_2
                  replace hx265_3 := (HB.out.cell (World.block_lt_of_cell? w _ hx265_3)).trans hx265_3
                  replace hx265_4 := (HB.out.cell (World.block_lt_of_cell? w _ hx265_4)).trans hx265_4
                  replace p265 := eq_true p265
                  replace q265 := eq_true q265
                  refine start_ (n := 11) (S := fun w' => w'.cell? ⟨gb252, 0, none⟩ = some (.string a0_0) ∧ w'.cell? ⟨gb252, 1, none⟩ = some (.slice (some ad262) l0_1.length c0_1) ∧ w'.cell? ⟨gb252, 2, none⟩ = some (.slice A0_2 l0_2.length c0_2) ∧ w'.cell? ⟨gb252, 3, none⟩ = some (.string a0_3) ∧ w'.cell? (ad260.add (x9_4).toNat) = some (.string (rdOf ByteArray.empty t253 x9_4)) ∧ w'.cell? (ad262.add ((x8_3).toNat * 5)) = some (.int .i64 ((rd_T41 l0_1 x8_3).f0)) ∧ w'.cell? ⟨(ad262.add ((x8_3).toNat * 5)).block, (ad262.add ((x8_3).toNat * 5)).off + 1, none⟩ = some (.int .i64 ((rd_T41 l0_1 x8_3).f1.f0)) ∧ w'.cell? ⟨(ad262.add ((x8_3).toNat * 5)).block, (ad262.add ((x8_3).toNat * 5)).off + 2, none⟩ = some (.int .i64 ((rd_T41 l0_1 x8_3).f1.f1)) ∧ w'.cell? ⟨(ad262.add ((x8_3).toNat * 5)).block, (ad262.add ((x8_3).toNat * 5)).off + 3, none⟩ = some (.string ((rd_T41 l0_1 x8_3).f2)) ∧ w'.cell? ⟨(ad262.add ((x8_3).toNat * 5)).block, (ad262.add ((x8_3).toNat * 5)).off + 4, none⟩ = some (.string ((rd_T41 l0_1 x8_3).f3))) (ds := []) #[false, false, false, false, false, false, false, false, false, false, false] (by kernel_rfl) rfl rfl ⟨(blk_cell BK252.out 0).trans rfl, (blk_cell BK252.out 1).trans rfl, (blk_cell BK252.out 2).trans rfl, (blk_cell BK252.out 3).trans rfl, hx264_0, ((HB.out.cell (World.block_lt_of_cell? w _ hw265_0)).trans hw265_0), ((HB.out.cell (World.block_lt_of_cell? w _ hw265_1)).trans hw265_1), ((HB.out.cell (World.block_lt_of_cell? w _ hw265_2)).trans hw265_2), ((HB.out.cell (World.block_lt_of_cell? w _ hw265_3)).trans hw265_3), ((HB.out.cell (World.block_lt_of_cell? w _ hw265_4)).trans hw265_4)⟩ (fun hHeld => ?_); refine with_tabW busbarref13_CountPaths.tab17 busbarref13_CountPaths.bits17 (fun HT_ HW_ => ?_)
                  generalize wr.drew = w37 at HO_4 HO_6 BK252 HB hx264_0 hx265_0 hx265_1 hx265_2 hx265_3 hx265_4 hHeld ⊢
                  refine pure_ (i := 0) (N := some 58) (v := ?_) (a' := ?_) #[true, false, false, false, false, false, false, false, false, false, false] rfl rfl (any_of HT_.out (by kernel_rfl)) (fun _ _ _ h => h) (Or.inl ⟨by rfl, ?_⟩) ?_ ?_
                  rotate_left
                  · intro w'
                    go_simp
                    with_reducible rfl
                  rotate_left
                  · simp only [Act.put, List.setIfInBounds_toArray, List.set_cons_zero, List.set_cons_succ, i64_w, i32_w]
                    rfl
                  refine pure_ (i := 1) (N := some 59) (v := ?_) (a' := ?_) #[true, true, false, false, false, false, false, false, false, false, false] rfl rfl (any_of HT_.out (by kernel_rfl)) (fun _ _ _ h => h) (Or.inl ⟨by rfl, ?_⟩) ?_ ?_
                  rotate_left
                  · intro w'
                    go_simp
                    with_reducible rfl
                  rotate_left
                  · simp only [Act.put, List.setIfInBounds_toArray, List.set_cons_zero, List.set_cons_succ, i64_w, i32_w]
                    rfl
                  refine pure_ (i := 2) (N := some 60) (v := ?_) (a' := ?_) #[true, true, true, false, false, false, false, false, false, false, false] rfl rfl (any_of HT_.out (by kernel_rfl)) (fun _ _ _ h => h) (Or.inl ⟨by rfl, ?_⟩) ?_ ?_
                  rotate_left
                  · intro w'
                    go_simp
                    with_reducible rfl
                  rotate_left
                  · simp only [Act.put, List.setIfInBounds_toArray, List.set_cons_zero, List.set_cons_succ, i64_w, i32_w]
                    rfl
                  refine pure_ (i := 4) (N := some 62) (v := ?_) (a' := ?_) #[true, true, true, false, true, false, false, false, false, false, false] rfl rfl (any_of HT_.out (by kernel_rfl)) (fun _ _ _ h => h) (Or.inl ⟨by rfl, ?_⟩) ?_ ?_
                  rotate_left
                  · intro w'
                    go_simp
                    with_reducible rfl
                  rotate_left
                  · simp only [Act.put, List.setIfInBounds_toArray, List.set_cons_zero, List.set_cons_succ, i64_w, i32_w]
                    rfl
                  refine pure_ (i := 6) (N := some 64) (v := ?_) (a' := ?_) #[true, true, true, false, true, false, true, false, false, false, false] rfl rfl (any_of HT_.out (by kernel_rfl)) (fun _ _ _ h => h) (Or.inl ⟨by rfl, ?_⟩) ?_ ?_
                  rotate_left
                  · intro w'
                    go_simp
                    with_reducible rfl
                  rotate_left
                  · simp only [Act.put, List.setIfInBounds_toArray, List.set_cons_zero, List.set_cons_succ, i64_w, i32_w]
                    rfl
                  refine take_ (i := 3) (N := some 61) (v := ?_) (a' := ?_) #[true, true, true, true, true, false, true, false, false, false, false] rfl rfl (take_ofW HT_.out HW_.out (by kernel_rfl)) (fun _ _ _ h => h) (Or.inl ⟨by rfl, ?_⟩) hHeld ?_ ?_
                  rotate_left
                  · rintro w' ⟨s0, s1, s2, s3, s4, s5, s6, s7, s8, s9⟩
                    go_simp
                    with_reducible rfl
                  rotate_left
                  · simp only [Act.put, List.setIfInBounds_toArray, List.set_cons_zero, List.set_cons_succ, i64_w, i32_w]
                    rfl
                  refine take_ (i := 5) (N := some 63) (v := ?_) (a' := ?_) #[true, true, true, true, true, true, true, false, false, false, false] rfl rfl (take_ofW HT_.out HW_.out (by kernel_rfl)) (fun _ _ _ h => h) (Or.inl ⟨by rfl, ?_⟩) hHeld ?_ ?_
                  rotate_left
                  · rintro w' ⟨s0, s1, s2, s3, s4, s5, s6, s7, s8, s9⟩
                    go_simp
                    with_reducible rfl
                  rotate_left
                  · simp only [Act.put, List.setIfInBounds_toArray, List.set_cons_zero, List.set_cons_succ, i64_w, i32_w]
                    rfl
                  refine pure_ (i := 7) (N := some 65) (v := ?_) (a' := ?_) #[true, true, true, true, true, true, true, true, false, false, false] rfl rfl (any_of HT_.out (by kernel_rfl)) (fun _ _ _ h => h) (Or.inl ⟨by rfl, ?_⟩) ?_ ?_
                  rotate_left
                  · intro w'
                    go_simp
                    with_reducible rfl
                  rotate_left
                  · simp only [Act.put, List.setIfInBounds_toArray, List.set_cons_zero, List.set_cons_succ, i64_w, i32_w]
                    rfl
                  refine pure_ (i := 8) (N := some 66) (v := ?_) (a' := ?_) #[true, true, true, true, true, true, true, true, true, false, false] rfl rfl (any_of HT_.out (by kernel_rfl)) (fun _ _ _ h => h) (Or.inl ⟨by rfl, ?_⟩) ?_ ?_
                  rotate_left
                  · intro w'
                    go_simp
                    with_reducible rfl
                  rotate_left
                  · simp only [Act.put, List.setIfInBounds_toArray, List.set_cons_zero, List.set_cons_succ, i64_w, i32_w]
                    rfl
                  refine take_ (i := 9) (N := some 67) (v := ?_) (a' := ?_) #[true, true, true, true, true, true, true, true, true, true, false] rfl rfl (take_ofW HT_.out HW_.out (by kernel_rfl)) (fun _ _ _ h => h) (Or.inl ⟨by rfl, ?_⟩) hHeld ?_ ?_
                  rotate_left
                  · rintro w' ⟨s0, s1, s2, s3, s4, s5, s6, s7, s8, s9⟩
                    go_simp
                    with_reducible rfl
                  rotate_left
                  · simp only [Act.put, List.setIfInBounds_toArray, List.set_cons_zero, List.set_cons_succ, i64_w, i32_w]
                    rfl
                  refine pure_ (i := 10) (N := some 68) (v := ?_) (a' := ?_) #[true, true, true, true, true, true, true, true, true, true, true] rfl rfl (any_of HT_.out (by kernel_rfl)) (fun _ _ _ h => h) (Or.inl ⟨by rfl, ?_⟩) ?_ ?_
                  rotate_left
                  · intro w'
                    go_simp
                    with_reducible rfl
                  rotate_left
                  · simp only [Act.put, List.setIfInBounds_toArray, List.set_cons_zero, List.set_cons_succ, i64_w, i32_w]
                    rfl
                  refine done_ (done_of HT_.out (by kernel_rfl)) ?_
                  try go_wp2
                  have n0_ := Aside0.mk (Kd.R_drew HO_4.out)
                  have n1_ := Aside0.mk (Kd.R_drew HO_6.out)
                  have n2_ := Aside0.mk (blk_drew BK252.out)
                  have n3_ := Aside0.mk (below_drew1 HB.out)
                  clear HO_4
                  clear HO_6
                  clear BK252
                  clear HB
                  have HO_4 := n0_
                  have HO_6 := n1_
                  have BK252 := n2_
                  have HB := n3_
                  clear n0_ n1_ n2_ n3_
                  obtain ⟨Ao39, co39, eo39⟩ := Kd.R_slice HO_6.out
                  (first | subst eo39 | (injection eo39 with f1_ f2_ f3_; have f4_ := f1_.symm; have f5_ := f3_.symm; clear f1_ f2_ f3_; subst f4_; subst f5_))
                  have p266 : 0 ≤ (x7_1 : Int) := of_decide_eq_true (by first | (with_reducible assumption) | assumption)
                  have q266 : x7_1 < (x6_4.length : Int) := of_decide_eq_true (by first | (with_reducible assumption) | assumption)
                  obtain ⟨ad266, e266, hx266_0⟩ := Kd.at_int (Kd.R_reads' HO_6.out).2.2 x7_1 p266 q266
                  cases e266
                  replace p266 := eq_true p266
                  replace q266 := eq_true q266
                  have p267 : 0 ≤ (x9_4 : Int) := of_decide_eq_true (by first | (with_reducible assumption) | assumption)
                  have q267 : x9_4 < (x6_4.length : Int) := of_decide_eq_true (by first | (with_reducible assumption) | assumption)
                  obtain ⟨ad267, e267, hx267_0⟩ := Kd.at_int (Kd.R_reads' HO_6.out).2.2 x9_4 p267 q267
                  obtain rfl : ad266 = ad267 := (by injection e267)
                  replace p267 := eq_true p267
                  replace q267 := eq_true q267
                  have p36 : 0 ≤ (x7_1 : Int) := of_decide_eq_true (by first | (with_reducible assumption) | assumption)
                  have q36 : (x7_1 : Int) < ((x6_4.length : Int) : Int) := of_decide_eq_true (by first | (with_reducible assumption) | assumption)
                  obtain ⟨go36, co36, eo36, gb36, gl36, cl36, HG36⟩ := Kd.R_form HO_6.out (by omega)
                  (first | cases eo36 | (injection eo36 with ea_ en_ ec_; (first | subst ea_ | (injection ea_ with ea_; subst ea_)); subst ec_; clear en_))
                  have GB36 := Aside0.mk gb36
                  have GG36 := Aside0.mk HG36
                  clear gb36 gl36 HG36
                  (first | simp only [add_plain] at hx266_0 | skip)
                  (first | simp only [add_plain] at hx267_0 | skip)
                  obtain ⟨hx36_0, hf36_0⟩ := Kd.R_celln 0 HO_6.out (x7_1 : Int) p36 q36
                  replace p36 := eq_true p36
                  replace q36 := eq_true q36
                  have HP40 := Kd.R_putn HO_6.out (x7_1 : Int) (wrap64 ((rd x6_4 x7_1) + (rd x6_4 x9_4)))
                  rw [← Ny268.out] at HP40
                  have HQ40 := Aside0.mk HP40
                  clear HP40
                  refine start_ (n := 11) (S := fun w' => w'.cell? ⟨go36, (x7_1).toNat, none⟩ = some (.int .i64 (rd x6_4 x7_1)) ∧ w'.cell? ⟨go36, (x9_4).toNat, none⟩ = some (.int .i64 (rd x6_4 x9_4))) (ds := [10]) #[false, false, false, false, false, false, false, false, false, false, false] (by kernel_rfl) rfl rfl ⟨hx266_0, hx267_0⟩ (fun hHeld => ?_); refine with_tabW busbarref13_CountPaths.tab18 busbarref13_CountPaths.bits18 (fun HT_ HW_ => ?_)
                  generalize w37.drew = w38 at HO_4 HO_6 BK252 HB GG36 HQ40 hf36_0 hx266_0 hx267_0 hx36_0 hHeld ⊢
                  refine pure_ (i := 0) (N := some 69) (v := ?_) (a' := ?_) #[true, false, false, false, false, false, false, false, false, false, false] rfl rfl (any_of HT_.out (by kernel_rfl)) (fun _ _ _ h => h) (Or.inl ⟨by rfl, ?_⟩) ?_ ?_
                  rotate_left
                  · intro w'
                    go_simp
                    with_reducible rfl
                  rotate_left
                  · simp only [Act.put, List.setIfInBounds_toArray, List.set_cons_zero, List.set_cons_succ, i64_w, i32_w]
                    rfl
                  refine pure_ (i := 1) (N := some 70) (v := ?_) (a' := ?_) #[true, true, false, false, false, false, false, false, false, false, false] rfl rfl (any_of HT_.out (by kernel_rfl)) (fun _ _ _ h => h) (Or.inl ⟨by rfl, ?_⟩) ?_ ?_
                  rotate_left
                  · intro w'
                    go_simp
                    with_reducible rfl
                  rotate_left
                  · simp only [Act.put, List.setIfInBounds_toArray, List.set_cons_zero, List.set_cons_succ, i64_w, i32_w]
                    rfl
                  refine pure_ (i := 2) (N := some 71) (v := ?_) (a' := ?_) #[true, true, true, false, false, false, false, false, false, false, false] rfl rfl (any_of HT_.out (by kernel_rfl)) (fun _ _ _ h => h) (Or.inl ⟨by rfl, ?_⟩) ?_ ?_
                  rotate_left
                  · intro w'
                    go_simp
                    with_reducible rfl
                  rotate_left
                  · simp only [Act.put, List.setIfInBounds_toArray, List.set_cons_zero, List.set_cons_succ, i64_w, i32_w]
                    rfl
                  refine pure_ (i := 4) (N := some 73) (v := ?_) (a' := ?_) #[true, true, true, false, true, false, false, false, false, false, false] rfl rfl (any_of HT_.out (by kernel_rfl)) (fun _ _ _ h => h) (Or.inl ⟨by rfl, ?_⟩) ?_ ?_
                  rotate_left
                  · intro w'
                    go_simp
                    with_reducible rfl
                  rotate_left
                  · simp only [Act.put, List.setIfInBounds_toArray, List.set_cons_zero, List.set_cons_succ, i64_w, i32_w]
                    rfl
                  refine pure_ (i := 5) (N := some 74) (v := ?_) (a' := ?_) #[true, true, true, false, true, true, false, false, false, false, false] rfl rfl (any_of HT_.out (by kernel_rfl)) (fun _ _ _ h => h) (Or.inl ⟨by rfl, ?_⟩) ?_ ?_
                  rotate_left
                  · intro w'
                    go_simp
                    with_reducible rfl
                  rotate_left
                  · simp only [Act.put, List.setIfInBounds_toArray, List.set_cons_zero, List.set_cons_succ, i64_w, i32_w]
                    rfl
                  refine pure_ (i := 6) (N := some 75) (v := ?_) (a' := ?_) #[true, true, true, false, true, true, true, false, false, false, false] rfl rfl (any_of HT_.out (by kernel_rfl)) (fun _ _ _ h => h) (Or.inl ⟨by rfl, ?_⟩) ?_ ?_
                  rotate_left
                  · intro w'
                    go_simp
                    with_reducible rfl
                  rotate_left
                  · simp only [Act.put, List.setIfInBounds_toArray, List.set_cons_zero, List.set_cons_succ, i64_w, i32_w]
                    rfl
                  refine take_ (i := 3) (N := some 72) (v := ?_) (a' := ?_) #[true, true, true, true, true, true, true, false, false, false, false] rfl rfl (take_ofW HT_.out HW_.out (by kernel_rfl)) (fun _ _ _ h => h) (Or.inl ⟨by rfl, ?_⟩) hHeld ?_ ?_
                  rotate_left
                  · rintro w' ⟨s0, s1⟩
                    go_simp
                    with_reducible rfl
                  rotate_left
                  · simp only [Act.put, List.setIfInBounds_toArray, List.set_cons_zero, List.set_cons_succ, i64_w, i32_w]
                    rfl
                  refine take_ (i := 7) (N := some 76) (v := ?_) (a' := ?_) #[true, true, true, true, true, true, true, true, false, false, false] rfl rfl (take_ofW HT_.out HW_.out (by kernel_rfl)) (fun _ _ _ h => h) (Or.inl ⟨by rfl, ?_⟩) hHeld ?_ ?_
                  rotate_left
                  · rintro w' ⟨s0, s1⟩
                    go_simp
                    with_reducible rfl
                  rotate_left
                  · simp only [Act.put, List.setIfInBounds_toArray, List.set_cons_zero, List.set_cons_succ, i64_w, i32_w]
                    rfl
                  refine pure_ (i := 8) (N := some 77) (v := ?_) (a' := ?_) #[true, true, true, true, true, true, true, true, true, false, false] rfl rfl (any_of HT_.out (by kernel_rfl)) (fun _ _ _ h => h) (Or.inl ⟨by rfl, ?_⟩) ?_ ?_
                  rotate_left
                  · intro w'
                    go_simp
                    with_reducible rfl
                  rotate_left
                  · simp only [Act.put, List.setIfInBounds_toArray, List.set_cons_zero, List.set_cons_succ, i64_w, i32_w]
                    rfl
                  refine pure_ (i := 9) (N := some 78) (v := ?_) (a' := ?_) #[true, true, true, true, true, true, true, true, true, true, false] rfl rfl (any_of HT_.out (by kernel_rfl)) (fun _ _ _ h => h) (Or.inl ⟨by rfl, ?_⟩) ?_ ?_
                  rotate_left
                  · intro w'
                    go_simp
                    with_reducible rfl
                  rotate_left
                  · simp only [Act.put, List.setIfInBounds_toArray, List.set_cons_zero, List.set_cons_succ, i64_w, i32_w]
                    rfl
                  refine last_ (i := 10) (N := none) #[true, true, true, true, true, true, true, true, true, true, true] rfl rfl (one_of HT_.out (by kernel_rfl)) (by decide) (fun K hK => ?_)
                  refine skip_ (w1 := ?_) (by rfl) rfl ?_ ?_
                  rotate_left
                  · go_simp
                    rfl
                  refine hK.out _ _ ?_
                  clear hK K
                  refine done_ (done_of HT_.out (by kernel_rfl)) ?_
                  try go_wp2
                  go_roundg k4
                  case measure => have := HK1.out; have := HJ13.out; have := HK3.out; have := HK4.out; omega
                  case rel => exact ⟨(y268), (wrap64 (x9_4 + 1)), (by first | rfl | (simp; done) | (simp [*]; done)), H', ⟨by have := HK1.out; have := HJ13.out; have := HK3.out; have := HK4.out; omega⟩, ⟨by (with_reducible repeat (first | apply Kd.R_alloc | apply Kd.R_drewN | apply Kd.R_drew)); exact Kd.R_mono (Kd.R_far (p := ⟨go36, (x7_1 : Int).toNat, none⟩) (Kd.R_types HO_4.out GG36.out (by decide)) (fun _ hk => hk.2) (.int .i64 (wrap64 ((rd x6_4 x7_1) + (rd x6_4 x9_4))))) (fun _ hk => trivial)⟩, ⟨by (with_reducible repeat (first | apply Kd.R_alloc | apply Kd.R_drewN | apply Kd.R_drew)); exact HQ40.out⟩, ⟨by (with_reducible repeat (first | refine blk_drewN ?_ _ | refine blk_drew ?_ | refine blk_alloc ?_ _)); refine blk_far ?_ (by have h_ := Kd.R_ne HO_6.out BK252.out (by decide); intro e_; exact h_ (by rw [e_]; rfl)) _; (with_reducible repeat (first | refine blk_drewN ?_ _ | refine blk_drew ?_ | refine blk_alloc ?_ _)); exact BK252.out⟩, ⟨by repeat (first | (with_reducible first | exact HB.out | apply below_alloc | apply pw_below_drewN | apply below_drew1 | refine below_set ?_ GB36.out | refine below_set ?_ GE252.out) | exact HB.out)⟩⟩


/-! ### busbarref13_ShortestPath, its code -/
set_option maxHeartbeats 8000000 in
set_option maxRecDepth 100000 in
theorem busbarref13_ShortestPath.calls (k : Nat) (a0_0 : ByteArray) (A0_1 : Option Addr) (c0_1 : Nat) (l0_1 : List (S41)) (A0_2 : Option Addr) (c0_2 : Nat) (l0_2 : List (S101)) (a0_3 : ByteArray) (r1 : List Int) (r2 : Int) (w : World) (hr0_1 : Kd.C k41 w A0_1 l0_1.length l0_1) (hc0_1 : l0_1.length ≤ c0_1) (hr0_2 : Kd.C k101 w A0_2 l0_2.length l0_2) (hc0_2 : l0_2.length ≤ c0_2) (h : busbarref13_ShortestPath.f k a0_0 l0_1 l0_2 a0_3 = some (r1, r2)) :
    Calls Try.prog 40 #[.agg #[.string a0_0, .slice A0_1 l0_1.length c0_1, .slice A0_2 l0_2.length c0_2, .string a0_3]] w fun e w' => ∃ v0_ : Value, e = .returned (.tuple #[v0_, .int .i64 r2]) ∧ Kd.R (Kd.int .i64) 3 w' w.heap.size (fun _ => True) v0_ r1 ∧ Below w.heap.size w w' := by
  have hu25 := Try.underlying25
  have HR0_1 := Aside0.mk hr0_1
  have HC0_1 := Aside0.mk hc0_1
  clear hr0_1 hc0_1
  have HR0_2 := Aside0.mk hr0_2
  have HC0_2 := Aside0.mk hc0_2
  clear hr0_2 hc0_2
  have HB := Aside0.mk (Below.refl w.heap.size w)
  have H : ((busbarref12_Nodes.f k a0_0 l0_1 l0_2 a0_3).bind fun t277 => (if 0 ≤ (t277.length : Int) then (if ((t277.length : Int) : Int).toNat ≤ 35184372088832 then (busbarref13_ShortestPath.l0 k t277 (List.replicate ((t277.length : Int) : Int).toNat 0) 0 a0_0 l0_1 l0_2 a0_3) else (none)) else (none))) = some (r1, r2) := h
  clear h
  replace H := Option.bind_eq_some_iff.mp H
  obtain ⟨t277, A20, H⟩ := H
  replace H : (if 0 ≤ (t277.length : Int) then (if ((t277.length : Int) : Int).toNat ≤ 35184372088832 then (busbarref13_ShortestPath.l0 k t277 (List.replicate ((t277.length : Int) : Int).toNat 0) 0 a0_0 l0_1 l0_2 a0_3) else (none)) else (none)) = some (r1, r2) := H
  have A2 := Aside0.mk A20
  clear A20
  by_cases c3 : 0 ≤ (t277.length : Int)
  case neg => rw [if_neg c3] at H; exact absurd H (by simp)
  rw [if_pos c3] at H
  have c3b0 := eq_true c3
  have c3b1 : decide (0 ≤ (t277.length : Int)) = true := decide_eq_true c3
  clear c3
  by_cases c4 : ((t277.length : Int) : Int).toNat ≤ 35184372088832
  case neg => rw [if_neg c4] at H; exact absurd H (by simp)
  rw [if_pos c4] at H
  have c4b0 := eq_true c4
  have c4b1 : decide (((t277.length : Int) : Int).toNat ≤ 35184372088832) = true := decide_eq_true c4
  clear c4
  obtain ⟨y280, hy280⟩ : ∃ y_ : List Int, y_ = (List.replicate ((t277.length : Int) : Int).toNat 0) := ⟨_, rfl⟩
  replace H : (busbarref13_ShortestPath.l0 k t277 y280 0 a0_0 l0_1 l0_2 a0_3) = some (r1, r2) := by first | (rw [hy280]; with_reducible exact H) | (have H2_ := (Option.bind_some _ _).symm.trans H; rw [hy280]; with_reducible exact H2_) | (have H2_ := (Option.bind_some _ _).symm.trans H; with_reducible exact H2_) | with_reducible exact H | (rw [hy280]; exact H) | exact H
  have Ny280 := Aside0.mk hy280
  clear hy280
  have H' := Aside0.mk H
  clear H
  go_enter Try.func40, Try.ntmps40
  go_wp2_with (first | ((with_reducible refine gate_dst (N := 1) rfl ?_); refine box_event ?hg (N := 1) ?hd (cs := #[.string a0_0, .slice A0_1 l0_1.length c0_1, .slice A0_2 l0_2.length c0_2, .string a0_3]) (t := 25) ?hr ?_; (case hd => rfl); (case hg => rfl); (case hr => first | (go_simp; done) | (go_simp; rfl)); intro gb276 hg w5 hbox hb; have n0_ := Aside0.mk (below_step (by repeat (first | (with_reducible first | exact HB.out | apply below_alloc | apply pw_below_drewN | apply below_drew1) | exact HB.out)) hb); have n1_ := Aside0.mk (hbox); have n2_ := Aside0.mk ((by rw [hg]; exact (below_size (by repeat (first | (with_reducible first | exact HB.out | apply below_alloc | apply pw_below_drewN | apply below_drew1) | exact HB.out))) : w.heap.size ≤ gb276)); have n3_ := Aside0.mk ((by rw [hg]; exact (below_size (by repeat (first | (with_reducible first | exact HB.out | apply below_alloc | apply pw_below_drewN | apply below_drew1) | exact HB.out))) : w.heap.size ≤ gb276)); clear HB; have HB := n0_; have BK276 := n1_; have GW276 := n2_; have GE276 := n3_; clear n0_ n1_ n2_ n3_; clear hb hbox hg; have hcz6_0 : w5.cell? ⟨gb276, 0, none⟩ = some (.string a0_0) := (blk_cell BK276.out 0).trans rfl; have hcz6_1 : w5.cell? ⟨gb276, 1, none⟩ = some (.slice A0_1 l0_1.length c0_1) := (blk_cell BK276.out 1).trans rfl; have hcz6_2 : w5.cell? ⟨gb276, 2, none⟩ = some (.slice A0_2 l0_2.length c0_2) := (blk_cell BK276.out 2).trans rfl; have hcz6_3 : w5.cell? ⟨gb276, 3, none⟩ = some (.string a0_3) := (blk_cell BK276.out 3).trans rfl; have hfz6_0 := blk_frozen BK276.out 0; have hfz6_1 := blk_frozen BK276.out 1; have hfz6_2 := blk_frozen BK276.out 2; have hfz6_3 := blk_frozen BK276.out 3) | (go_at_call 19; (with_reducible refine (busbarref12_Nodes.calls k a0_0 _ _ l0_1 _ _ l0_2 a0_3 t277 _ ?side1 ?side2 ?side3 ?side4 A2.out).mono ?_); (case side1 => repeat (first | exact (Kd.C_below HR0_1.out HB.out) | (with_reducible refine Kd.C_alloc ?_ _) | (with_reducible refine Kd.C_drewN ?_ _) | (with_reducible refine Kd.C_drew ?_))); (case side2 => exact HC0_1.out); (case side3 => repeat (first | exact (Kd.C_below HR0_2.out HB.out) | (with_reducible refine Kd.C_alloc ?_ _) | (with_reducible refine Kd.C_drewN ?_ _) | (with_reducible refine Kd.C_drew ?_))); (case side4 => exact HC0_2.out); rintro e w7 ⟨v278, rfl, ho0, hb⟩; have n0_ := Aside0.mk (Kd.R_lower ho0 (below_size (by repeat (first | (with_reducible first | exact HB.out | apply below_alloc | apply pw_below_drewN | apply below_drew1 | refine below_set ?_ GE276.out) | exact HB.out)))); have n1_ := Aside0.mk (blk_below (g := gb276) (o := .cells #[.string a0_0, .slice A0_1 l0_1.length c0_1, .slice A0_2 l0_2.length c0_2, .string a0_3] 25 (0, 0)) (by (with_reducible repeat (first | refine blk_drewN ?_ _ | refine blk_drew ?_ | refine blk_alloc ?_ _)); exact BK276.out) hb); have n2_ := Aside0.mk (below_step (by repeat (first | (with_reducible first | exact HB.out | apply below_alloc | apply pw_below_drewN | apply below_drew1 | refine below_set ?_ GE276.out) | exact HB.out)) hb); clear BK276; clear HB; have HO279 := n0_; have BK276 := n1_; have HB := n2_; clear n0_ n1_ n2_; (try clear hb); (try clear hb2); (try clear hk); (try clear hi); (try clear ho0); obtain ⟨Ao8, co8, eo8⟩ := Kd.R_slice HO279.out; subst eo8) | ((with_reducible refine gate_dst (N := 18) rfl ?_); refine Kd.R_make (Kd.int .i64) _ 3 rfl (N := 18) rfl 32 _ _ rfl (t277.length : Int) rfl rfl Try.underlying32 (.int .i64 0) 8 info3 rfl (by decide) (by omega) 0 (ok := fun _ => True) (okp := fun _ => True) rfl (fun _ hk => hk) trivial (of_decide_eq_true (by first | (with_reducible assumption) | assumption)) (Nat.le_trans (Nat.mul_le_mul_right _ (of_decide_eq_true (by first | (with_reducible assumption) | assumption) : (t277.length : Int).toNat ≤ 35184372088832)) (by omega)) (Below.refl _ _) (Nat.le_refl _) ?_; intro v281 w9 ho10 hb hg_ hnew_; clear hg_ hnew_; (first | rw [← Ny280.out] at ho10 | (simp only [Int.reduceToNat] at ho10; rw [← Ny280.out] at ho10)); have n0_ := Aside0.mk (Kd.R_below (by (with_reducible repeat (first | apply Kd.R_alloc | apply Kd.R_drewN | apply Kd.R_drew)); exact HO279.out) hb); have n1_ := Aside0.mk (Kd.R_lower ho10 (below_size (by repeat (first | (with_reducible first | exact HB.out | apply below_alloc | apply pw_below_drewN | apply below_drew1 | refine below_set ?_ GE276.out) | exact HB.out)))); have n2_ := Aside0.mk (blk_below (g := gb276) (o := .cells #[.string a0_0, .slice A0_1 l0_1.length c0_1, .slice A0_2 l0_2.length c0_2, .string a0_3] 25 (0, 0)) (by (with_reducible repeat (first | refine blk_drewN ?_ _ | refine blk_drew ?_ | refine blk_alloc ?_ _)); exact BK276.out) hb); have n3_ := Aside0.mk (below_step (by repeat (first | (with_reducible first | exact HB.out | apply below_alloc | apply pw_below_drewN | apply below_drew1 | refine below_set ?_ GE276.out) | exact HB.out)) hb); clear HO279; clear BK276; clear HB; have HO279 := n0_; have HO282 := n1_; have BK276 := n2_; have HB := n3_; clear n0_ n1_ n2_ n3_; clear hb ho10))
  repeat (go_quiet (fail); try go_wp2)
  go_loopg [6] k (fun kq v6 w' => ∃ (x5_1 : List Int) (x6_1 : Int), v6 = .int .i64 x6_1 ∧ Aside0 (busbarref13_ShortestPath.l0 kq t277 x5_1 x6_1 a0_0 l0_1 l0_2 a0_3 = some (r1, r2)) ∧ Aside0 (kq ≤ k) ∧ Aside0 (Kd.R Kd.string 9 w' w.heap.size (fun _ => True) (.slice Ao8 t277.length co8) t277) ∧ Aside0 (Kd.R (Kd.int .i64) 3 w' w.heap.size (fun _ => True) v281 x5_1) ∧ Aside0 (w'.heap[gb276]? = some (.cells #[.string a0_0, (.slice A0_1 l0_1.length c0_1), (.slice A0_2 l0_2.length c0_2), .string a0_3] 25 (0, 0))) ∧ Aside0 (Below w.heap.size w w'))
  case atStart => exact ⟨(y280), (0), (by first | rfl | (simp; done) | (simp [*]; done)), H', ⟨Nat.le_refl _⟩, ⟨by (with_reducible repeat (first | apply Kd.R_alloc | apply Kd.R_drewN | apply Kd.R_drew)); exact HO279.out⟩, ⟨by (with_reducible repeat (first | apply Kd.R_alloc | apply Kd.R_drewN | apply Kd.R_drew)); exact HO282.out⟩, ⟨by (with_reducible repeat (first | refine blk_drewN ?_ _ | refine blk_drew ?_ | refine blk_alloc ?_ _)); exact BK276.out⟩, ⟨by repeat (first | (with_reducible first | exact HB.out | apply below_alloc | apply pw_below_drewN | apply below_drew1 | refine below_set ?_ GE276.out) | exact HB.out)⟩⟩
  case round =>
    clear H'
    (try clear p2); (try clear c3); (try clear c3b0); (try clear c3b1); (try clear c4); (try clear c4b0); (try clear c4b1); (try clear hcz6_0); (try clear hcz6_1); (try clear hcz6_2); (try clear hcz6_3); (try clear hfz6_0); (try clear hfz6_1); (try clear hfz6_2); (try clear hfz6_3)
    obtain ⟨x5_1, x6_1, rfl, HA, HK1, HO_4, HO_5, BK276, HB⟩ := hrel
    cases gk with
    | zero => exact absurd HA.out (by simp [busbarref13_ShortestPath.l0])
    | succ k1 =>
      have H := HA.out
      clear HA
      simp only [busbarref13_ShortestPath.l0] at H
      by_cases c11 : x6_1 < (t277.length : Int)
      case pos =>
        rw [if_pos c11] at H
        have c11b0 : decide (x6_1 < (t277.length : Int)) = true := decide_eq_true c11
        clear c11
        by_cases c12 : 0 ≤ x6_1
        case neg => rw [if_neg c12] at H; exact absurd H (by simp)
        rw [if_pos c12] at H
        have c12b0 : decide (0 ≤ x6_1) = true := decide_eq_true c12
        clear c12
        by_cases c13 : x6_1 < (x5_1.length : Int)
        case neg => rw [if_neg c13] at H; exact absurd H (by simp)
        rw [if_pos c13] at H
        have c13b0 : decide (x6_1 < (x5_1.length : Int)) = true := decide_eq_true c13
        clear c13
        obtain ⟨y283, hy283⟩ : ∃ y_ : List Int, y_ = (x5_1.set (x6_1 : Int).toNat (wrap64 ((t277.length : Int) + 1))) := ⟨_, rfl⟩
        replace H : (if (rdOf ByteArray.empty t277 x6_1).toList = ([82] : List UInt8) then (busbarref13_ShortestPath.l0 k1 t277 (y283.set (x6_1 : Int).toNat 0) (wrap64 (x6_1 + 1)) a0_0 l0_1 l0_2 a0_3) else (busbarref13_ShortestPath.l0 k1 t277 y283 (wrap64 (x6_1 + 1)) a0_0 l0_1 l0_2 a0_3)) = some (r1, r2) := by first | (rw [hy283]; with_reducible exact H) | (have H2_ := (Option.bind_some _ _).symm.trans H; rw [hy283]; with_reducible exact H2_) | (have H2_ := (Option.bind_some _ _).symm.trans H; with_reducible exact H2_) | with_reducible exact H | (rw [hy283]; exact H) | exact H
        have Ny283 := Aside0.mk hy283
        clear hy283
        by_cases c15 : (rdOf ByteArray.empty t277 x6_1).toList = ([82] : List UInt8)
        case neg =>
          rw [if_neg c15] at H
          have c15b0 : ((rdOf ByteArray.empty t277 x6_1).toList == ([82] : List UInt8)) = false := beq_eq_false_iff_ne.mpr c15
          have c15b1 : ((rdOf ByteArray.empty t277 x6_1).toList != ([82] : List UInt8)) = true := bne_iff_ne.mpr c15
          have H' := Aside0.mk H
          clear H
          have p14 : 0 ≤ (x6_1 : Int) := of_decide_eq_true (by first | (with_reducible assumption) | assumption)
          have q14 : (x6_1 : Int) < ((x5_1.length : Int) : Int) := of_decide_eq_true (by first | (with_reducible assumption) | assumption)
          obtain ⟨go14, co14, eo14, gb14, gl14, cl14, HG14⟩ := Kd.R_form HO_5.out (by omega)
          (first | cases eo14 | (injection eo14 with ea_ en_ ec_; (first | subst ea_ | (injection ea_ with ea_; subst ea_)); subst ec_; clear en_))
          have GB14 := Aside0.mk gb14
          have GG14 := Aside0.mk HG14
          clear gb14 gl14 HG14
          obtain ⟨hx14_0, hf14_0⟩ := Kd.R_celln 0 HO_5.out (x6_1 : Int) p14 q14
          replace p14 := eq_true p14
          replace q14 := eq_true q14
          have HP21 := Kd.R_putg HO_5.out (x6_1 : Int) (wrap64 ((t277.length : Int) + 1))
          go_wp2_with (first | ((with_reducible refine gate_store (t := 3) (p := 30) rfl ?_); (try (rw [drewN_self wr]; generalize hq_ : World.drewN wr _ = wr; have n0_ := Aside0.mk (Kd.R_at hq_ HO_4.out); have n1_ := Aside0.mk (Kd.R_at hq_ HO_5.out); have n2_ := Aside0.mk (blk_at hq_ BK276.out); have n3_ := Aside0.mk (below_at hq_ HB.out); clear hq_ HO_4 HO_5 BK276 HB; have HO_4 := n0_; have HO_5 := n1_; have BK276 := n2_; have HB := n3_; clear n0_ n1_ n2_ n3_; (try (have HP21 := Kd.R_putg HO_5.out (x6_1 : Int) (wrap64 ((t277.length : Int) + 1)))))); refine store_event (t := 3) (p := 30) (v := ?vo_w22) (w1 := (wr.setCell ⟨go14, (x6_1 : Int).toNat, none⟩ (.int .i64 (wrap64 ((t277.length : Int) + 1))))) ?hg ?ho ?hn ?hr ?_; (case ho => rfl); (case hg => rfl); (case hn => rfl); (case hr => first | (go_simp; done) | (go_simp; rfl)); intro w22 hw; have hg : wr.grownBy w22 (some go14) := (by rw [hw]; exact HP21.2); have hp_ : Kd.R (Kd.int .i64) 3 w22 w.heap.size (fun _ => True) (.slice (some ⟨go14, 0, none⟩) x5_1.length co14) y283 := (by rw [hw, Ny283.out]; exact HP21.1); clear HP21; have n0_ := Aside0.mk (Kd.R_over' (v := (.slice (some ⟨go14, 0, none⟩) x5_1.length co14)) (by (with_reducible repeat (first | apply Kd.R_alloc | apply Kd.R_drewN | apply Kd.R_drew)); exact HO_4.out) (Kd.R_typed HO_5.out) (by decide) hg); have n1_ := Aside0.mk (hp_); have n2_ := Aside0.mk (blk_grown (g := gb276) (o := .cells #[.string a0_0, .slice A0_1 l0_1.length c0_1, .slice A0_2 l0_2.length c0_2, .string a0_3] 25 (0, 0)) (by (with_reducible repeat (first | refine blk_drewN ?_ _ | refine blk_drew ?_ | refine blk_alloc ?_ _)); exact BK276.out) hg (Kd.R_ne HO_5.out BK276.out (by decide))); have n3_ := Aside0.mk ((by rw [hw]; exact below_set (HB.out) GB14.out : Below w.heap.size w w22)); clear HO_4; clear HO_5; clear BK276; clear HB; have HO_4 := n0_; have HO_5 := n1_; have BK276 := n2_; have HB := n3_; clear n0_ n1_ n2_ n3_; clear hg hw hp_; have p284 : 0 ≤ (x6_1 : Int) := of_decide_eq_true (by first | (with_reducible assumption) | assumption); have q284 : x6_1 < (t277.length : Int) := of_decide_eq_true (by first | (with_reducible assumption) | assumption); obtain ⟨ad284, e284, hx284_0⟩ := Kd.at_string (Kd.R_reads' HO_4.out).2.2 x6_1 p284 q284; cases e284; replace p284 := eq_true p284; replace q284 := eq_true q284))
          repeat (go_quiet (fail); try go_wp2)
          go_roundg k1
          case measure => have := HK1.out; omega
          case rel => exact ⟨(y283), (wrap64 (x6_1 + 1)), (by first | rfl | (simp; done) | (simp [*]; done)), H', ⟨by have := HK1.out; omega⟩, ⟨by (with_reducible repeat (first | apply Kd.R_alloc | apply Kd.R_drewN | apply Kd.R_drew)); exact HO_4.out⟩, ⟨by (with_reducible repeat (first | apply Kd.R_alloc | apply Kd.R_drewN | apply Kd.R_drew)); exact HO_5.out⟩, ⟨by (with_reducible repeat (first | refine blk_drewN ?_ _ | refine blk_drew ?_ | refine blk_alloc ?_ _)); exact BK276.out⟩, ⟨by repeat (first | (with_reducible first | exact HB.out | apply below_alloc | apply pw_below_drewN | apply below_drew1 | refine below_set ?_ GE276.out) | exact HB.out)⟩⟩
        rw [if_pos c15] at H
        have c15b0 : ((rdOf ByteArray.empty t277 x6_1).toList == ([82] : List UInt8)) = true := beq_iff_eq.mpr c15
        have c15b1 : ((rdOf ByteArray.empty t277 x6_1).toList != ([82] : List UInt8)) = false := bne_eq_false_iff_eq.mpr c15
        clear c15
        obtain ⟨y285, hy285⟩ : ∃ y_ : List Int, y_ = (y283.set (x6_1 : Int).toNat 0) := ⟨_, rfl⟩
        replace H : (busbarref13_ShortestPath.l0 k1 t277 y285 (wrap64 (x6_1 + 1)) a0_0 l0_1 l0_2 a0_3) = some (r1, r2) := by first | (rw [hy285]; with_reducible exact H) | (have H2_ := (Option.bind_some _ _).symm.trans H; rw [hy285]; with_reducible exact H2_) | (have H2_ := (Option.bind_some _ _).symm.trans H; with_reducible exact H2_) | with_reducible exact H | (rw [hy285]; exact H) | exact H
        have Ny285 := Aside0.mk hy285
        clear hy285
        have H' := Aside0.mk H
        clear H
        have p14 : 0 ≤ (x6_1 : Int) := of_decide_eq_true (by first | (with_reducible assumption) | assumption)
        have q14 : (x6_1 : Int) < ((x5_1.length : Int) : Int) := of_decide_eq_true (by first | (with_reducible assumption) | assumption)
        obtain ⟨go14, co14, eo14, gb14, gl14, cl14, HG14⟩ := Kd.R_form HO_5.out (by omega)
        (first | cases eo14 | (injection eo14 with ea_ en_ ec_; (first | subst ea_ | (injection ea_ with ea_; subst ea_)); subst ec_; clear en_))
        have GB14 := Aside0.mk gb14
        have GG14 := Aside0.mk HG14
        clear gb14 gl14 HG14
        obtain ⟨hx14_0, hf14_0⟩ := Kd.R_celln 0 HO_5.out (x6_1 : Int) p14 q14
        replace p14 := eq_true p14
        replace q14 := eq_true q14
        have HP17 := Kd.R_putg HO_5.out (x6_1 : Int) (wrap64 ((t277.length : Int) + 1))
        go_wp2_with (first | ((with_reducible refine gate_store (t := 3) (p := 30) rfl ?_); (try (rw [drewN_self wr]; generalize hq_ : World.drewN wr _ = wr; have n0_ := Aside0.mk (Kd.R_at hq_ HO_4.out); have n1_ := Aside0.mk (Kd.R_at hq_ HO_5.out); have n2_ := Aside0.mk (blk_at hq_ BK276.out); have n3_ := Aside0.mk (below_at hq_ HB.out); clear hq_ HO_4 HO_5 BK276 HB; have HO_4 := n0_; have HO_5 := n1_; have BK276 := n2_; have HB := n3_; clear n0_ n1_ n2_ n3_; (try (have HP17 := Kd.R_putg HO_5.out (x6_1 : Int) (wrap64 ((t277.length : Int) + 1)))))); refine store_event (t := 3) (p := 30) (v := ?vo_w18) (w1 := (wr.setCell ⟨go14, (x6_1 : Int).toNat, none⟩ (.int .i64 (wrap64 ((t277.length : Int) + 1))))) ?hg ?ho ?hn ?hr ?_; (case ho => rfl); (case hg => rfl); (case hn => rfl); (case hr => first | (go_simp; done) | (go_simp; rfl)); intro w18 hw; have hg : wr.grownBy w18 (some go14) := (by rw [hw]; exact HP17.2); have hp_ : Kd.R (Kd.int .i64) 3 w18 w.heap.size (fun _ => True) (.slice (some ⟨go14, 0, none⟩) x5_1.length co14) y283 := (by rw [hw, Ny283.out]; exact HP17.1); clear HP17; have n0_ := Aside0.mk (Kd.R_over' (v := (.slice (some ⟨go14, 0, none⟩) x5_1.length co14)) (by (with_reducible repeat (first | apply Kd.R_alloc | apply Kd.R_drewN | apply Kd.R_drew)); exact HO_4.out) (Kd.R_typed HO_5.out) (by decide) hg); have n1_ := Aside0.mk (hp_); have n2_ := Aside0.mk (blk_grown (g := gb276) (o := .cells #[.string a0_0, .slice A0_1 l0_1.length c0_1, .slice A0_2 l0_2.length c0_2, .string a0_3] 25 (0, 0)) (by (with_reducible repeat (first | refine blk_drewN ?_ _ | refine blk_drew ?_ | refine blk_alloc ?_ _)); exact BK276.out) hg (Kd.R_ne HO_5.out BK276.out (by decide))); have n3_ := Aside0.mk ((by rw [hw]; exact below_set (HB.out) GB14.out : Below w.heap.size w w18)); clear HO_4; clear HO_5; clear BK276; clear HB; have HO_4 := n0_; have HO_5 := n1_; have BK276 := n2_; have HB := n3_; clear n0_ n1_ n2_ n3_; clear hg hw hp_; have p284 : 0 ≤ (x6_1 : Int) := of_decide_eq_true (by first | (with_reducible assumption) | assumption); have q284 : x6_1 < (t277.length : Int) := of_decide_eq_true (by first | (with_reducible assumption) | assumption); obtain ⟨ad284, e284, hx284_0⟩ := Kd.at_string (Kd.R_reads' HO_4.out).2.2 x6_1 p284 q284; cases e284; replace p284 := eq_true p284; replace q284 := eq_true q284; have p16 : 0 ≤ (x6_1 : Int) := of_decide_eq_true (by first | (with_reducible assumption) | assumption); have q16 : (x6_1 : Int) < ((x5_1.length : Int) : Int) := of_decide_eq_true (by first | (with_reducible assumption) | assumption); obtain ⟨hx16_0, hf16_0⟩ := Kd.R_celln 0 HO_5.out (x6_1 : Int) p16 q16; replace p16 := eq_true p16; replace q16 := eq_true q16; obtain ⟨hy19_, hz19_⟩ := Kd.R_celln 0 HO_5.out (x6_1 : Int) (of_decide_eq_true (by first | (with_reducible assumption) | assumption)) (of_decide_eq_true (by first | (with_reducible assumption) | assumption)); have HP19 := Kd.R_putg HO_5.out (x6_1 : Int) 0) | ((with_reducible refine gate_store (t := 3) (p := 38) rfl ?_); (try (rw [drewN_self w18]; generalize hq_ : World.drewN w18 _ = w18; have n0_ := Aside0.mk (Kd.R_at hq_ HO_4.out); have n1_ := Aside0.mk (Kd.R_at hq_ HO_5.out); have n2_ := Aside0.mk (blk_at hq_ BK276.out); have n3_ := Aside0.mk (below_at hq_ HB.out); clear hq_ HO_4 HO_5 BK276 HB; have HO_4 := n0_; have HO_5 := n1_; have BK276 := n2_; have HB := n3_; clear n0_ n1_ n2_ n3_; (try (obtain ⟨hy19_, hz19_⟩ := Kd.R_celln 0 HO_5.out (x6_1 : Int) (of_decide_eq_true (by first | (with_reducible assumption) | assumption)) (of_decide_eq_true (by first | (with_reducible assumption) | assumption)))); (try (have HP19 := Kd.R_putg HO_5.out (x6_1 : Int) 0)))); refine store_event (t := 3) (p := 38) (v := ?vo_w20) (w1 := (w18.setCell ⟨go14, (x6_1 : Int).toNat, none⟩ (.int .i64 0))) ?hg ?ho ?hn ?hr ?_; (case ho => rfl); (case hg => rfl); (case hn => rfl); (case hr => first | (go_simp; done) | (go_simp; rfl)); intro w20 hw; have hg : w18.grownBy w20 (some go14) := (by rw [hw]; exact HP19.2); have hp_ : Kd.R (Kd.int .i64) 3 w20 w.heap.size (fun _ => True) (.slice (some ⟨go14, 0, none⟩) x5_1.length co14) y285 := (by rw [hw, Ny285.out]; exact HP19.1); clear HP19; have n0_ := Aside0.mk (Kd.R_over' (v := (.slice (some ⟨go14, 0, none⟩) x5_1.length co14)) (by (with_reducible repeat (first | apply Kd.R_alloc | apply Kd.R_drewN | apply Kd.R_drew)); exact HO_4.out) (Kd.R_typed HO_5.out) (by decide) hg); have n1_ := Aside0.mk (hp_); have n2_ := Aside0.mk (blk_grown (g := gb276) (o := .cells #[.string a0_0, .slice A0_1 l0_1.length c0_1, .slice A0_2 l0_2.length c0_2, .string a0_3] 25 (0, 0)) (by (with_reducible repeat (first | refine blk_drewN ?_ _ | refine blk_drew ?_ | refine blk_alloc ?_ _)); exact BK276.out) hg (Kd.R_ne HO_5.out BK276.out (by decide))); have n3_ := Aside0.mk ((by rw [hw]; exact below_set (HB.out) GB14.out : Below w.heap.size w w20)); clear HO_4; clear HO_5; clear BK276; clear HB; have HO_4 := n0_; have HO_5 := n1_; have BK276 := n2_; have HB := n3_; clear n0_ n1_ n2_ n3_; clear hg hw hp_))
        repeat (go_quiet (fail); try go_wp2)
        go_roundg k1
        case measure => have := HK1.out; omega
        case rel => exact ⟨(y285), (wrap64 (x6_1 + 1)), (by first | rfl | (simp; done) | (simp [*]; done)), H', ⟨by have := HK1.out; omega⟩, ⟨by (with_reducible repeat (first | apply Kd.R_alloc | apply Kd.R_drewN | apply Kd.R_drew)); exact HO_4.out⟩, ⟨by (with_reducible repeat (first | apply Kd.R_alloc | apply Kd.R_drewN | apply Kd.R_drew)); exact HO_5.out⟩, ⟨by (with_reducible repeat (first | refine blk_drewN ?_ _ | refine blk_drew ?_ | refine blk_alloc ?_ _)); exact BK276.out⟩, ⟨by repeat (first | (with_reducible first | exact HB.out | apply below_alloc | apply pw_below_drewN | apply below_drew1 | refine below_set ?_ GE276.out) | exact HB.out)⟩⟩
      rw [if_neg c11] at H
      have c11b0 : decide (x6_1 < (t277.length : Int)) = false := decide_eq_false c11
      clear c11
      have H' := Aside0.mk H
      clear H
      go_wp2
      repeat (go_quiet (fail); try go_wp2)
      go_loopg [7] k1 (fun kq v7 w' => ∃ (x5_2 : List Int) (x7_2 : Int), v7 = .int .i64 x7_2 ∧ Aside0 (busbarref13_ShortestPath.l1 kq t277 x5_2 x7_2 a0_0 l0_1 l0_2 a0_3 = some (r1, r2)) ∧ Aside0 (kq ≤ k1) ∧ Aside0 (Kd.R Kd.string 9 w' w.heap.size (fun _ => True) (.slice Ao8 t277.length co8) t277) ∧ Aside0 (Kd.R (Kd.int .i64) 3 w' w.heap.size (fun _ => True) v281 x5_2) ∧ Aside0 (w'.heap[gb276]? = some (.cells #[.string a0_0, (.slice A0_1 l0_1.length c0_1), (.slice A0_2 l0_2.length c0_2), .string a0_3] 25 (0, 0))) ∧ Aside0 (Below w.heap.size w w'))
      case atStart => exact ⟨(x5_1), (0), (by first | rfl | (simp; done) | (simp [*]; done)), H', ⟨Nat.le_refl _⟩, ⟨by (with_reducible repeat (first | apply Kd.R_alloc | apply Kd.R_drewN | apply Kd.R_drew)); exact HO_4.out⟩, ⟨by (with_reducible repeat (first | apply Kd.R_alloc | apply Kd.R_drewN | apply Kd.R_drew)); exact HO_5.out⟩, ⟨by (with_reducible repeat (first | refine blk_drewN ?_ _ | refine blk_drew ?_ | refine blk_alloc ?_ _)); exact BK276.out⟩, ⟨by repeat (first | (with_reducible first | exact HB.out | apply below_alloc | apply pw_below_drewN | apply below_drew1 | refine below_set ?_ GE276.out) | exact HB.out)⟩⟩
      case round =>
        clear H'
        (try clear c1); (try clear p1); (try clear q1); (try clear hx1); (try clear hf1); (try clear p2); (try clear q2); (try clear hx2); (try clear c3); (try clear c3b0); (try clear c3b1); (try clear c4); (try clear c4b0); (try clear c4b1); (try clear p6); (try clear c11); (try clear c11b0); (try clear c12); (try clear c12b0); (try clear c13); (try clear c13b0); (try clear p14); (try clear q14); (try clear hx14); (try clear hf14); (try clear c15); (try clear c15b0); (try clear c15b1); (try clear p16); (try clear q16); (try clear hx16); (try clear hf16); (try clear hcz6_0); (try clear hcz6_1); (try clear hcz6_2); (try clear hcz6_3); (try clear hfz6_0); (try clear hfz6_1); (try clear hfz6_2); (try clear hfz6_3); (try clear hx14_0); (try clear hx16_0); (try clear hx284_0); (try clear p14); (try clear p16); (try clear p2); (try clear p284); (try clear q14); (try clear q16); (try clear q284)
        obtain ⟨x5_2, x7_2, rfl, HA, HK2, HO_4, HO_5, BK276, HB⟩ := hrel
        cases gk with
        | zero => exact absurd HA.out (by simp [busbarref13_ShortestPath.l1])
        | succ k2 =>
          have H := HA.out
          clear HA
          simp only [busbarref13_ShortestPath.l1] at H
          by_cases c23 : x7_2 < (t277.length : Int)
          case pos =>
            rw [if_pos c23] at H
            have c23b0 : decide (x7_2 < (t277.length : Int)) = true := decide_eq_true c23
            clear c23
            have H' := Aside0.mk H
            clear H
            go_wp2
            repeat (go_quiet (fail); try go_wp2)
            go_loopg [8] k2 (fun kq v8 w' => ∃ (x5_3 : List Int) (x8_3 : Int), v8 = .int .i64 x8_3 ∧ Aside0 (busbarref13_ShortestPath.l2 kq t277 x5_3 x7_2 x8_3 a0_0 l0_1 l0_2 a0_3 = some (r1, r2)) ∧ Aside0 (kq ≤ k2) ∧ Aside0 (Kd.R Kd.string 9 w' w.heap.size (fun _ => True) (.slice Ao8 t277.length co8) t277) ∧ Aside0 (Kd.R (Kd.int .i64) 3 w' w.heap.size (fun _ => True) v281 x5_3) ∧ Aside0 (w'.heap[gb276]? = some (.cells #[.string a0_0, (.slice A0_1 l0_1.length c0_1), (.slice A0_2 l0_2.length c0_2), .string a0_3] 25 (0, 0))) ∧ Aside0 (Below w.heap.size w w'))
            case atStart => exact ⟨(x5_2), (0), (by first | rfl | (simp; done) | (simp [*]; done)), H', ⟨Nat.le_refl _⟩, ⟨by (with_reducible repeat (first | apply Kd.R_alloc | apply Kd.R_drewN | apply Kd.R_drew)); exact HO_4.out⟩, ⟨by (with_reducible repeat (first | apply Kd.R_alloc | apply Kd.R_drewN | apply Kd.R_drew)); exact HO_5.out⟩, ⟨by (with_reducible repeat (first | refine blk_drewN ?_ _ | refine blk_drew ?_ | refine blk_alloc ?_ _)); exact BK276.out⟩, ⟨by repeat (first | (with_reducible first | exact HB.out | apply below_alloc | apply pw_below_drewN | apply below_drew1 | refine below_set ?_ GE276.out) | exact HB.out)⟩⟩
            case round =>
              clear H'
              (try clear c1); (try clear p1); (try clear q1); (try clear hx1); (try clear hf1); (try clear c2); (try clear p2); (try clear q2); (try clear hx2); (try clear c3); (try clear c3b0); (try clear c3b1); (try clear c4); (try clear c4b0); (try clear c4b1); (try clear p6); (try clear c11); (try clear c11b0); (try clear c12); (try clear c12b0); (try clear c13); (try clear c13b0); (try clear p14); (try clear q14); (try clear hx14); (try clear hf14); (try clear c15); (try clear c15b0); (try clear c15b1); (try clear p16); (try clear q16); (try clear hx16); (try clear hf16); (try clear c23); (try clear c23b0); (try clear hcz6_0); (try clear hcz6_1); (try clear hcz6_2); (try clear hcz6_3); (try clear hfz6_0); (try clear hfz6_1); (try clear hfz6_2); (try clear hfz6_3); (try clear hx14_0); (try clear hx16_0); (try clear hx284_0); (try clear p1); (try clear p14); (try clear p16); (try clear p2); (try clear p284); (try clear p6); (try clear q1); (try clear q14); (try clear q16); (try clear q2); (try clear q284)
              obtain ⟨x5_3, x8_3, rfl, HA, HK3, HO_4, HO_5, BK276, HB⟩ := hrel
              cases gk with
              | zero => exact absurd HA.out (by simp [busbarref13_ShortestPath.l2])
              | succ k3 =>
                have H := HA.out
                clear HA
                simp only [busbarref13_ShortestPath.l2] at H
                by_cases c24 : x8_3 < (l0_1.length : Int)
                case neg =>
                  rw [if_neg c24] at H
                  have c24b0 : decide (x8_3 < (l0_1.length : Int)) = false := decide_eq_false c24
                  clear c24
                  have H' := Aside0.mk H
                  clear H
                  have hcz40_0 : wr.cell? ⟨gb276, 0, none⟩ = some (.string a0_0) := (blk_cell BK276.out 0).trans rfl
                  have hcz40_1 : wr.cell? ⟨gb276, 1, none⟩ = some (.slice A0_1 l0_1.length c0_1) := (blk_cell BK276.out 1).trans rfl
                  have hcz40_2 : wr.cell? ⟨gb276, 2, none⟩ = some (.slice A0_2 l0_2.length c0_2) := (blk_cell BK276.out 2).trans rfl
                  have hcz40_3 : wr.cell? ⟨gb276, 3, none⟩ = some (.string a0_3) := (blk_cell BK276.out 3).trans rfl
                  have hfz40_0 := blk_frozen BK276.out 0
                  have hfz40_1 := blk_frozen BK276.out 1
                  have hfz40_2 := blk_frozen BK276.out 2
                  have hfz40_3 := blk_frozen BK276.out 3
                  go_wp2
                  repeat (go_quiet (fail); try go_wp2)
                  go_roundg k3
                  case measure => have := HK1.out; have := HK2.out; have := HK3.out; omega
                  case rel => exact ⟨(x5_3), (wrap64 (x7_2 + 1)), (by first | rfl | (simp; done) | (simp [*]; done)), H', ⟨by have := HK1.out; have := HK2.out; have := HK3.out; omega⟩, ⟨by (with_reducible repeat (first | apply Kd.R_alloc | apply Kd.R_drewN | apply Kd.R_drew)); exact HO_4.out⟩, ⟨by (with_reducible repeat (first | apply Kd.R_alloc | apply Kd.R_drewN | apply Kd.R_drew)); exact HO_5.out⟩, ⟨by (with_reducible repeat (first | refine blk_drewN ?_ _ | refine blk_drew ?_ | refine blk_alloc ?_ _)); exact BK276.out⟩, ⟨by repeat (first | (with_reducible first | exact HB.out | apply below_alloc | apply pw_below_drewN | apply below_drew1 | refine below_set ?_ GE276.out) | exact HB.out)⟩⟩
                rw [if_pos c24] at H
                have c24b0 : decide (x8_3 < (l0_1.length : Int)) = true := decide_eq_true c24
                clear c24
                by_cases c25 : 0 ≤ x8_3
                case neg => rw [if_neg c25] at H; exact absurd H (by simp)
                rw [if_pos c25] at H
                have c25b0 : decide (0 ≤ x8_3) = true := decide_eq_true c25
                clear c25
                replace H := Option.bind_eq_some_iff.mp H
                obtain ⟨t287, A260, H⟩ := H
                replace H : ((busbarref13_place.f k3 t277 ((rd_T41 l0_1 x8_3).f3)).bind fun t289 => (if 0 ≤ t289 then (if t289 < (x5_3.length : Int) then (if 0 ≤ t287 then (if t287 < (x5_3.length : Int) then (if (wrap64 ((rd x5_3 t289) + 1)) < (rd x5_3 t287) then (busbarref13_ShortestPath.l2 k3 t277 (x5_3.set (t287 : Int).toNat (wrap64 ((rd x5_3 t289) + 1))) x7_2 (wrap64 (x8_3 + 1)) a0_0 l0_1 l0_2 a0_3) else (busbarref13_ShortestPath.l2 k3 t277 x5_3 x7_2 (wrap64 (x8_3 + 1)) a0_0 l0_1 l0_2 a0_3)) else (none)) else (none)) else (none)) else (none))) = some (r1, r2) := H
                have A26 := Aside0.mk A260
                clear A260
                replace H := Option.bind_eq_some_iff.mp H
                obtain ⟨t289, A270, H⟩ := H
                replace H : (if 0 ≤ t289 then (if t289 < (x5_3.length : Int) then (if 0 ≤ t287 then (if t287 < (x5_3.length : Int) then (if (wrap64 ((rd x5_3 t289) + 1)) < (rd x5_3 t287) then (busbarref13_ShortestPath.l2 k3 t277 (x5_3.set (t287 : Int).toNat (wrap64 ((rd x5_3 t289) + 1))) x7_2 (wrap64 (x8_3 + 1)) a0_0 l0_1 l0_2 a0_3) else (busbarref13_ShortestPath.l2 k3 t277 x5_3 x7_2 (wrap64 (x8_3 + 1)) a0_0 l0_1 l0_2 a0_3)) else (none)) else (none)) else (none)) else (none)) = some (r1, r2) := H
                have A27 := Aside0.mk A270
                clear A270
                by_cases c28 : 0 ≤ t289
                case neg => rw [if_neg c28] at H; exact absurd H (by simp)
                rw [if_pos c28] at H
                have c28b0 : decide (0 ≤ t289) = true := decide_eq_true c28
                clear c28
                by_cases c29 : t289 < (x5_3.length : Int)
                case neg => rw [if_neg c29] at H; exact absurd H (by simp)
                rw [if_pos c29] at H
                have c29b0 : decide (t289 < (x5_3.length : Int)) = true := decide_eq_true c29
                clear c29
                by_cases c30 : 0 ≤ t287
                case neg => rw [if_neg c30] at H; exact absurd H (by simp)
                rw [if_pos c30] at H
                have c30b0 : decide (0 ≤ t287) = true := decide_eq_true c30
                clear c30
                by_cases c31 : t287 < (x5_3.length : Int)
                case neg => rw [if_neg c31] at H; exact absurd H (by simp)
                rw [if_pos c31] at H
                have c31b0 : decide (t287 < (x5_3.length : Int)) = true := decide_eq_true c31
                clear c31
                by_cases c32 : (wrap64 ((rd x5_3 t289) + 1)) < (rd x5_3 t287)
                case neg =>
                  rw [if_neg c32] at H
                  have c32b0 : decide ((wrap64 ((rd x5_3 t289) + 1)) < (rd x5_3 t287)) = false := decide_eq_false c32
                  clear c32
                  have H' := Aside0.mk H
                  clear H
                  have hcz38_0 : wr.cell? ⟨gb276, 0, none⟩ = some (.string a0_0) := (blk_cell BK276.out 0).trans rfl
                  have hcz38_1 : wr.cell? ⟨gb276, 1, none⟩ = some (.slice A0_1 l0_1.length c0_1) := (blk_cell BK276.out 1).trans rfl
                  have hcz38_2 : wr.cell? ⟨gb276, 2, none⟩ = some (.slice A0_2 l0_2.length c0_2) := (blk_cell BK276.out 2).trans rfl
                  have hcz38_3 : wr.cell? ⟨gb276, 3, none⟩ = some (.string a0_3) := (blk_cell BK276.out 3).trans rfl
                  have hfz38_0 := blk_frozen BK276.out 0
                  have hfz38_1 := blk_frozen BK276.out 1
                  have hfz38_2 := blk_frozen BK276.out 2
                  have hfz38_3 := blk_frozen BK276.out 3
                  have p286 : 0 ≤ (x8_3 : Int) := of_decide_eq_true (by first | (with_reducible assumption) | assumption)
                  have q286 : x8_3 < (l0_1.length : Int) := of_decide_eq_true (by first | (with_reducible assumption) | assumption)
                  obtain ⟨ad286, e286, hx286_0, hx286_1, hx286_2, hx286_3, hx286_4⟩ := at_T41 HR0_1.out x8_3 p286 q286
                  cases e286
                  replace hx286_0 := (HB.out.cell (World.block_lt_of_cell? w _ hx286_0)).trans hx286_0
                  replace hx286_1 := (HB.out.cell (World.block_lt_of_cell? w _ hx286_1)).trans hx286_1
                  replace hx286_2 := (HB.out.cell (World.block_lt_of_cell? w _ hx286_2)).trans hx286_2
                  replace hx286_3 := (HB.out.cell (World.block_lt_of_cell? w _ hx286_3)).trans hx286_3
                  replace hx286_4 := (HB.out.cell (World.block_lt_of_cell? w _ hx286_4)).trans hx286_4
                  replace p286 := eq_true p286
                  replace q286 := eq_true q286
                  go_wp2_with (first | (go_at_call 62; (with_reducible refine (busbarref13_place.calls k3 _ _ t277 ((rd_T41 l0_1 x8_3).f2) t287 _ ?side1 ?side2 A26.out).mono ?_); (case side1 => repeat (first | exact (Kd.R_reads' HO_4.out).2.2 | (with_reducible refine Kd.C_alloc ?_ _) | (with_reducible refine Kd.C_drewN ?_ _) | (with_reducible refine Kd.C_drew ?_))); (case side2 => exact (Kd.R_reads' HO_4.out).2.1); rintro e w' ⟨rfl, ⟨nd, rfl⟩⟩; (try first | exact ⟨rfl, _, World.drewN_drewN _ _ _⟩ | exact ⟨rfl, _, Eq.trans (World.drewN_drewN _ _ _) (congrArg (World.drewN _) (Nat.add_assoc _ _ _))⟩); have p288 : 0 ≤ (x8_3 : Int) := of_decide_eq_true (by first | (with_reducible assumption) | assumption); have q288 : x8_3 < (l0_1.length : Int) := of_decide_eq_true (by first | (with_reducible assumption) | assumption); obtain ⟨ad288, e288, hx288_0, hx288_1, hx288_2, hx288_3, hx288_4⟩ := at_T41 HR0_1.out x8_3 p288 q288; obtain rfl : ad286 = ad288 := (by injection e288); replace hx288_0 := (HB.out.cell (World.block_lt_of_cell? w _ hx288_0)).trans hx288_0; replace hx288_1 := (HB.out.cell (World.block_lt_of_cell? w _ hx288_1)).trans hx288_1; replace hx288_2 := (HB.out.cell (World.block_lt_of_cell? w _ hx288_2)).trans hx288_2; replace hx288_3 := (HB.out.cell (World.block_lt_of_cell? w _ hx288_3)).trans hx288_3; replace hx288_4 := (HB.out.cell (World.block_lt_of_cell? w _ hx288_4)).trans hx288_4; replace p288 := eq_true p288; replace q288 := eq_true q288) | (go_at_call 62; (with_reducible refine (busbarref13_place.calls k3 _ _ t277 ((rd_T41 l0_1 x8_3).f3) t289 _ ?side1 ?side2 A27.out).mono ?_); (case side1 => repeat (first | exact (Kd.R_reads' HO_4.out).2.2 | (with_reducible refine Kd.C_alloc ?_ _) | (with_reducible refine Kd.C_drewN ?_ _) | (with_reducible refine Kd.C_drew ?_))); (case side2 => exact (Kd.R_reads' HO_4.out).2.1); rintro e w' ⟨rfl, ⟨nd, rfl⟩⟩; (try first | exact ⟨rfl, _, World.drewN_drewN _ _ _⟩ | exact ⟨rfl, _, Eq.trans (World.drewN_drewN _ _ _) (congrArg (World.drewN _) (Nat.add_assoc _ _ _))⟩); obtain ⟨Ao39, co39, eo39⟩ := Kd.R_slice HO_5.out; subst eo39; have p290 : 0 ≤ (t289 : Int) := of_decide_eq_true (by first | (with_reducible assumption) | assumption); have q290 : t289 < (x5_3.length : Int) := of_decide_eq_true (by first | (with_reducible assumption) | assumption); obtain ⟨ad290, e290, hx290_0⟩ := Kd.at_int (Kd.R_reads' HO_5.out).2.2 t289 p290 q290; cases e290; replace p290 := eq_true p290; replace q290 := eq_true q290; have p291 : 0 ≤ (t287 : Int) := of_decide_eq_true (by first | (with_reducible assumption) | assumption); have q291 : t287 < (x5_3.length : Int) := of_decide_eq_true (by first | (with_reducible assumption) | assumption); obtain ⟨ad291, e291, hx291_0⟩ := Kd.at_int (Kd.R_reads' HO_5.out).2.2 t287 p291 q291; obtain rfl : ad290 = ad291 := (by injection e291); replace p291 := eq_true p291; replace q291 := eq_true q291))
                  repeat (go_quiet (fail); try go_wp2)
                  go_roundg k3
                  case measure => have := HK1.out; have := HK2.out; have := HK3.out; omega
                  case rel => exact ⟨(x5_3), (wrap64 (x8_3 + 1)), (by first | rfl | (simp; done) | (simp [*]; done)), H', ⟨by have := HK1.out; have := HK2.out; have := HK3.out; omega⟩, ⟨by (with_reducible repeat (first | apply Kd.R_alloc | apply Kd.R_drewN | apply Kd.R_drew)); exact HO_4.out⟩, ⟨by (with_reducible repeat (first | apply Kd.R_alloc | apply Kd.R_drewN | apply Kd.R_drew)); exact HO_5.out⟩, ⟨by (with_reducible repeat (first | refine blk_drewN ?_ _ | refine blk_drew ?_ | refine blk_alloc ?_ _)); exact BK276.out⟩, ⟨by repeat (first | (with_reducible first | exact HB.out | apply below_alloc | apply pw_below_drewN | apply below_drew1 | refine below_set ?_ GE276.out) | exact HB.out)⟩⟩
                rw [if_pos c32] at H
                have c32b0 : decide ((wrap64 ((rd x5_3 t289) + 1)) < (rd x5_3 t287)) = true := decide_eq_true c32
                clear c32
                obtain ⟨y293, hy293⟩ : ∃ y_ : List Int, y_ = (x5_3.set (t287 : Int).toNat (wrap64 ((rd x5_3 t289) + 1))) := ⟨_, rfl⟩
                replace H : (busbarref13_ShortestPath.l2 k3 t277 y293 x7_2 (wrap64 (x8_3 + 1)) a0_0 l0_1 l0_2 a0_3) = some (r1, r2) := by first | (rw [hy293]; with_reducible exact H) | (have H2_ := (Option.bind_some _ _).symm.trans H; rw [hy293]; with_reducible exact H2_) | (have H2_ := (Option.bind_some _ _).symm.trans H; with_reducible exact H2_) | with_reducible exact H | (rw [hy293]; exact H) | exact H
                have Ny293 := Aside0.mk hy293
                clear hy293
                have H' := Aside0.mk H
                clear H
                have hcz34_0 : wr.cell? ⟨gb276, 0, none⟩ = some (.string a0_0) := (blk_cell BK276.out 0).trans rfl
                have hcz34_1 : wr.cell? ⟨gb276, 1, none⟩ = some (.slice A0_1 l0_1.length c0_1) := (blk_cell BK276.out 1).trans rfl
                have hcz34_2 : wr.cell? ⟨gb276, 2, none⟩ = some (.slice A0_2 l0_2.length c0_2) := (blk_cell BK276.out 2).trans rfl
                have hcz34_3 : wr.cell? ⟨gb276, 3, none⟩ = some (.string a0_3) := (blk_cell BK276.out 3).trans rfl
                have hfz34_0 := blk_frozen BK276.out 0
                have hfz34_1 := blk_frozen BK276.out 1
                have hfz34_2 := blk_frozen BK276.out 2
                have hfz34_3 := blk_frozen BK276.out 3
                have p286 : 0 ≤ (x8_3 : Int) := of_decide_eq_true (by first | (with_reducible assumption) | assumption)
                have q286 : x8_3 < (l0_1.length : Int) := of_decide_eq_true (by first | (with_reducible assumption) | assumption)
                obtain ⟨ad286, e286, hx286_0, hx286_1, hx286_2, hx286_3, hx286_4⟩ := at_T41 HR0_1.out x8_3 p286 q286
                cases e286
                replace hx286_0 := (HB.out.cell (World.block_lt_of_cell? w _ hx286_0)).trans hx286_0
                replace hx286_1 := (HB.out.cell (World.block_lt_of_cell? w _ hx286_1)).trans hx286_1
                replace hx286_2 := (HB.out.cell (World.block_lt_of_cell? w _ hx286_2)).trans hx286_2
                replace hx286_3 := (HB.out.cell (World.block_lt_of_cell? w _ hx286_3)).trans hx286_3
                replace hx286_4 := (HB.out.cell (World.block_lt_of_cell? w _ hx286_4)).trans hx286_4
                replace p286 := eq_true p286
                replace q286 := eq_true q286
                go_wp2_with (first | (go_at_call 62; (with_reducible refine (busbarref13_place.calls k3 _ _ t277 ((rd_T41 l0_1 x8_3).f2) t287 _ ?side1 ?side2 A26.out).mono ?_); (case side1 => repeat (first | exact (Kd.R_reads' HO_4.out).2.2 | (with_reducible refine Kd.C_alloc ?_ _) | (with_reducible refine Kd.C_drewN ?_ _) | (with_reducible refine Kd.C_drew ?_))); (case side2 => exact (Kd.R_reads' HO_4.out).2.1); rintro e w' ⟨rfl, ⟨nd, rfl⟩⟩; (try first | exact ⟨rfl, _, World.drewN_drewN _ _ _⟩ | exact ⟨rfl, _, Eq.trans (World.drewN_drewN _ _ _) (congrArg (World.drewN _) (Nat.add_assoc _ _ _))⟩); have p288 : 0 ≤ (x8_3 : Int) := of_decide_eq_true (by first | (with_reducible assumption) | assumption); have q288 : x8_3 < (l0_1.length : Int) := of_decide_eq_true (by first | (with_reducible assumption) | assumption); obtain ⟨ad288, e288, hx288_0, hx288_1, hx288_2, hx288_3, hx288_4⟩ := at_T41 HR0_1.out x8_3 p288 q288; obtain rfl : ad286 = ad288 := (by injection e288); replace hx288_0 := (HB.out.cell (World.block_lt_of_cell? w _ hx288_0)).trans hx288_0; replace hx288_1 := (HB.out.cell (World.block_lt_of_cell? w _ hx288_1)).trans hx288_1; replace hx288_2 := (HB.out.cell (World.block_lt_of_cell? w _ hx288_2)).trans hx288_2; replace hx288_3 := (HB.out.cell (World.block_lt_of_cell? w _ hx288_3)).trans hx288_3; replace hx288_4 := (HB.out.cell (World.block_lt_of_cell? w _ hx288_4)).trans hx288_4; replace p288 := eq_true p288; replace q288 := eq_true q288) | (go_at_call 62; (with_reducible refine (busbarref13_place.calls k3 _ _ t277 ((rd_T41 l0_1 x8_3).f3) t289 _ ?side1 ?side2 A27.out).mono ?_); (case side1 => repeat (first | exact (Kd.R_reads' HO_4.out).2.2 | (with_reducible refine Kd.C_alloc ?_ _) | (with_reducible refine Kd.C_drewN ?_ _) | (with_reducible refine Kd.C_drew ?_))); (case side2 => exact (Kd.R_reads' HO_4.out).2.1); rintro e w' ⟨rfl, ⟨nd, rfl⟩⟩; (try first | exact ⟨rfl, _, World.drewN_drewN _ _ _⟩ | exact ⟨rfl, _, Eq.trans (World.drewN_drewN _ _ _) (congrArg (World.drewN _) (Nat.add_assoc _ _ _))⟩); obtain ⟨Ao35, co35, eo35⟩ := Kd.R_slice HO_5.out; subst eo35; have p290 : 0 ≤ (t289 : Int) := of_decide_eq_true (by first | (with_reducible assumption) | assumption); have q290 : t289 < (x5_3.length : Int) := of_decide_eq_true (by first | (with_reducible assumption) | assumption); obtain ⟨ad290, e290, hx290_0⟩ := Kd.at_int (Kd.R_reads' HO_5.out).2.2 t289 p290 q290; cases e290; replace p290 := eq_true p290; replace q290 := eq_true q290; have p291 : 0 ≤ (t287 : Int) := of_decide_eq_true (by first | (with_reducible assumption) | assumption); have q291 : t287 < (x5_3.length : Int) := of_decide_eq_true (by first | (with_reducible assumption) | assumption); obtain ⟨ad291, e291, hx291_0⟩ := Kd.at_int (Kd.R_reads' HO_5.out).2.2 t287 p291 q291; obtain rfl : ad290 = ad291 := (by injection e291); replace p291 := eq_true p291; replace q291 := eq_true q291; have p292 : 0 ≤ (t289 : Int) := of_decide_eq_true (by first | (with_reducible assumption) | assumption); have q292 : t289 < (x5_3.length : Int) := of_decide_eq_true (by first | (with_reducible assumption) | assumption); obtain ⟨ad292, e292, hx292_0⟩ := Kd.at_int (Kd.R_reads' HO_5.out).2.2 t289 p292 q292; obtain rfl : ad290 = ad292 := (by injection e292); replace p292 := eq_true p292; replace q292 := eq_true q292; have p33 : 0 ≤ (t287 : Int) := of_decide_eq_true (by first | (with_reducible assumption) | assumption); have q33 : (t287 : Int) < ((x5_3.length : Int) : Int) := of_decide_eq_true (by first | (with_reducible assumption) | assumption); obtain ⟨go33, co33, eo33, gb33, gl33, cl33, HG33⟩ := Kd.R_form HO_5.out (by omega); (first | cases eo33 | (injection eo33 with ea_ en_ ec_; (first | subst ea_ | (injection ea_ with ea_; subst ea_)); subst ec_; clear en_)); have GB33 := Aside0.mk gb33; have GG33 := Aside0.mk HG33; clear gb33 gl33 HG33; (first | simp only [add_plain] at hx290_0 | skip); (first | simp only [add_plain] at hx291_0 | skip); (first | simp only [add_plain] at hx292_0 | skip); obtain ⟨hx33_0, hf33_0⟩ := Kd.R_celln 0 HO_5.out (t287 : Int) p33 q33; replace p33 := eq_true p33; replace q33 := eq_true q33; obtain ⟨hy36_, hz36_⟩ := Kd.R_celln 0 HO_5.out (t287 : Int) (of_decide_eq_true (by first | (with_reducible assumption) | assumption)) (of_decide_eq_true (by first | (with_reducible assumption) | assumption)); have HP36 := Kd.R_putg HO_5.out (t287 : Int) (wrap64 ((rd x5_3 t289) + 1))))
                repeat (go_quiet (fail); try go_wp2_with (first | ((with_reducible refine gate_store (t := 3) (p := 85) rfl ?_); (try (rw [drewN_self wr]; generalize hq_ : World.drewN wr _ = wr; have n0_ := Aside0.mk (Kd.R_at hq_ HO_4.out); have n1_ := Aside0.mk (Kd.R_at hq_ HO_5.out); have n2_ := Aside0.mk (blk_at hq_ BK276.out); have n3_ := Aside0.mk (below_at hq_ HB.out); clear hq_ HO_4 HO_5 BK276 HB; have HO_4 := n0_; have HO_5 := n1_; have BK276 := n2_; have HB := n3_; clear n0_ n1_ n2_ n3_; (try (obtain ⟨hy36_, hz36_⟩ := Kd.R_celln 0 HO_5.out (t287 : Int) (of_decide_eq_true (by first | (with_reducible assumption) | assumption)) (of_decide_eq_true (by first | (with_reducible assumption) | assumption)))); (try (have HP36 := Kd.R_putg HO_5.out (t287 : Int) (wrap64 ((rd x5_3 t289) + 1)))))); refine store_event (t := 3) (p := 85) (v := ?vo_w37) (w1 := (wr.setCell ⟨go33, (t287 : Int).toNat, none⟩ (.int .i64 (wrap64 ((rd x5_3 t289) + 1))))) ?hg ?ho ?hn ?hr ?_; (case ho => rfl); (case hg => rfl); (case hn => rfl); (case hr => first | (go_simp; done) | (go_simp; rfl)); intro w37 hw; have hg : wr.grownBy w37 (some go33) := (by rw [hw]; exact HP36.2); have hp_ : Kd.R (Kd.int .i64) 3 w37 w.heap.size (fun _ => True) (.slice (some ⟨go33, 0, none⟩) x5_3.length co35) y293 := (by rw [hw, Ny293.out]; exact HP36.1); clear HP36; have n0_ := Aside0.mk (Kd.R_over' (v := (.slice (some ⟨go33, 0, none⟩) x5_3.length co35)) (by (with_reducible repeat (first | apply Kd.R_alloc | apply Kd.R_drewN | apply Kd.R_drew)); exact HO_4.out) (Kd.R_typed HO_5.out) (by decide) hg); have n1_ := Aside0.mk (hp_); have n2_ := Aside0.mk (blk_grown (g := gb276) (o := .cells #[.string a0_0, .slice (some ad286) l0_1.length c0_1, .slice A0_2 l0_2.length c0_2, .string a0_3] 25 (0, 0)) (by (with_reducible repeat (first | refine blk_drewN ?_ _ | refine blk_drew ?_ | refine blk_alloc ?_ _)); exact BK276.out) hg (Kd.R_ne HO_5.out BK276.out (by decide))); have n3_ := Aside0.mk ((by rw [hw]; exact below_set (HB.out) GB33.out : Below w.heap.size w w37)); clear HO_4; clear HO_5; clear BK276; clear HB; have HO_4 := n0_; have HO_5 := n1_; have BK276 := n2_; have HB := n3_; clear n0_ n1_ n2_ n3_; clear hg hw hp_)))
                go_roundg k3
                case measure => have := HK1.out; have := HK2.out; have := HK3.out; omega
                case rel => exact ⟨(y293), (wrap64 (x8_3 + 1)), (by first | rfl | (simp; done) | (simp [*]; done)), H', ⟨by have := HK1.out; have := HK2.out; have := HK3.out; omega⟩, ⟨by (with_reducible repeat (first | apply Kd.R_alloc | apply Kd.R_drewN | apply Kd.R_drew)); exact HO_4.out⟩, ⟨by (with_reducible repeat (first | apply Kd.R_alloc | apply Kd.R_drewN | apply Kd.R_drew)); exact HO_5.out⟩, ⟨by (with_reducible repeat (first | refine blk_drewN ?_ _ | refine blk_drew ?_ | refine blk_alloc ?_ _)); exact BK276.out⟩, ⟨by repeat (first | (with_reducible first | exact HB.out | apply below_alloc | apply pw_below_drewN | apply below_drew1 | refine below_set ?_ GE276.out) | exact HB.out)⟩⟩
          rw [if_neg c23] at H
          have c23b0 : decide (x7_2 < (t277.length : Int)) = false := decide_eq_false c23
          clear c23
          by_cases c41 : 0 < (x5_2.length : Int)
          case neg => rw [if_neg c41] at H; exact absurd H (by simp)
          rw [if_pos c41] at H
          have c41b0 : decide (0 < (x5_2.length : Int)) = true := decide_eq_true c41
          have c41b1 : decide (0 < x5_2.length) = true := decide_eq_true (by omega)
          clear c41
          by_cases c42 : (rd x5_2 0) > (t277.length : Int)
          case pos =>
            rw [if_pos c42] at H
            have c42b0 : decide ((t277.length : Int) < (rd x5_2 0)) = true := decide_eq_true c42
            clear c42
            simp only [Option.some.injEq, Prod.mk.injEq] at H
            obtain ⟨rfl, rfl⟩ := H
            obtain ⟨Ao43, co43, eo43⟩ := Kd.R_slice HO_5.out
            subst eo43
            have p294 : 0 ≤ (0 : Int) := (by omega)
            have q294 : 0 < (x5_2.length : Int) := of_decide_eq_true (by first | (with_reducible assumption) | assumption)
            obtain ⟨ad294, e294, hx294_0⟩ := Kd.at_int (Kd.R_reads' HO_5.out).2.2 0 p294 q294
            cases e294
            have qi294 : (0 < x5_2.length) = True := eq_true (by omega)
            (try rw [show ((0 : Int)).toNat = 0 from rfl] at hx294_0)
            (try rw [Addr.add_zero'] at hx294_0)
            replace p294 := eq_true p294
            replace q294 := eq_true q294
            go_wp2
            repeat (go_quiet (fail); try go_wp2)
            go_ret2
            exact ⟨_, by first | rfl | (simp [errW_none, errW_some] <;> rfl) | (simp [*, errW_none, errW_some] <;> rfl), by first | exact Kd.R_nil _ _ _ _ _ | exact Kd.N_nil _ _ _ _ _ | exact Kd.V_nil _ _ _ _ _ | exact Kd.Q_nil _ _ _ _ _ | exact Kd.S_nil _ _ _ _ _, by repeat (first | (with_reducible first | exact HB.out | apply below_alloc | apply pw_below_drewN | apply below_drew1 | refine below_set ?_ GE276.out) | exact HB.out)⟩
          rw [if_neg c42] at H
          have c42b0 : decide ((t277.length : Int) < (rd x5_2 0)) = false := decide_eq_false c42
          clear c42
          have H' := Aside0.mk H
          clear H
          obtain ⟨Ao44, co44, eo44⟩ := Kd.R_slice HO_5.out
          subst eo44
          have p294 : 0 ≤ (0 : Int) := (by omega)
          have q294 : 0 < (x5_2.length : Int) := of_decide_eq_true (by first | (with_reducible assumption) | assumption)
          obtain ⟨ad294, e294, hx294_0⟩ := Kd.at_int (Kd.R_reads' HO_5.out).2.2 0 p294 q294
          cases e294
          have qi294 : (0 < x5_2.length) = True := eq_true (by omega)
          (try rw [show ((0 : Int)).toNat = 0 from rfl] at hx294_0)
          (try rw [Addr.add_zero'] at hx294_0)
          replace p294 := eq_true p294
          replace q294 := eq_true q294
          go_wp2
          repeat (go_quiet (fail); try go_wp2)
          go_loopg [11, 12] k2 (fun kq v11 v12 w' => ∃ (x11_3 : List Int) (x12_3 : ByteArray), v12 = .string x12_3 ∧ Aside0 (busbarref13_ShortestPath.l3 kq t277 x5_2 x11_3 x12_3 a0_0 l0_1 l0_2 a0_3 = some (r1, r2)) ∧ Aside0 (kq ≤ k2) ∧ Aside0 (Kd.R Kd.string 9 w' w.heap.size (fun _ => True) (.slice Ao8 t277.length co8) t277) ∧ Aside0 (Kd.R (Kd.int .i64) 3 w' w.heap.size (fun k_ => some k_ ≠ (v11 : Value).ownBlock) (.slice (some ad294) x5_2.length co44) x5_2) ∧ Aside0 (Kd.R (Kd.int .i64) 3 w' w.heap.size (fun k_ => some k_ ≠ ((.slice (some ad294) x5_2.length co44) : Value).ownBlock) v11 x11_3) ∧ Aside0 (w'.heap[gb276]? = some (.cells #[.string a0_0, (.slice A0_1 l0_1.length c0_1), (.slice A0_2 l0_2.length c0_2), .string a0_3] 25 (0, 0))) ∧ Aside0 (Below w.heap.size w w'))
          case atStart => exact ⟨(([] : List Int)), ((⟨#[76]⟩ : ByteArray)), (by first | rfl | (simp; done) | (simp [*]; done)), H', ⟨Nat.le_refl _⟩, ⟨by (with_reducible repeat (first | apply Kd.R_alloc | apply Kd.R_drewN | apply Kd.R_drew)); exact HO_4.out⟩, ⟨by (with_reducible repeat (first | apply Kd.R_alloc | apply Kd.R_drewN | apply Kd.R_drew)); exact Kd.R_mono HO_5.out (fun _ hk => (by simp [Value.ownBlock]))⟩, ⟨by first | exact Kd.R_nil _ _ _ _ _ | exact Kd.N_nil _ _ _ _ _ | exact Kd.V_nil _ _ _ _ _ | exact Kd.Q_nil _ _ _ _ _ | exact Kd.S_nil _ _ _ _ _⟩, ⟨by (with_reducible repeat (first | refine blk_drewN ?_ _ | refine blk_drew ?_ | refine blk_alloc ?_ _)); exact BK276.out⟩, ⟨by repeat (first | (with_reducible first | exact HB.out | apply below_alloc | apply pw_below_drewN | apply below_drew1 | refine below_set ?_ GE276.out) | exact HB.out)⟩⟩
          case round =>
            clear H'
            (try clear c1); (try clear p1); (try clear q1); (try clear hx1); (try clear hf1); (try clear c2); (try clear p2); (try clear q2); (try clear hx2); (try clear qi2); (try clear c3); (try clear c3b0); (try clear c3b1); (try clear p3); (try clear q3); (try clear hx3); (try clear hf3); (try clear c4); (try clear c4b0); (try clear c4b1); (try clear p6); (try clear c11); (try clear c11b0); (try clear c12); (try clear c12b0); (try clear c13); (try clear c13b0); (try clear p14); (try clear q14); (try clear hx14); (try clear hf14); (try clear c15); (try clear c15b0); (try clear c15b1); (try clear p16); (try clear q16); (try clear hx16); (try clear hf16); (try clear c23); (try clear c23b0); (try clear c24); (try clear c24b0); (try clear c25); (try clear c25b0); (try clear c28); (try clear c28b0); (try clear p28); (try clear q28); (try clear hx28); (try clear c29); (try clear c29b0); (try clear p29); (try clear q29); (try clear hx29); (try clear qi29); (try clear c30); (try clear c30b0); (try clear c31); (try clear c31b0); (try clear c32); (try clear c32b0); (try clear p33); (try clear q33); (try clear hx33); (try clear hf33); (try clear c40); (try clear c41); (try clear c41b0); (try clear c41b1); (try clear c42); (try clear c42b0); (try clear hcz34_0); (try clear hcz34_1); (try clear hcz34_2); (try clear hcz34_3); (try clear hcz38_0); (try clear hcz38_1); (try clear hcz38_2); (try clear hcz38_3); (try clear hcz40_0); (try clear hcz40_1); (try clear hcz40_2); (try clear hcz40_3)
            (try clear hcz6_0); (try clear hcz6_1); (try clear hcz6_2); (try clear hcz6_3); (try clear hfz34_0); (try clear hfz34_1); (try clear hfz34_2); (try clear hfz34_3); (try clear hfz38_0); (try clear hfz38_1); (try clear hfz38_2); (try clear hfz38_3); (try clear hfz40_0); (try clear hfz40_1); (try clear hfz40_2); (try clear hfz40_3); (try clear hfz6_0); (try clear hfz6_1); (try clear hfz6_2); (try clear hfz6_3); (try clear hx14_0); (try clear hx16_0); (try clear hx284_0); (try clear hx286_0); (try clear hx286_1); (try clear hx286_2); (try clear hx286_3); (try clear hx286_4); (try clear hx288_0); (try clear hx288_1); (try clear hx288_2); (try clear hx288_3); (try clear hx288_4); (try clear hx290_0); (try clear hx291_0); (try clear hx292_0); (try clear hx294_0); (try clear hx33_0); (try clear p1); (try clear p14); (try clear p16); (try clear p2); (try clear p284); (try clear p286); (try clear p288); (try clear p290); (try clear p291); (try clear p292); (try clear p294); (try clear p33); (try clear p6); (try clear q1); (try clear q14); (try clear q16); (try clear q2); (try clear q284); (try clear q286); (try clear q288); (try clear q290); (try clear q291); (try clear q292); (try clear q294); (try clear q33)
            obtain ⟨x11_3, x12_3, rfl, HA, HK3, HO_4, HO_5, HO_11, BK276, HB⟩ := hrel
            cases gk with
            | zero => exact absurd HA.out (by simp [busbarref13_ShortestPath.l3])
            | succ k3 =>
              have H := HA.out
              clear HA
              simp only [busbarref13_ShortestPath.l3] at H
              by_cases c45 : x12_3.toList = ([82] : List UInt8)
              case pos =>
                rw [if_pos c45] at H
                have c45b0 : (x12_3.toList == ([82] : List UInt8)) = true := beq_iff_eq.mpr c45
                have c45b1 : (x12_3.toList != ([82] : List UInt8)) = false := bne_eq_false_iff_eq.mpr c45
                clear c45
                simp only [Option.some.injEq, Prod.mk.injEq] at H
                obtain ⟨rfl, rfl⟩ := H
                go_wp2
                repeat (go_quiet (fail); try go_wp2)
                go_ret2
                exact ⟨_, by first | rfl | (simp [errW_none, errW_some] <;> rfl) | (simp [*, errW_none, errW_some] <;> rfl), by (with_reducible repeat (first | apply Kd.R_alloc | apply Kd.R_drewN | apply Kd.R_drew)); exact Kd.R_mono HO_11.out (fun _ hk => trivial), by repeat (first | (with_reducible first | exact HB.out | apply below_alloc | apply pw_below_drewN | apply below_drew1 | refine below_set ?_ GE276.out) | exact HB.out)⟩
              rw [if_neg c45] at H
              have c45b0 : (x12_3.toList == ([82] : List UInt8)) = false := beq_eq_false_iff_ne.mpr c45
              have c45b1 : (x12_3.toList != ([82] : List UInt8)) = true := bne_iff_ne.mpr c45
              have H' := Aside0.mk H
              clear H
              go_wp2
              repeat (go_quiet (fail); try go_wp2)
              go_loopg [13] k3 (fun kq v13 w' => ∃ (x13_4 : Int), v13 = .int .i64 x13_4 ∧ Aside0 (busbarref13_ShortestPath.l4 kq t277 x5_2 x11_3 x12_3 x13_4 a0_0 l0_1 l0_2 a0_3 = some (r1, r2)) ∧ Aside0 (kq ≤ k3) ∧ Aside0 (Kd.R Kd.string 9 w' w.heap.size (fun _ => True) (.slice Ao8 t277.length co8) t277) ∧ Aside0 (Kd.R (Kd.int .i64) 3 w' w.heap.size (fun k_ => some k_ ≠ (u11 : Value).ownBlock) (.slice (some ad294) x5_2.length co44) x5_2) ∧ Aside0 (Kd.R (Kd.int .i64) 3 w' w.heap.size (fun k_ => some k_ ≠ ((.slice (some ad294) x5_2.length co44) : Value).ownBlock) u11 x11_3) ∧ Aside0 (w'.heap[gb276]? = some (.cells #[.string a0_0, (.slice A0_1 l0_1.length c0_1), (.slice A0_2 l0_2.length c0_2), .string a0_3] 25 (0, 0))) ∧ Aside0 (Below w.heap.size w w'))
              case atStart => exact ⟨(0), (by first | rfl | (simp; done) | (simp [*]; done)), H', ⟨Nat.le_refl _⟩, ⟨by (with_reducible repeat (first | apply Kd.R_alloc | apply Kd.R_drewN | apply Kd.R_drew)); exact HO_4.out⟩, ⟨by (with_reducible repeat (first | apply Kd.R_alloc | apply Kd.R_drewN | apply Kd.R_drew)); exact HO_5.out⟩, ⟨by (with_reducible repeat (first | apply Kd.R_alloc | apply Kd.R_drewN | apply Kd.R_drew)); exact HO_11.out⟩, ⟨by (with_reducible repeat (first | refine blk_drewN ?_ _ | refine blk_drew ?_ | refine blk_alloc ?_ _)); exact BK276.out⟩, ⟨by repeat (first | (with_reducible first | exact HB.out | apply below_alloc | apply pw_below_drewN | apply below_drew1 | refine below_set ?_ GE276.out) | exact HB.out)⟩⟩
              case round =>
                clear H'
                (try clear c1); (try clear p1); (try clear q1); (try clear hx1); (try clear hf1); (try clear c2); (try clear p2); (try clear q2); (try clear hx2); (try clear qi2); (try clear c3); (try clear c3b0); (try clear c3b1); (try clear p3); (try clear q3); (try clear hx3); (try clear hf3); (try clear c4); (try clear c4b0); (try clear c4b1); (try clear p6); (try clear c11); (try clear c11b0); (try clear c12); (try clear c12b0); (try clear c13); (try clear c13b0); (try clear p14); (try clear q14); (try clear hx14); (try clear hf14); (try clear c15); (try clear c15b0); (try clear c15b1); (try clear p16); (try clear q16); (try clear hx16); (try clear hf16); (try clear c23); (try clear c23b0); (try clear c24); (try clear c24b0); (try clear c25); (try clear c25b0); (try clear c28); (try clear c28b0); (try clear p28); (try clear q28); (try clear hx28); (try clear c29); (try clear c29b0); (try clear p29); (try clear q29); (try clear hx29); (try clear qi29); (try clear c30); (try clear c30b0); (try clear c31); (try clear c31b0); (try clear c32); (try clear c32b0); (try clear p33); (try clear q33); (try clear hx33); (try clear hf33); (try clear c40); (try clear c41); (try clear c41b0); (try clear c41b1); (try clear c42); (try clear c42b0); (try clear c45); (try clear c45b0); (try clear c45b1); (try clear hcz34_0); (try clear hcz34_1); (try clear hcz34_2); (try clear hcz34_3); (try clear hcz38_0); (try clear hcz38_1); (try clear hcz38_2); (try clear hcz38_3); (try clear hcz40_0); (try clear hcz40_1)
                (try clear hcz40_2); (try clear hcz40_3); (try clear hcz6_0); (try clear hcz6_1); (try clear hcz6_2); (try clear hcz6_3); (try clear hfz34_0); (try clear hfz34_1); (try clear hfz34_2); (try clear hfz34_3); (try clear hfz38_0); (try clear hfz38_1); (try clear hfz38_2); (try clear hfz38_3); (try clear hfz40_0); (try clear hfz40_1); (try clear hfz40_2); (try clear hfz40_3); (try clear hfz6_0); (try clear hfz6_1); (try clear hfz6_2); (try clear hfz6_3); (try clear hx14_0); (try clear hx16_0); (try clear hx284_0); (try clear hx286_0); (try clear hx286_1); (try clear hx286_2); (try clear hx286_3); (try clear hx286_4); (try clear hx288_0); (try clear hx288_1); (try clear hx288_2); (try clear hx288_3); (try clear hx288_4); (try clear hx290_0); (try clear hx291_0); (try clear hx292_0); (try clear hx294_0); (try clear hx33_0); (try clear p1); (try clear p14); (try clear p16); (try clear p2); (try clear p28); (try clear p284); (try clear p286); (try clear p288); (try clear p29); (try clear p290); (try clear p291); (try clear p292); (try clear p294); (try clear p3); (try clear p33); (try clear p6); (try clear q1); (try clear q14); (try clear q16); (try clear q2); (try clear q28); (try clear q284); (try clear q286); (try clear q288); (try clear q29); (try clear q290); (try clear q291); (try clear q292); (try clear q294); (try clear q3); (try clear q33)
                obtain ⟨x13_4, rfl, HA, HK4, HO_4, HO_5, HO_11, BK276, HB⟩ := hrel
                cases gk with
                | zero => exact absurd HA.out (by simp [busbarref13_ShortestPath.l4])
                | succ k4 =>
                  have H := HA.out
                  clear HA
                  simp only [busbarref13_ShortestPath.l4] at H
                  by_cases c46 : 0 ≤ x13_4
                  case neg => rw [if_neg c46] at H; exact absurd H (by simp)
                  rw [if_pos c46] at H
                  have c46b0 : decide (0 ≤ x13_4) = true := decide_eq_true c46
                  clear c46
                  by_cases c47 : x13_4 < (l0_1.length : Int)
                  case neg => rw [if_neg c47] at H; exact absurd H (by simp)
                  rw [if_pos c47] at H
                  have c47b0 : decide (x13_4 < (l0_1.length : Int)) = true := decide_eq_true c47
                  clear c47
                  by_cases c48 : ((rd_T41 l0_1 x13_4).f2).toList = x12_3.toList
                  case neg =>
                    rw [if_neg c48] at H
                    have c48b0 : (((rd_T41 l0_1 x13_4).f2).toList == x12_3.toList) = false := beq_eq_false_iff_ne.mpr c48
                    have c48b1 : (((rd_T41 l0_1 x13_4).f2).toList != x12_3.toList) = true := bne_iff_ne.mpr c48
                    have H' := Aside0.mk H
                    clear H
                    have hcz61_0 : wr.cell? ⟨gb276, 0, none⟩ = some (.string a0_0) := (blk_cell BK276.out 0).trans rfl
                    have hcz61_1 : wr.cell? ⟨gb276, 1, none⟩ = some (.slice A0_1 l0_1.length c0_1) := (blk_cell BK276.out 1).trans rfl
                    have hcz61_2 : wr.cell? ⟨gb276, 2, none⟩ = some (.slice A0_2 l0_2.length c0_2) := (blk_cell BK276.out 2).trans rfl
                    have hcz61_3 : wr.cell? ⟨gb276, 3, none⟩ = some (.string a0_3) := (blk_cell BK276.out 3).trans rfl
                    have hfz61_0 := blk_frozen BK276.out 0
                    have hfz61_1 := blk_frozen BK276.out 1
                    have hfz61_2 := blk_frozen BK276.out 2
                    have hfz61_3 := blk_frozen BK276.out 3
                    have p295 : 0 ≤ (x13_4 : Int) := of_decide_eq_true (by first | (with_reducible assumption) | assumption)
                    have q295 : x13_4 < (l0_1.length : Int) := of_decide_eq_true (by first | (with_reducible assumption) | assumption)
                    obtain ⟨ad295, e295, hx295_0, hx295_1, hx295_2, hx295_3, hx295_4⟩ := at_T41 HR0_1.out x13_4 p295 q295
                    cases e295
                    replace hx295_0 := (HB.out.cell (World.block_lt_of_cell? w _ hx295_0)).trans hx295_0
                    replace hx295_1 := (HB.out.cell (World.block_lt_of_cell? w _ hx295_1)).trans hx295_1
                    replace hx295_2 := (HB.out.cell (World.block_lt_of_cell? w _ hx295_2)).trans hx295_2
                    replace hx295_3 := (HB.out.cell (World.block_lt_of_cell? w _ hx295_3)).trans hx295_3
                    replace hx295_4 := (HB.out.cell (World.block_lt_of_cell? w _ hx295_4)).trans hx295_4
                    replace p295 := eq_true p295
                    replace q295 := eq_true q295
                    go_wp2
                    repeat (go_quiet (fail); try go_wp2)
                    go_roundg k4
                    case measure => have := HK1.out; have := HK2.out; have := HK3.out; have := HK4.out; omega
                    case rel => exact ⟨(wrap64 (x13_4 + 1)), (by first | rfl | (simp; done) | (simp [*]; done)), H', ⟨by have := HK1.out; have := HK2.out; have := HK3.out; have := HK4.out; omega⟩, ⟨by (with_reducible repeat (first | apply Kd.R_alloc | apply Kd.R_drewN | apply Kd.R_drew)); exact HO_4.out⟩, ⟨by (with_reducible repeat (first | apply Kd.R_alloc | apply Kd.R_drewN | apply Kd.R_drew)); exact HO_5.out⟩, ⟨by (with_reducible repeat (first | apply Kd.R_alloc | apply Kd.R_drewN | apply Kd.R_drew)); exact HO_11.out⟩, ⟨by (with_reducible repeat (first | refine blk_drewN ?_ _ | refine blk_drew ?_ | refine blk_alloc ?_ _)); exact BK276.out⟩, ⟨by repeat (first | (with_reducible first | exact HB.out | apply below_alloc | apply pw_below_drewN | apply below_drew1 | refine below_set ?_ GE276.out) | exact HB.out)⟩⟩
                  rw [if_pos c48] at H
                  have c48b0 : (((rd_T41 l0_1 x13_4).f2).toList == x12_3.toList) = true := beq_iff_eq.mpr c48
                  have c48b1 : (((rd_T41 l0_1 x13_4).f2).toList != x12_3.toList) = false := bne_eq_false_iff_eq.mpr c48
                  clear c48
                  replace H := Option.bind_eq_some_iff.mp H
                  obtain ⟨t297, A490, H⟩ := H
                  replace H : (if 0 ≤ t297 then (if t297 < (x5_2.length : Int) then ((busbarref13_place.f k4 t277 x12_3).bind fun t299 => (if 0 ≤ t299 then (if t299 < (x5_2.length : Int) then (if (rd x5_2 t297) = (wrap64 ((rd x5_2 t299) - 1)) then (if x11_3.length < 17592186044416 then (busbarref13_ShortestPath.l3 k4 t277 x5_2 (x11_3 ++ [x13_4]) ((rd_T41 l0_1 x13_4).f3) a0_0 l0_1 l0_2 a0_3) else (none)) else (busbarref13_ShortestPath.l4 k4 t277 x5_2 x11_3 x12_3 (wrap64 (x13_4 + 1)) a0_0 l0_1 l0_2 a0_3)) else (none)) else (none))) else (none)) else (none)) = some (r1, r2) := H
                  have A49 := Aside0.mk A490
                  clear A490
                  by_cases c50 : 0 ≤ t297
                  case neg => rw [if_neg c50] at H; exact absurd H (by simp)
                  rw [if_pos c50] at H
                  have c50b0 : decide (0 ≤ t297) = true := decide_eq_true c50
                  clear c50
                  by_cases c51 : t297 < (x5_2.length : Int)
                  case neg => rw [if_neg c51] at H; exact absurd H (by simp)
                  rw [if_pos c51] at H
                  have c51b0 : decide (t297 < (x5_2.length : Int)) = true := decide_eq_true c51
                  clear c51
                  replace H := Option.bind_eq_some_iff.mp H
                  obtain ⟨t299, A520, H⟩ := H
                  replace H : (if 0 ≤ t299 then (if t299 < (x5_2.length : Int) then (if (rd x5_2 t297) = (wrap64 ((rd x5_2 t299) - 1)) then (if x11_3.length < 17592186044416 then (busbarref13_ShortestPath.l3 k4 t277 x5_2 (x11_3 ++ [x13_4]) ((rd_T41 l0_1 x13_4).f3) a0_0 l0_1 l0_2 a0_3) else (none)) else (busbarref13_ShortestPath.l4 k4 t277 x5_2 x11_3 x12_3 (wrap64 (x13_4 + 1)) a0_0 l0_1 l0_2 a0_3)) else (none)) else (none)) = some (r1, r2) := H
                  have A52 := Aside0.mk A520
                  clear A520
                  by_cases c53 : 0 ≤ t299
                  case neg => rw [if_neg c53] at H; exact absurd H (by simp)
                  rw [if_pos c53] at H
                  have c53b0 : decide (0 ≤ t299) = true := decide_eq_true c53
                  clear c53
                  by_cases c54 : t299 < (x5_2.length : Int)
                  case neg => rw [if_neg c54] at H; exact absurd H (by simp)
                  rw [if_pos c54] at H
                  have c54b0 : decide (t299 < (x5_2.length : Int)) = true := decide_eq_true c54
                  clear c54
                  by_cases c55 : (rd x5_2 t297) = (wrap64 ((rd x5_2 t299) - 1))
                  case neg =>
                    rw [if_neg c55] at H
                    have c55b0 : ((rd x5_2 t297) == (wrap64 ((rd x5_2 t299) - 1))) = false := beq_eq_false_iff_ne.mpr c55
                    have c55b1 : ((rd x5_2 t297) != (wrap64 ((rd x5_2 t299) - 1))) = true := bne_iff_ne.mpr c55
                    have c55b2 : ((rd x5_2 t297) != (IntKind.i64.wrap ((rd x5_2 t299) - 1))) = true := by (have e_ : ∀ x, IntKind.i64.wrap x = wrap64 x := fun x => by (unfold wrap64; exact IntKind.wrap_i64 x)); rw [e_]; exact c55b1
                    have H' := Aside0.mk H
                    clear H
                    have hcz60_0 : wr.cell? ⟨gb276, 0, none⟩ = some (.string a0_0) := (blk_cell BK276.out 0).trans rfl
                    have hcz60_1 : wr.cell? ⟨gb276, 1, none⟩ = some (.slice A0_1 l0_1.length c0_1) := (blk_cell BK276.out 1).trans rfl
                    have hcz60_2 : wr.cell? ⟨gb276, 2, none⟩ = some (.slice A0_2 l0_2.length c0_2) := (blk_cell BK276.out 2).trans rfl
                    have hcz60_3 : wr.cell? ⟨gb276, 3, none⟩ = some (.string a0_3) := (blk_cell BK276.out 3).trans rfl
                    have hfz60_0 := blk_frozen BK276.out 0
                    have hfz60_1 := blk_frozen BK276.out 1
                    have hfz60_2 := blk_frozen BK276.out 2
                    have hfz60_3 := blk_frozen BK276.out 3
                    have p295 : 0 ≤ (x13_4 : Int) := of_decide_eq_true (by first | (with_reducible assumption) | assumption)
                    have q295 : x13_4 < (l0_1.length : Int) := of_decide_eq_true (by first | (with_reducible assumption) | assumption)
                    obtain ⟨ad295, e295, hx295_0, hx295_1, hx295_2, hx295_3, hx295_4⟩ := at_T41 HR0_1.out x13_4 p295 q295
                    cases e295
                    replace hx295_0 := (HB.out.cell (World.block_lt_of_cell? w _ hx295_0)).trans hx295_0
                    replace hx295_1 := (HB.out.cell (World.block_lt_of_cell? w _ hx295_1)).trans hx295_1
                    replace hx295_2 := (HB.out.cell (World.block_lt_of_cell? w _ hx295_2)).trans hx295_2
                    replace hx295_3 := (HB.out.cell (World.block_lt_of_cell? w _ hx295_3)).trans hx295_3
                    replace hx295_4 := (HB.out.cell (World.block_lt_of_cell? w _ hx295_4)).trans hx295_4
                    replace p295 := eq_true p295
                    replace q295 := eq_true q295
                    have p296 : 0 ≤ (x13_4 : Int) := of_decide_eq_true (by first | (with_reducible assumption) | assumption)
                    have q296 : x13_4 < (l0_1.length : Int) := of_decide_eq_true (by first | (with_reducible assumption) | assumption)
                    obtain ⟨ad296, e296, hx296_0, hx296_1, hx296_2, hx296_3, hx296_4⟩ := at_T41 HR0_1.out x13_4 p296 q296
                    obtain rfl : ad295 = ad296 := (by injection e296)
                    replace hx296_0 := (HB.out.cell (World.block_lt_of_cell? w _ hx296_0)).trans hx296_0
                    replace hx296_1 := (HB.out.cell (World.block_lt_of_cell? w _ hx296_1)).trans hx296_1
                    replace hx296_2 := (HB.out.cell (World.block_lt_of_cell? w _ hx296_2)).trans hx296_2
                    replace hx296_3 := (HB.out.cell (World.block_lt_of_cell? w _ hx296_3)).trans hx296_3
                    replace hx296_4 := (HB.out.cell (World.block_lt_of_cell? w _ hx296_4)).trans hx296_4
                    replace p296 := eq_true p296
                    replace q296 := eq_true q296
                    go_wp2
                    repeat (go_quiet (first | (go_at_call 62; (with_reducible refine (busbarref13_place.calls k4 _ _ t277 ((rd_T41 l0_1 x13_4).f3) t297 _ ?side1 ?side2 A49.out).mono ?_); (case side1 => repeat (first | exact (Kd.R_reads' HO_4.out).2.2 | (with_reducible refine Kd.C_alloc ?_ _) | (with_reducible refine Kd.C_drewN ?_ _) | (with_reducible refine Kd.C_drew ?_))); (case side2 => exact (Kd.R_reads' HO_4.out).2.1); rintro e w' ⟨rfl, ⟨nd, rfl⟩⟩; (try first | exact ⟨rfl, _, World.drewN_drewN _ _ _⟩ | exact ⟨rfl, _, Eq.trans (World.drewN_drewN _ _ _) (congrArg (World.drewN _) (Nat.add_assoc _ _ _))⟩); have p298 : 0 ≤ (t297 : Int) := of_decide_eq_true (by first | (with_reducible assumption) | assumption); have q298 : t297 < (x5_2.length : Int) := of_decide_eq_true (by first | (with_reducible assumption) | assumption); obtain ⟨ad298, e298, hx298_0⟩ := Kd.at_int (Kd.R_reads' HO_5.out).2.2 t297 p298 q298; obtain rfl : ad294 = ad298 := (by injection e298); replace p298 := eq_true p298; replace q298 := eq_true q298) | (go_at_call 62; (with_reducible refine (busbarref13_place.calls k4 _ _ t277 x12_3 t299 _ ?side1 ?side2 A52.out).mono ?_); (case side1 => repeat (first | exact (Kd.R_reads' HO_4.out).2.2 | (with_reducible refine Kd.C_alloc ?_ _) | (with_reducible refine Kd.C_drewN ?_ _) | (with_reducible refine Kd.C_drew ?_))); (case side2 => exact (Kd.R_reads' HO_4.out).2.1); rintro e w' ⟨rfl, ⟨nd, rfl⟩⟩; (try first | exact ⟨rfl, _, World.drewN_drewN _ _ _⟩ | exact ⟨rfl, _, Eq.trans (World.drewN_drewN _ _ _) (congrArg (World.drewN _) (Nat.add_assoc _ _ _))⟩); have p300 : 0 ≤ (t299 : Int) := of_decide_eq_true (by first | (with_reducible assumption) | assumption); have q300 : t299 < (x5_2.length : Int) := of_decide_eq_true (by first | (with_reducible assumption) | assumption); obtain ⟨ad300, e300, hx300_0⟩ := Kd.at_int (Kd.R_reads' HO_5.out).2.2 t299 p300 q300; obtain rfl : ad294 = ad300 := (by injection e300); replace p300 := eq_true p300; replace q300 := eq_true q300)); try go_wp2)
                    go_roundg k4
                    case measure => have := HK1.out; have := HK2.out; have := HK3.out; have := HK4.out; omega
                    case rel => exact ⟨(wrap64 (x13_4 + 1)), (by first | rfl | (simp; done) | (simp [*]; done)), H', ⟨by have := HK1.out; have := HK2.out; have := HK3.out; have := HK4.out; omega⟩, ⟨by (with_reducible repeat (first | apply Kd.R_alloc | apply Kd.R_drewN | apply Kd.R_drew)); exact HO_4.out⟩, ⟨by (with_reducible repeat (first | apply Kd.R_alloc | apply Kd.R_drewN | apply Kd.R_drew)); exact HO_5.out⟩, ⟨by (with_reducible repeat (first | apply Kd.R_alloc | apply Kd.R_drewN | apply Kd.R_drew)); exact HO_11.out⟩, ⟨by (with_reducible repeat (first | refine blk_drewN ?_ _ | refine blk_drew ?_ | refine blk_alloc ?_ _)); exact BK276.out⟩, ⟨by repeat (first | (with_reducible first | exact HB.out | apply below_alloc | apply pw_below_drewN | apply below_drew1 | refine below_set ?_ GE276.out) | exact HB.out)⟩⟩
                  rw [if_pos c55] at H
                  have c55b0 : ((rd x5_2 t297) == (wrap64 ((rd x5_2 t299) - 1))) = true := beq_iff_eq.mpr c55
                  have c55b1 : ((rd x5_2 t297) != (wrap64 ((rd x5_2 t299) - 1))) = false := bne_eq_false_iff_eq.mpr c55
                  have c55b2 : ((rd x5_2 t297) != (IntKind.i64.wrap ((rd x5_2 t299) - 1))) = false := by (have e_ : ∀ x, IntKind.i64.wrap x = wrap64 x := fun x => by (unfold wrap64; exact IntKind.wrap_i64 x)); rw [e_]; exact c55b1
                  clear c55
                  by_cases c56 : x11_3.length < 17592186044416
                  case neg => rw [if_neg c56] at H; exact absurd H (by simp)
                  rw [if_pos c56] at H
                  have LMc56 := Aside0.mk c56
                  clear c56
                  obtain ⟨y301, hy301⟩ : ∃ y_ : List Int, y_ = (x11_3 ++ [x13_4]) := ⟨_, rfl⟩
                  replace H : (busbarref13_ShortestPath.l3 k4 t277 x5_2 y301 ((rd_T41 l0_1 x13_4).f3) a0_0 l0_1 l0_2 a0_3) = some (r1, r2) := by first | (rw [hy301]; with_reducible exact H) | (have H2_ := (Option.bind_some _ _).symm.trans H; rw [hy301]; with_reducible exact H2_) | (have H2_ := (Option.bind_some _ _).symm.trans H; with_reducible exact H2_) | with_reducible exact H | (rw [hy301]; exact H) | exact H
                  have Ny301 := Aside0.mk hy301
                  clear hy301
                  have H' := Aside0.mk H
                  clear H
                  have hcz57_0 : wr.cell? ⟨gb276, 0, none⟩ = some (.string a0_0) := (blk_cell BK276.out 0).trans rfl
                  have hcz57_1 : wr.cell? ⟨gb276, 1, none⟩ = some (.slice A0_1 l0_1.length c0_1) := (blk_cell BK276.out 1).trans rfl
                  have hcz57_2 : wr.cell? ⟨gb276, 2, none⟩ = some (.slice A0_2 l0_2.length c0_2) := (blk_cell BK276.out 2).trans rfl
                  have hcz57_3 : wr.cell? ⟨gb276, 3, none⟩ = some (.string a0_3) := (blk_cell BK276.out 3).trans rfl
                  have hfz57_0 := blk_frozen BK276.out 0
                  have hfz57_1 := blk_frozen BK276.out 1
                  have hfz57_2 := blk_frozen BK276.out 2
                  have hfz57_3 := blk_frozen BK276.out 3
                  have p295 : 0 ≤ (x13_4 : Int) := of_decide_eq_true (by first | (with_reducible assumption) | assumption)
                  have q295 : x13_4 < (l0_1.length : Int) := of_decide_eq_true (by first | (with_reducible assumption) | assumption)
                  obtain ⟨ad295, e295, hx295_0, hx295_1, hx295_2, hx295_3, hx295_4⟩ := at_T41 HR0_1.out x13_4 p295 q295
                  cases e295
                  replace hx295_0 := (HB.out.cell (World.block_lt_of_cell? w _ hx295_0)).trans hx295_0
                  replace hx295_1 := (HB.out.cell (World.block_lt_of_cell? w _ hx295_1)).trans hx295_1
                  replace hx295_2 := (HB.out.cell (World.block_lt_of_cell? w _ hx295_2)).trans hx295_2
                  replace hx295_3 := (HB.out.cell (World.block_lt_of_cell? w _ hx295_3)).trans hx295_3
                  replace hx295_4 := (HB.out.cell (World.block_lt_of_cell? w _ hx295_4)).trans hx295_4
                  replace p295 := eq_true p295
                  replace q295 := eq_true q295
                  have p296 : 0 ≤ (x13_4 : Int) := of_decide_eq_true (by first | (with_reducible assumption) | assumption)
                  have q296 : x13_4 < (l0_1.length : Int) := of_decide_eq_true (by first | (with_reducible assumption) | assumption)
                  obtain ⟨ad296, e296, hx296_0, hx296_1, hx296_2, hx296_3, hx296_4⟩ := at_T41 HR0_1.out x13_4 p296 q296
                  obtain rfl : ad295 = ad296 := (by injection e296)
                  replace hx296_0 := (HB.out.cell (World.block_lt_of_cell? w _ hx296_0)).trans hx296_0
                  replace hx296_1 := (HB.out.cell (World.block_lt_of_cell? w _ hx296_1)).trans hx296_1
                  replace hx296_2 := (HB.out.cell (World.block_lt_of_cell? w _ hx296_2)).trans hx296_2
                  replace hx296_3 := (HB.out.cell (World.block_lt_of_cell? w _ hx296_3)).trans hx296_3
                  replace hx296_4 := (HB.out.cell (World.block_lt_of_cell? w _ hx296_4)).trans hx296_4
                  replace p296 := eq_true p296
                  replace q296 := eq_true q296
                  go_wp2
                  repeat (go_quiet (first | (go_at_call 62; (with_reducible refine (busbarref13_place.calls k4 _ _ t277 ((rd_T41 l0_1 x13_4).f3) t297 _ ?side1 ?side2 A49.out).mono ?_); (case side1 => repeat (first | exact (Kd.R_reads' HO_4.out).2.2 | (with_reducible refine Kd.C_alloc ?_ _) | (with_reducible refine Kd.C_drewN ?_ _) | (with_reducible refine Kd.C_drew ?_))); (case side2 => exact (Kd.R_reads' HO_4.out).2.1); rintro e w' ⟨rfl, ⟨nd, rfl⟩⟩; (try first | exact ⟨rfl, _, World.drewN_drewN _ _ _⟩ | exact ⟨rfl, _, Eq.trans (World.drewN_drewN _ _ _) (congrArg (World.drewN _) (Nat.add_assoc _ _ _))⟩); have p298 : 0 ≤ (t297 : Int) := of_decide_eq_true (by first | (with_reducible assumption) | assumption); have q298 : t297 < (x5_2.length : Int) := of_decide_eq_true (by first | (with_reducible assumption) | assumption); obtain ⟨ad298, e298, hx298_0⟩ := Kd.at_int (Kd.R_reads' HO_5.out).2.2 t297 p298 q298; obtain rfl : ad294 = ad298 := (by injection e298); replace p298 := eq_true p298; replace q298 := eq_true q298) | (go_at_call 62; (with_reducible refine (busbarref13_place.calls k4 _ _ t277 x12_3 t299 _ ?side1 ?side2 A52.out).mono ?_); (case side1 => repeat (first | exact (Kd.R_reads' HO_4.out).2.2 | (with_reducible refine Kd.C_alloc ?_ _) | (with_reducible refine Kd.C_drewN ?_ _) | (with_reducible refine Kd.C_drew ?_))); (case side2 => exact (Kd.R_reads' HO_4.out).2.1); rintro e w' ⟨rfl, ⟨nd, rfl⟩⟩; (try first | exact ⟨rfl, _, World.drewN_drewN _ _ _⟩ | exact ⟨rfl, _, Eq.trans (World.drewN_drewN _ _ _) (congrArg (World.drewN _) (Nat.add_assoc _ _ _))⟩); have p300 : 0 ≤ (t299 : Int) := of_decide_eq_true (by first | (with_reducible assumption) | assumption); have q300 : t299 < (x5_2.length : Int) := of_decide_eq_true (by first | (with_reducible assumption) | assumption); obtain ⟨ad300, e300, hx300_0⟩ := Kd.at_int (Kd.R_reads' HO_5.out).2.2 t299 p300 q300; obtain rfl : ad294 = ad300 := (by injection e300); replace p300 := eq_true p300; replace q300 := eq_true q300)); try go_wp2_with (first | ((with_reducible refine gate_builtin (b := .append) (xs := #[.tmp 125, .tmp 127]) rfl ?_); at_builtin; refine Kd.R_append (Kd.int .i64) (w0 := w) w.heap.size rfl (.tmp 125) (.tmp 127) 32 3 (.int .i64 0) 8 rfl Try.underlying32 info3 rfl (by decide) (by omega) u11 x11_3 x13_4 [.int .i64 x13_4] (fun k_ => some k_ ≠ (.slice (some ad294) x5_2.length co44 : Value).ownBlock) (fun _ => False) rfl rfl ?aP (fun _ hk => hk.elim) ?aF ?aO ?aB ?aS ?aL ?_; (case aP => exact rfl); (case aB => exact (by repeat (first | (with_reducible first | exact HB.out | apply below_alloc | apply pw_below_drewN | apply below_drew1 | refine below_set ?_ GE276.out) | exact HB.out))); (case aF => exact (fun k_ hk => Kd.fresh' (Kd.R_lt (by (with_reducible repeat (first | apply Kd.R_alloc | apply Kd.R_drewN | apply Kd.R_drew)); exact HO_5.out)) k_ hk)); (case aO => exact (by (with_reducible repeat (first | apply Kd.R_alloc | apply Kd.R_drewN | apply Kd.R_drew)); exact HO_11.out)); (case aS => exact (below_size (by repeat (first | (with_reducible first | exact HB.out | apply below_alloc | apply pw_below_drewN | apply below_drew1 | refine below_set ?_ GE276.out) | exact HB.out)))); (case aL => have := LMc56.out; omega); intro v302 w58 ho hb hg hat; rw [← Ny301.out] at ho; have n0_ := Aside0.mk (Kd.R_over' (by (with_reducible repeat (first | apply Kd.R_alloc | apply Kd.R_drewN | apply Kd.R_drew)); exact HO_4.out) (Kd.R_typed (by (with_reducible repeat (first | apply Kd.R_alloc | apply Kd.R_drewN | apply Kd.R_drew)); exact HO_11.out)) (by decide) hg); have n1_ := Aside0.mk (Kd.R_after (ok := (fun _ => True)) (by (with_reducible repeat (first | apply Kd.R_alloc | apply Kd.R_drewN | apply Kd.R_drew)); exact Kd.R_mono HO_5.out (fun _ hk => ⟨trivial, hk⟩)) hg hat); have n2_ := Aside0.mk (blk_grown (g := gb276) (o := .cells #[.string a0_0, .slice (some ad295) l0_1.length c0_1, .slice A0_2 l0_2.length c0_2, .string a0_3] 25 (0, 0)) (by (with_reducible repeat (first | refine blk_drewN ?_ _ | refine blk_drew ?_ | refine blk_alloc ?_ _)); exact BK276.out) hg (Kd.R_ne HO_11.out BK276.out (by decide))); have n3_ := Aside0.mk (hb); have n4_ := Aside0.mk (ho); clear HO_4; clear HO_5; clear BK276; clear HB; clear HO_11; have HO_4 := n0_; have HO_5 := n1_; have BK276 := n2_; have HB := n3_; have HO303 := n4_; clear n0_ n1_ n2_ n3_ n4_; clear ho hb hg hat; have hcz59_0 : w58.cell? ⟨gb276, 0, none⟩ = some (.string a0_0) := (blk_cell BK276.out 0).trans rfl; have hcz59_1 : w58.cell? ⟨gb276, 1, none⟩ = some (.slice (some ad295) l0_1.length c0_1) := (blk_cell BK276.out 1).trans rfl; have hcz59_2 : w58.cell? ⟨gb276, 2, none⟩ = some (.slice A0_2 l0_2.length c0_2) := (blk_cell BK276.out 2).trans rfl; have hcz59_3 : w58.cell? ⟨gb276, 3, none⟩ = some (.string a0_3) := (blk_cell BK276.out 3).trans rfl; have hfz59_0 := blk_frozen BK276.out 0; have hfz59_1 := blk_frozen BK276.out 1; have hfz59_2 := blk_frozen BK276.out 2; have hfz59_3 := blk_frozen BK276.out 3; have p304 : 0 ≤ (x13_4 : Int) := of_decide_eq_true (by first | (with_reducible assumption) | assumption); have q304 : x13_4 < (l0_1.length : Int) := of_decide_eq_true (by first | (with_reducible assumption) | assumption); obtain ⟨ad304, e304, hx304_0, hx304_1, hx304_2, hx304_3, hx304_4⟩ := at_T41 HR0_1.out x13_4 p304 q304; obtain rfl : ad295 = ad304 := (by injection e304); replace hx304_0 := (HB.out.cell (World.block_lt_of_cell? w _ hx304_0)).trans hx304_0; replace hx304_1 := (HB.out.cell (World.block_lt_of_cell? w _ hx304_1)).trans hx304_1; replace hx304_2 := (HB.out.cell (World.block_lt_of_cell? w _ hx304_2)).trans hx304_2; replace hx304_3 := (HB.out.cell (World.block_lt_of_cell? w _ hx304_3)).trans hx304_3; replace hx304_4 := (HB.out.cell (World.block_lt_of_cell? w _ hx304_4)).trans hx304_4; replace p304 := eq_true p304; replace q304 := eq_true q304)))
                  go_roundg k4
                  case measure => have := HK1.out; have := HK2.out; have := HK3.out; have := HK4.out; omega
                  case rel => exact ⟨(y301), ((rd_T41 l0_1 x13_4).f3), (by first | rfl | (simp; done) | (simp [*]; done)), H', ⟨by have := HK1.out; have := HK2.out; have := HK3.out; have := HK4.out; omega⟩, ⟨by (with_reducible repeat (first | apply Kd.R_alloc | apply Kd.R_drewN | apply Kd.R_drew)); exact HO_4.out⟩, ⟨by (with_reducible repeat (first | apply Kd.R_alloc | apply Kd.R_drewN | apply Kd.R_drew)); exact Kd.R_mono HO_5.out (fun _ hk => hk.2)⟩, ⟨by (with_reducible repeat (first | apply Kd.R_alloc | apply Kd.R_drewN | apply Kd.R_drew)); exact HO303.out⟩, ⟨by (with_reducible repeat (first | refine blk_drewN ?_ _ | refine blk_drew ?_ | refine blk_alloc ?_ _)); exact BK276.out⟩, ⟨by repeat (first | (with_reducible first | exact HB.out | apply below_alloc | apply pw_below_drewN | apply below_drew1 | refine below_set ?_ GE276.out) | exact HB.out)⟩⟩

end Go.Proofs.Ytmacdknicgfglaa.Impl
