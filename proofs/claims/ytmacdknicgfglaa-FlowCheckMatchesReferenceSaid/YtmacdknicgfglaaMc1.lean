/- Several texts of this session in one (merge.py): Impl3, Impl4, Impl5, Pe, Pr, Ga, Re, Al, Rv, Rq, Bw, Pl. -/
import Derived.Test.YtmacdknicgfglaaWRepsOne
import Derived.Test.YtmacdknicgfglaaMc0
section
/- Printed by a program of this session (a copy of the kit's print.py, one text for all functions of the seat), with some contracts typed by hand among them: for each Go function a Lean function and a proof that the code comes to its answers. -/
namespace Go.Proofs.Ytmacdknicgfglaa.Impl
open Go.RowKit Go.Proofs.YtmacdknicgfglaaW.PrintWords Go.Proofs.YtmacdknicgfglaaW.PrintLast Go.Proofs.YtmacdknicgfglaaW.PrintMore
attribute [local go_sem] max2_int min2_int max_two min_two
set_option linter.unusedVariables false
set_option linter.unusedSimpArgs false

/-! ### busbarref12_Nodes: function 19 -/
def busbarref12_Nodes.l0 : Nat → List ByteArray → Int → ByteArray → List (S41) → List (S101) → ByteArray → Option (List ByteArray)
  | 0, _, _, _, _, _, _ => none
  | k + 1, x3, x4, x117000, x117001, x117002, x117003 => if x4 < (x117001.length : Int) then (if 0 ≤ x4 then ((busbarref12_has.f k x3 ((rd_T41 x117001 x4).f2)).bind fun t121 => (if t121 = true then ((busbarref12_has.f k x3 ((rd_T41 x117001 x4).f3)).bind fun t123 => (if t123 = true then (busbarref12_Nodes.l0 k x3 (wrap64 (x4 + 1)) x117000 x117001 x117002 x117003) else (if x3.length < 8796093022208 then (busbarref12_Nodes.l0 k (x3 ++ [(rd_T41 x117001 x4).f3]) (wrap64 (x4 + 1)) x117000 x117001 x117002 x117003) else (none)))) else (if x3.length < 8796093022208 then ((some (x3 ++ [(rd_T41 x117001 x4).f2] : List ByteArray)).bind fun y129 => ((busbarref12_has.f k y129 ((rd_T41 x117001 x4).f3)).bind fun t133 => (if t133 = true then (busbarref12_Nodes.l0 k y129 (wrap64 (x4 + 1)) x117000 x117001 x117002 x117003) else (if y129.length < 8796093022208 then (busbarref12_Nodes.l0 k (y129 ++ [(rd_T41 x117001 x4).f3]) (wrap64 (x4 + 1)) x117000 x117001 x117002 x117003) else (none))))) else (none)))) else (none)) else (some x3)
def busbarref12_Nodes.f (k : Nat) (a0_0 : ByteArray) (l0_1 : List (S41)) (l0_2 : List (S101)) (a0_3 : ByteArray) : Option (List ByteArray) := busbarref12_Nodes.l0 k (([(⟨#[76]⟩ : ByteArray), (⟨#[82]⟩ : ByteArray)] : List ByteArray)) 0 a0_0 l0_1 l0_2 a0_3
theorem busbarref12_Nodes.mono_l : ∀ k, (∀ y0 y1 y2 y3 y4 y5, LeO (busbarref12_Nodes.l0 k y0 y1 y2 y3 y4 y5) (busbarref12_Nodes.l0 (k + 1) y0 y1 y2 y3 y4 y5))
  | 0 => fun _ _ _ _ _ _ r h => by simp [busbarref12_Nodes.l0] at h
  | k + 1 => by
    have ih0 := busbarref12_Nodes.mono_l k
    · intro y0 y1 y2 y3 y4 y5
      unfold busbarref12_Nodes.l0
      repeat' first
      | (with_reducible exact ih0 _ _ _ _ _ _)
      | (with_reducible exact busbarref12_has.mono _ _ _)
      | (with_reducible exact LeO.refl _)
      | (with_reducible exact LeO.none _)
      | (with_reducible refine LeO.ite ?_ ?_)
      | (with_reducible refine LeO.bind ?_ (fun _ => ?_))
      | exact ih0 _ _ _ _ _ _
      | exact busbarref12_has.mono _ _ _
      | exact LeO.none _
      | refine LeO.ite ?_ ?_
      | refine LeO.bind ?_ (fun _ => ?_)
theorem busbarref12_Nodes.mono : ∀ a0 a1 a2 a3 k, LeO (busbarref12_Nodes.f k a0 a1 a2 a3) (busbarref12_Nodes.f (k + 1) a0 a1 a2 a3) := by
  intro a0 a1 a2 a3 k
  have ih0 := busbarref12_Nodes.mono_l k
  unfold busbarref12_Nodes.f
  repeat' first
      | (with_reducible exact ih0 _ _ _ _ _ _)
      | (with_reducible exact busbarref12_has.mono _ _ _)
      | (with_reducible exact LeO.refl _)
      | (with_reducible exact LeO.none _)
      | (with_reducible refine LeO.ite ?_ ?_)
      | (with_reducible refine LeO.bind ?_ (fun _ => ?_))
      | exact ih0 _ _ _ _ _ _
      | exact busbarref12_has.mono _ _ _
      | exact LeO.none _
      | refine LeO.ite ?_ ?_
      | refine LeO.bind ?_ (fun _ => ?_)
set_option maxHeartbeats 8000000 in
set_option maxRecDepth 100000 in
theorem busbarref12_Nodes.calls (k : Nat) (a0_0 : ByteArray) (A0_1 : Option Addr) (c0_1 : Nat) (l0_1 : List (S41)) (A0_2 : Option Addr) (c0_2 : Nat) (l0_2 : List (S101)) (a0_3 : ByteArray) (r : List ByteArray) (w : World) (hr0_1 : Kd.C k41 w A0_1 l0_1.length l0_1) (hc0_1 : l0_1.length ≤ c0_1) (hr0_2 : Kd.C k101 w A0_2 l0_2.length l0_2) (hc0_2 : l0_2.length ≤ c0_2) (h : busbarref12_Nodes.f k a0_0 l0_1 l0_2 a0_3 = some r) :
    Calls Try.prog 19 #[.agg #[.string a0_0, .slice A0_1 l0_1.length c0_1, .slice A0_2 l0_2.length c0_2, .string a0_3]] w fun e w' => ∃ v0_ : Value, e = .returned (v0_) ∧ Kd.R Kd.string 9 w' w.heap.size (fun _ => True) v0_ r ∧ Below w.heap.size w w' := by
  have hu25 := Try.underlying25
  have HR0_1 := Aside0.mk hr0_1
  have HC0_1 := Aside0.mk hc0_1
  clear hr0_1 hc0_1
  have HR0_2 := Aside0.mk hr0_2
  have HC0_2 := Aside0.mk hc0_2
  clear hr0_2 hc0_2
  have HB := Aside0.mk (Below.refl w.heap.size w)
  have H : (busbarref12_Nodes.l0 k (([(⟨#[76]⟩ : ByteArray), (⟨#[82]⟩ : ByteArray)] : List ByteArray)) 0 a0_0 l0_1 l0_2 a0_3) = some r := h
  clear h
  obtain ⟨y117, hy117⟩ : ∃ y_ : List ByteArray, y_ = (([(⟨#[76]⟩ : ByteArray), (⟨#[82]⟩ : ByteArray)] : List ByteArray)) := ⟨_, rfl⟩
  replace H : (busbarref12_Nodes.l0 k y117 0 a0_0 l0_1 l0_2 a0_3) = some r := by first | (rw [hy117]; with_reducible exact H) | (have H2_ := (Option.bind_some _ _).symm.trans H; rw [hy117]; with_reducible exact H2_) | (have H2_ := (Option.bind_some _ _).symm.trans H; with_reducible exact H2_) | with_reducible exact H | (rw [hy117]; exact H) | exact H
  have Ny117 := Aside0.mk hy117
  clear hy117
  have H' := Aside0.mk H
  clear H
  go_enter Try.func19, Try.ntmps19
  go_wp2_with (first | ((with_reducible refine gate_dst (N := 1) rfl ?_); refine box_event ?hg (N := 1) ?hd (cs := #[.string a0_0, .slice A0_1 l0_1.length c0_1, .slice A0_2 l0_2.length c0_2, .string a0_3]) (t := 25) ?hr ?_; (case hd => rfl); (case hg => rfl); (case hr => first | (go_simp; done) | (go_simp; rfl)); intro gb116 hg w2 hbox hb; have n0_ := Aside0.mk (below_step (by repeat (first | (with_reducible first | exact HB.out | apply below_alloc | apply pw_below_drewN | apply below_drew1) | exact HB.out)) hb); have n1_ := Aside0.mk (hbox); have n2_ := Aside0.mk ((by rw [hg]; exact (below_size (by repeat (first | (with_reducible first | exact HB.out | apply below_alloc | apply pw_below_drewN | apply below_drew1) | exact HB.out))) : w.heap.size ≤ gb116)); have n3_ := Aside0.mk ((by rw [hg]; exact (below_size (by repeat (first | (with_reducible first | exact HB.out | apply below_alloc | apply pw_below_drewN | apply below_drew1) | exact HB.out))) : w.heap.size ≤ gb116)); clear HB; have HB := n0_; have BK116 := n1_; have GW116 := n2_; have GE116 := n3_; clear n0_ n1_ n2_ n3_; clear hb hbox hg) | ((with_reducible refine gate_dst (N := 5) rfl ?_); refine Kd.R_lit Kd.string _ 9 ?hg (N := 5) ?hd (xs := ([(⟨#[76]⟩ : ByteArray), (⟨#[82]⟩ : ByteArray)] : List ByteArray)) (inner := [.string (⟨#[76]⟩ : ByteArray), .string (⟨#[82]⟩ : ByteArray)]) (ok := fun _ => True) (okp := fun _ => True) ?hr ?hp (fun _ hk => hk) trivial (Below.refl _ _) (Nat.le_refl _) (by simp) ?_; (case hd => rfl); (case hg => rfl); (case hr => first | (go_simp; done) | (go_simp; rfl)); (case hp => exact (Reps.one (show Kd.M Kd.string _ _ _ (⟨#[76]⟩ : ByteArray) [.string (⟨#[76]⟩ : ByteArray)] from rfl) (Reps.one (show Kd.M Kd.string _ _ _ (⟨#[82]⟩ : ByteArray) [.string (⟨#[82]⟩ : ByteArray)] from rfl) (Reps.none _ _)))); intro v118 w3 ho4 hb hg_ hnew_; clear hg_ hnew_; (first | rw [← Ny117.out] at ho4 | (simp only [Int.reduceToNat] at ho4; rw [← Ny117.out] at ho4)); have n0_ := Aside0.mk (Kd.R_lower ho4 (below_size (by repeat (first | (with_reducible first | exact HB.out | apply below_alloc | apply pw_below_drewN | apply below_drew1 | refine below_set ?_ GE116.out) | exact HB.out)))); have n1_ := Aside0.mk (blk_below (g := gb116) (o := .cells #[.string a0_0, .slice A0_1 l0_1.length c0_1, .slice A0_2 l0_2.length c0_2, .string a0_3] 25 (0, 0)) (by (with_reducible repeat (first | refine blk_drewN ?_ _ | refine blk_drew ?_ | refine blk_alloc ?_ _)); exact BK116.out) hb); have n2_ := Aside0.mk (below_step (by repeat (first | (with_reducible first | exact HB.out | apply below_alloc | apply pw_below_drewN | apply below_drew1 | refine below_set ?_ GE116.out) | exact HB.out)) hb); clear BK116; clear HB; have HO119 := n0_; have BK116 := n1_; have HB := n2_; clear n0_ n1_ n2_; clear hb ho4))
  go_loopg [3, 4] k (fun kq v3 v4 w' => ∃ (x3_1 : List ByteArray) (x4_1 : Int), v4 = .int .i64 x4_1 ∧ Aside0 (busbarref12_Nodes.l0 kq x3_1 x4_1 a0_0 l0_1 l0_2 a0_3 = some r) ∧ Aside0 (kq ≤ k) ∧ Aside0 (Kd.R Kd.string 9 w' w.heap.size (fun _ => True) v3 x3_1) ∧ Aside0 (w'.heap[gb116]? = some (.cells #[.string a0_0, (.slice A0_1 l0_1.length c0_1), (.slice A0_2 l0_2.length c0_2), .string a0_3] 25 (0, 0))) ∧ Aside0 (Below w.heap.size w w'))
  case atStart => exact ⟨(y117), (0), (by first | rfl | (simp; done) | (simp [*]; done)), H', ⟨Nat.le_refl _⟩, ⟨by (with_reducible repeat (first | apply Kd.R_alloc | apply Kd.R_drewN | apply Kd.R_drew)); exact HO119.out⟩, ⟨by (with_reducible repeat (first | refine blk_drewN ?_ _ | refine blk_drew ?_ | refine blk_alloc ?_ _)); exact BK116.out⟩, ⟨by repeat (first | (with_reducible first | exact HB.out | apply below_alloc | apply pw_below_drewN | apply below_drew1 | refine below_set ?_ GE116.out) | exact HB.out)⟩⟩
  case round =>
    clear H'
    try clear c1
    try clear p2
    obtain ⟨x3_1, x4_1, rfl, HA, HK1, HO_3, BK116, HB⟩ := hrel
    cases gk with
    | zero => exact absurd HA.out (by simp [busbarref12_Nodes.l0])
    | succ k1 =>
      have H := HA.out
      clear HA
      simp only [busbarref12_Nodes.l0] at H
      by_cases c5 : x4_1 < (l0_1.length : Int)
      · rw [if_pos c5] at H
        have c5b0 : decide (x4_1 < (l0_1.length : Int)) = true := decide_eq_true c5
        clear c5
        by_cases c6 : 0 ≤ x4_1
        · rw [if_pos c6] at H
          have c6b0 : decide (0 ≤ x4_1) = true := decide_eq_true c6
          clear c6
          replace H := Option.bind_eq_some_iff.mp H
          obtain ⟨t121, A70, H⟩ := H
          replace H : (if t121 = true then ((busbarref12_has.f k1 x3_1 ((rd_T41 l0_1 x4_1).f3)).bind fun t123 => (if t123 = true then (busbarref12_Nodes.l0 k1 x3_1 (wrap64 (x4_1 + 1)) a0_0 l0_1 l0_2 a0_3) else (if x3_1.length < 8796093022208 then (busbarref12_Nodes.l0 k1 (x3_1 ++ [(rd_T41 l0_1 x4_1).f3]) (wrap64 (x4_1 + 1)) a0_0 l0_1 l0_2 a0_3) else (none)))) else (if x3_1.length < 8796093022208 then ((some (x3_1 ++ [(rd_T41 l0_1 x4_1).f2] : List ByteArray)).bind fun y129 => ((busbarref12_has.f k1 y129 ((rd_T41 l0_1 x4_1).f3)).bind fun t133 => (if t133 = true then (busbarref12_Nodes.l0 k1 y129 (wrap64 (x4_1 + 1)) a0_0 l0_1 l0_2 a0_3) else (if y129.length < 8796093022208 then (busbarref12_Nodes.l0 k1 (y129 ++ [(rd_T41 l0_1 x4_1).f3]) (wrap64 (x4_1 + 1)) a0_0 l0_1 l0_2 a0_3) else (none))))) else (none))) = some r := H
          have A7 := Aside0.mk A70
          clear A70
          by_cases c8 : t121 = true
          · subst c8
            have H1 : ((busbarref12_has.f k1 x3_1 ((rd_T41 l0_1 x4_1).f3)).bind fun t123 => (if t123 = true then (busbarref12_Nodes.l0 k1 x3_1 (wrap64 (x4_1 + 1)) a0_0 l0_1 l0_2 a0_3) else (if x3_1.length < 8796093022208 then (busbarref12_Nodes.l0 k1 (x3_1 ++ [(rd_T41 l0_1 x4_1).f3]) (wrap64 (x4_1 + 1)) a0_0 l0_1 l0_2 a0_3) else (none)))) = some r := by rw [if_pos rfl] at H; exact H
            clear H
            have H := H1
            clear H1
            replace H := Option.bind_eq_some_iff.mp H
            obtain ⟨t123, A90, H⟩ := H
            replace H : (if t123 = true then (busbarref12_Nodes.l0 k1 x3_1 (wrap64 (x4_1 + 1)) a0_0 l0_1 l0_2 a0_3) else (if x3_1.length < 8796093022208 then (busbarref12_Nodes.l0 k1 (x3_1 ++ [(rd_T41 l0_1 x4_1).f3]) (wrap64 (x4_1 + 1)) a0_0 l0_1 l0_2 a0_3) else (none))) = some r := H
            have A9 := Aside0.mk A90
            clear A90
            by_cases c10 : t123 = true
            · subst c10
              have H1 : (busbarref12_Nodes.l0 k1 x3_1 (wrap64 (x4_1 + 1)) a0_0 l0_1 l0_2 a0_3) = some r := by rw [if_pos rfl] at H; exact H
              clear H
              have H := H1
              clear H1
              have H' := Aside0.mk H
              clear H
              have hcz11_0 : wr.cell? ⟨gb116, 0, none⟩ = some (.string a0_0) := (blk_cell BK116.out 0).trans rfl
              have hcz11_1 : wr.cell? ⟨gb116, 1, none⟩ = some (.slice A0_1 l0_1.length c0_1) := (blk_cell BK116.out 1).trans rfl
              have hcz11_2 : wr.cell? ⟨gb116, 2, none⟩ = some (.slice A0_2 l0_2.length c0_2) := (blk_cell BK116.out 2).trans rfl
              have hcz11_3 : wr.cell? ⟨gb116, 3, none⟩ = some (.string a0_3) := (blk_cell BK116.out 3).trans rfl
              have hfz11_0 := blk_frozen BK116.out 0
              have hfz11_1 := blk_frozen BK116.out 1
              have hfz11_2 := blk_frozen BK116.out 2
              have hfz11_3 := blk_frozen BK116.out 3
              have p120 : 0 ≤ (x4_1 : Int) := of_decide_eq_true (by first | (with_reducible assumption) | assumption)
              have q120 : x4_1 < (l0_1.length : Int) := of_decide_eq_true (by first | (with_reducible assumption) | assumption)
              obtain ⟨ad120, e120, hx120_0, hx120_1, hx120_2, hx120_3, hx120_4⟩ := at_T41 HR0_1.out x4_1 p120 q120
              cases e120
              replace hx120_0 := (HB.out.cell (World.block_lt_of_cell? w _ hx120_0)).trans hx120_0
              replace hx120_1 := (HB.out.cell (World.block_lt_of_cell? w _ hx120_1)).trans hx120_1
              replace hx120_2 := (HB.out.cell (World.block_lt_of_cell? w _ hx120_2)).trans hx120_2
              replace hx120_3 := (HB.out.cell (World.block_lt_of_cell? w _ hx120_3)).trans hx120_3
              replace hx120_4 := (HB.out.cell (World.block_lt_of_cell? w _ hx120_4)).trans hx120_4
              replace p120 := eq_true p120
              replace q120 := eq_true q120
              obtain ⟨Ao12, co12, eo12⟩ := Kd.R_slice HO_3.out
              subst eo12
              go_wp2_with (first | ((with_reducible refine gate_callee (f := 42) rfl ?_); refine goesL_ (some 20) rfl rfl Try.func42 (by kernel_rfl) rfl #[.slice Ao12 x3_1.length co12, .string ((rd_T41 l0_1 x4_1).f2)] rfl (by (try simp only [List.map_toArray, List.map_cons, List.map_nil]); first | done | rfl | (simp only [List.length_drop, List.length_take]; rfl)) ?_; (with_reducible refine (busbarref12_has.calls k1 _ _ x3_1 ((rd_T41 l0_1 x4_1).f2) true _ ?side1 ?side2 A7.out).mono ?_); (case side1 => repeat (first | exact (Kd.R_reads' HO_3.out).2.2 | (with_reducible refine Kd.C_alloc ?_ _) | (with_reducible refine Kd.C_drewN ?_ _) | (with_reducible refine Kd.C_drew ?_))); (case side2 => exact (Kd.R_reads' HO_3.out).2.1); rintro e w' ⟨rfl, ⟨nd, rfl⟩⟩; refine ⟨_, rfl, ?_⟩; have p122 : 0 ≤ (x4_1 : Int) := of_decide_eq_true (by first | (with_reducible assumption) | assumption); have q122 : x4_1 < (l0_1.length : Int) := of_decide_eq_true (by first | (with_reducible assumption) | assumption); obtain ⟨ad122, e122, hx122_0, hx122_1, hx122_2, hx122_3, hx122_4⟩ := at_T41 HR0_1.out x4_1 p122 q122; obtain rfl : ad120 = ad122 := (by injection e122); replace hx122_0 := (HB.out.cell (World.block_lt_of_cell? w _ hx122_0)).trans hx122_0; replace hx122_1 := (HB.out.cell (World.block_lt_of_cell? w _ hx122_1)).trans hx122_1; replace hx122_2 := (HB.out.cell (World.block_lt_of_cell? w _ hx122_2)).trans hx122_2; replace hx122_3 := (HB.out.cell (World.block_lt_of_cell? w _ hx122_3)).trans hx122_3; replace hx122_4 := (HB.out.cell (World.block_lt_of_cell? w _ hx122_4)).trans hx122_4; replace p122 := eq_true p122; replace q122 := eq_true q122) | ((with_reducible refine gate_callee (f := 42) rfl ?_); refine goesL_ (some 38) rfl rfl Try.func42 (by kernel_rfl) rfl #[.slice Ao12 x3_1.length co12, .string ((rd_T41 l0_1 x4_1).f3)] rfl (by (try simp only [List.map_toArray, List.map_cons, List.map_nil]); first | done | rfl | (simp only [List.length_drop, List.length_take]; rfl)) ?_; (with_reducible refine (busbarref12_has.calls k1 _ _ x3_1 ((rd_T41 l0_1 x4_1).f3) true _ ?side1 ?side2 A9.out).mono ?_); (case side1 => repeat (first | exact (Kd.R_reads' HO_3.out).2.2 | (with_reducible refine Kd.C_alloc ?_ _) | (with_reducible refine Kd.C_drewN ?_ _) | (with_reducible refine Kd.C_drew ?_))); (case side2 => exact (Kd.R_reads' HO_3.out).2.1); rintro e w' ⟨rfl, ⟨nd, rfl⟩⟩; refine ⟨_, rfl, ?_⟩))
              go_roundg k1
              case measure => have := HK1.out; omega
              case rel => exact ⟨(x3_1), (wrap64 (x4_1 + 1)), (by first | rfl | (simp; done) | (simp [*]; done)), H', ⟨by have := HK1.out; omega⟩, ⟨by (with_reducible repeat (first | apply Kd.R_alloc | apply Kd.R_drewN | apply Kd.R_drew)); exact HO_3.out⟩, ⟨by (with_reducible repeat (first | refine blk_drewN ?_ _ | refine blk_drew ?_ | refine blk_alloc ?_ _)); exact BK116.out⟩, ⟨by repeat (first | (with_reducible first | exact HB.out | apply below_alloc | apply pw_below_drewN | apply below_drew1 | refine below_set ?_ GE116.out) | exact HB.out)⟩⟩
            · replace c10 := Bool.eq_false_iff.mpr c10
              subst c10
              have H1 : (if x3_1.length < 8796093022208 then (busbarref12_Nodes.l0 k1 (x3_1 ++ [(rd_T41 l0_1 x4_1).f3]) (wrap64 (x4_1 + 1)) a0_0 l0_1 l0_2 a0_3) else (none)) = some r := by rw [if_neg (show ¬ (false = true) by decide)] at H; exact H
              clear H
              have H := H1
              clear H1
              by_cases c13 : x3_1.length < 8796093022208
              · rw [if_pos c13] at H
                have LMc13 := Aside0.mk c13
                clear c13
                obtain ⟨y125, hy125⟩ : ∃ y_ : List ByteArray, y_ = (x3_1 ++ [(rd_T41 l0_1 x4_1).f3]) := ⟨_, rfl⟩
                replace H : (busbarref12_Nodes.l0 k1 y125 (wrap64 (x4_1 + 1)) a0_0 l0_1 l0_2 a0_3) = some r := by first | (rw [hy125]; with_reducible exact H) | (have H2_ := (Option.bind_some _ _).symm.trans H; rw [hy125]; with_reducible exact H2_) | (have H2_ := (Option.bind_some _ _).symm.trans H; with_reducible exact H2_) | with_reducible exact H | (rw [hy125]; exact H) | exact H
                have Ny125 := Aside0.mk hy125
                clear hy125
                have H' := Aside0.mk H
                clear H
                have hcz14_0 : wr.cell? ⟨gb116, 0, none⟩ = some (.string a0_0) := (blk_cell BK116.out 0).trans rfl
                have hcz14_1 : wr.cell? ⟨gb116, 1, none⟩ = some (.slice A0_1 l0_1.length c0_1) := (blk_cell BK116.out 1).trans rfl
                have hcz14_2 : wr.cell? ⟨gb116, 2, none⟩ = some (.slice A0_2 l0_2.length c0_2) := (blk_cell BK116.out 2).trans rfl
                have hcz14_3 : wr.cell? ⟨gb116, 3, none⟩ = some (.string a0_3) := (blk_cell BK116.out 3).trans rfl
                have hfz14_0 := blk_frozen BK116.out 0
                have hfz14_1 := blk_frozen BK116.out 1
                have hfz14_2 := blk_frozen BK116.out 2
                have hfz14_3 := blk_frozen BK116.out 3
                have p120 : 0 ≤ (x4_1 : Int) := of_decide_eq_true (by first | (with_reducible assumption) | assumption)
                have q120 : x4_1 < (l0_1.length : Int) := of_decide_eq_true (by first | (with_reducible assumption) | assumption)
                obtain ⟨ad120, e120, hx120_0, hx120_1, hx120_2, hx120_3, hx120_4⟩ := at_T41 HR0_1.out x4_1 p120 q120
                cases e120
                replace hx120_0 := (HB.out.cell (World.block_lt_of_cell? w _ hx120_0)).trans hx120_0
                replace hx120_1 := (HB.out.cell (World.block_lt_of_cell? w _ hx120_1)).trans hx120_1
                replace hx120_2 := (HB.out.cell (World.block_lt_of_cell? w _ hx120_2)).trans hx120_2
                replace hx120_3 := (HB.out.cell (World.block_lt_of_cell? w _ hx120_3)).trans hx120_3
                replace hx120_4 := (HB.out.cell (World.block_lt_of_cell? w _ hx120_4)).trans hx120_4
                replace p120 := eq_true p120
                replace q120 := eq_true q120
                obtain ⟨Ao15, co15, eo15⟩ := Kd.R_slice HO_3.out
                subst eo15
                go_wp2_with (first | ((with_reducible refine gate_callee (f := 42) rfl ?_); refine goesL_ (some 20) rfl rfl Try.func42 (by kernel_rfl) rfl #[.slice Ao15 x3_1.length co15, .string ((rd_T41 l0_1 x4_1).f2)] rfl (by (try simp only [List.map_toArray, List.map_cons, List.map_nil]); first | done | rfl | (simp only [List.length_drop, List.length_take]; rfl)) ?_; (with_reducible refine (busbarref12_has.calls k1 _ _ x3_1 ((rd_T41 l0_1 x4_1).f2) true _ ?side1 ?side2 A7.out).mono ?_); (case side1 => repeat (first | exact (Kd.R_reads' HO_3.out).2.2 | (with_reducible refine Kd.C_alloc ?_ _) | (with_reducible refine Kd.C_drewN ?_ _) | (with_reducible refine Kd.C_drew ?_))); (case side2 => exact (Kd.R_reads' HO_3.out).2.1); rintro e w' ⟨rfl, ⟨nd, rfl⟩⟩; refine ⟨_, rfl, ?_⟩; have p122 : 0 ≤ (x4_1 : Int) := of_decide_eq_true (by first | (with_reducible assumption) | assumption); have q122 : x4_1 < (l0_1.length : Int) := of_decide_eq_true (by first | (with_reducible assumption) | assumption); obtain ⟨ad122, e122, hx122_0, hx122_1, hx122_2, hx122_3, hx122_4⟩ := at_T41 HR0_1.out x4_1 p122 q122; obtain rfl : ad120 = ad122 := (by injection e122); replace hx122_0 := (HB.out.cell (World.block_lt_of_cell? w _ hx122_0)).trans hx122_0; replace hx122_1 := (HB.out.cell (World.block_lt_of_cell? w _ hx122_1)).trans hx122_1; replace hx122_2 := (HB.out.cell (World.block_lt_of_cell? w _ hx122_2)).trans hx122_2; replace hx122_3 := (HB.out.cell (World.block_lt_of_cell? w _ hx122_3)).trans hx122_3; replace hx122_4 := (HB.out.cell (World.block_lt_of_cell? w _ hx122_4)).trans hx122_4; replace p122 := eq_true p122; replace q122 := eq_true q122) | ((with_reducible refine gate_callee (f := 42) rfl ?_); refine goesL_ (some 38) rfl rfl Try.func42 (by kernel_rfl) rfl #[.slice Ao15 x3_1.length co15, .string ((rd_T41 l0_1 x4_1).f3)] rfl (by (try simp only [List.map_toArray, List.map_cons, List.map_nil]); first | done | rfl | (simp only [List.length_drop, List.length_take]; rfl)) ?_; (with_reducible refine (busbarref12_has.calls k1 _ _ x3_1 ((rd_T41 l0_1 x4_1).f3) false _ ?side1 ?side2 A9.out).mono ?_); (case side1 => repeat (first | exact (Kd.R_reads' HO_3.out).2.2 | (with_reducible refine Kd.C_alloc ?_ _) | (with_reducible refine Kd.C_drewN ?_ _) | (with_reducible refine Kd.C_drew ?_))); (case side2 => exact (Kd.R_reads' HO_3.out).2.1); rintro e w' ⟨rfl, ⟨nd, rfl⟩⟩; refine ⟨_, rfl, ?_⟩; have p124 : 0 ≤ (x4_1 : Int) := of_decide_eq_true (by first | (with_reducible assumption) | assumption); have q124 : x4_1 < (l0_1.length : Int) := of_decide_eq_true (by first | (with_reducible assumption) | assumption); obtain ⟨ad124, e124, hx124_0, hx124_1, hx124_2, hx124_3, hx124_4⟩ := at_T41 HR0_1.out x4_1 p124 q124; obtain rfl : ad120 = ad124 := (by injection e124); replace hx124_0 := (HB.out.cell (World.block_lt_of_cell? w _ hx124_0)).trans hx124_0; replace hx124_1 := (HB.out.cell (World.block_lt_of_cell? w _ hx124_1)).trans hx124_1; replace hx124_2 := (HB.out.cell (World.block_lt_of_cell? w _ hx124_2)).trans hx124_2; replace hx124_3 := (HB.out.cell (World.block_lt_of_cell? w _ hx124_3)).trans hx124_3; replace hx124_4 := (HB.out.cell (World.block_lt_of_cell? w _ hx124_4)).trans hx124_4; replace p124 := eq_true p124; replace q124 := eq_true q124) | ((with_reducible refine gate_builtin (b := .append) (xs := #[.tmp 40, .tmp 47]) rfl ?_); at_builtin; refine Kd.R_append Kd.string (w0 := w) w.heap.size rfl (.tmp 40) (.tmp 47) 29 9 (.string ⟨#[]⟩) 16 rfl Try.underlying29 info9 rfl (by decide) (by omega) (.slice Ao15 x3_1.length co15) x3_1 ((rd_T41 l0_1 x4_1).f3) [.string ((rd_T41 l0_1 x4_1).f3)] (fun _ => True) (fun _ => False) rfl rfl ?aP (fun _ hk => hk.elim) ?aF ?aO ?aB ?aS ?aL ?_; (case aP => exact rfl); (case aB => exact (by repeat (first | (with_reducible first | exact HB.out | apply below_alloc | apply pw_below_drewN | apply below_drew1 | refine below_set ?_ GE116.out) | exact HB.out))); (case aF => exact (fun _ _ => trivial)); (case aO => exact (by (with_reducible repeat (first | apply Kd.R_alloc | apply Kd.R_drewN | apply Kd.R_drew)); exact HO_3.out)); (case aS => exact (below_size (by repeat (first | (with_reducible first | exact HB.out | apply below_alloc | apply pw_below_drewN | apply below_drew1 | refine below_set ?_ GE116.out) | exact HB.out)))); (case aL => have := LMc13.out; omega); intro v126 w16 ho hb hg hat; rw [← Ny125.out] at ho; have n0_ := Aside0.mk (blk_grown (g := gb116) (o := .cells #[.string a0_0, .slice (some ad120) l0_1.length c0_1, .slice A0_2 l0_2.length c0_2, .string a0_3] 25 (0, 0)) (by (with_reducible repeat (first | refine blk_drewN ?_ _ | refine blk_drew ?_ | refine blk_alloc ?_ _)); exact BK116.out) hg (Kd.R_ne HO_3.out BK116.out (by decide))); have n1_ := Aside0.mk (hb); have n2_ := Aside0.mk (ho); clear BK116; clear HB; clear HO_3; have BK116 := n0_; have HB := n1_; have HO127 := n2_; clear n0_ n1_ n2_; clear ho hb hg hat))
                go_roundg k1
                case measure => have := HK1.out; omega
                case rel => exact ⟨(y125), (wrap64 (x4_1 + 1)), (by first | rfl | (simp; done) | (simp [*]; done)), H', ⟨by have := HK1.out; omega⟩, ⟨by (with_reducible repeat (first | apply Kd.R_alloc | apply Kd.R_drewN | apply Kd.R_drew)); exact HO127.out⟩, ⟨by (with_reducible repeat (first | refine blk_drewN ?_ _ | refine blk_drew ?_ | refine blk_alloc ?_ _)); exact BK116.out⟩, ⟨by repeat (first | (with_reducible first | exact HB.out | apply below_alloc | apply pw_below_drewN | apply below_drew1 | refine below_set ?_ GE116.out) | exact HB.out)⟩⟩
              · rw [if_neg c13] at H
                exact absurd H (by simp)
          · replace c8 := Bool.eq_false_iff.mpr c8
            subst c8
            have H1 : (if x3_1.length < 8796093022208 then ((some (x3_1 ++ [(rd_T41 l0_1 x4_1).f2] : List ByteArray)).bind fun y129 => ((busbarref12_has.f k1 y129 ((rd_T41 l0_1 x4_1).f3)).bind fun t133 => (if t133 = true then (busbarref12_Nodes.l0 k1 y129 (wrap64 (x4_1 + 1)) a0_0 l0_1 l0_2 a0_3) else (if y129.length < 8796093022208 then (busbarref12_Nodes.l0 k1 (y129 ++ [(rd_T41 l0_1 x4_1).f3]) (wrap64 (x4_1 + 1)) a0_0 l0_1 l0_2 a0_3) else (none))))) else (none)) = some r := by rw [if_neg (show ¬ (false = true) by decide)] at H; exact H
            clear H
            have H := H1
            clear H1
            by_cases c17 : x3_1.length < 8796093022208
            · rw [if_pos c17] at H
              have LMc17 := Aside0.mk c17
              clear c17
              obtain ⟨y129, hy129⟩ : ∃ y_ : List ByteArray, y_ = (x3_1 ++ [(rd_T41 l0_1 x4_1).f2]) := ⟨_, rfl⟩
              replace H : ((busbarref12_has.f k1 y129 ((rd_T41 l0_1 x4_1).f3)).bind fun t133 => (if t133 = true then (busbarref12_Nodes.l0 k1 y129 (wrap64 (x4_1 + 1)) a0_0 l0_1 l0_2 a0_3) else (if y129.length < 8796093022208 then (busbarref12_Nodes.l0 k1 (y129 ++ [(rd_T41 l0_1 x4_1).f3]) (wrap64 (x4_1 + 1)) a0_0 l0_1 l0_2 a0_3) else (none)))) = some r := by first | (rw [hy129]; with_reducible exact H) | (have H2_ := (Option.bind_some _ _).symm.trans H; rw [hy129]; with_reducible exact H2_) | (have H2_ := (Option.bind_some _ _).symm.trans H; with_reducible exact H2_) | with_reducible exact H | (rw [hy129]; exact H) | exact H
              have Ny129 := Aside0.mk hy129
              clear hy129
              replace H := Option.bind_eq_some_iff.mp H
              obtain ⟨t133, A180, H⟩ := H
              replace H : (if t133 = true then (busbarref12_Nodes.l0 k1 y129 (wrap64 (x4_1 + 1)) a0_0 l0_1 l0_2 a0_3) else (if y129.length < 8796093022208 then (busbarref12_Nodes.l0 k1 (y129 ++ [(rd_T41 l0_1 x4_1).f3]) (wrap64 (x4_1 + 1)) a0_0 l0_1 l0_2 a0_3) else (none))) = some r := H
              have A18 := Aside0.mk A180
              clear A180
              by_cases c19 : t133 = true
              · subst c19
                have H1 : (busbarref12_Nodes.l0 k1 y129 (wrap64 (x4_1 + 1)) a0_0 l0_1 l0_2 a0_3) = some r := by rw [if_pos rfl] at H; exact H
                clear H
                have H := H1
                clear H1
                have H' := Aside0.mk H
                clear H
                have hcz20_0 : wr.cell? ⟨gb116, 0, none⟩ = some (.string a0_0) := (blk_cell BK116.out 0).trans rfl
                have hcz20_1 : wr.cell? ⟨gb116, 1, none⟩ = some (.slice A0_1 l0_1.length c0_1) := (blk_cell BK116.out 1).trans rfl
                have hcz20_2 : wr.cell? ⟨gb116, 2, none⟩ = some (.slice A0_2 l0_2.length c0_2) := (blk_cell BK116.out 2).trans rfl
                have hcz20_3 : wr.cell? ⟨gb116, 3, none⟩ = some (.string a0_3) := (blk_cell BK116.out 3).trans rfl
                have hfz20_0 := blk_frozen BK116.out 0
                have hfz20_1 := blk_frozen BK116.out 1
                have hfz20_2 := blk_frozen BK116.out 2
                have hfz20_3 := blk_frozen BK116.out 3
                have p120 : 0 ≤ (x4_1 : Int) := of_decide_eq_true (by first | (with_reducible assumption) | assumption)
                have q120 : x4_1 < (l0_1.length : Int) := of_decide_eq_true (by first | (with_reducible assumption) | assumption)
                obtain ⟨ad120, e120, hx120_0, hx120_1, hx120_2, hx120_3, hx120_4⟩ := at_T41 HR0_1.out x4_1 p120 q120
                cases e120
                replace hx120_0 := (HB.out.cell (World.block_lt_of_cell? w _ hx120_0)).trans hx120_0
                replace hx120_1 := (HB.out.cell (World.block_lt_of_cell? w _ hx120_1)).trans hx120_1
                replace hx120_2 := (HB.out.cell (World.block_lt_of_cell? w _ hx120_2)).trans hx120_2
                replace hx120_3 := (HB.out.cell (World.block_lt_of_cell? w _ hx120_3)).trans hx120_3
                replace hx120_4 := (HB.out.cell (World.block_lt_of_cell? w _ hx120_4)).trans hx120_4
                replace p120 := eq_true p120
                replace q120 := eq_true q120
                obtain ⟨Ao21, co21, eo21⟩ := Kd.R_slice HO_3.out
                subst eo21
                go_wp2_with (first | ((with_reducible refine gate_callee (f := 42) rfl ?_); refine goesL_ (some 20) rfl rfl Try.func42 (by kernel_rfl) rfl #[.slice Ao21 x3_1.length co21, .string ((rd_T41 l0_1 x4_1).f2)] rfl (by (try simp only [List.map_toArray, List.map_cons, List.map_nil]); first | done | rfl | (simp only [List.length_drop, List.length_take]; rfl)) ?_; (with_reducible refine (busbarref12_has.calls k1 _ _ x3_1 ((rd_T41 l0_1 x4_1).f2) false _ ?side1 ?side2 A7.out).mono ?_); (case side1 => repeat (first | exact (Kd.R_reads' HO_3.out).2.2 | (with_reducible refine Kd.C_alloc ?_ _) | (with_reducible refine Kd.C_drewN ?_ _) | (with_reducible refine Kd.C_drew ?_))); (case side2 => exact (Kd.R_reads' HO_3.out).2.1); rintro e w' ⟨rfl, ⟨nd, rfl⟩⟩; refine ⟨_, rfl, ?_⟩; have p128 : 0 ≤ (x4_1 : Int) := of_decide_eq_true (by first | (with_reducible assumption) | assumption); have q128 : x4_1 < (l0_1.length : Int) := of_decide_eq_true (by first | (with_reducible assumption) | assumption); obtain ⟨ad128, e128, hx128_0, hx128_1, hx128_2, hx128_3, hx128_4⟩ := at_T41 HR0_1.out x4_1 p128 q128; obtain rfl : ad120 = ad128 := (by injection e128); replace hx128_0 := (HB.out.cell (World.block_lt_of_cell? w _ hx128_0)).trans hx128_0; replace hx128_1 := (HB.out.cell (World.block_lt_of_cell? w _ hx128_1)).trans hx128_1; replace hx128_2 := (HB.out.cell (World.block_lt_of_cell? w _ hx128_2)).trans hx128_2; replace hx128_3 := (HB.out.cell (World.block_lt_of_cell? w _ hx128_3)).trans hx128_3; replace hx128_4 := (HB.out.cell (World.block_lt_of_cell? w _ hx128_4)).trans hx128_4; replace p128 := eq_true p128; replace q128 := eq_true q128) | ((with_reducible refine gate_builtin (b := .append) (xs := #[.tmp 22, .tmp 29]) rfl ?_); at_builtin; refine Kd.R_append Kd.string (w0 := w) w.heap.size rfl (.tmp 22) (.tmp 29) 29 9 (.string ⟨#[]⟩) 16 rfl Try.underlying29 info9 rfl (by decide) (by omega) (.slice Ao21 x3_1.length co21) x3_1 ((rd_T41 l0_1 x4_1).f2) [.string ((rd_T41 l0_1 x4_1).f2)] (fun _ => True) (fun _ => False) rfl rfl ?aP (fun _ hk => hk.elim) ?aF ?aO ?aB ?aS ?aL ?_; (case aP => exact rfl); (case aB => exact (by repeat (first | (with_reducible first | exact HB.out | apply below_alloc | apply pw_below_drewN | apply below_drew1 | refine below_set ?_ GE116.out) | exact HB.out))); (case aF => exact (fun _ _ => trivial)); (case aO => exact (by (with_reducible repeat (first | apply Kd.R_alloc | apply Kd.R_drewN | apply Kd.R_drew)); exact HO_3.out)); (case aS => exact (below_size (by repeat (first | (with_reducible first | exact HB.out | apply below_alloc | apply pw_below_drewN | apply below_drew1 | refine below_set ?_ GE116.out) | exact HB.out)))); (case aL => have := LMc17.out; omega); intro v130 w22 ho hb hg hat; rw [← Ny129.out] at ho; have n0_ := Aside0.mk (blk_grown (g := gb116) (o := .cells #[.string a0_0, .slice (some ad120) l0_1.length c0_1, .slice A0_2 l0_2.length c0_2, .string a0_3] 25 (0, 0)) (by (with_reducible repeat (first | refine blk_drewN ?_ _ | refine blk_drew ?_ | refine blk_alloc ?_ _)); exact BK116.out) hg (Kd.R_ne HO_3.out BK116.out (by decide))); have n1_ := Aside0.mk (hb); have n2_ := Aside0.mk (ho); clear BK116; clear HB; clear HO_3; have BK116 := n0_; have HB := n1_; have HO131 := n2_; clear n0_ n1_ n2_; clear ho hb hg hat; have hcz23_0 : w22.cell? ⟨gb116, 0, none⟩ = some (.string a0_0) := (blk_cell BK116.out 0).trans rfl; have hcz23_1 : w22.cell? ⟨gb116, 1, none⟩ = some (.slice (some ad120) l0_1.length c0_1) := (blk_cell BK116.out 1).trans rfl; have hcz23_2 : w22.cell? ⟨gb116, 2, none⟩ = some (.slice A0_2 l0_2.length c0_2) := (blk_cell BK116.out 2).trans rfl; have hcz23_3 : w22.cell? ⟨gb116, 3, none⟩ = some (.string a0_3) := (blk_cell BK116.out 3).trans rfl; have hfz23_0 := blk_frozen BK116.out 0; have hfz23_1 := blk_frozen BK116.out 1; have hfz23_2 := blk_frozen BK116.out 2; have hfz23_3 := blk_frozen BK116.out 3; have p132 : 0 ≤ (x4_1 : Int) := of_decide_eq_true (by first | (with_reducible assumption) | assumption); have q132 : x4_1 < (l0_1.length : Int) := of_decide_eq_true (by first | (with_reducible assumption) | assumption); obtain ⟨ad132, e132, hx132_0, hx132_1, hx132_2, hx132_3, hx132_4⟩ := at_T41 HR0_1.out x4_1 p132 q132; obtain rfl : ad120 = ad132 := (by injection e132); replace hx132_0 := (HB.out.cell (World.block_lt_of_cell? w _ hx132_0)).trans hx132_0; replace hx132_1 := (HB.out.cell (World.block_lt_of_cell? w _ hx132_1)).trans hx132_1; replace hx132_2 := (HB.out.cell (World.block_lt_of_cell? w _ hx132_2)).trans hx132_2; replace hx132_3 := (HB.out.cell (World.block_lt_of_cell? w _ hx132_3)).trans hx132_3; replace hx132_4 := (HB.out.cell (World.block_lt_of_cell? w _ hx132_4)).trans hx132_4; replace p132 := eq_true p132; replace q132 := eq_true q132; obtain ⟨Ao24, co24, eo24⟩ := Kd.R_slice HO131.out; subst eo24) | ((with_reducible refine gate_callee (f := 42) rfl ?_); refine goesL_ (some 38) rfl rfl Try.func42 (by kernel_rfl) rfl #[.slice Ao24 y129.length co24, .string ((rd_T41 l0_1 x4_1).f3)] rfl (by (try simp only [List.map_toArray, List.map_cons, List.map_nil]); first | done | rfl | (simp only [List.length_drop, List.length_take]; rfl)) ?_; (with_reducible refine (busbarref12_has.calls k1 _ _ y129 ((rd_T41 l0_1 x4_1).f3) true _ ?side1 ?side2 A18.out).mono ?_); (case side1 => repeat (first | exact (Kd.R_reads' HO131.out).2.2 | (with_reducible refine Kd.C_alloc ?_ _) | (with_reducible refine Kd.C_drewN ?_ _) | (with_reducible refine Kd.C_drew ?_))); (case side2 => exact (Kd.R_reads' HO131.out).2.1); rintro e w' ⟨rfl, ⟨nd, rfl⟩⟩; refine ⟨_, rfl, ?_⟩))
                go_roundg k1
                case measure => have := HK1.out; omega
                case rel => exact ⟨(y129), (wrap64 (x4_1 + 1)), (by first | rfl | (simp; done) | (simp [*]; done)), H', ⟨by have := HK1.out; omega⟩, ⟨by (with_reducible repeat (first | apply Kd.R_alloc | apply Kd.R_drewN | apply Kd.R_drew)); exact HO131.out⟩, ⟨by (with_reducible repeat (first | refine blk_drewN ?_ _ | refine blk_drew ?_ | refine blk_alloc ?_ _)); exact BK116.out⟩, ⟨by repeat (first | (with_reducible first | exact HB.out | apply below_alloc | apply pw_below_drewN | apply below_drew1 | refine below_set ?_ GE116.out) | exact HB.out)⟩⟩
              · replace c19 := Bool.eq_false_iff.mpr c19
                subst c19
                have H1 : (if y129.length < 8796093022208 then (busbarref12_Nodes.l0 k1 (y129 ++ [(rd_T41 l0_1 x4_1).f3]) (wrap64 (x4_1 + 1)) a0_0 l0_1 l0_2 a0_3) else (none)) = some r := by rw [if_neg (show ¬ (false = true) by decide)] at H; exact H
                clear H
                have H := H1
                clear H1
                by_cases c25 : y129.length < 8796093022208
                · rw [if_pos c25] at H
                  have LMc25 := Aside0.mk c25
                  clear c25
                  obtain ⟨y135, hy135⟩ : ∃ y_ : List ByteArray, y_ = (y129 ++ [(rd_T41 l0_1 x4_1).f3]) := ⟨_, rfl⟩
                  replace H : (busbarref12_Nodes.l0 k1 y135 (wrap64 (x4_1 + 1)) a0_0 l0_1 l0_2 a0_3) = some r := by first | (rw [hy135]; with_reducible exact H) | (have H2_ := (Option.bind_some _ _).symm.trans H; rw [hy135]; with_reducible exact H2_) | (have H2_ := (Option.bind_some _ _).symm.trans H; with_reducible exact H2_) | with_reducible exact H | (rw [hy135]; exact H) | exact H
                  have Ny135 := Aside0.mk hy135
                  clear hy135
                  have H' := Aside0.mk H
                  clear H
                  have hcz26_0 : wr.cell? ⟨gb116, 0, none⟩ = some (.string a0_0) := (blk_cell BK116.out 0).trans rfl
                  have hcz26_1 : wr.cell? ⟨gb116, 1, none⟩ = some (.slice A0_1 l0_1.length c0_1) := (blk_cell BK116.out 1).trans rfl
                  have hcz26_2 : wr.cell? ⟨gb116, 2, none⟩ = some (.slice A0_2 l0_2.length c0_2) := (blk_cell BK116.out 2).trans rfl
                  have hcz26_3 : wr.cell? ⟨gb116, 3, none⟩ = some (.string a0_3) := (blk_cell BK116.out 3).trans rfl
                  have hfz26_0 := blk_frozen BK116.out 0
                  have hfz26_1 := blk_frozen BK116.out 1
                  have hfz26_2 := blk_frozen BK116.out 2
                  have hfz26_3 := blk_frozen BK116.out 3
                  have p120 : 0 ≤ (x4_1 : Int) := of_decide_eq_true (by first | (with_reducible assumption) | assumption)
                  have q120 : x4_1 < (l0_1.length : Int) := of_decide_eq_true (by first | (with_reducible assumption) | assumption)
                  obtain ⟨ad120, e120, hx120_0, hx120_1, hx120_2, hx120_3, hx120_4⟩ := at_T41 HR0_1.out x4_1 p120 q120
                  cases e120
                  replace hx120_0 := (HB.out.cell (World.block_lt_of_cell? w _ hx120_0)).trans hx120_0
                  replace hx120_1 := (HB.out.cell (World.block_lt_of_cell? w _ hx120_1)).trans hx120_1
                  replace hx120_2 := (HB.out.cell (World.block_lt_of_cell? w _ hx120_2)).trans hx120_2
                  replace hx120_3 := (HB.out.cell (World.block_lt_of_cell? w _ hx120_3)).trans hx120_3
                  replace hx120_4 := (HB.out.cell (World.block_lt_of_cell? w _ hx120_4)).trans hx120_4
                  replace p120 := eq_true p120
                  replace q120 := eq_true q120
                  obtain ⟨Ao27, co27, eo27⟩ := Kd.R_slice HO_3.out
                  subst eo27
                  go_wp2_with (first | ((with_reducible refine gate_callee (f := 42) rfl ?_); refine goesL_ (some 20) rfl rfl Try.func42 (by kernel_rfl) rfl #[.slice Ao27 x3_1.length co27, .string ((rd_T41 l0_1 x4_1).f2)] rfl (by (try simp only [List.map_toArray, List.map_cons, List.map_nil]); first | done | rfl | (simp only [List.length_drop, List.length_take]; rfl)) ?_; (with_reducible refine (busbarref12_has.calls k1 _ _ x3_1 ((rd_T41 l0_1 x4_1).f2) false _ ?side1 ?side2 A7.out).mono ?_); (case side1 => repeat (first | exact (Kd.R_reads' HO_3.out).2.2 | (with_reducible refine Kd.C_alloc ?_ _) | (with_reducible refine Kd.C_drewN ?_ _) | (with_reducible refine Kd.C_drew ?_))); (case side2 => exact (Kd.R_reads' HO_3.out).2.1); rintro e w' ⟨rfl, ⟨nd, rfl⟩⟩; refine ⟨_, rfl, ?_⟩; have p128 : 0 ≤ (x4_1 : Int) := of_decide_eq_true (by first | (with_reducible assumption) | assumption); have q128 : x4_1 < (l0_1.length : Int) := of_decide_eq_true (by first | (with_reducible assumption) | assumption); obtain ⟨ad128, e128, hx128_0, hx128_1, hx128_2, hx128_3, hx128_4⟩ := at_T41 HR0_1.out x4_1 p128 q128; obtain rfl : ad120 = ad128 := (by injection e128); replace hx128_0 := (HB.out.cell (World.block_lt_of_cell? w _ hx128_0)).trans hx128_0; replace hx128_1 := (HB.out.cell (World.block_lt_of_cell? w _ hx128_1)).trans hx128_1; replace hx128_2 := (HB.out.cell (World.block_lt_of_cell? w _ hx128_2)).trans hx128_2; replace hx128_3 := (HB.out.cell (World.block_lt_of_cell? w _ hx128_3)).trans hx128_3; replace hx128_4 := (HB.out.cell (World.block_lt_of_cell? w _ hx128_4)).trans hx128_4; replace p128 := eq_true p128; replace q128 := eq_true q128) | ((with_reducible refine gate_builtin (b := .append) (xs := #[.tmp 22, .tmp 29]) rfl ?_); at_builtin; refine Kd.R_append Kd.string (w0 := w) w.heap.size rfl (.tmp 22) (.tmp 29) 29 9 (.string ⟨#[]⟩) 16 rfl Try.underlying29 info9 rfl (by decide) (by omega) (.slice Ao27 x3_1.length co27) x3_1 ((rd_T41 l0_1 x4_1).f2) [.string ((rd_T41 l0_1 x4_1).f2)] (fun _ => True) (fun _ => False) rfl rfl ?aP (fun _ hk => hk.elim) ?aF ?aO ?aB ?aS ?aL ?_; (case aP => exact rfl); (case aB => exact (by repeat (first | (with_reducible first | exact HB.out | apply below_alloc | apply pw_below_drewN | apply below_drew1 | refine below_set ?_ GE116.out) | exact HB.out))); (case aF => exact (fun _ _ => trivial)); (case aO => exact (by (with_reducible repeat (first | apply Kd.R_alloc | apply Kd.R_drewN | apply Kd.R_drew)); exact HO_3.out)); (case aS => exact (below_size (by repeat (first | (with_reducible first | exact HB.out | apply below_alloc | apply pw_below_drewN | apply below_drew1 | refine below_set ?_ GE116.out) | exact HB.out)))); (case aL => have := LMc17.out; omega); intro v130 w28 ho hb hg hat; rw [← Ny129.out] at ho; have n0_ := Aside0.mk (blk_grown (g := gb116) (o := .cells #[.string a0_0, .slice (some ad120) l0_1.length c0_1, .slice A0_2 l0_2.length c0_2, .string a0_3] 25 (0, 0)) (by (with_reducible repeat (first | refine blk_drewN ?_ _ | refine blk_drew ?_ | refine blk_alloc ?_ _)); exact BK116.out) hg (Kd.R_ne HO_3.out BK116.out (by decide))); have n1_ := Aside0.mk (hb); have n2_ := Aside0.mk (ho); clear BK116; clear HB; clear HO_3; have BK116 := n0_; have HB := n1_; have HO131 := n2_; clear n0_ n1_ n2_; clear ho hb hg hat; have hcz29_0 : w28.cell? ⟨gb116, 0, none⟩ = some (.string a0_0) := (blk_cell BK116.out 0).trans rfl; have hcz29_1 : w28.cell? ⟨gb116, 1, none⟩ = some (.slice (some ad120) l0_1.length c0_1) := (blk_cell BK116.out 1).trans rfl; have hcz29_2 : w28.cell? ⟨gb116, 2, none⟩ = some (.slice A0_2 l0_2.length c0_2) := (blk_cell BK116.out 2).trans rfl; have hcz29_3 : w28.cell? ⟨gb116, 3, none⟩ = some (.string a0_3) := (blk_cell BK116.out 3).trans rfl; have hfz29_0 := blk_frozen BK116.out 0; have hfz29_1 := blk_frozen BK116.out 1; have hfz29_2 := blk_frozen BK116.out 2; have hfz29_3 := blk_frozen BK116.out 3; have p132 : 0 ≤ (x4_1 : Int) := of_decide_eq_true (by first | (with_reducible assumption) | assumption); have q132 : x4_1 < (l0_1.length : Int) := of_decide_eq_true (by first | (with_reducible assumption) | assumption); obtain ⟨ad132, e132, hx132_0, hx132_1, hx132_2, hx132_3, hx132_4⟩ := at_T41 HR0_1.out x4_1 p132 q132; obtain rfl : ad120 = ad132 := (by injection e132); replace hx132_0 := (HB.out.cell (World.block_lt_of_cell? w _ hx132_0)).trans hx132_0; replace hx132_1 := (HB.out.cell (World.block_lt_of_cell? w _ hx132_1)).trans hx132_1; replace hx132_2 := (HB.out.cell (World.block_lt_of_cell? w _ hx132_2)).trans hx132_2; replace hx132_3 := (HB.out.cell (World.block_lt_of_cell? w _ hx132_3)).trans hx132_3; replace hx132_4 := (HB.out.cell (World.block_lt_of_cell? w _ hx132_4)).trans hx132_4; replace p132 := eq_true p132; replace q132 := eq_true q132; obtain ⟨Ao30, co30, eo30⟩ := Kd.R_slice HO131.out; subst eo30) | ((with_reducible refine gate_callee (f := 42) rfl ?_); refine goesL_ (some 38) rfl rfl Try.func42 (by kernel_rfl) rfl #[.slice Ao30 y129.length co30, .string ((rd_T41 l0_1 x4_1).f3)] rfl (by (try simp only [List.map_toArray, List.map_cons, List.map_nil]); first | done | rfl | (simp only [List.length_drop, List.length_take]; rfl)) ?_; (with_reducible refine (busbarref12_has.calls k1 _ _ y129 ((rd_T41 l0_1 x4_1).f3) false _ ?side1 ?side2 A18.out).mono ?_); (case side1 => repeat (first | exact (Kd.R_reads' HO131.out).2.2 | (with_reducible refine Kd.C_alloc ?_ _) | (with_reducible refine Kd.C_drewN ?_ _) | (with_reducible refine Kd.C_drew ?_))); (case side2 => exact (Kd.R_reads' HO131.out).2.1); rintro e w' ⟨rfl, ⟨nd, rfl⟩⟩; refine ⟨_, rfl, ?_⟩; have p134 : 0 ≤ (x4_1 : Int) := of_decide_eq_true (by first | (with_reducible assumption) | assumption); have q134 : x4_1 < (l0_1.length : Int) := of_decide_eq_true (by first | (with_reducible assumption) | assumption); obtain ⟨ad134, e134, hx134_0, hx134_1, hx134_2, hx134_3, hx134_4⟩ := at_T41 HR0_1.out x4_1 p134 q134; obtain rfl : ad120 = ad134 := (by injection e134); replace hx134_0 := (HB.out.cell (World.block_lt_of_cell? w _ hx134_0)).trans hx134_0; replace hx134_1 := (HB.out.cell (World.block_lt_of_cell? w _ hx134_1)).trans hx134_1; replace hx134_2 := (HB.out.cell (World.block_lt_of_cell? w _ hx134_2)).trans hx134_2; replace hx134_3 := (HB.out.cell (World.block_lt_of_cell? w _ hx134_3)).trans hx134_3; replace hx134_4 := (HB.out.cell (World.block_lt_of_cell? w _ hx134_4)).trans hx134_4; replace p134 := eq_true p134; replace q134 := eq_true q134) | ((with_reducible refine gate_builtin (b := .append) (xs := #[.tmp 40, .tmp 47]) rfl ?_); at_builtin; refine Kd.R_append Kd.string (w0 := w) w.heap.size rfl (.tmp 40) (.tmp 47) 29 9 (.string ⟨#[]⟩) 16 rfl Try.underlying29 info9 rfl (by decide) (by omega) (.slice Ao30 y129.length co30) y129 ((rd_T41 l0_1 x4_1).f3) [.string ((rd_T41 l0_1 x4_1).f3)] (fun _ => True) (fun _ => False) rfl rfl ?aP (fun _ hk => hk.elim) ?aF ?aO ?aB ?aS ?aL ?_; (case aP => exact rfl); (case aB => exact (by repeat (first | (with_reducible first | exact HB.out | apply below_alloc | apply pw_below_drewN | apply below_drew1 | refine below_set ?_ GE116.out) | exact HB.out))); (case aF => exact (fun _ _ => trivial)); (case aO => exact (by (with_reducible repeat (first | apply Kd.R_alloc | apply Kd.R_drewN | apply Kd.R_drew)); exact HO131.out)); (case aS => exact (below_size (by repeat (first | (with_reducible first | exact HB.out | apply below_alloc | apply pw_below_drewN | apply below_drew1 | refine below_set ?_ GE116.out) | exact HB.out)))); (case aL => have := LMc25.out; omega); intro v136 w31 ho hb hg hat; rw [← Ny135.out] at ho; have n0_ := Aside0.mk (blk_grown (g := gb116) (o := .cells #[.string a0_0, .slice (some ad120) l0_1.length c0_1, .slice A0_2 l0_2.length c0_2, .string a0_3] 25 (0, 0)) (by (with_reducible repeat (first | refine blk_drewN ?_ _ | refine blk_drew ?_ | refine blk_alloc ?_ _)); exact BK116.out) hg (Kd.R_ne HO131.out BK116.out (by decide))); have n1_ := Aside0.mk (hb); have n2_ := Aside0.mk (ho); clear BK116; clear HB; clear HO131; have BK116 := n0_; have HB := n1_; have HO137 := n2_; clear n0_ n1_ n2_; clear ho hb hg hat))
                  go_roundg k1
                  case measure => have := HK1.out; omega
                  case rel => exact ⟨(y135), (wrap64 (x4_1 + 1)), (by first | rfl | (simp; done) | (simp [*]; done)), H', ⟨by have := HK1.out; omega⟩, ⟨by (with_reducible repeat (first | apply Kd.R_alloc | apply Kd.R_drewN | apply Kd.R_drew)); exact HO137.out⟩, ⟨by (with_reducible repeat (first | refine blk_drewN ?_ _ | refine blk_drew ?_ | refine blk_alloc ?_ _)); exact BK116.out⟩, ⟨by repeat (first | (with_reducible first | exact HB.out | apply below_alloc | apply pw_below_drewN | apply below_drew1 | refine below_set ?_ GE116.out) | exact HB.out)⟩⟩
                · rw [if_neg c25] at H
                  exact absurd H (by simp)
            · rw [if_neg c17] at H
              exact absurd H (by simp)
        · rw [if_neg c6] at H
          exact absurd H (by simp)
      · rw [if_neg c5] at H
        have c5b0 : decide (x4_1 < (l0_1.length : Int)) = false := decide_eq_false c5
        clear c5
        obtain rfl := Option.some.inj H
        have hcz32_0 : wr.cell? ⟨gb116, 0, none⟩ = some (.string a0_0) := (blk_cell BK116.out 0).trans rfl
        have hcz32_1 : wr.cell? ⟨gb116, 1, none⟩ = some (.slice A0_1 l0_1.length c0_1) := (blk_cell BK116.out 1).trans rfl
        have hcz32_2 : wr.cell? ⟨gb116, 2, none⟩ = some (.slice A0_2 l0_2.length c0_2) := (blk_cell BK116.out 2).trans rfl
        have hcz32_3 : wr.cell? ⟨gb116, 3, none⟩ = some (.string a0_3) := (blk_cell BK116.out 3).trans rfl
        have hfz32_0 := blk_frozen BK116.out 0
        have hfz32_1 := blk_frozen BK116.out 1
        have hfz32_2 := blk_frozen BK116.out 2
        have hfz32_3 := blk_frozen BK116.out 3
        go_wp2
        go_ret
        exact ⟨_, by first | rfl | (simp [errW_none, errW_some] <;> rfl) | (simp [*, errW_none, errW_some] <;> rfl), by (with_reducible repeat (first | apply Kd.R_alloc | apply Kd.R_drewN | apply Kd.R_drew)); exact HO_3.out, by repeat (first | (with_reducible first | exact HB.out | apply below_alloc | apply pw_below_drewN | apply below_drew1 | refine below_set ?_ GE116.out) | exact HB.out)⟩

end Go.Proofs.Ytmacdknicgfglaa.Impl
end
section
/- Printed by a program of this session (a copy of the kit's print.py, one text for all functions of the seat), with some contracts typed by hand among them: for each Go function a Lean function and a proof that the code comes to its answers. -/
namespace Go.Proofs.Ytmacdknicgfglaa.Impl
open Go.RowKit Go.Proofs.YtmacdknicgfglaaW.PrintWords Go.Proofs.YtmacdknicgfglaaW.PrintLast Go.Proofs.YtmacdknicgfglaaW.PrintMore
attribute [local go_sem] max2_int min2_int max_two min_two
set_option linter.unusedVariables false
set_option linter.unusedSimpArgs false

/-! ### slices_Equal_int_int: function 20 -/
def slices_Equal_int_int.l0 : Nat → List Int → List Int → Int → Int → Option (Bool)
  | 0, _, _, _, _ => none
  | k + 1, x0, x1, x12, x13 => if x13 < x12 then (if 0 ≤ x13 then (if x13 < (x0.length : Int) then (if x13 < (x1.length : Int) then (if (rd x0 x13) = (rd x1 x13) then (slices_Equal_int_int.l0 k x0 x1 x12 (wrap64 (x13 + 1))) else (some false)) else (none)) else (none)) else (none)) else (some true)
def slices_Equal_int_int.f (k : Nat) (l0 : List Int) (l1 : List Int) : Option (Bool) := if (l0.length : Int) = (l1.length : Int) then (slices_Equal_int_int.l0 k l0 l1 (l0.length : Int) 0) else (some false)
theorem slices_Equal_int_int.mono_l : ∀ k, (∀ y0 y1 y2 y3, LeO (slices_Equal_int_int.l0 k y0 y1 y2 y3) (slices_Equal_int_int.l0 (k + 1) y0 y1 y2 y3))
  | 0 => fun _ _ _ _ r h => by simp [slices_Equal_int_int.l0] at h
  | k + 1 => by
    have ih0 := slices_Equal_int_int.mono_l k
    · intro y0 y1 y2 y3
      unfold slices_Equal_int_int.l0
      repeat' first
      | (with_reducible exact ih0 _ _ _ _)
      | (with_reducible exact LeO.refl _)
      | (with_reducible exact LeO.none _)
      | (with_reducible refine LeO.ite ?_ ?_)
      | (with_reducible refine LeO.bind ?_ (fun _ => ?_))
      | exact ih0 _ _ _ _
      | exact LeO.none _
      | refine LeO.ite ?_ ?_
      | refine LeO.bind ?_ (fun _ => ?_)
theorem slices_Equal_int_int.mono : ∀ a0 a1 k, LeO (slices_Equal_int_int.f k a0 a1) (slices_Equal_int_int.f (k + 1) a0 a1) := by
  intro a0 a1 k
  have ih0 := slices_Equal_int_int.mono_l k
  unfold slices_Equal_int_int.f
  repeat' first
      | (with_reducible exact ih0 _ _ _ _)
      | (with_reducible exact LeO.refl _)
      | (with_reducible exact LeO.none _)
      | (with_reducible refine LeO.ite ?_ ?_)
      | (with_reducible refine LeO.bind ?_ (fun _ => ?_))
      | exact ih0 _ _ _ _
      | exact LeO.none _
      | refine LeO.ite ?_ ?_
      | refine LeO.bind ?_ (fun _ => ?_)
set_option maxHeartbeats 8000000 in
set_option maxRecDepth 100000 in
theorem slices_Equal_int_int.calls (k : Nat) (A0 : Option Addr) (c0 : Nat) (l0 : List Int) (A1 : Option Addr) (c1 : Nat) (l1 : List Int) (r : Bool) (w : World) (hr0 : Kd.C (Kd.int .i64) w A0 l0.length l0) (hc0 : l0.length ≤ c0) (hr1 : Kd.C (Kd.int .i64) w A1 l1.length l1) (hc1 : l1.length ≤ c1) (h : slices_Equal_int_int.f k l0 l1 = some r) :
    Calls Try.prog 20 #[.slice A0 l0.length c0, .slice A1 l1.length c1] w fun e w' => e = .returned (.bool r) ∧ Drawn0 w w' := by
  have HR0 := Aside0.mk hr0
  have HC0 := Aside0.mk hc0
  clear hr0 hc0
  have HR1 := Aside0.mk hr1
  have HC1 := Aside0.mk hc1
  clear hr1 hc1
  have H : (if (l0.length : Int) = (l1.length : Int) then (slices_Equal_int_int.l0 k l0 l1 (l0.length : Int) 0) else (some false)) = some r := h
  clear h
  by_cases c3 : (l0.length : Int) = (l1.length : Int)
  · rw [if_pos c3] at H
    have c3b0 : ((l0.length : Int) == (l1.length : Int)) = true := beq_iff_eq.mpr c3
    have c3b1 : ((l0.length : Int) != (l1.length : Int)) = false := bne_eq_false_iff_eq.mpr c3
    have c3b2 : (l0.length == l1.length) = true := by first | simpa using c3 | (simp at c3 ⊢; omega)
    clear c3
    have H' := Aside0.mk H
    clear H
    go_enter Try.func20, Try.ntmps20
    go_wp2
    repeat (go_quiet (fail); try go_wp2)
    go_loopg [13] k (fun kq v13 w' => ∃ (x13_1 : Int), v13 = .int .i64 x13_1 ∧ Aside0 (slices_Equal_int_int.l0 kq l0 l1 (l0.length : Int) x13_1 = some r) ∧ Aside0 (kq ≤ k) ∧ Drawn0 w w')
    case atStart => exact ⟨(0), (by first | rfl | (simp; done) | (simp [*]; done)), H', ⟨Nat.le_refl _⟩, by repeat (first | exact Drawn0.refl _ | apply Drawn0.step)⟩
    case round =>
      clear H'
      try clear c1
      try clear c2
      try clear p2
      try clear c3
      try clear c3b0
      try clear c3b1
      try clear c3b2
      obtain ⟨x13_1, rfl, HA, HK1, ⟨m1, rfl⟩⟩ := hrel
      cases gk with
      | zero => exact absurd HA.out (by simp [slices_Equal_int_int.l0])
      | succ k1 =>
        have H := HA.out
        clear HA
        simp only [slices_Equal_int_int.l0] at H
        by_cases c4 : x13_1 < (l0.length : Int)
        · rw [if_pos c4] at H
          have c4b0 : decide (x13_1 < (l0.length : Int)) = true := decide_eq_true c4
          clear c4
          by_cases c5 : 0 ≤ x13_1
          · rw [if_pos c5] at H
            have c5b0 : decide (0 ≤ x13_1) = true := decide_eq_true c5
            clear c5
            by_cases c6 : x13_1 < (l0.length : Int)
            · rw [if_pos c6] at H
              have c6b0 : decide (x13_1 < (l0.length : Int)) = true := decide_eq_true c6
              clear c6
              by_cases c7 : x13_1 < (l1.length : Int)
              · rw [if_pos c7] at H
                have c7b0 : decide (x13_1 < (l1.length : Int)) = true := decide_eq_true c7
                clear c7
                by_cases c8 : (rd l0 x13_1) = (rd l1 x13_1)
                · rw [if_pos c8] at H
                  have c8b0 : ((rd l0 x13_1) == (rd l1 x13_1)) = true := beq_iff_eq.mpr c8
                  have c8b1 : ((rd l0 x13_1) != (rd l1 x13_1)) = false := bne_eq_false_iff_eq.mpr c8
                  clear c8
                  have H' := Aside0.mk H
                  clear H
                  have p138 : 0 ≤ (x13_1 : Int) := of_decide_eq_true (by first | (with_reducible assumption) | assumption)
                  have q138 : x13_1 < (l0.length : Int) := of_decide_eq_true (by first | (with_reducible assumption) | assumption)
                  obtain ⟨ad138, e138, hx138_0⟩ := Kd.at_int HR0.out x13_1 p138 q138
                  cases e138
                  replace p138 := eq_true p138
                  replace q138 := eq_true q138
                  have p139 : 0 ≤ (x13_1 : Int) := of_decide_eq_true (by first | (with_reducible assumption) | assumption)
                  have q139 : x13_1 < (l1.length : Int) := of_decide_eq_true (by first | (with_reducible assumption) | assumption)
                  obtain ⟨ad139, e139, hx139_0⟩ := Kd.at_int HR1.out x13_1 p139 q139
                  cases e139
                  replace p139 := eq_true p139
                  replace q139 := eq_true q139
                  go_wp2
                  repeat (go_quiet (fail); try go_wp2)
                  go_roundg k1
                  case measure => have := HK1.out; omega
                  case rel => exact ⟨(wrap64 (x13_1 + 1)), (by first | rfl | (simp; done) | (simp [*]; done)), H', ⟨by have := HK1.out; omega⟩, by repeat (first | exact Drawn0.refl _ | apply Drawn0.step)⟩
                · rw [if_neg c8] at H
                  have c8b0 : ((rd l0 x13_1) == (rd l1 x13_1)) = false := beq_eq_false_iff_ne.mpr c8
                  have c8b1 : ((rd l0 x13_1) != (rd l1 x13_1)) = true := bne_iff_ne.mpr c8
                  obtain rfl := Option.some.inj H
                  have p138 : 0 ≤ (x13_1 : Int) := of_decide_eq_true (by first | (with_reducible assumption) | assumption)
                  have q138 : x13_1 < (l0.length : Int) := of_decide_eq_true (by first | (with_reducible assumption) | assumption)
                  obtain ⟨ad138, e138, hx138_0⟩ := Kd.at_int HR0.out x13_1 p138 q138
                  cases e138
                  replace p138 := eq_true p138
                  replace q138 := eq_true q138
                  have p139 : 0 ≤ (x13_1 : Int) := of_decide_eq_true (by first | (with_reducible assumption) | assumption)
                  have q139 : x13_1 < (l1.length : Int) := of_decide_eq_true (by first | (with_reducible assumption) | assumption)
                  obtain ⟨ad139, e139, hx139_0⟩ := Kd.at_int HR1.out x13_1 p139 q139
                  cases e139
                  replace p139 := eq_true p139
                  replace q139 := eq_true q139
                  go_wp2
                  repeat (go_quiet (fail); try go_wp2)
                  go_ret
                  exact ⟨by first | rfl | (simp; done) | (simp [*]; done), by repeat (first | exact Drawn0.refl _ | apply Drawn0.step)⟩
              · rw [if_neg c7] at H
                exact absurd H (by simp)
            · rw [if_neg c6] at H
              exact absurd H (by simp)
          · rw [if_neg c5] at H
            exact absurd H (by simp)
        · rw [if_neg c4] at H
          have c4b0 : decide (x13_1 < (l0.length : Int)) = false := decide_eq_false c4
          clear c4
          obtain rfl := Option.some.inj H
          go_wp2
          repeat (go_quiet (fail); try go_wp2)
          go_ret
          exact ⟨by first | rfl | (simp; done) | (simp [*]; done), by repeat (first | exact Drawn0.refl _ | apply Drawn0.step)⟩
  · rw [if_neg c3] at H
    have c3b0 : ((l0.length : Int) == (l1.length : Int)) = false := beq_eq_false_iff_ne.mpr c3
    have c3b1 : ((l0.length : Int) != (l1.length : Int)) = true := bne_iff_ne.mpr c3
    have c3b2 : (l0.length == l1.length) = false := by first | simpa using c3 | (simp at c3 ⊢; omega)
    obtain rfl := Option.some.inj H
    go_enter Try.func20, Try.ntmps20
    go_wp2
    repeat (go_quiet (fail); try go_wp2)
    go_ret
    exact ⟨by first | rfl | (simp; done) | (simp [*]; done), by repeat (first | exact Drawn0.refl _ | apply Drawn0.step)⟩

-- NOT PRINTED: function 43 (graph_numbers)

-- NOT PRINTED: function 21 (graph_Outgoing)

/-! ### busbarref12_Outgoing: function 22 -/
def busbarref12_Outgoing.l0 : Nat → ByteArray → List Int → Int → ByteArray → List (S41) → List (S101) → ByteArray → Option (List Int)
  | 0, _, _, _, _, _, _, _ => none
  | k + 1, x1, x5, x6, x142000, x142001, x142002, x142003 => if x6 < (x142001.length : Int) then (if 0 ≤ x6 then (if ((rd_T41 x142001 x6).f2).toList = x1.toList then (if x5.length < 17592186044416 then (busbarref12_Outgoing.l0 k x1 (x5 ++ [x6]) (wrap64 (x6 + 1)) x142000 x142001 x142002 x142003) else (none)) else (busbarref12_Outgoing.l0 k x1 x5 (wrap64 (x6 + 1)) x142000 x142001 x142002 x142003)) else (none)) else (some x5)
def busbarref12_Outgoing.f (k : Nat) (a0_0 : ByteArray) (l0_1 : List (S41)) (l0_2 : List (S101)) (a0_3 : ByteArray) (a1 : ByteArray) : Option (List Int) := busbarref12_Outgoing.l0 k a1 ([] : List Int) 0 a0_0 l0_1 l0_2 a0_3
theorem busbarref12_Outgoing.mono_l : ∀ k, (∀ y0 y1 y2 y3 y4 y5 y6, LeO (busbarref12_Outgoing.l0 k y0 y1 y2 y3 y4 y5 y6) (busbarref12_Outgoing.l0 (k + 1) y0 y1 y2 y3 y4 y5 y6))
  | 0 => fun _ _ _ _ _ _ _ r h => by simp [busbarref12_Outgoing.l0] at h
  | k + 1 => by
    have ih0 := busbarref12_Outgoing.mono_l k
    · intro y0 y1 y2 y3 y4 y5 y6
      unfold busbarref12_Outgoing.l0
      repeat' first
      | (with_reducible exact ih0 _ _ _ _ _ _ _)
      | (with_reducible exact LeO.refl _)
      | (with_reducible exact LeO.none _)
      | (with_reducible refine LeO.ite ?_ ?_)
      | (with_reducible refine LeO.bind ?_ (fun _ => ?_))
      | exact ih0 _ _ _ _ _ _ _
      | exact LeO.none _
      | refine LeO.ite ?_ ?_
      | refine LeO.bind ?_ (fun _ => ?_)
theorem busbarref12_Outgoing.mono : ∀ a0 a1 a2 a3 a4 k, LeO (busbarref12_Outgoing.f k a0 a1 a2 a3 a4) (busbarref12_Outgoing.f (k + 1) a0 a1 a2 a3 a4) := by
  intro a0 a1 a2 a3 a4 k
  have ih0 := busbarref12_Outgoing.mono_l k
  unfold busbarref12_Outgoing.f
  repeat' first
      | (with_reducible exact ih0 _ _ _ _ _ _ _)
      | (with_reducible exact LeO.refl _)
      | (with_reducible exact LeO.none _)
      | (with_reducible refine LeO.ite ?_ ?_)
      | (with_reducible refine LeO.bind ?_ (fun _ => ?_))
      | exact ih0 _ _ _ _ _ _ _
      | exact LeO.none _
      | refine LeO.ite ?_ ?_
      | refine LeO.bind ?_ (fun _ => ?_)
set_option maxHeartbeats 8000000 in
set_option maxRecDepth 100000 in
theorem busbarref12_Outgoing.calls (k : Nat) (a0_0 : ByteArray) (A0_1 : Option Addr) (c0_1 : Nat) (l0_1 : List (S41)) (A0_2 : Option Addr) (c0_2 : Nat) (l0_2 : List (S101)) (a0_3 : ByteArray) (a1 : ByteArray) (r : List Int) (w : World) (hr0_1 : Kd.C k41 w A0_1 l0_1.length l0_1) (hc0_1 : l0_1.length ≤ c0_1) (hr0_2 : Kd.C k101 w A0_2 l0_2.length l0_2) (hc0_2 : l0_2.length ≤ c0_2) (h : busbarref12_Outgoing.f k a0_0 l0_1 l0_2 a0_3 a1 = some r) :
    Calls Try.prog 22 #[.agg #[.string a0_0, .slice A0_1 l0_1.length c0_1, .slice A0_2 l0_2.length c0_2, .string a0_3], .string a1] w fun e w' => ∃ v0_ : Value, e = .returned (v0_) ∧ Kd.R (Kd.int .i64) 3 w' w.heap.size (fun _ => True) v0_ r ∧ Below w.heap.size w w' := by
  have hu25 := Try.underlying25
  have HR0_1 := Aside0.mk hr0_1
  have HC0_1 := Aside0.mk hc0_1
  clear hr0_1 hc0_1
  have HR0_2 := Aside0.mk hr0_2
  have HC0_2 := Aside0.mk hc0_2
  clear hr0_2 hc0_2
  have HB := Aside0.mk (Below.refl w.heap.size w)
  have H : (busbarref12_Outgoing.l0 k a1 ([] : List Int) 0 a0_0 l0_1 l0_2 a0_3) = some r := h
  clear h
  have H' := Aside0.mk H
  clear H
  go_enter Try.func22, Try.ntmps22
  go_wp2_with (first | ((with_reducible refine gate_dst (N := 2) rfl ?_); refine box_event ?hg (N := 2) ?hd (cs := #[.string a0_0, .slice A0_1 l0_1.length c0_1, .slice A0_2 l0_2.length c0_2, .string a0_3]) (t := 25) ?hr ?_; (case hd => rfl); (case hg => rfl); (case hr => first | (go_simp; done) | (go_simp; rfl)); intro gb141 hg w3 hbox hb; have n0_ := Aside0.mk (below_step (by repeat (first | (with_reducible first | exact HB.out | apply below_alloc | apply pw_below_drewN | apply below_drew1) | exact HB.out)) hb); have n1_ := Aside0.mk (hbox); have n2_ := Aside0.mk ((by rw [hg]; exact (below_size (by repeat (first | (with_reducible first | exact HB.out | apply below_alloc | apply pw_below_drewN | apply below_drew1) | exact HB.out))) : w.heap.size ≤ gb141)); have n3_ := Aside0.mk ((by rw [hg]; exact (below_size (by repeat (first | (with_reducible first | exact HB.out | apply below_alloc | apply pw_below_drewN | apply below_drew1) | exact HB.out))) : w.heap.size ≤ gb141)); clear HB; have HB := n0_; have BK141 := n1_; have GW141 := n2_; have GE141 := n3_; clear n0_ n1_ n2_ n3_; clear hb hbox hg))
  go_loopg [5, 6] k (fun kq v5 v6 w' => ∃ (x5_1 : List Int) (x6_1 : Int), v6 = .int .i64 x6_1 ∧ Aside0 (busbarref12_Outgoing.l0 kq a1 x5_1 x6_1 a0_0 l0_1 l0_2 a0_3 = some r) ∧ Aside0 (kq ≤ k) ∧ Aside0 (Kd.R (Kd.int .i64) 3 w' w.heap.size (fun _ => True) v5 x5_1) ∧ Aside0 (w'.heap[gb141]? = some (.cells #[.string a0_0, (.slice A0_1 l0_1.length c0_1), (.slice A0_2 l0_2.length c0_2), .string a0_3] 25 (0, 0))) ∧ Aside0 (Below w.heap.size w w'))
  case atStart => exact ⟨(([] : List Int)), (0), (by first | rfl | (simp; done) | (simp [*]; done)), H', ⟨Nat.le_refl _⟩, ⟨by first | exact Kd.R_nil _ _ _ _ _ | exact Kd.N_nil _ _ _ _ _ | exact Kd.V_nil _ _ _ _ _ | exact Kd.Q_nil _ _ _ _ _ | exact Kd.S_nil _ _ _ _ _⟩, ⟨by (with_reducible repeat (first | refine blk_drewN ?_ _ | refine blk_drew ?_ | refine blk_alloc ?_ _)); exact BK141.out⟩, ⟨by repeat (first | (with_reducible first | exact HB.out | apply below_alloc | apply pw_below_drewN | apply below_drew1 | refine below_set ?_ GE141.out) | exact HB.out)⟩⟩
  case round =>
    clear H'
    try clear c2
    try clear p2
    obtain ⟨x5_1, x6_1, rfl, HA, HK1, HO_5, BK141, HB⟩ := hrel
    cases gk with
    | zero => exact absurd HA.out (by simp [busbarref12_Outgoing.l0])
    | succ k1 =>
      have H := HA.out
      clear HA
      simp only [busbarref12_Outgoing.l0] at H
      by_cases c4 : x6_1 < (l0_1.length : Int)
      · rw [if_pos c4] at H
        have c4b0 : decide (x6_1 < (l0_1.length : Int)) = true := decide_eq_true c4
        clear c4
        by_cases c5 : 0 ≤ x6_1
        · rw [if_pos c5] at H
          have c5b0 : decide (0 ≤ x6_1) = true := decide_eq_true c5
          clear c5
          by_cases c6 : ((rd_T41 l0_1 x6_1).f2).toList = a1.toList
          · rw [if_pos c6] at H
            have c6b0 : (((rd_T41 l0_1 x6_1).f2).toList == a1.toList) = true := beq_iff_eq.mpr c6
            have c6b1 : (((rd_T41 l0_1 x6_1).f2).toList != a1.toList) = false := bne_eq_false_iff_eq.mpr c6
            clear c6
            by_cases c7 : x5_1.length < 17592186044416
            · rw [if_pos c7] at H
              have LMc7 := Aside0.mk c7
              clear c7
              obtain ⟨y143, hy143⟩ : ∃ y_ : List Int, y_ = (x5_1 ++ [x6_1]) := ⟨_, rfl⟩
              replace H : (busbarref12_Outgoing.l0 k1 a1 y143 (wrap64 (x6_1 + 1)) a0_0 l0_1 l0_2 a0_3) = some r := by first | (rw [hy143]; with_reducible exact H) | (have H2_ := (Option.bind_some _ _).symm.trans H; rw [hy143]; with_reducible exact H2_) | (have H2_ := (Option.bind_some _ _).symm.trans H; with_reducible exact H2_) | with_reducible exact H | (rw [hy143]; exact H) | exact H
              have Ny143 := Aside0.mk hy143
              clear hy143
              have H' := Aside0.mk H
              clear H
              have hcz8_0 : wr.cell? ⟨gb141, 0, none⟩ = some (.string a0_0) := (blk_cell BK141.out 0).trans rfl
              have hcz8_1 : wr.cell? ⟨gb141, 1, none⟩ = some (.slice A0_1 l0_1.length c0_1) := (blk_cell BK141.out 1).trans rfl
              have hcz8_2 : wr.cell? ⟨gb141, 2, none⟩ = some (.slice A0_2 l0_2.length c0_2) := (blk_cell BK141.out 2).trans rfl
              have hcz8_3 : wr.cell? ⟨gb141, 3, none⟩ = some (.string a0_3) := (blk_cell BK141.out 3).trans rfl
              have hfz8_0 := blk_frozen BK141.out 0
              have hfz8_1 := blk_frozen BK141.out 1
              have hfz8_2 := blk_frozen BK141.out 2
              have hfz8_3 := blk_frozen BK141.out 3
              have p142 : 0 ≤ (x6_1 : Int) := of_decide_eq_true (by first | (with_reducible assumption) | assumption)
              have q142 : x6_1 < (l0_1.length : Int) := of_decide_eq_true (by first | (with_reducible assumption) | assumption)
              obtain ⟨ad142, e142, hx142_0, hx142_1, hx142_2, hx142_3, hx142_4⟩ := at_T41 HR0_1.out x6_1 p142 q142
              cases e142
              replace hx142_0 := (HB.out.cell (World.block_lt_of_cell? w _ hx142_0)).trans hx142_0
              replace hx142_1 := (HB.out.cell (World.block_lt_of_cell? w _ hx142_1)).trans hx142_1
              replace hx142_2 := (HB.out.cell (World.block_lt_of_cell? w _ hx142_2)).trans hx142_2
              replace hx142_3 := (HB.out.cell (World.block_lt_of_cell? w _ hx142_3)).trans hx142_3
              replace hx142_4 := (HB.out.cell (World.block_lt_of_cell? w _ hx142_4)).trans hx142_4
              replace p142 := eq_true p142
              replace q142 := eq_true q142
              go_wp2_with (first | ((with_reducible refine gate_builtin (b := .append) (xs := #[.tmp 22, .tmp 24]) rfl ?_); at_builtin; refine Kd.R_append (Kd.int .i64) (w0 := w) w.heap.size rfl (.tmp 22) (.tmp 24) 32 3 (.int .i64 0) 8 rfl Try.underlying32 info3 rfl (by decide) (by omega) u5 x5_1 x6_1 [.int .i64 x6_1] (fun _ => True) (fun _ => False) rfl rfl ?aP (fun _ hk => hk.elim) ?aF ?aO ?aB ?aS ?aL ?_; (case aP => exact rfl); (case aB => exact (by repeat (first | (with_reducible first | exact HB.out | apply below_alloc | apply pw_below_drewN | apply below_drew1 | refine below_set ?_ GE141.out) | exact HB.out))); (case aF => exact (fun _ _ => trivial)); (case aO => exact (by (with_reducible repeat (first | apply Kd.R_alloc | apply Kd.R_drewN | apply Kd.R_drew)); exact HO_5.out)); (case aS => exact (below_size (by repeat (first | (with_reducible first | exact HB.out | apply below_alloc | apply pw_below_drewN | apply below_drew1 | refine below_set ?_ GE141.out) | exact HB.out)))); (case aL => have := LMc7.out; omega); intro v144 w9 ho hb hg hat; rw [← Ny143.out] at ho; have n0_ := Aside0.mk (blk_grown (g := gb141) (o := .cells #[.string a0_0, .slice (some ad142) l0_1.length c0_1, .slice A0_2 l0_2.length c0_2, .string a0_3] 25 (0, 0)) (by (with_reducible repeat (first | refine blk_drewN ?_ _ | refine blk_drew ?_ | refine blk_alloc ?_ _)); exact BK141.out) hg (Kd.R_ne HO_5.out BK141.out (by decide))); have n1_ := Aside0.mk (hb); have n2_ := Aside0.mk (ho); clear BK141; clear HB; clear HO_5; have BK141 := n0_; have HB := n1_; have HO145 := n2_; clear n0_ n1_ n2_; clear ho hb hg hat))
              go_roundg k1
              case measure => have := HK1.out; omega
              case rel => exact ⟨(y143), (wrap64 (x6_1 + 1)), (by first | rfl | (simp; done) | (simp [*]; done)), H', ⟨by have := HK1.out; omega⟩, ⟨by (with_reducible repeat (first | apply Kd.R_alloc | apply Kd.R_drewN | apply Kd.R_drew)); exact HO145.out⟩, ⟨by (with_reducible repeat (first | refine blk_drewN ?_ _ | refine blk_drew ?_ | refine blk_alloc ?_ _)); exact BK141.out⟩, ⟨by repeat (first | (with_reducible first | exact HB.out | apply below_alloc | apply pw_below_drewN | apply below_drew1 | refine below_set ?_ GE141.out) | exact HB.out)⟩⟩
            · rw [if_neg c7] at H
              exact absurd H (by simp)
          · rw [if_neg c6] at H
            have c6b0 : (((rd_T41 l0_1 x6_1).f2).toList == a1.toList) = false := beq_eq_false_iff_ne.mpr c6
            have c6b1 : (((rd_T41 l0_1 x6_1).f2).toList != a1.toList) = true := bne_iff_ne.mpr c6
            have H' := Aside0.mk H
            clear H
            have hcz10_0 : wr.cell? ⟨gb141, 0, none⟩ = some (.string a0_0) := (blk_cell BK141.out 0).trans rfl
            have hcz10_1 : wr.cell? ⟨gb141, 1, none⟩ = some (.slice A0_1 l0_1.length c0_1) := (blk_cell BK141.out 1).trans rfl
            have hcz10_2 : wr.cell? ⟨gb141, 2, none⟩ = some (.slice A0_2 l0_2.length c0_2) := (blk_cell BK141.out 2).trans rfl
            have hcz10_3 : wr.cell? ⟨gb141, 3, none⟩ = some (.string a0_3) := (blk_cell BK141.out 3).trans rfl
            have hfz10_0 := blk_frozen BK141.out 0
            have hfz10_1 := blk_frozen BK141.out 1
            have hfz10_2 := blk_frozen BK141.out 2
            have hfz10_3 := blk_frozen BK141.out 3
            have p142 : 0 ≤ (x6_1 : Int) := of_decide_eq_true (by first | (with_reducible assumption) | assumption)
            have q142 : x6_1 < (l0_1.length : Int) := of_decide_eq_true (by first | (with_reducible assumption) | assumption)
            obtain ⟨ad142, e142, hx142_0, hx142_1, hx142_2, hx142_3, hx142_4⟩ := at_T41 HR0_1.out x6_1 p142 q142
            cases e142
            replace hx142_0 := (HB.out.cell (World.block_lt_of_cell? w _ hx142_0)).trans hx142_0
            replace hx142_1 := (HB.out.cell (World.block_lt_of_cell? w _ hx142_1)).trans hx142_1
            replace hx142_2 := (HB.out.cell (World.block_lt_of_cell? w _ hx142_2)).trans hx142_2
            replace hx142_3 := (HB.out.cell (World.block_lt_of_cell? w _ hx142_3)).trans hx142_3
            replace hx142_4 := (HB.out.cell (World.block_lt_of_cell? w _ hx142_4)).trans hx142_4
            replace p142 := eq_true p142
            replace q142 := eq_true q142
            go_wp2
            go_roundg k1
            case measure => have := HK1.out; omega
            case rel => exact ⟨(x5_1), (wrap64 (x6_1 + 1)), (by first | rfl | (simp; done) | (simp [*]; done)), H', ⟨by have := HK1.out; omega⟩, ⟨by (with_reducible repeat (first | apply Kd.R_alloc | apply Kd.R_drewN | apply Kd.R_drew)); exact HO_5.out⟩, ⟨by (with_reducible repeat (first | refine blk_drewN ?_ _ | refine blk_drew ?_ | refine blk_alloc ?_ _)); exact BK141.out⟩, ⟨by repeat (first | (with_reducible first | exact HB.out | apply below_alloc | apply pw_below_drewN | apply below_drew1 | refine below_set ?_ GE141.out) | exact HB.out)⟩⟩
        · rw [if_neg c5] at H
          exact absurd H (by simp)
      · rw [if_neg c4] at H
        have c4b0 : decide (x6_1 < (l0_1.length : Int)) = false := decide_eq_false c4
        clear c4
        obtain rfl := Option.some.inj H
        have hcz11_0 : wr.cell? ⟨gb141, 0, none⟩ = some (.string a0_0) := (blk_cell BK141.out 0).trans rfl
        have hcz11_1 : wr.cell? ⟨gb141, 1, none⟩ = some (.slice A0_1 l0_1.length c0_1) := (blk_cell BK141.out 1).trans rfl
        have hcz11_2 : wr.cell? ⟨gb141, 2, none⟩ = some (.slice A0_2 l0_2.length c0_2) := (blk_cell BK141.out 2).trans rfl
        have hcz11_3 : wr.cell? ⟨gb141, 3, none⟩ = some (.string a0_3) := (blk_cell BK141.out 3).trans rfl
        have hfz11_0 := blk_frozen BK141.out 0
        have hfz11_1 := blk_frozen BK141.out 1
        have hfz11_2 := blk_frozen BK141.out 2
        have hfz11_3 := blk_frozen BK141.out 3
        go_wp2
        go_ret
        exact ⟨_, by first | rfl | (simp [errW_none, errW_some] <;> rfl) | (simp [*, errW_none, errW_some] <;> rfl), by (with_reducible repeat (first | apply Kd.R_alloc | apply Kd.R_drewN | apply Kd.R_drew)); exact HO_5.out, by repeat (first | (with_reducible first | exact HB.out | apply below_alloc | apply pw_below_drewN | apply below_drew1 | refine below_set ?_ GE141.out) | exact HB.out)⟩

-- NOT PRINTED: function 23 (graph_Incoming)

end Go.Proofs.Ytmacdknicgfglaa.Impl
end
section
/- Printed by a program of this session (a copy of the kit's print.py, one text for all functions of the seat), with some contracts typed by hand among them: for each Go function a Lean function and a proof that the code comes to its answers. -/
namespace Go.Proofs.Ytmacdknicgfglaa.Impl
open Go.RowKit Go.Proofs.YtmacdknicgfglaaW.PrintWords Go.Proofs.YtmacdknicgfglaaW.PrintLast Go.Proofs.YtmacdknicgfglaaW.PrintMore
attribute [local go_sem] max2_int min2_int max_two min_two
set_option linter.unusedVariables false
set_option linter.unusedSimpArgs false

/-! ### busbarref12_Incoming: function 24 -/
def busbarref12_Incoming.l0 : Nat → ByteArray → List Int → Int → ByteArray → List (S41) → List (S101) → ByteArray → Option (List Int)
  | 0, _, _, _, _, _, _, _ => none
  | k + 1, x1, x5, x6, x148000, x148001, x148002, x148003 => if x6 < (x148001.length : Int) then (if 0 ≤ x6 then (if ((rd_T41 x148001 x6).f3).toList = x1.toList then (if x5.length < 17592186044416 then (busbarref12_Incoming.l0 k x1 (x5 ++ [x6]) (wrap64 (x6 + 1)) x148000 x148001 x148002 x148003) else (none)) else (busbarref12_Incoming.l0 k x1 x5 (wrap64 (x6 + 1)) x148000 x148001 x148002 x148003)) else (none)) else (some x5)
def busbarref12_Incoming.f (k : Nat) (a0_0 : ByteArray) (l0_1 : List (S41)) (l0_2 : List (S101)) (a0_3 : ByteArray) (a1 : ByteArray) : Option (List Int) := busbarref12_Incoming.l0 k a1 ([] : List Int) 0 a0_0 l0_1 l0_2 a0_3
theorem busbarref12_Incoming.mono_l : ∀ k, (∀ y0 y1 y2 y3 y4 y5 y6, LeO (busbarref12_Incoming.l0 k y0 y1 y2 y3 y4 y5 y6) (busbarref12_Incoming.l0 (k + 1) y0 y1 y2 y3 y4 y5 y6))
  | 0 => fun _ _ _ _ _ _ _ r h => by simp [busbarref12_Incoming.l0] at h
  | k + 1 => by
    have ih0 := busbarref12_Incoming.mono_l k
    · intro y0 y1 y2 y3 y4 y5 y6
      unfold busbarref12_Incoming.l0
      repeat' first
      | (with_reducible exact ih0 _ _ _ _ _ _ _)
      | (with_reducible exact LeO.refl _)
      | (with_reducible exact LeO.none _)
      | (with_reducible refine LeO.ite ?_ ?_)
      | (with_reducible refine LeO.bind ?_ (fun _ => ?_))
      | exact ih0 _ _ _ _ _ _ _
      | exact LeO.none _
      | refine LeO.ite ?_ ?_
      | refine LeO.bind ?_ (fun _ => ?_)
theorem busbarref12_Incoming.mono : ∀ a0 a1 a2 a3 a4 k, LeO (busbarref12_Incoming.f k a0 a1 a2 a3 a4) (busbarref12_Incoming.f (k + 1) a0 a1 a2 a3 a4) := by
  intro a0 a1 a2 a3 a4 k
  have ih0 := busbarref12_Incoming.mono_l k
  unfold busbarref12_Incoming.f
  repeat' first
      | (with_reducible exact ih0 _ _ _ _ _ _ _)
      | (with_reducible exact LeO.refl _)
      | (with_reducible exact LeO.none _)
      | (with_reducible refine LeO.ite ?_ ?_)
      | (with_reducible refine LeO.bind ?_ (fun _ => ?_))
      | exact ih0 _ _ _ _ _ _ _
      | exact LeO.none _
      | refine LeO.ite ?_ ?_
      | refine LeO.bind ?_ (fun _ => ?_)
set_option maxHeartbeats 8000000 in
set_option maxRecDepth 100000 in
theorem busbarref12_Incoming.calls (k : Nat) (a0_0 : ByteArray) (A0_1 : Option Addr) (c0_1 : Nat) (l0_1 : List (S41)) (A0_2 : Option Addr) (c0_2 : Nat) (l0_2 : List (S101)) (a0_3 : ByteArray) (a1 : ByteArray) (r : List Int) (w : World) (hr0_1 : Kd.C k41 w A0_1 l0_1.length l0_1) (hc0_1 : l0_1.length ≤ c0_1) (hr0_2 : Kd.C k101 w A0_2 l0_2.length l0_2) (hc0_2 : l0_2.length ≤ c0_2) (h : busbarref12_Incoming.f k a0_0 l0_1 l0_2 a0_3 a1 = some r) :
    Calls Try.prog 24 #[.agg #[.string a0_0, .slice A0_1 l0_1.length c0_1, .slice A0_2 l0_2.length c0_2, .string a0_3], .string a1] w fun e w' => ∃ v0_ : Value, e = .returned (v0_) ∧ Kd.R (Kd.int .i64) 3 w' w.heap.size (fun _ => True) v0_ r ∧ Below w.heap.size w w' := by
  have hu25 := Try.underlying25
  have HR0_1 := Aside0.mk hr0_1
  have HC0_1 := Aside0.mk hc0_1
  clear hr0_1 hc0_1
  have HR0_2 := Aside0.mk hr0_2
  have HC0_2 := Aside0.mk hc0_2
  clear hr0_2 hc0_2
  have HB := Aside0.mk (Below.refl w.heap.size w)
  have H : (busbarref12_Incoming.l0 k a1 ([] : List Int) 0 a0_0 l0_1 l0_2 a0_3) = some r := h
  clear h
  have H' := Aside0.mk H
  clear H
  go_enter Try.func24, Try.ntmps24
  go_wp2_with (first | ((with_reducible refine gate_dst (N := 2) rfl ?_); refine box_event ?hg (N := 2) ?hd (cs := #[.string a0_0, .slice A0_1 l0_1.length c0_1, .slice A0_2 l0_2.length c0_2, .string a0_3]) (t := 25) ?hr ?_; (case hd => rfl); (case hg => rfl); (case hr => first | (go_simp; done) | (go_simp; rfl)); intro gb147 hg w3 hbox hb; have n0_ := Aside0.mk (below_step (by repeat (first | (with_reducible first | exact HB.out | apply below_alloc | apply pw_below_drewN | apply below_drew1) | exact HB.out)) hb); have n1_ := Aside0.mk (hbox); have n2_ := Aside0.mk ((by rw [hg]; exact (below_size (by repeat (first | (with_reducible first | exact HB.out | apply below_alloc | apply pw_below_drewN | apply below_drew1) | exact HB.out))) : w.heap.size ≤ gb147)); have n3_ := Aside0.mk ((by rw [hg]; exact (below_size (by repeat (first | (with_reducible first | exact HB.out | apply below_alloc | apply pw_below_drewN | apply below_drew1) | exact HB.out))) : w.heap.size ≤ gb147)); clear HB; have HB := n0_; have BK147 := n1_; have GW147 := n2_; have GE147 := n3_; clear n0_ n1_ n2_ n3_; clear hb hbox hg))
  go_loopg [5, 6] k (fun kq v5 v6 w' => ∃ (x5_1 : List Int) (x6_1 : Int), v6 = .int .i64 x6_1 ∧ Aside0 (busbarref12_Incoming.l0 kq a1 x5_1 x6_1 a0_0 l0_1 l0_2 a0_3 = some r) ∧ Aside0 (kq ≤ k) ∧ Aside0 (Kd.R (Kd.int .i64) 3 w' w.heap.size (fun _ => True) v5 x5_1) ∧ Aside0 (w'.heap[gb147]? = some (.cells #[.string a0_0, (.slice A0_1 l0_1.length c0_1), (.slice A0_2 l0_2.length c0_2), .string a0_3] 25 (0, 0))) ∧ Aside0 (Below w.heap.size w w'))
  case atStart => exact ⟨(([] : List Int)), (0), (by first | rfl | (simp; done) | (simp [*]; done)), H', ⟨Nat.le_refl _⟩, ⟨by first | exact Kd.R_nil _ _ _ _ _ | exact Kd.N_nil _ _ _ _ _ | exact Kd.V_nil _ _ _ _ _ | exact Kd.Q_nil _ _ _ _ _ | exact Kd.S_nil _ _ _ _ _⟩, ⟨by (with_reducible repeat (first | refine blk_drewN ?_ _ | refine blk_drew ?_ | refine blk_alloc ?_ _)); exact BK147.out⟩, ⟨by repeat (first | (with_reducible first | exact HB.out | apply below_alloc | apply pw_below_drewN | apply below_drew1 | refine below_set ?_ GE147.out) | exact HB.out)⟩⟩
  case round =>
    clear H'
    try clear c2
    try clear p2
    obtain ⟨x5_1, x6_1, rfl, HA, HK1, HO_5, BK147, HB⟩ := hrel
    cases gk with
    | zero => exact absurd HA.out (by simp [busbarref12_Incoming.l0])
    | succ k1 =>
      have H := HA.out
      clear HA
      simp only [busbarref12_Incoming.l0] at H
      by_cases c4 : x6_1 < (l0_1.length : Int)
      · rw [if_pos c4] at H
        have c4b0 : decide (x6_1 < (l0_1.length : Int)) = true := decide_eq_true c4
        clear c4
        by_cases c5 : 0 ≤ x6_1
        · rw [if_pos c5] at H
          have c5b0 : decide (0 ≤ x6_1) = true := decide_eq_true c5
          clear c5
          by_cases c6 : ((rd_T41 l0_1 x6_1).f3).toList = a1.toList
          · rw [if_pos c6] at H
            have c6b0 : (((rd_T41 l0_1 x6_1).f3).toList == a1.toList) = true := beq_iff_eq.mpr c6
            have c6b1 : (((rd_T41 l0_1 x6_1).f3).toList != a1.toList) = false := bne_eq_false_iff_eq.mpr c6
            clear c6
            by_cases c7 : x5_1.length < 17592186044416
            · rw [if_pos c7] at H
              have LMc7 := Aside0.mk c7
              clear c7
              obtain ⟨y149, hy149⟩ : ∃ y_ : List Int, y_ = (x5_1 ++ [x6_1]) := ⟨_, rfl⟩
              replace H : (busbarref12_Incoming.l0 k1 a1 y149 (wrap64 (x6_1 + 1)) a0_0 l0_1 l0_2 a0_3) = some r := by first | (rw [hy149]; with_reducible exact H) | (have H2_ := (Option.bind_some _ _).symm.trans H; rw [hy149]; with_reducible exact H2_) | (have H2_ := (Option.bind_some _ _).symm.trans H; with_reducible exact H2_) | with_reducible exact H | (rw [hy149]; exact H) | exact H
              have Ny149 := Aside0.mk hy149
              clear hy149
              have H' := Aside0.mk H
              clear H
              have hcz8_0 : wr.cell? ⟨gb147, 0, none⟩ = some (.string a0_0) := (blk_cell BK147.out 0).trans rfl
              have hcz8_1 : wr.cell? ⟨gb147, 1, none⟩ = some (.slice A0_1 l0_1.length c0_1) := (blk_cell BK147.out 1).trans rfl
              have hcz8_2 : wr.cell? ⟨gb147, 2, none⟩ = some (.slice A0_2 l0_2.length c0_2) := (blk_cell BK147.out 2).trans rfl
              have hcz8_3 : wr.cell? ⟨gb147, 3, none⟩ = some (.string a0_3) := (blk_cell BK147.out 3).trans rfl
              have hfz8_0 := blk_frozen BK147.out 0
              have hfz8_1 := blk_frozen BK147.out 1
              have hfz8_2 := blk_frozen BK147.out 2
              have hfz8_3 := blk_frozen BK147.out 3
              have p148 : 0 ≤ (x6_1 : Int) := of_decide_eq_true (by first | (with_reducible assumption) | assumption)
              have q148 : x6_1 < (l0_1.length : Int) := of_decide_eq_true (by first | (with_reducible assumption) | assumption)
              obtain ⟨ad148, e148, hx148_0, hx148_1, hx148_2, hx148_3, hx148_4⟩ := at_T41 HR0_1.out x6_1 p148 q148
              cases e148
              replace hx148_0 := (HB.out.cell (World.block_lt_of_cell? w _ hx148_0)).trans hx148_0
              replace hx148_1 := (HB.out.cell (World.block_lt_of_cell? w _ hx148_1)).trans hx148_1
              replace hx148_2 := (HB.out.cell (World.block_lt_of_cell? w _ hx148_2)).trans hx148_2
              replace hx148_3 := (HB.out.cell (World.block_lt_of_cell? w _ hx148_3)).trans hx148_3
              replace hx148_4 := (HB.out.cell (World.block_lt_of_cell? w _ hx148_4)).trans hx148_4
              replace p148 := eq_true p148
              replace q148 := eq_true q148
              go_wp2_with (first | ((with_reducible refine gate_builtin (b := .append) (xs := #[.tmp 22, .tmp 24]) rfl ?_); at_builtin; refine Kd.R_append (Kd.int .i64) (w0 := w) w.heap.size rfl (.tmp 22) (.tmp 24) 32 3 (.int .i64 0) 8 rfl Try.underlying32 info3 rfl (by decide) (by omega) u5 x5_1 x6_1 [.int .i64 x6_1] (fun _ => True) (fun _ => False) rfl rfl ?aP (fun _ hk => hk.elim) ?aF ?aO ?aB ?aS ?aL ?_; (case aP => exact rfl); (case aB => exact (by repeat (first | (with_reducible first | exact HB.out | apply below_alloc | apply pw_below_drewN | apply below_drew1 | refine below_set ?_ GE147.out) | exact HB.out))); (case aF => exact (fun _ _ => trivial)); (case aO => exact (by (with_reducible repeat (first | apply Kd.R_alloc | apply Kd.R_drewN | apply Kd.R_drew)); exact HO_5.out)); (case aS => exact (below_size (by repeat (first | (with_reducible first | exact HB.out | apply below_alloc | apply pw_below_drewN | apply below_drew1 | refine below_set ?_ GE147.out) | exact HB.out)))); (case aL => have := LMc7.out; omega); intro v150 w9 ho hb hg hat; rw [← Ny149.out] at ho; have n0_ := Aside0.mk (blk_grown (g := gb147) (o := .cells #[.string a0_0, .slice (some ad148) l0_1.length c0_1, .slice A0_2 l0_2.length c0_2, .string a0_3] 25 (0, 0)) (by (with_reducible repeat (first | refine blk_drewN ?_ _ | refine blk_drew ?_ | refine blk_alloc ?_ _)); exact BK147.out) hg (Kd.R_ne HO_5.out BK147.out (by decide))); have n1_ := Aside0.mk (hb); have n2_ := Aside0.mk (ho); clear BK147; clear HB; clear HO_5; have BK147 := n0_; have HB := n1_; have HO151 := n2_; clear n0_ n1_ n2_; clear ho hb hg hat))
              go_roundg k1
              case measure => have := HK1.out; omega
              case rel => exact ⟨(y149), (wrap64 (x6_1 + 1)), (by first | rfl | (simp; done) | (simp [*]; done)), H', ⟨by have := HK1.out; omega⟩, ⟨by (with_reducible repeat (first | apply Kd.R_alloc | apply Kd.R_drewN | apply Kd.R_drew)); exact HO151.out⟩, ⟨by (with_reducible repeat (first | refine blk_drewN ?_ _ | refine blk_drew ?_ | refine blk_alloc ?_ _)); exact BK147.out⟩, ⟨by repeat (first | (with_reducible first | exact HB.out | apply below_alloc | apply pw_below_drewN | apply below_drew1 | refine below_set ?_ GE147.out) | exact HB.out)⟩⟩
            · rw [if_neg c7] at H
              exact absurd H (by simp)
          · rw [if_neg c6] at H
            have c6b0 : (((rd_T41 l0_1 x6_1).f3).toList == a1.toList) = false := beq_eq_false_iff_ne.mpr c6
            have c6b1 : (((rd_T41 l0_1 x6_1).f3).toList != a1.toList) = true := bne_iff_ne.mpr c6
            have H' := Aside0.mk H
            clear H
            have hcz10_0 : wr.cell? ⟨gb147, 0, none⟩ = some (.string a0_0) := (blk_cell BK147.out 0).trans rfl
            have hcz10_1 : wr.cell? ⟨gb147, 1, none⟩ = some (.slice A0_1 l0_1.length c0_1) := (blk_cell BK147.out 1).trans rfl
            have hcz10_2 : wr.cell? ⟨gb147, 2, none⟩ = some (.slice A0_2 l0_2.length c0_2) := (blk_cell BK147.out 2).trans rfl
            have hcz10_3 : wr.cell? ⟨gb147, 3, none⟩ = some (.string a0_3) := (blk_cell BK147.out 3).trans rfl
            have hfz10_0 := blk_frozen BK147.out 0
            have hfz10_1 := blk_frozen BK147.out 1
            have hfz10_2 := blk_frozen BK147.out 2
            have hfz10_3 := blk_frozen BK147.out 3
            have p148 : 0 ≤ (x6_1 : Int) := of_decide_eq_true (by first | (with_reducible assumption) | assumption)
            have q148 : x6_1 < (l0_1.length : Int) := of_decide_eq_true (by first | (with_reducible assumption) | assumption)
            obtain ⟨ad148, e148, hx148_0, hx148_1, hx148_2, hx148_3, hx148_4⟩ := at_T41 HR0_1.out x6_1 p148 q148
            cases e148
            replace hx148_0 := (HB.out.cell (World.block_lt_of_cell? w _ hx148_0)).trans hx148_0
            replace hx148_1 := (HB.out.cell (World.block_lt_of_cell? w _ hx148_1)).trans hx148_1
            replace hx148_2 := (HB.out.cell (World.block_lt_of_cell? w _ hx148_2)).trans hx148_2
            replace hx148_3 := (HB.out.cell (World.block_lt_of_cell? w _ hx148_3)).trans hx148_3
            replace hx148_4 := (HB.out.cell (World.block_lt_of_cell? w _ hx148_4)).trans hx148_4
            replace p148 := eq_true p148
            replace q148 := eq_true q148
            go_wp2
            go_roundg k1
            case measure => have := HK1.out; omega
            case rel => exact ⟨(x5_1), (wrap64 (x6_1 + 1)), (by first | rfl | (simp; done) | (simp [*]; done)), H', ⟨by have := HK1.out; omega⟩, ⟨by (with_reducible repeat (first | apply Kd.R_alloc | apply Kd.R_drewN | apply Kd.R_drew)); exact HO_5.out⟩, ⟨by (with_reducible repeat (first | refine blk_drewN ?_ _ | refine blk_drew ?_ | refine blk_alloc ?_ _)); exact BK147.out⟩, ⟨by repeat (first | (with_reducible first | exact HB.out | apply below_alloc | apply pw_below_drewN | apply below_drew1 | refine below_set ?_ GE147.out) | exact HB.out)⟩⟩
        · rw [if_neg c5] at H
          exact absurd H (by simp)
      · rw [if_neg c4] at H
        have c4b0 : decide (x6_1 < (l0_1.length : Int)) = false := decide_eq_false c4
        clear c4
        obtain rfl := Option.some.inj H
        have hcz11_0 : wr.cell? ⟨gb147, 0, none⟩ = some (.string a0_0) := (blk_cell BK147.out 0).trans rfl
        have hcz11_1 : wr.cell? ⟨gb147, 1, none⟩ = some (.slice A0_1 l0_1.length c0_1) := (blk_cell BK147.out 1).trans rfl
        have hcz11_2 : wr.cell? ⟨gb147, 2, none⟩ = some (.slice A0_2 l0_2.length c0_2) := (blk_cell BK147.out 2).trans rfl
        have hcz11_3 : wr.cell? ⟨gb147, 3, none⟩ = some (.string a0_3) := (blk_cell BK147.out 3).trans rfl
        have hfz11_0 := blk_frozen BK147.out 0
        have hfz11_1 := blk_frozen BK147.out 1
        have hfz11_2 := blk_frozen BK147.out 2
        have hfz11_3 := blk_frozen BK147.out 3
        go_wp2
        go_ret
        exact ⟨_, by first | rfl | (simp [errW_none, errW_some] <;> rfl) | (simp [*, errW_none, errW_some] <;> rfl), by (with_reducible repeat (first | apply Kd.R_alloc | apply Kd.R_drewN | apply Kd.R_drew)); exact HO_5.out, by repeat (first | (with_reducible first | exact HB.out | apply below_alloc | apply pw_below_drewN | apply below_drew1 | refine below_set ?_ GE147.out) | exact HB.out)⟩

-- NOT PRINTED: function 3 (busbarlaw12_GraphNodesMatchReference)

/-! ### slices_Index_string_string: function 51 -/
def slices_Index_string_string.l0 : Nat → List ByteArray → ByteArray → Int → Int → Option (Int)
  | 0, _, _, _, _ => none
  | k + 1, x0, x1, x7, x8 => if x8 < x7 then (if 0 ≤ x8 then (if x8 < (x0.length : Int) then (if x1.toList = (rdOf ByteArray.empty x0 x8).toList then (some x8) else (slices_Index_string_string.l0 k x0 x1 x7 (wrap64 (x8 + 1)))) else (none)) else (none)) else (some (-1))
def slices_Index_string_string.f (k : Nat) (l0 : List ByteArray) (a1 : ByteArray) : Option (Int) := slices_Index_string_string.l0 k l0 a1 (l0.length : Int) 0
theorem slices_Index_string_string.mono_l : ∀ k, (∀ y0 y1 y2 y3, LeO (slices_Index_string_string.l0 k y0 y1 y2 y3) (slices_Index_string_string.l0 (k + 1) y0 y1 y2 y3))
  | 0 => fun _ _ _ _ r h => by simp [slices_Index_string_string.l0] at h
  | k + 1 => by
    have ih0 := slices_Index_string_string.mono_l k
    · intro y0 y1 y2 y3
      unfold slices_Index_string_string.l0
      repeat' first
      | (with_reducible exact ih0 _ _ _ _)
      | (with_reducible exact LeO.refl _)
      | (with_reducible exact LeO.none _)
      | (with_reducible refine LeO.ite ?_ ?_)
      | (with_reducible refine LeO.bind ?_ (fun _ => ?_))
      | exact ih0 _ _ _ _
      | exact LeO.none _
      | refine LeO.ite ?_ ?_
      | refine LeO.bind ?_ (fun _ => ?_)
theorem slices_Index_string_string.mono : ∀ a0 a1 k, LeO (slices_Index_string_string.f k a0 a1) (slices_Index_string_string.f (k + 1) a0 a1) := by
  intro a0 a1 k
  have ih0 := slices_Index_string_string.mono_l k
  unfold slices_Index_string_string.f
  repeat' first
      | (with_reducible exact ih0 _ _ _ _)
      | (with_reducible exact LeO.refl _)
      | (with_reducible exact LeO.none _)
      | (with_reducible refine LeO.ite ?_ ?_)
      | (with_reducible refine LeO.bind ?_ (fun _ => ?_))
      | exact ih0 _ _ _ _
      | exact LeO.none _
      | refine LeO.ite ?_ ?_
      | refine LeO.bind ?_ (fun _ => ?_)
set_option maxHeartbeats 8000000 in
set_option maxRecDepth 100000 in
theorem slices_Index_string_string.calls (k : Nat) (A0 : Option Addr) (c0 : Nat) (l0 : List ByteArray) (a1 : ByteArray) (r : Int) (w : World) (hr0 : Kd.C Kd.string w A0 l0.length l0) (hc0 : l0.length ≤ c0) (h : slices_Index_string_string.f k l0 a1 = some r) :
    Calls Try.prog 51 #[.slice A0 l0.length c0, .string a1] w fun e w' => e = .returned (.int .i64 r) ∧ Drawn0 w w' := by
  have HR0 := Aside0.mk hr0
  have HC0 := Aside0.mk hc0
  clear hr0 hc0
  have H : (slices_Index_string_string.l0 k l0 a1 (l0.length : Int) 0) = some r := h
  clear h
  have H' := Aside0.mk H
  clear H
  go_enter Try.func51, Try.ntmps51
  go_wp2
  go_loopg [8] k (fun kq v8 w' => ∃ (x8_1 : Int), v8 = .int .i64 x8_1 ∧ Aside0 (slices_Index_string_string.l0 kq l0 a1 (l0.length : Int) x8_1 = some r) ∧ Aside0 (kq ≤ k) ∧ Drawn0 w w')
  case atStart => exact ⟨(0), (by first | rfl | (simp; done) | (simp [*]; done)), H', ⟨Nat.le_refl _⟩, by repeat (first | exact Drawn0.refl _ | apply Drawn0.step)⟩
  case round =>
    clear H'
    try clear p2
    obtain ⟨x8_1, rfl, HA, HK1, ⟨m1, rfl⟩⟩ := hrel
    cases gk with
    | zero => exact absurd HA.out (by simp [slices_Index_string_string.l0])
    | succ k1 =>
      have H := HA.out
      clear HA
      simp only [slices_Index_string_string.l0] at H
      by_cases c3 : x8_1 < (l0.length : Int)
      · rw [if_pos c3] at H
        have c3b0 : decide (x8_1 < (l0.length : Int)) = true := decide_eq_true c3
        clear c3
        by_cases c4 : 0 ≤ x8_1
        · rw [if_pos c4] at H
          have c4b0 : decide (0 ≤ x8_1) = true := decide_eq_true c4
          clear c4
          by_cases c5 : x8_1 < (l0.length : Int)
          · rw [if_pos c5] at H
            have c5b0 : decide (x8_1 < (l0.length : Int)) = true := decide_eq_true c5
            clear c5
            by_cases c6 : a1.toList = (rdOf ByteArray.empty l0 x8_1).toList
            · rw [if_pos c6] at H
              have c6b0 : (a1.toList == (rdOf ByteArray.empty l0 x8_1).toList) = true := beq_iff_eq.mpr c6
              have c6b1 : (a1.toList != (rdOf ByteArray.empty l0 x8_1).toList) = false := bne_eq_false_iff_eq.mpr c6
              clear c6
              obtain rfl := Option.some.inj H
              have p154 : 0 ≤ (x8_1 : Int) := of_decide_eq_true (by first | (with_reducible assumption) | assumption)
              have q154 : x8_1 < (l0.length : Int) := of_decide_eq_true (by first | (with_reducible assumption) | assumption)
              obtain ⟨ad154, e154, hx154_0⟩ := Kd.at_string HR0.out x8_1 p154 q154
              cases e154
              replace p154 := eq_true p154
              replace q154 := eq_true q154
              go_wp2
              go_ret
              exact ⟨by first | rfl | (simp; done) | (simp [*]; done), by repeat (first | exact Drawn0.refl _ | apply Drawn0.step)⟩
            · rw [if_neg c6] at H
              have c6b0 : (a1.toList == (rdOf ByteArray.empty l0 x8_1).toList) = false := beq_eq_false_iff_ne.mpr c6
              have c6b1 : (a1.toList != (rdOf ByteArray.empty l0 x8_1).toList) = true := bne_iff_ne.mpr c6
              have H' := Aside0.mk H
              clear H
              have p154 : 0 ≤ (x8_1 : Int) := of_decide_eq_true (by first | (with_reducible assumption) | assumption)
              have q154 : x8_1 < (l0.length : Int) := of_decide_eq_true (by first | (with_reducible assumption) | assumption)
              obtain ⟨ad154, e154, hx154_0⟩ := Kd.at_string HR0.out x8_1 p154 q154
              cases e154
              replace p154 := eq_true p154
              replace q154 := eq_true q154
              go_wp2
              go_roundg k1
              case measure => have := HK1.out; omega
              case rel => exact ⟨(wrap64 (x8_1 + 1)), (by first | rfl | (simp; done) | (simp [*]; done)), H', ⟨by have := HK1.out; omega⟩, by repeat (first | exact Drawn0.refl _ | apply Drawn0.step)⟩
          · rw [if_neg c5] at H
            exact absurd H (by simp)
        · rw [if_neg c4] at H
          exact absurd H (by simp)
      · rw [if_neg c3] at H
        have c3b0 : decide (x8_1 < (l0.length : Int)) = false := decide_eq_false c3
        clear c3
        obtain rfl := Option.some.inj H
        go_wp2
        go_ret
        exact ⟨by first | rfl | (simp; done) | (simp [*]; done), by repeat (first | exact Drawn0.refl _ | apply Drawn0.step)⟩

/-! ### slices_Contains_string_string: function 26 -/
def slices_Contains_string_string.f (k : Nat) (l0 : List ByteArray) (a1 : ByteArray) : Option (Bool) := (slices_Index_string_string.f k l0 a1).bind fun t155 => (some (decide (t155 ≥ 0)))
theorem slices_Contains_string_string.mono : ∀ a0 a1 k, LeO (slices_Contains_string_string.f k a0 a1) (slices_Contains_string_string.f (k + 1) a0 a1) := by
  intro a0 a1 k
  unfold slices_Contains_string_string.f
  repeat' first
      | (with_reducible exact slices_Index_string_string.mono _ _ _)
      | (with_reducible exact LeO.refl _)
      | (with_reducible exact LeO.none _)
      | (with_reducible refine LeO.ite ?_ ?_)
      | (with_reducible refine LeO.bind ?_ (fun _ => ?_))
      | exact slices_Index_string_string.mono _ _ _
      | exact LeO.none _
      | refine LeO.ite ?_ ?_
      | refine LeO.bind ?_ (fun _ => ?_)
set_option maxHeartbeats 8000000 in
set_option maxRecDepth 100000 in
theorem slices_Contains_string_string.calls (k : Nat) (A0 : Option Addr) (c0 : Nat) (l0 : List ByteArray) (a1 : ByteArray) (r : Bool) (w : World) (hr0 : Kd.C Kd.string w A0 l0.length l0) (hc0 : l0.length ≤ c0) (h : slices_Contains_string_string.f k l0 a1 = some r) :
    Calls Try.prog 26 #[.slice A0 l0.length c0, .string a1] w fun e w' => e = .returned (.bool r) ∧ Drawn0 w w' := by
  have HR0 := Aside0.mk hr0
  have HC0 := Aside0.mk hc0
  clear hr0 hc0
  have H : ((slices_Index_string_string.f k l0 a1).bind fun t155 => (some (decide (t155 ≥ 0)))) = some r := h
  clear h
  replace H := Option.bind_eq_some_iff.mp H
  obtain ⟨t155, A30, H⟩ := H
  replace H : (some (decide (t155 ≥ 0))) = some r := H
  have A3 := Aside0.mk A30
  clear A30
  obtain rfl := Option.some.inj H
  go_enter Try.func26, Try.ntmps26
  go_wp2_with (first | ((with_reducible refine gate_callee (f := 51) rfl ?_); refine goesL_ (some 7) rfl rfl Try.func51 (by kernel_rfl) rfl #[.slice A0 l0.length c0, .string a1] rfl (by (try simp only [List.map_toArray, List.map_cons, List.map_nil]); first | done | rfl | (simp only [List.length_drop, List.length_take]; rfl)) ?_; (with_reducible refine (slices_Index_string_string.calls k _ _ l0 a1 t155 _ ?side1 ?side2 A3.out).mono ?_); (case side1 => repeat (first | exact HR0.out | (with_reducible refine Kd.C_alloc ?_ _) | (with_reducible refine Kd.C_drewN ?_ _) | (with_reducible refine Kd.C_drew ?_))); (case side2 => exact HC0.out); rintro e w' ⟨rfl, ⟨nd, rfl⟩⟩; refine ⟨_, rfl, ?_⟩))
  go_ret
  exact ⟨by first | rfl | (simp; done) | (simp [*]; done), by repeat (first | exact Drawn0.refl _ | apply Drawn0.step)⟩

-- NOT PRINTED: function 56 (slices_DeleteFunc_string_string)

-- NOT PRINTED: function 52 (graph_gather)

-- NOT PRINTED: function 27 (graph_Reachable)

-- NOT PRINTED: function 4 (busbarlaw12_GraphTopoSort)

-- NOT PRINTED: function 5 (busbarlaw12_GraphAddContact)

end Go.Proofs.Ytmacdknicgfglaa.Impl
end
section
/- Plain laws: what the printed functions of the reference of chapter 12 compute. No program in sight. -/
namespace Go.Proofs.Ytmacdknicgfglaa.Pe
open Go.RowKit Go.Proofs.YtmacdknicgfglaaW.PrintWords Go.Proofs.YtmacdknicgfglaaW.PrintMore Go.Proofs.Ytmacdknicgfglaa.Impl Go.Proofs.Ytmacdknicgfglaa.Gp Go.Proofs.Ytmacdknicgfglaa.Gw
set_option linter.unusedVariables false
set_option linter.unusedSimpArgs false
theorem w64 {j n : Nat} (h : j < n) (hn : n ≤ 9223372036854775807) : wrap64 ((j : Int) + 1) = ((j + 1 : Nat) : Int) := by
  unfold wrap64; omega
theorem rdOf_lt {α : Type} (d : α) (l : List α) (j : Nat) (h : j < l.length) : rdOf d l (j : Int) = l[j] := by
  simp [rdOf, List.getD_eq_getElem?_getD, List.getElem?_eq_getElem h]
theorem rd_lt (l : List Int) (j : Nat) (h : j < l.length) : rd l (j : Int) = l[j] := by
  simp [rd, List.getD_eq_getElem?_getD, List.getElem?_eq_getElem h]
theorem rd41_lt (l : List S41) (j : Nat) (h : j < l.length) : rd_T41 l (j : Int) = l[j] := by
  simp [rd_T41, List.getD_eq_getElem?_getD, List.getElem?_eq_getElem h]
theorem drop_cons {α : Type} (l : List α) (j : Nat) (h : j < l.length) : l.drop j = l[j] :: l.drop (j + 1) := List.drop_eq_getElem_cons h
theorem toList_inj {a b : ByteArray} : a.toList = b.toList ↔ a = b := str_eq
theorem eq_drop {α : Type} {l m : List α} {j : Nat} (h1 : j < l.length) (h2 : j < m.length) : (l.drop j = m.drop j) ↔ (l[j] = m[j] ∧ l.drop (j + 1) = m.drop (j + 1)) := by
  rw [drop_cons l j h1, drop_cons m j h2, List.cons.injEq]
theorem eqS_l0 (l m : List ByteArray) (he : l.length = m.length) (hn : l.length ≤ 9223372036854775807) : ∀ (d j : Nat), l.length = j + d →
    Ev (fun k => slices_Equal_string_string.l0 k l m (l.length : Int) (j : Int)) (decide (l.drop j = m.drop j))
  | 0, j, h => by
    refine Ev.step (f := fun _ => some true) (fun k => ?_) ?_
    · simp only [slices_Equal_string_string.l0]; rw [if_neg (by omega)]
    · rw [List.drop_of_length_le (by omega), List.drop_of_length_le (by omega), decide_eq_true rfl]; exact Ev.now _
  | d + 1, j, h => by
    have hj : j < l.length := by omega
    have hm : j < m.length := by omega
    have ih := eqS_l0 l m he hn d (j + 1) (by omega)
    by_cases hb : l[j] = m[j]
    · refine Ev.step (fun k => ?_) (f := fun k => slices_Equal_string_string.l0 k l m (l.length : Int) ((j + 1 : Nat) : Int)) ?_
      · simp only [slices_Equal_string_string.l0]
        rw [if_pos (by omega), if_pos (by omega), if_pos (by omega), if_pos (by omega), rdOf_lt _ _ _ hj, rdOf_lt _ _ _ hm, if_pos (by rw [hb]), w64 hj hn]
      · have : decide (l.drop j = m.drop j) = decide (l.drop (j + 1) = m.drop (j + 1)) := by
          apply decide_eq_decide.2; rw [eq_drop hj hm]; simp [hb]
        rw [this]; exact ih
    · refine Ev.step (fun k => ?_) (f := fun k => some false) ?_
      · simp only [slices_Equal_string_string.l0]
        rw [if_pos (by omega), if_pos (by omega), if_pos (by omega), if_pos (by omega), rdOf_lt _ _ _ hj, rdOf_lt _ _ _ hm, if_neg (fun e => hb (toList_inj.1 e))]
      · have : decide (l.drop j = m.drop j) = false := by apply decide_eq_false; rw [eq_drop hj hm]; exact fun h => hb h.1
        rw [this]; exact Ev.now _
theorem eqS_ev (l m : List ByteArray) (hn : l.length ≤ 9223372036854775807) : Ev (fun k => slices_Equal_string_string.f k l m) (decide (l = m)) := by
  by_cases he : l.length = m.length
  · refine Ev.congr (f := fun k => slices_Equal_string_string.l0 k l m (l.length : Int) ((0 : Nat) : Int)) (fun k => ?_) ?_
    · simp only [slices_Equal_string_string.f]; rw [if_pos (by omega)]; rfl
    · exact eqS_l0 l m he hn l.length 0 (by omega)
  · refine Ev.congr (f := fun _ => some false) (fun k => ?_) ?_
    · simp only [slices_Equal_string_string.f]; rw [if_neg (by omega)]
    · rw [decide_eq_false (fun e => he (by rw [e]))]; exact Ev.now _
theorem eqI_l0 (l m : List Int) (he : l.length = m.length) (hn : l.length ≤ 9223372036854775807) : ∀ (d j : Nat), l.length = j + d →
    Ev (fun k => slices_Equal_int_int.l0 k l m (l.length : Int) (j : Int)) (decide (l.drop j = m.drop j))
  | 0, j, h => by
    refine Ev.step (f := fun _ => some true) (fun k => ?_) ?_
    · simp only [slices_Equal_int_int.l0]; rw [if_neg (by omega)]
    · rw [List.drop_of_length_le (by omega), List.drop_of_length_le (by omega), decide_eq_true rfl]; exact Ev.now _
  | d + 1, j, h => by
    have hj : j < l.length := by omega
    have hm : j < m.length := by omega
    have ih := eqI_l0 l m he hn d (j + 1) (by omega)
    by_cases hb : l[j] = m[j]
    · refine Ev.step (fun k => ?_) (f := fun k => slices_Equal_int_int.l0 k l m (l.length : Int) ((j + 1 : Nat) : Int)) ?_
      · simp only [slices_Equal_int_int.l0]
        rw [if_pos (by omega), if_pos (by omega), if_pos (by omega), if_pos (by omega), rd_lt _ _ hj, rd_lt _ _ hm, if_pos hb, w64 hj hn]
      · have : decide (l.drop j = m.drop j) = decide (l.drop (j + 1) = m.drop (j + 1)) := by
          apply decide_eq_decide.2; rw [eq_drop hj hm]; simp [hb]
        rw [this]; exact ih
    · refine Ev.step (fun k => ?_) (f := fun k => some false) ?_
      · simp only [slices_Equal_int_int.l0]
        rw [if_pos (by omega), if_pos (by omega), if_pos (by omega), if_pos (by omega), rd_lt _ _ hj, rd_lt _ _ hm, if_neg hb]
      · have : decide (l.drop j = m.drop j) = false := by apply decide_eq_false; rw [eq_drop hj hm]; exact fun h => hb h.1
        rw [this]; exact Ev.now _
theorem eqI_ev (l m : List Int) (hn : l.length ≤ 9223372036854775807) : Ev (fun k => slices_Equal_int_int.f k l m) (decide (l = m)) := by
  by_cases he : l.length = m.length
  · refine Ev.congr (f := fun k => slices_Equal_int_int.l0 k l m (l.length : Int) ((0 : Nat) : Int)) (fun k => ?_) ?_
    · simp only [slices_Equal_int_int.f]; rw [if_pos (by omega)]; rfl
    · exact eqI_l0 l m he hn l.length 0 (by omega)
  · refine Ev.congr (f := fun _ => some false) (fun k => ?_) ?_
    · simp only [slices_Equal_int_int.f]; rw [if_neg (by omega)]
    · rw [decide_eq_false (fun e => he (by rw [e]))]; exact Ev.now _
/-! ### has -/
theorem has_l0 (l : List ByteArray) (s : ByteArray) (hn : l.length ≤ 9223372036854775807) : ∀ (d j : Nat), l.length = j + d →
    Ev (fun k => busbarref12_has.l0 k l s (j : Int)) (decide (s ∈ l.drop j))
  | 0, j, h => by
    refine Ev.step (f := fun _ => some false) (fun k => ?_) ?_
    · simp only [busbarref12_has.l0]; rw [if_neg (by omega)]
    · rw [List.drop_of_length_le (by omega)]; exact Ev.now _
  | d + 1, j, h => by
    have hj : j < l.length := by omega
    have ih := has_l0 l s hn d (j + 1) (by omega)
    rw [drop_cons l j hj]
    by_cases hb : l[j] = s
    · refine Ev.step (fun k => ?_) (f := fun k => some true) ?_
      · simp only [busbarref12_has.l0]
        rw [if_pos (by omega), if_pos (by omega), rdOf_lt _ _ _ hj, if_pos (by rw [hb])]
      · rw [decide_eq_true (by rw [hb]; exact List.mem_cons_self)]; exact Ev.now _
    · refine Ev.step (fun k => ?_) (f := fun k => busbarref12_has.l0 k l s ((j + 1 : Nat) : Int)) ?_
      · simp only [busbarref12_has.l0]
        rw [if_pos (by omega), if_pos (by omega), rdOf_lt _ _ _ hj, if_neg (fun e => hb (toList_inj.1 e)), w64 hj hn]
      · have : decide (s ∈ l[j] :: l.drop (j + 1)) = decide (s ∈ l.drop (j + 1)) := by
          exact decide_eq_decide.2 ⟨fun h => (List.mem_cons.1 h).resolve_left (fun e => hb e.symm), List.mem_cons_of_mem _⟩
        rw [this]; exact ih
theorem has_ev (l : List ByteArray) (s : ByteArray) (hn : l.length ≤ 9223372036854775807) : Ev (fun k => busbarref12_has.f k l s) (decide (s ∈ l)) := has_l0 l s hn l.length 0 (by omega)
/-! ### Nodes -/
theorem nodesL_take_len {l : List Ed} (hn : l.length ≤ 1000) (j : Nat) : (nodesL (l.take j)).length ≤ 2002 := by
  have := nodesL_len (l.take j); rw [List.length_take] at this; omega
theorem nodes_l0 (a0 a3 : ByteArray) (l1 : List S41) (l2 : List S101) (hn : l1.length ≤ 1000) : ∀ (d j : Nat), l1.length = j + d →
    Ev (fun k => busbarref12_Nodes.l0 k (nodesL ((es l1).take j)) (j : Int) a0 l1 l2 a3) (nodesL (es l1))
  | 0, j, h => by
    refine Ev.step (f := fun _ => some (nodesL (es l1))) (fun k => ?_) (Ev.now _)
    simp only [busbarref12_Nodes.l0]; rw [if_neg (by omega), List.take_of_length_le (by rw [es_len]; omega)]
  | d + 1, j, h => by
    have hj : j < l1.length := by omega
    have ih := nodes_l0 a0 a3 l1 l2 hn d (j + 1) (by omega)
    have hl := nodesL_take_len (l := es l1) (by rw [es_len]; exact hn) j
    rw [nodesL_take (l := es l1) (by rw [es_len]; exact hj), es_get hj] at ih
    unfold addC at ih
    have h1 := has_ev (nodesL ((es l1).take j)) l1[j].f2 (by omega)
    have hl2 := addN_len (nodesL ((es l1).take j)) l1[j].f2
    have h2 := has_ev (addN (nodesL ((es l1).take j)) l1[j].f2) l1[j].f3 (by omega)
    generalize hacc : nodesL ((es l1).take j) = acc at *
    have step : ∀ k, busbarref12_Nodes.l0 (k + 1) acc (j : Int) a0 l1 l2 a3 = (busbarref12_has.f k acc l1[j].f2).bind fun t => (busbarref12_has.f k (if t = true then acc else acc ++ [l1[j].f2]) l1[j].f3).bind fun u => busbarref12_Nodes.l0 k (if u = true then (if t = true then acc else acc ++ [l1[j].f2]) else (if t = true then acc else acc ++ [l1[j].f2]) ++ [l1[j].f3]) ((j + 1 : Nat) : Int) a0 l1 l2 a3 := by
      intro k
      simp only [busbarref12_Nodes.l0]
      rw [if_pos (by omega), if_pos (by omega), rd41_lt _ _ hj, w64 hj (by omega)]
      congr 1
      funext t
      cases t with
      | true =>
        simp only [if_true]
        congr 1
        funext u
        cases u with
        | true => rfl
        | false => simp only [Bool.false_eq_true, if_false]; rw [if_pos (by omega)]
      | false =>
        simp only [Bool.false_eq_true, if_false]
        rw [if_pos (by omega), Option.bind_some]
        congr 1
        funext u
        cases u with
        | true => rfl
        | false => simp only [Bool.false_eq_true, if_false]; rw [if_pos (by simp; omega)]
    refine Ev.step step ?_
    refine Ev.bind h1 ?_
    have e1 : (if decide (l1[j].f2 ∈ acc) = true then acc else acc ++ [l1[j].f2]) = addN acc l1[j].f2 := by unfold addN; simp
    rw [e1]
    refine Ev.bind h2 ?_
    have e2 : (if decide (l1[j].f3 ∈ addN acc l1[j].f2) = true then addN acc l1[j].f2 else addN acc l1[j].f2 ++ [l1[j].f3]) = addN (addN acc l1[j].f2) l1[j].f3 := by rw [show addN (addN acc l1[j].f2) l1[j].f3 = if l1[j].f3 ∈ addN acc l1[j].f2 then _ else _ from rfl]; simp
    rw [e2]
    exact ih
theorem nodes_ev (a0 a3 : ByteArray) (l1 : List S41) (l2 : List S101) (hn : l1.length ≤ 1000) : Ev (fun k => busbarref12_Nodes.f k a0 l1 l2 a3) (nodesL (es l1)) := nodes_l0 a0 a3 l1 l2 hn l1.length 0 (by omega)
/-! ### Outgoing, Incoming -/
theorem out_l0 (a0 a3 s : ByteArray) (l1 : List S41) (l2 : List S101) (hn : l1.length ≤ 1000) : ∀ (d j : Nat), l1.length = j + d →
    Ev (fun k => busbarref12_Outgoing.l0 k s (outL ((es l1).take j) s) (j : Int) a0 l1 l2 a3) (outL (es l1) s)
  | 0, j, h => by
    refine Ev.step (f := fun _ => some (outL (es l1) s)) (fun k => ?_) (Ev.now _)
    simp only [busbarref12_Outgoing.l0]; rw [if_neg (by omega), List.take_of_length_le (by rw [es_len]; omega)]
  | d + 1, j, h => by
    have hj : j < l1.length := by omega
    have ih := out_l0 a0 a3 s l1 l2 hn d (j + 1) (by omega)
    have hl := idxs_len (fun c => decide (c.1 = s)) ((es l1).take j)
    rw [List.length_take, es_len] at hl
    unfold outL at ih ⊢
    rw [idxs_take _ (by rw [es_len]; exact hj), es_get hj] at ih
    by_cases hb : l1[j].f2 = s
    · rw [if_pos (decide_eq_true hb)] at ih
      refine Ev.step (fun k => ?_) ih
      simp only [busbarref12_Outgoing.l0]
      rw [if_pos (by omega), if_pos (by omega), rd41_lt _ _ hj, if_pos (by rw [hb]), if_pos (by omega), w64 hj (by omega)]
    · rw [if_neg (by simpa using hb)] at ih
      refine Ev.step (fun k => ?_) ih
      simp only [busbarref12_Outgoing.l0]
      rw [if_pos (by omega), if_pos (by omega), rd41_lt _ _ hj, if_neg (fun e => hb (toList_inj.1 e)), w64 hj (by omega)]
theorem out_ev (a0 a3 s : ByteArray) (l1 : List S41) (l2 : List S101) (hn : l1.length ≤ 1000) : Ev (fun k => busbarref12_Outgoing.f k a0 l1 l2 a3 s) (outL (es l1) s) := out_l0 a0 a3 s l1 l2 hn l1.length 0 (by omega)
theorem in_l0 (a0 a3 s : ByteArray) (l1 : List S41) (l2 : List S101) (hn : l1.length ≤ 1000) : ∀ (d j : Nat), l1.length = j + d →
    Ev (fun k => busbarref12_Incoming.l0 k s (inL ((es l1).take j) s) (j : Int) a0 l1 l2 a3) (inL (es l1) s)
  | 0, j, h => by
    refine Ev.step (f := fun _ => some (inL (es l1) s)) (fun k => ?_) (Ev.now _)
    simp only [busbarref12_Incoming.l0]; rw [if_neg (by omega), List.take_of_length_le (by rw [es_len]; omega)]
  | d + 1, j, h => by
    have hj : j < l1.length := by omega
    have ih := in_l0 a0 a3 s l1 l2 hn d (j + 1) (by omega)
    have hl := idxs_len (fun c => decide (c.2 = s)) ((es l1).take j)
    rw [List.length_take, es_len] at hl
    unfold inL at ih ⊢
    rw [idxs_take _ (by rw [es_len]; exact hj), es_get hj] at ih
    by_cases hb : l1[j].f3 = s
    · rw [if_pos (decide_eq_true hb)] at ih
      refine Ev.step (fun k => ?_) ih
      simp only [busbarref12_Incoming.l0]
      rw [if_pos (by omega), if_pos (by omega), rd41_lt _ _ hj, if_pos (by rw [hb]), if_pos (by omega), w64 hj (by omega)]
    · rw [if_neg (by simpa using hb)] at ih
      refine Ev.step (fun k => ?_) ih
      simp only [busbarref12_Incoming.l0]
      rw [if_pos (by omega), if_pos (by omega), rd41_lt _ _ hj, if_neg (fun e => hb (toList_inj.1 e)), w64 hj (by omega)]
theorem in_ev (a0 a3 s : ByteArray) (l1 : List S41) (l2 : List S101) (hn : l1.length ≤ 1000) : Ev (fun k => busbarref12_Incoming.f k a0 l1 l2 a3 s) (inL (es l1) s) := in_l0 a0 a3 s l1 l2 hn l1.length 0 (by omega)
end Go.Proofs.Ytmacdknicgfglaa.Pe
end
section
/- Reachability, plainly: the visit and the reference's rounds both come to the closure. -/
namespace Go.Proofs.Ytmacdknicgfglaa.Gp
set_option linter.unusedVariables false
set_option linter.unusedSimpArgs false
/-- x is reachable from n by the steps q. -/
inductive Rch (q : ByteArray → List ByteArray) (n : ByteArray) : ByteArray → Prop
  | refl : Rch q n n
  | step {m x : ByteArray} : Rch q n m → x ∈ q m → Rch q n x
theorem Rch.trans {q : ByteArray → List ByteArray} {a b c : ByteArray} (h : Rch q a b) (k : Rch q b c) : Rch q a c := by
  induction k with
  | refl => exact h
  | step _ hx ih => exact ih.step hx
theorem Rch.head {q : ByteArray → List ByteArray} {a b c : ByteArray} (h : b ∈ q a) (k : Rch q b c) : Rch q a c := (Rch.refl.step h).trans k
theorem Rch.imp {q q' : ByteArray → List ByteArray} (hq : ∀ m, ∀ x ∈ q m, x ∈ q' m) {a b : ByteArray} (h : Rch q a b) : Rch q' a b := by
  induction h with
  | refl => exact .refl
  | step _ hx ih => exact ih.step (hq _ _ hx)
theorem Rch.mem {q : ByteArray → List ByteArray} {all : List ByteArray} (hq : ∀ n ∈ all, ∀ m ∈ q n, m ∈ all) {a b : ByteArray} (ha : a ∈ all) (h : Rch q a b) : b ∈ all := by
  induction h with
  | refl => exact ha
  | step _ hx ih => exact hq _ ih _ hx
theorem Rch.closed {q : ByteArray → List ByteArray} {S : List ByteArray} (hS : ∀ x ∈ S, ∀ y ∈ q x, y ∈ S) {a b : ByteArray} (ha : a ∈ S) (h : Rch q a b) : b ∈ S := by
  induction h with
  | refl => exact ha
  | step _ hx ih => exact hS _ ih _ hx
/-- What a visit of all ms has brought to S. -/
structure GoodV (q : ByteArray → List ByteArray) (S ms S' : List ByteArray) : Prop where
  ge : ∀ x ∈ S, x ∈ S'
  mm : ∀ m ∈ ms, m ∈ S'
  so : ∀ x ∈ S', x ∈ S ∨ ∃ m ∈ ms, Rch q m x
  cl : ∀ x ∈ S', x ∉ S → ∀ y ∈ q x, y ∈ S'
theorem GoodV.nil (q : ByteArray → List ByteArray) (S : List ByteArray) : GoodV q S [] S := ⟨fun _ h => h, fun _ h => (by cases h), fun _ h => .inl h, fun _ h hn => absurd h hn⟩
theorem GoodV.cons {q : ByteArray → List ByteArray} {S S1 S2 : List ByteArray} {m : ByteArray} {ms : List ByteArray} (h : GoodV q S [m] S1) (k : GoodV q S1 ms S2) : GoodV q S (m :: ms) S2 := by
  refine ⟨fun x hx => k.ge x (h.ge x hx), fun x hx => ?_, fun x hx => ?_, fun x hx hn y hy => ?_⟩
  · rcases List.mem_cons.1 hx with rfl | hx
    · exact k.ge _ (h.mm _ List.mem_cons_self)
    · exact k.mm x hx
  · rcases k.so x hx with h1 | ⟨m', hm', hr⟩
    · rcases h.so x h1 with h2 | ⟨m', hm', hr⟩
      · exact .inl h2
      · obtain rfl := List.mem_singleton.1 hm'
        exact .inr ⟨m', List.mem_cons_self, hr⟩
    · exact .inr ⟨m', List.mem_cons_of_mem _ hm', hr⟩
  · by_cases h1 : x ∈ S1
    · exact k.ge y (h.cl x h1 hn y hy)
    · exact k.cl x hx h1 y hy
theorem fold_good {q : ByteArray → List ByteArray} {all : List ByteArray} {k : Nat} (ih : ∀ S m, m ∈ all → unseen all S ≤ k → GoodV q S [m] (visitG q k S m)) :
    ∀ (ms S : List ByteArray), (∀ m ∈ ms, m ∈ all) → unseen all S ≤ k → GoodV q S ms (ms.foldl (visitG q k) S)
  | [], S, _, _ => GoodV.nil q S
  | m :: ms, S, hm, hu => (ih S m (hm m List.mem_cons_self) hu).cons (fold_good ih ms _ (fun x hx => hm x (List.mem_cons_of_mem _ hx)) (Nat.le_trans (unseen_le (fun x hx => visitG_ge q k S m x hx)) hu))
theorem visit_good {q : ByteArray → List ByteArray} {all : List ByteArray} (hq : ∀ n ∈ all, ∀ m ∈ q n, m ∈ all) : ∀ (k : Nat) (S : List ByteArray) (n : ByteArray), n ∈ all → unseen all S ≤ k → GoodV q S [n] (visitG q k S n)
  | 0, S, n, hn, hu => by
    have hs : n ∈ S := Decidable.byContradiction fun hs => by have := unseen_lt hn hs; omega
    exact ⟨fun _ h => h, fun m hm => by rw [List.mem_singleton.1 hm]; exact hs, fun _ h => .inl h, fun _ h hn => absurd h hn⟩
  | k + 1, S, n, hn, hu => by
    unfold visitG
    by_cases hs : n ∈ S
    · rw [if_pos hs]
      exact ⟨fun _ h => h, fun m hm => by rw [List.mem_singleton.1 hm]; exact hs, fun _ h => .inl h, fun _ h hn => absurd h hn⟩
    · rw [if_neg hs]
      have hu2 : unseen all (S ++ [n]) ≤ k := by have := unseen_lt hn hs; omega
      have g := fold_good (fun S m hm hu => visit_good hq k S m hm hu) (q n) (S ++ [n]) (hq n hn) hu2
      refine ⟨fun x hx => g.ge x (List.mem_append_left _ hx), fun m hm => by rw [List.mem_singleton.1 hm]; exact g.ge n (by simp), fun x hx => ?_, fun x hx hnx y hy => ?_⟩
      · rcases g.so x hx with h1 | ⟨m, hm, hr⟩
        · rcases List.mem_append.1 h1 with h1 | h1
          · exact .inl h1
          · exact .inr ⟨n, List.mem_singleton.2 rfl, by rw [List.mem_singleton.1 h1]; exact .refl⟩
        · exact .inr ⟨n, List.mem_singleton.2 rfl, .head hm hr⟩
      · by_cases e : x = n
        · subst e; exact g.mm y hy
        · exact g.cl x hx (fun h => by rcases List.mem_append.1 h with h | h; exact hnx h; exact e (List.mem_singleton.1 h)) y hy
theorem visit_rch {q : ByteArray → List ByteArray} {all : List ByteArray} (hq : ∀ n ∈ all, ∀ m ∈ q n, m ∈ all) {n x : ByteArray} (hn : n ∈ all) : x ∈ visitG q all.length [] n ↔ Rch q n x := by
  have g := visit_good hq all.length [] n hn (List.length_filter_le _ _)
  constructor
  · intro h
    rcases g.so x h with h | ⟨m, hm, hr⟩
    · cases h
    · rw [List.mem_singleton.1 hm] at hr; exact hr
  · intro h
    exact Rch.closed (fun x hx y hy => g.cl x hx (by simp) y hy) (g.mm n (List.mem_singleton.2 rfl)) h
/-! ### The reference's rounds -/
def stepE (got : List ByteArray) (c : Ed) : List ByteArray := if c.1 ∈ got then addN got c.2 else got
def roundE (F : List Ed) (got : List ByteArray) : List ByteArray := F.foldl stepE got
def roundsE (F : List Ed) : Nat → List ByteArray → List ByteArray
  | 0, got => got
  | k + 1, got => roundsE F k (roundE F got)
/-- A contact's direction turned. -/
def turnE (l : List Ed) : List Ed := l.map fun c => (c.2, c.1)
theorem stepE_ge (got : List ByteArray) (c : Ed) : got.length ≤ (stepE got c).length := by
  unfold stepE
  split
  · exact addN_ge _ _
  · exact Nat.le_refl _
theorem roundE_ge : ∀ (F : List Ed) (got : List ByteArray), got.length ≤ (roundE F got).length
  | [], got => Nat.le_refl _
  | c :: F, got => Nat.le_trans (stepE_ge got c) (roundE_ge F _)
theorem roundE_same : ∀ (F : List Ed) (got : List ByteArray), (roundE F got).length = got.length → ∀ c ∈ F, c.1 ∈ got → c.2 ∈ got
  | [], got, _, c, hc, _ => by cases hc
  | d :: F, got, h, c, hc, h1 => by
    have h2 : (roundE F (stepE got d)).length = got.length := h
    have h3 := stepE_ge got d
    have h4 := roundE_ge F (stepE got d)
    have h5 : stepE got d = got := by
      unfold stepE at h3 h4 h2 ⊢
      by_cases hd : d.1 ∈ got
      · rw [if_pos hd] at h3 h4 h2 ⊢
        unfold addN at h3 h4 h2 ⊢
        by_cases he : d.2 ∈ got
        · rw [if_pos he]
        · rw [if_neg he] at h4 h2
          simp only [List.length_append, List.length_singleton] at h4
          omega
      · rw [if_neg hd]
    rcases List.mem_cons.1 hc with rfl | hc
    · unfold stepE at h5
      rw [if_pos h1] at h5
      rw [← h5]
      exact addN_mem.2 (.inr rfl)
    · rw [h5] at h2
      exact roundE_same F got h2 c hc h1
theorem roundE_inv {Q : List ByteArray → Prop} {F : List Ed} (hQ : ∀ got, Q got → ∀ c ∈ F, Q (stepE got c)) : ∀ got, Q got → Q (roundE F got) := by
  intro got h
  unfold roundE
  have : ∀ (G : List Ed) (got : List ByteArray), (∀ c ∈ G, c ∈ F) → Q got → Q (G.foldl stepE got) := by
    intro G
    induction G with
    | nil => exact fun got _ h => h
    | cons c G ih => exact fun got hG h => ih _ (fun d hd => hG d (List.mem_cons_of_mem _ hd)) (hQ got h c (hG c List.mem_cons_self))
  exact this F got (fun _ h => h) h
theorem roundsE_inv {Q : List ByteArray → Prop} {F : List Ed} (hQ : ∀ got, Q got → ∀ c ∈ F, Q (stepE got c)) : ∀ k got, Q got → Q (roundsE F k got)
  | 0, _, h => h
  | k + 1, got, h => roundsE_inv hQ k _ (roundE_inv hQ got h)
/-- Nothing is left to come. -/
def Shut (F : List Ed) (got : List ByteArray) : Prop := ∀ c ∈ F, c.1 ∈ got → c.2 ∈ got
theorem stepE_shut {F : List Ed} {got : List ByteArray} (h : Shut F got) {c : Ed} (hc : c ∈ F) : stepE got c = got := by
  unfold stepE
  split
  · rename_i h1; exact addN_in (h c hc h1)
  · rfl
theorem roundE_shut {F : List Ed} {got : List ByteArray} (h : Shut F got) : roundE F got = got :=
  roundE_inv (Q := fun g => g = got) (fun g hg c hc => by rw [hg]; exact stepE_shut h hc) got rfl
theorem roundsE_shut {F : List Ed} : ∀ (k : Nat) (got : List ByteArray), Shut F got → roundsE F k got = got
  | 0, _, _ => rfl
  | k + 1, got, h => by unfold roundsE; rw [roundE_shut h]; exact roundsE_shut k got h
theorem roundsE_len {F : List Ed} : ∀ (k : Nat) (got : List ByteArray), Shut F (roundsE F k got) ∨ got.length + k ≤ (roundsE F k got).length
  | 0, got => .inr (Nat.le_refl _)
  | k + 1, got => by
    unfold roundsE
    by_cases h : (roundE F got).length = got.length
    · have hs : Shut F got := roundE_same F got h
      rw [roundE_shut hs, roundsE_shut k got hs]
      exact .inl hs
    · have h1 := roundE_ge F got
      rcases roundsE_len (F := F) k (roundE F got) with h2 | h2
      · exact .inl h2
      · exact .inr (by omega)
theorem rounds_rch {F : List Ed} {all : List ByteArray} (hF : ∀ c ∈ F, c.2 ∈ all) {n x : ByteArray} (hn : n ∈ all) {q : ByteArray → List ByteArray} (hq : ∀ m x, x ∈ q m ↔ ∃ c ∈ F, c.1 = m ∧ c.2 = x) : x ∈ roundsE F all.length [n] ↔ Rch q n x := by
  have h1 := roundsE_inv (F := F) (Q := fun g => (∀ y ∈ g, y ∈ all) ∧ g.Nodup ∧ n ∈ g ∧ ∀ y ∈ g, Rch q n y) (by
    intro g ⟨ha, hd, hg, hr⟩ c hc
    unfold stepE
    split
    · rename_i hc1
      refine ⟨fun y hy => ?_, addN_nodup hd, addN_mem.2 (.inl hg), fun y hy => ?_⟩
      · rcases addN_mem.1 hy with hy | rfl
        · exact ha y hy
        · exact hF c hc
      · rcases addN_mem.1 hy with hy | rfl
        · exact hr y hy
        · exact (hr _ hc1).step ((hq _ _).2 ⟨c, hc, rfl, rfl⟩)
    · exact ⟨ha, hd, hg, hr⟩) all.length [n] ⟨fun y hy => by rw [List.mem_singleton.1 hy]; exact hn, by simp, by simp, fun y hy => by rw [List.mem_singleton.1 hy]; exact .refl⟩
  obtain ⟨ha, hd, hg, hr⟩ := h1
  refine ⟨hr x, fun h => ?_⟩
  have hs : Shut F (roundsE F all.length [n]) := by
    rcases roundsE_len (F := F) all.length [n] with h2 | h2
    · exact h2
    · have h3 := nodup_len hd ha
      simp only [List.length_singleton] at h2
      omega
  exact Rch.closed (fun y hy z hz => by obtain ⟨c, hc, rfl, rfl⟩ := (hq _ _).1 hz; exact hs c hc hy) hg h
theorem suc_mem {l : List Ed} {m x : ByteArray} : x ∈ sucL l m ↔ ∃ c ∈ l, c.1 = m ∧ c.2 = x := by
  unfold sucL
  rw [List.mem_map]
  constructor
  · rintro ⟨i, hi, rfl⟩
    obtain ⟨j, rfl, hj, rfl⟩ := outL_mem.1 hi
    refine ⟨l[j], List.getElem_mem hj, rfl, ?_⟩
    unfold toE
    rw [Int.toNat_natCast, List.getD_eq_getElem?_getD, List.getElem?_eq_getElem hj]
    rfl
  · rintro ⟨c, hc, rfl, rfl⟩
    obtain ⟨j, hj, rfl⟩ := List.getElem_of_mem hc
    refine ⟨(j : Int), outL_mem.2 ⟨j, rfl, hj, rfl⟩, ?_⟩
    unfold toE
    rw [Int.toNat_natCast, List.getD_eq_getElem?_getD, List.getElem?_eq_getElem hj]
    rfl
theorem pre_mem {l : List Ed} {m x : ByteArray} : x ∈ preL l m ↔ ∃ c ∈ l, c.2 = m ∧ c.1 = x := by
  unfold preL
  rw [List.mem_map]
  constructor
  · rintro ⟨i, hi, rfl⟩
    obtain ⟨j, rfl, hj, rfl⟩ := inL_mem.1 hi
    refine ⟨l[j], List.getElem_mem hj, rfl, ?_⟩
    unfold fromE
    rw [Int.toNat_natCast, List.getD_eq_getElem?_getD, List.getElem?_eq_getElem hj]
    rfl
  · rintro ⟨c, hc, rfl, rfl⟩
    obtain ⟨j, hj, rfl⟩ := List.getElem_of_mem hc
    refine ⟨(j : Int), inL_mem.2 ⟨j, rfl, hj, rfl⟩, ?_⟩
    unfold fromE
    rw [Int.toNat_natCast, List.getD_eq_getElem?_getD, List.getElem?_eq_getElem hj]
    rfl
theorem turn_mem {l : List Ed} {c : Ed} : c ∈ turnE l ↔ (c.2, c.1) ∈ l := by
  unfold turnE
  rw [List.mem_map]
  constructor
  · rintro ⟨d, hd, rfl⟩; exact hd
  · intro h; exact ⟨_, h, rfl⟩
/-- The reference's edges: turned or not. -/
def wayE (back : Bool) (l : List Ed) : List Ed := if back then turnE l else l
def spreadL (l : List Ed) (n : ByteArray) (back : Bool) : List ByteArray := if n ∈ nodesL l then (nodesL l).filter fun s => decide (s ∈ roundsE (wayE back l) (nodesL l).length [n]) else []
theorem nodes_1 {l : List Ed} {c : Ed} (h : c ∈ l) : c.1 ∈ nodesL l := nodesL_mem.2 (.inr (.inr ⟨c, h, .inl rfl⟩))
theorem nodes_2 {l : List Ed} {c : Ed} (h : c ∈ l) : c.2 ∈ nodesL l := nodesL_mem.2 (.inr (.inr ⟨c, h, .inr rfl⟩))
def gathL (l : List Ed) (q : ByteArray → List ByteArray) (n : ByteArray) : List ByteArray := if n ∈ nodesL l then (nodesL l).filter fun s => decide (s ∈ visitG q (nodesL l).length [] n) else []
def reachL (l : List Ed) (n : ByteArray) : List ByteArray := gathL l (sucL l) n
def ancL (l : List Ed) (n : ByteArray) : List ByteArray := gathL l (preL l) n
theorem suc_nodes {l : List Ed} : ∀ n ∈ nodesL l, ∀ m ∈ sucL l n, m ∈ nodesL l := fun n hn m hm => by obtain ⟨c, hc, _, rfl⟩ := suc_mem.1 hm; exact nodes_2 hc
theorem pre_nodes {l : List Ed} : ∀ n ∈ nodesL l, ∀ m ∈ preL l n, m ∈ nodesL l := fun n hn m hm => by obtain ⟨c, hc, _, rfl⟩ := pre_mem.1 hm; exact nodes_1 hc
theorem reach_mem {l : List Ed} {n x : ByteArray} : x ∈ reachL l n ↔ n ∈ nodesL l ∧ Rch (sucL l) n x := by
  unfold reachL gathL
  by_cases hn : n ∈ nodesL l
  · rw [if_pos hn, List.mem_filter, decide_eq_true_eq, visit_rch suc_nodes hn]
    exact ⟨fun h => ⟨hn, h.2⟩, fun h => ⟨h.2.mem suc_nodes hn, h.2⟩⟩
  · rw [if_neg hn]
    exact ⟨fun h => (by cases h), fun h => absurd h.1 hn⟩
theorem anc_mem {l : List Ed} {n x : ByteArray} : x ∈ ancL l n ↔ n ∈ nodesL l ∧ Rch (preL l) n x := by
  unfold ancL gathL
  by_cases hn : n ∈ nodesL l
  · rw [if_pos hn, List.mem_filter, decide_eq_true_eq, visit_rch pre_nodes hn]
    exact ⟨fun h => ⟨hn, h.2⟩, fun h => ⟨h.2.mem pre_nodes hn, h.2⟩⟩
  · rw [if_neg hn]
    exact ⟨fun h => (by cases h), fun h => absurd h.1 hn⟩
theorem reach_ref (l : List Ed) (n : ByteArray) : reachL l n = spreadL l n false := by
  unfold reachL gathL spreadL
  by_cases hn : n ∈ nodesL l
  · rw [if_pos hn, if_pos hn]
    refine List.filter_congr fun x _ => decide_eq_decide.2 ?_
    rw [visit_rch suc_nodes hn, show wayE false l = l from rfl, rounds_rch (fun c hc => nodes_2 hc) hn (q := sucL l) (fun m x => suc_mem)]
  · rw [if_neg hn, if_neg hn]
theorem anc_ref (l : List Ed) (n : ByteArray) : ancL l n = spreadL l n true := by
  unfold ancL gathL spreadL
  by_cases hn : n ∈ nodesL l
  · rw [if_pos hn, if_pos hn]
    refine List.filter_congr fun x _ => decide_eq_decide.2 ?_
    rw [visit_rch pre_nodes hn, show wayE true l = turnE l from rfl, rounds_rch (F := turnE l) (fun c hc => nodes_1 (turn_mem.1 hc)) hn (q := preL l) (fun m x => ?_)]
    rw [pre_mem]
    constructor
    · rintro ⟨c, hc, rfl, rfl⟩; exact ⟨(c.2, c.1), turn_mem.2 hc, rfl, rfl⟩
    · rintro ⟨c, hc, rfl, rfl⟩; exact ⟨(c.2, c.1), turn_mem.1 hc, rfl, rfl⟩
  · rw [if_neg hn, if_neg hn]
end Go.Proofs.Ytmacdknicgfglaa.Gp
end
section
/- graph.gather, walked. -/
namespace Go.Proofs.Ytmacdknicgfglaa.Pe
open Go.RowKit Go.Proofs.YtmacdknicgfglaaW.PrintWords Go.Proofs.YtmacdknicgfglaaW.PrintMore Go.Proofs.Ytmacdknicgfglaa.Impl Go.Proofs.Ytmacdknicgfglaa.Gp Go.Proofs.Ytmacdknicgfglaa.Gw
set_option linter.unusedVariables false
set_option linter.unusedSimpArgs false
theorem ix_l0 (l : List ByteArray) (s : ByteArray) (hn : l.length ≤ 9223372036854775807) : ∀ (d j : Nat), l.length = j + d →
    ∃ r, Ev (fun k => slices_Index_string_string.l0 k l s (l.length : Int) (j : Int)) r ∧ decide (r ≥ 0) = decide (s ∈ l.drop j)
  | 0, j, h => by
    refine ⟨-1, Ev.step (f := fun _ => some (-1)) (fun k => ?_) (Ev.now _), ?_⟩
    · simp only [slices_Index_string_string.l0]; rw [if_neg (by omega)]
    · rw [List.drop_of_length_le (by omega)]; rfl
  | d + 1, j, h => by
    have hj : j < l.length := by omega
    obtain ⟨r, ih, hr⟩ := ix_l0 l s hn d (j + 1) (by omega)
    rw [drop_cons l j hj]
    by_cases hb : s = l[j]
    · refine ⟨(j : Int), Ev.step (fun k => ?_) (f := fun k => some (j : Int)) (Ev.now _), ?_⟩
      · simp only [slices_Index_string_string.l0]
        rw [if_pos (by omega), if_pos (by omega), if_pos (by omega), rdOf_lt _ _ _ hj, if_pos (by rw [hb])]
      · rw [decide_eq_true (by omega), decide_eq_true (by rw [hb]; exact List.mem_cons_self)]
    · refine ⟨r, Ev.step (fun k => ?_) (f := fun k => slices_Index_string_string.l0 k l s (l.length : Int) ((j + 1 : Nat) : Int)) ih, ?_⟩
      · simp only [slices_Index_string_string.l0]
        rw [if_pos (by omega), if_pos (by omega), if_pos (by omega), rdOf_lt _ _ _ hj, if_neg (fun e => hb (toList_inj.1 e)), w64 hj hn]
      · rw [hr]; exact decide_eq_decide.2 ⟨List.mem_cons_of_mem _, fun h => (List.mem_cons.1 h).resolve_left hb⟩
theorem con_ev (l : List ByteArray) (s : ByteArray) (hn : l.length ≤ 9223372036854775807) : Ev (fun k => slices_Contains_string_string.f k l s) (decide (s ∈ l)) := by
  obtain ⟨r, h1, h2⟩ := ix_l0 l s hn l.length 0 (by omega)
  unfold slices_Contains_string_string.f
  refine Ev.bind (a := r) h1 ?_
  rw [show decide (s ∈ l) = decide (r ≥ 0) from h2.symm]
  exact Ev.now _
end Go.Proofs.Ytmacdknicgfglaa.Pe
namespace Go.Proofs.Ytmacdknicgfglaa.Gw
open Go.RowKit Go.Shelf Go.Proofs.YtmacdknicgfglaaW.PrintWords Go.Proofs.YtmacdknicgfglaaW.PrintMore Go.Proofs.YtmacdknicgfglaaW.PrintLast Go.Proofs.Ytmacdknicgfglaa.Chg Go.Proofs.Ytmacdknicgfglaa.Evt Go.Proofs.Ytmacdknicgfglaa.Impl Go.Proofs.Ytmacdknicgfglaa.Gp Go.Proofs.Ytmacdknicgfglaa.Mp
set_option linter.unusedVariables false
set_option linter.unusedSimpArgs false
set_option maxRecDepth 100000
theorem conS_any (A0 : Option Addr) (c0 : Nat) (l0 : List ByteArray) (s : ByteArray) (w : World) (h0 : Rw Kd.string w A0 c0 l0) (hn : l0.length ≤ 1000000) {r : Bool} (hr : decide (s ∈ l0) = r) :
    Calls Try.prog 26 #[.slice A0 l0.length c0, .string s] w fun e w' => e = .returned (.bool r) ∧ ∃ q, w' = w.drewN q := by
  subst hr
  obtain ⟨k, hk⟩ := (Pe.con_ev l0 s (by omega)).rounds
  exact (slices_Contains_string_string.calls k A0 c0 l0 s _ w h0.row h0.cap hk).mono (by rintro e w' ⟨rfl, ⟨n, rfl⟩⟩; exact ⟨rfl, n, rfl⟩)
theorem conS_b (A0 : Option Addr) (c0 : Nat) (l0 : List ByteArray) (s : ByteArray) (w : World) (h0 : Rw Kd.string w A0 c0 l0) (hn : l0.length ≤ 1000000) {r : Bool} (hr : decide (s ∈ l0) = r) :
    Calls Try.prog 26 #[.slice A0 l0.length c0, .string s] w fun e w' => e = .returned (.bool r) ∧ Below w.heap.size w w' :=
  (conS_any A0 c0 l0 s w h0 hn hr).mono (by rintro e w' ⟨rfl, n, rfl⟩; exact ⟨rfl, pw_below_drewN (Below.refl _ _) n⟩)
theorem Vs.start {w0 w w1 : World} {gt gs gv b kf : Nat} {lb : Array Value} (h1 : Bk w gt 65 #[.map (some b)]) (h2 : Bk w gs 75 #[.func (.func kf) #[] lb]) (h3 : Bk w gv 82 #[.nilFunc]) (hm : MB w b 0 (fun _ => false)) (hb : Below w0.heap.size w0 w) (hge : w0.heap.size ≤ gv)
    (h4 : Bk w1 gv 82 #[.func (.func 63) #[] #[.pointer (some ⟨gt, 0, none⟩), .pointer (some ⟨gs, 0, none⟩), .pointer (some ⟨gv, 0, none⟩)]]) (hg : w.grownBy w1 (some gv)) : Vs (fun W => Below w0.heap.size w0 W) gt gs gv b kf lb [] w1 := by
  have e1 : gt ≠ gv := Blk.ne_ (w := w) h1.blk h3.blk (by decide)
  have e2 : gs ≠ gv := Blk.ne_ (w := w) h2.blk h3.blk (by decide)
  refine ⟨h1.grown hg (fun e => e1 (by injection e)), h2.grown hg (fun e => e2 (by injection e)), h4, ?_, hb.grown hg hb.size (fun k hk => by cases hk; exact hge)⟩
  exact (hm.grown hg (fun e => hm.ne h3.blk (by injection e with e; exact e.symm))).congr (fun s => by simp)
theorem gather_h {w : World} {b kf : Nat} {lb : Array Value} {q : ByteArray → List ByteArray} {all : List ByteArray} (st : StepsV kf lb q (fun W => Below w.heap.size w W)) (eg : ∀ args w, (callFunc kf args).run Try.prog w = .ok (.enter kf args) w) (qn : ∀ n ∈ all, ∀ m ∈ q n, m ∈ all) (ql : ∀ n, (q n).length ≤ 1000) (hb : w.heap.size ≤ b) (al : ∀ x ∈ all, x.size ≤ 100000) (an : all.length ≤ 3000) : Vh (fun W => Below w.heap.size w W) b kf lb q all :=
  ⟨st, eg, fun w1 w2 h1 h2 => Chg.below h1 h2 (fun i hi => by subst hi; exact hb) h1.size, al, an, qn, ql⟩
theorem nodes_pos (l : List Ed) : 0 < (nodesL l).length := List.length_pos_of_mem (nodesL_mem.2 (.inl rfl))
theorem unseen_len (all seen : List ByteArray) : unseen all seen ≤ all.length := List.length_filter_le _ _
theorem nil_in {all : List ByteArray} : ∀ x ∈ ([] : List ByteArray), x ∈ all := fun x hx => by cases hx
theorem un_at {Ok : World → Prop} {gt gs gv b kf : Nat} {lb : Array Value} {seen xs : List ByteArray} {w0 W : World} {v : Value} (hv : Vs Ok gt gs gv b kf lb seen W) (hr : Ro Kd.string 9 w0 W v xs) : ∀ (W' : World) (x : ByteArray), x.size ≤ 100000 → W.grownBy W' v.ownBlock → Calls Try.prog 64 (#[.string x] ++ #[.pointer (some ⟨gt, 0, none⟩)]) W' fun e w' => e = .returned (.bool (!decide (x ∈ seen))) ∧ ∃ q, w' = W'.drewN q :=
  fun W' x hx hg => Sh.unseen_any (hv.bt.grown hg (row_ne hr.row hv.bt.blk (by decide))) (hv.m.grown hg (hv.m.row hr.row)) x hx
section
variable {w w' : World} {A1 A2 : Option Addr} {c1 c2 b kf : Nat} {lb : Array Value} {l1 : List S41} {l2 : List S101} {a0 a3 : ByteArray} {q : ByteArray → List ByteArray}
set_option maxHeartbeats 4000000 in
theorem gather_any (w : World) (h : Rg w A1 c1 l1 A2 c2 l2) (hok : okG (es l1) = true) (st : StepsV kf lb q (fun W => Below w.heap.size w W)) (eg : ∀ args w, (callFunc kf args).run Try.prog w = .ok (.enter kf args) w)
    (qn : ∀ n ∈ nodesL (es l1), ∀ m ∈ q n, m ∈ nodesL (es l1)) (ql : ∀ n, (q n).length ≤ 1000) (n : ByteArray) :
    Calls Try.prog 52 #[.agg #[.string a0, .slice A1 l1.length c1, .slice A2 l2.length c2, .string a3], .string n, .func (.func kf) #[] lb] w fun e w' => ∃ v, e = .returned v ∧ Ro Kd.string 9 w w' v (gathL (es l1) q n) ∧ Below w.heap.size w w' := by
  have hmf : ∀ (fn : Fn) (first cap : Array Value) (w : World), (Instr.makeFunc fn first cap).run Try.prog w = .ok (.func fn first cap) w := fun _ _ _ _ => rfl
  have HB := Aside0.mk (Below.refl w.heap.size w)
  have R := Aside0.mk (h)
  have OK := Aside0.mk hok
  have LN : l1.length ≤ 1000 := by have := okG_len hok; rw [es_len] at this; exact this
  have NL := Aside0.mk (nodesL_len (es l1))
  rw [es_len] at NL
  have NL1 : Aside0 ((nodesL (es l1)).length ≤ 1000000) := Aside0.mk (by have := NL.out; omega)
  have SZ : Aside0 (∀ x ∈ nodesL (es l1), x.size ≤ 100000) := Aside0.mk (fun x hx => nodesL_size OK.out hx)
  have STQ := Aside0.mk (And.intro st (And.intro eg (And.intro qn ql)))
  clear h hok st eg qn ql
  by_cases hn : n ∈ nodesL (es l1)
  · have HN := Aside0.mk (decide_eq_true hn)
    skip
    go_enter Try.func52, Try.ntmps52
    go_wp2_with (first | ((with_reducible refine gate_dst (N := 3) rfl ?_); refine box_event ?hg (N := 3) ?hd (cs := #[.string a0, .slice A1 l1.length c1, .slice A2 l2.length c2, .string a3]) (t := 25) ?hr ?_; (case hd => rfl); (case hg => rfl); (case hr => first | (go_simp; done) | (go_simp; rfl)); intro g3 hg w1 hbox hb; have hbx : Below w.heap.size w w1 := below_step (by repeat (first | (with_reducible first | exact Below.refl _ _ | apply below_alloc | apply pw_below_drewN | apply below_drew1) | exact Below.refl _ _)) hb; have n_R := Aside0.mk (R.out.below hbx); have n_HB := Aside0.mk (below_step HB.out hbx); clear HB R; have R := n_R; have HB := n_HB; clear hbx n_R n_HB; have BK3 := Aside0.mk (Bk.mk (hbox : Blk w1 g3 25 #[.string a0, .slice A1 l1.length c1, .slice A2 l2.length c2, .string a3])); clear hbox hg hb; have zBK3_0 : w1.cell? ⟨g3, 0, none⟩ = some (.string a0) := (blk_cell BK3.out.blk 0).trans rfl; have zBK3_1 : w1.cell? ⟨g3, 1, none⟩ = some (.slice A1 l1.length c1) := (blk_cell BK3.out.blk 1).trans rfl; have zBK3_2 : w1.cell? ⟨g3, 2, none⟩ = some (.slice A2 l2.length c2) := (blk_cell BK3.out.blk 2).trans rfl; have zBK3_3 : w1.cell? ⟨g3, 3, none⟩ = some (.string a3) := (blk_cell BK3.out.blk 3).trans rfl) | ((with_reducible refine gate_dst (N := 5) rfl ?_); refine box_event ?hg (N := 5) ?hd (cs := #[.func (.func kf) #[] lb]) (t := 75) ?hr ?_; (case hd => rfl); (case hg => rfl); (case hr => first | (go_simp; done) | (go_simp; rfl)); intro g5 hg w2 hbox hb; have hbx : Below w1.heap.size w1 w2 := below_step (by repeat (first | (with_reducible first | exact Below.refl _ _ | apply below_alloc | apply pw_below_drewN | apply below_drew1) | exact Below.refl _ _)) hb; clear zBK3_0 zBK3_1 zBK3_2 zBK3_3; have n_R := Aside0.mk (R.out.below hbx); have n_BK3 := Aside0.mk (BK3.out.below hbx); have n_HB := Aside0.mk (below_step HB.out hbx); clear HB R BK3; have R := n_R; have BK3 := n_BK3; have HB := n_HB; clear hbx n_R n_BK3 n_HB; have BK5 := Aside0.mk (Bk.mk (hbox : Blk w2 g5 75 #[.func (.func kf) #[] lb])); clear hbox hg hb; have zBK3_0 : w2.cell? ⟨g3, 0, none⟩ = some (.string a0) := (blk_cell BK3.out.blk 0).trans rfl; have zBK3_1 : w2.cell? ⟨g3, 1, none⟩ = some (.slice A1 l1.length c1) := (blk_cell BK3.out.blk 1).trans rfl; have zBK3_2 : w2.cell? ⟨g3, 2, none⟩ = some (.slice A2 l2.length c2) := (blk_cell BK3.out.blk 2).trans rfl; have zBK3_3 : w2.cell? ⟨g3, 3, none⟩ = some (.string a3) := (blk_cell BK3.out.blk 3).trans rfl; have zBK5_0 : w2.cell? ⟨g5, 0, none⟩ = some (.func (.func kf) #[] lb) := (blk_cell BK5.out.blk 0).trans rfl) | ((with_reducible refine gate_callee (f := 18) rfl ?_); refine goesL_ (some 11) rfl rfl Try.func18 (by kernel_rfl) rfl #[.agg #[.string a0, .slice A1 l1.length c1, .slice A2 l2.length c2, .string a3]] rfl (by (try simp only [List.map_toArray, List.map_cons, List.map_nil]); first | done | rfl | (simp only [List.length_drop, List.length_take]; rfl)) ?_; (with_reducible refine (nodes_any _ (R.out.below (by repeat (first | (with_reducible first | exact Below.refl _ _ | apply below_alloc | apply pw_below_drewN | apply below_drew1) | exact Below.refl _ _))) OK.out).mono ?_); rintro e w3 ⟨v, rfl, ho, hb⟩; have hbx : Below w2.heap.size w2 w3 := below_step (by repeat (first | (with_reducible first | exact Below.refl _ _ | apply below_alloc | apply pw_below_drewN | apply below_drew1) | exact Below.refl _ _)) hb; have ho_ := Ro.lower ho (below_size (below_step HB.out (by repeat (first | (with_reducible first | exact Below.refl _ _ | apply below_alloc | apply pw_below_drewN | apply below_drew1) | exact Below.refl _ _)))); obtain ⟨A_, c_, rfl, hw_⟩ := Ro.sliceS ho_; clear zBK3_0 zBK3_1 zBK3_2 zBK3_3 zBK5_0; have n_R := Aside0.mk (R.out.below hbx); have n_BK3 := Aside0.mk (BK3.out.below hbx); have n_BK5 := Aside0.mk (BK5.out.below hbx); have n_HB := Aside0.mk (below_step HB.out hbx); clear HB R BK3 BK5; have R := n_R; have BK3 := n_BK3; have BK5 := n_BK5; have HB := n_HB; clear hbx n_R n_BK3 n_BK5 n_HB; have NV := Aside0.mk (ho_); have NW := Aside0.mk (hw_.out); clear hb; clear ho ho_ hw_; have zBK3_0 : w3.cell? ⟨g3, 0, none⟩ = some (.string a0) := (blk_cell BK3.out.blk 0).trans rfl; have zBK3_1 : w3.cell? ⟨g3, 1, none⟩ = some (.slice A1 l1.length c1) := (blk_cell BK3.out.blk 1).trans rfl; have zBK3_2 : w3.cell? ⟨g3, 2, none⟩ = some (.slice A2 l2.length c2) := (blk_cell BK3.out.blk 2).trans rfl; have zBK3_3 : w3.cell? ⟨g3, 3, none⟩ = some (.string a3) := (blk_cell BK3.out.blk 3).trans rfl; have zBK5_0 : w3.cell? ⟨g5, 0, none⟩ = some (.func (.func kf) #[] lb) := (blk_cell BK5.out.blk 0).trans rfl; refine ⟨_, rfl, ?_⟩) | ((with_reducible refine gate_callee (f := 26) rfl ?_); refine goesL_ (some 14) rfl rfl Try.func26 (by kernel_rfl) rfl #[.slice A_ (nodesL (es l1)).length c_, .string n] rfl (by (try simp only [List.map_toArray, List.map_cons, List.map_nil]); first | done | rfl | (simp only [List.length_drop, List.length_take]; rfl)) ?_; (with_reducible refine (conS_b A_ c_ _ n _ (NW.out.below (by repeat (first | (with_reducible first | exact Below.refl _ _ | apply below_alloc | apply pw_below_drewN | apply below_drew1) | exact Below.refl _ _))) NL1.out HN.out).mono ?_); rintro e w4 ⟨rfl, hb⟩; have hbx : Below w3.heap.size w3 w4 := below_step (by repeat (first | (with_reducible first | exact Below.refl _ _ | apply below_alloc | apply pw_below_drewN | apply below_drew1) | exact Below.refl _ _)) hb; clear zBK3_0 zBK3_1 zBK3_2 zBK3_3 zBK5_0; have n_R := Aside0.mk (R.out.below hbx); have n_BK3 := Aside0.mk (BK3.out.below hbx); have n_BK5 := Aside0.mk (BK5.out.below hbx); have n_NV := Aside0.mk (NV.out.below hbx); have n_NW := Aside0.mk (NW.out.below hbx); have n_HB := Aside0.mk (below_step HB.out hbx); clear HB R BK3 BK5 NV NW; have R := n_R; have BK3 := n_BK3; have BK5 := n_BK5; have NV := n_NV; have NW := n_NW; have HB := n_HB; clear hbx n_R n_BK3 n_BK5 n_NV n_NW n_HB; clear hb; have zBK3_0 : w4.cell? ⟨g3, 0, none⟩ = some (.string a0) := (blk_cell BK3.out.blk 0).trans rfl; have zBK3_1 : w4.cell? ⟨g3, 1, none⟩ = some (.slice A1 l1.length c1) := (blk_cell BK3.out.blk 1).trans rfl; have zBK3_2 : w4.cell? ⟨g3, 2, none⟩ = some (.slice A2 l2.length c2) := (blk_cell BK3.out.blk 2).trans rfl; have zBK3_3 : w4.cell? ⟨g3, 3, none⟩ = some (.string a3) := (blk_cell BK3.out.blk 3).trans rfl; have zBK5_0 : w4.cell? ⟨g5, 0, none⟩ = some (.func (.func kf) #[] lb) := (blk_cell BK5.out.blk 0).trans rfl; refine ⟨_, rfl, ?_⟩) | ((with_reducible refine gate_dst (N := 16) rfl ?_); refine Mp.mkB_ev rfl (N := 16) rfl rfl ?_; intro b16 hg w5 hmap hb; have hbx : Below w4.heap.size w4 w5 := below_step (by repeat (first | (with_reducible first | exact Below.refl _ _ | apply below_alloc | apply pw_below_drewN | apply below_drew1) | exact Below.refl _ _)) hb; have hge_ : w.heap.size ≤ b16 := (by rw [hg]; exact below_size (below_step HB.out (by repeat (first | (with_reducible first | exact Below.refl _ _ | apply below_alloc | apply pw_below_drewN | apply below_drew1) | exact Below.refl _ _)))); clear zBK3_0 zBK3_1 zBK3_2 zBK3_3 zBK5_0; have n_R := Aside0.mk (R.out.below hbx); have n_BK3 := Aside0.mk (BK3.out.below hbx); have n_BK5 := Aside0.mk (BK5.out.below hbx); have n_NV := Aside0.mk (NV.out.below hbx); have n_NW := Aside0.mk (NW.out.below hbx); have n_HB := Aside0.mk (below_step HB.out hbx); clear HB R BK3 BK5 NV NW; have R := n_R; have BK3 := n_BK3; have BK5 := n_BK5; have NV := n_NV; have NW := n_NW; have HB := n_HB; clear hbx n_R n_BK3 n_BK5 n_NV n_NW n_HB; have M16 := Aside0.mk hmap; have GE16 := Aside0.mk hge_; clear hmap hg hb hge_; have zBK3_0 : w5.cell? ⟨g3, 0, none⟩ = some (.string a0) := (blk_cell BK3.out.blk 0).trans rfl; have zBK3_1 : w5.cell? ⟨g3, 1, none⟩ = some (.slice A1 l1.length c1) := (blk_cell BK3.out.blk 1).trans rfl; have zBK3_2 : w5.cell? ⟨g3, 2, none⟩ = some (.slice A2 l2.length c2) := (blk_cell BK3.out.blk 2).trans rfl; have zBK3_3 : w5.cell? ⟨g3, 3, none⟩ = some (.string a3) := (blk_cell BK3.out.blk 3).trans rfl; have zBK5_0 : w5.cell? ⟨g5, 0, none⟩ = some (.func (.func kf) #[] lb) := (blk_cell BK5.out.blk 0).trans rfl) | ((with_reducible refine gate_dst (N := 8) rfl ?_); refine Evt.box1 ?hg4_ (N := 8) ?hd4_ (z := .map none) (v := .map (some b16)) (T := 65) ?hr4_ ?hg24_ ?hd24_ ?hr24_ ?_; (case hd4_ => rfl); (case hg4_ => rfl); (case hr4_ => first | (go_simp; done) | (go_simp; rfl)); (case hg24_ => rfl); (case hd24_ => rfl); (case hr24_ => first | (go_simp; done) | (go_simp; rfl)); intro g8 hg w6 hbox hb; have hbx : Below w5.heap.size w5 w6 := below_step (by repeat (first | (with_reducible first | exact Below.refl _ _ | apply below_alloc | apply pw_below_drewN | apply below_drew1) | exact Below.refl _ _)) hb; clear zBK3_0 zBK3_1 zBK3_2 zBK3_3 zBK5_0; have n_R := Aside0.mk (R.out.below hbx); have n_BK3 := Aside0.mk (BK3.out.below hbx); have n_BK5 := Aside0.mk (BK5.out.below hbx); have n_NV := Aside0.mk (NV.out.below hbx); have n_NW := Aside0.mk (NW.out.below hbx); have n_M16 := Aside0.mk (M16.out.below hbx); have n_HB := Aside0.mk (below_step HB.out hbx); clear HB R BK3 BK5 NV NW M16; have R := n_R; have BK3 := n_BK3; have BK5 := n_BK5; have NV := n_NV; have NW := n_NW; have M16 := n_M16; have HB := n_HB; clear hbx n_R n_BK3 n_BK5 n_NV n_NW n_M16 n_HB; have BK8 := Aside0.mk (Bk.mk (hbox : Blk w6 g8 65 #[.map (some b16)])); clear hbox hg hb; have zBK3_0 : w6.cell? ⟨g3, 0, none⟩ = some (.string a0) := (blk_cell BK3.out.blk 0).trans rfl; have zBK3_1 : w6.cell? ⟨g3, 1, none⟩ = some (.slice A1 l1.length c1) := (blk_cell BK3.out.blk 1).trans rfl; have zBK3_2 : w6.cell? ⟨g3, 2, none⟩ = some (.slice A2 l2.length c2) := (blk_cell BK3.out.blk 2).trans rfl; have zBK3_3 : w6.cell? ⟨g3, 3, none⟩ = some (.string a3) := (blk_cell BK3.out.blk 3).trans rfl; have zBK5_0 : w6.cell? ⟨g5, 0, none⟩ = some (.func (.func kf) #[] lb) := (blk_cell BK5.out.blk 0).trans rfl; have zBK8_0 : w6.cell? ⟨g8, 0, none⟩ = some (.map (some b16)) := (blk_cell BK8.out.blk 0).trans rfl) | ((with_reducible refine gate_dst (N := 9) rfl ?_); refine box_event ?hg (N := 9) ?hd (cs := #[.nilFunc]) (t := 82) ?hr ?_; (case hd => rfl); (case hg => rfl); (case hr => first | (go_simp; done) | (go_simp; rfl)); intro g9 hg w7 hbox hb; have hbx : Below w6.heap.size w6 w7 := below_step (by repeat (first | (with_reducible first | exact Below.refl _ _ | apply below_alloc | apply pw_below_drewN | apply below_drew1) | exact Below.refl _ _)) hb; have GG9 := Aside0.mk (show w.heap.size ≤ g9 from (by rw [hg]; exact below_size (below_step HB.out (by repeat (first | (with_reducible first | exact Below.refl _ _ | apply below_alloc | apply pw_below_drewN | apply below_drew1) | exact Below.refl _ _))))); clear zBK3_0 zBK3_1 zBK3_2 zBK3_3 zBK5_0 zBK8_0; have n_R := Aside0.mk (R.out.below hbx); have n_BK3 := Aside0.mk (BK3.out.below hbx); have n_BK5 := Aside0.mk (BK5.out.below hbx); have n_NV := Aside0.mk (NV.out.below hbx); have n_NW := Aside0.mk (NW.out.below hbx); have n_M16 := Aside0.mk (M16.out.below hbx); have n_BK8 := Aside0.mk (BK8.out.below hbx); have n_HB := Aside0.mk (below_step HB.out hbx); clear HB R BK3 BK5 NV NW M16 BK8; have R := n_R; have BK3 := n_BK3; have BK5 := n_BK5; have NV := n_NV; have NW := n_NW; have M16 := n_M16; have BK8 := n_BK8; have HB := n_HB; clear hbx n_R n_BK3 n_BK5 n_NV n_NW n_M16 n_BK8 n_HB; have BK9 := Aside0.mk (Bk.mk (hbox : Blk w7 g9 82 #[.nilFunc])); clear hbox hg hb; have zBK3_0 : w7.cell? ⟨g3, 0, none⟩ = some (.string a0) := (blk_cell BK3.out.blk 0).trans rfl; have zBK3_1 : w7.cell? ⟨g3, 1, none⟩ = some (.slice A1 l1.length c1) := (blk_cell BK3.out.blk 1).trans rfl; have zBK3_2 : w7.cell? ⟨g3, 2, none⟩ = some (.slice A2 l2.length c2) := (blk_cell BK3.out.blk 2).trans rfl; have zBK3_3 : w7.cell? ⟨g3, 3, none⟩ = some (.string a3) := (blk_cell BK3.out.blk 3).trans rfl; have zBK5_0 : w7.cell? ⟨g5, 0, none⟩ = some (.func (.func kf) #[] lb) := (blk_cell BK5.out.blk 0).trans rfl; have zBK8_0 : w7.cell? ⟨g8, 0, none⟩ = some (.map (some b16)) := (blk_cell BK8.out.blk 0).trans rfl; have zBK9_0 : w7.cell? ⟨g9, 0, none⟩ = some (.nilFunc) := (blk_cell BK9.out.blk 0).trans rfl) | (refine Evt.set1_ev rfl (z := .nilFunc) (v := .func (.func 63) #[] #[.pointer (some ⟨g8, 0, none⟩), .pointer (some ⟨g5, 0, none⟩), .pointer (some ⟨g9, 0, none⟩)]) (T := 82) (g := g9) BK9.out ?hs_ ?_; (case hs_ => (have fz_ := blk_frozen BK9.out.blk 0; have hsf_ : ∀ (a : Addr) (fn : Fn) (x y : Array Value) (m : Mode) (w : World), (store a (.func fn x y) m).run Try.prog w = stored Try.prog w a (.func fn x y) m := (fun a fn x y m w => run_store _ w a _ m rfl); first | (go_simp; done) | (go_simp; rfl))); intro w8 hb9 hg9; have VS := Aside0.mk (Vs.start BK8.out BK5.out BK9.out M16.out HB.out GG9.out hb9 hg9); have NV8 := Aside0.mk (Ro.mk (R_other NV.out.row hg9 (.inl (Kd.R_ne NV.out.row BK9.out.blk (by decide))))); have HB8 := Aside0.mk (HB.out.grown hg9 HB.out.size (fun k hk => by cases hk; exact GG9.out)); clear hb9 hg9 R BK3 BK5 NV NW M16 BK8 HB BK9 zBK3_0 zBK3_1 zBK3_2 zBK3_3 zBK5_0 zBK8_0 zBK9_0; have z9 := VS.out.bv.blk.cell 0 rfl; have ev := eg_v) | (have vs_ := VS; go_at_call 63; (with_reducible refine (visit_go (gather_h STQ.out.1 STQ.out.2.1 STQ.out.2.2.1 STQ.out.2.2.2 GE16.out SZ.out (by have := NL.out; omega)) (nodesL (es l1)).length [] w8 n hn (unseen_len _ _) nil_in List.nodup_nil VS.out).mono ?_); rintro e w9 ⟨rfl, hv, hc⟩; have NV9 := Aside0.mk (Ro.cb NV8.out VS.out.m hc); have VS9 := Aside0.mk hv; clear hv hc NV8 HB8 VS z9 ev) | (have vs_ := VS9; go_at_call 56; (with_reducible refine (Sh.deletefunc_any NV9.out (nodes_pos _) NL1.out SZ.out (fun s => decide (s ∈ visitG q (nodesL (es l1)).length [] n)) _ _ Sh.eg_un (un_at VS9.out NV9.out)).mono ?_); rintro e w10 ⟨v', rfl, ho, hg⟩; have FO := Aside0.mk ho; have HB10 := Aside0.mk (VS9.out.ok.grown hg VS9.out.ok.size (fun k hk => by obtain ⟨i, ho⟩ := Kd.R_own NV9.out.row; exact own_base ho k hk)); clear ho hg))
    go_ret
    exact ⟨_, rfl, by unfold gathL; rw [if_pos hn]; exact FO.out, HB10.out⟩
    skip
  · have HN := Aside0.mk (decide_eq_false hn)
    go_enter Try.func52, Try.ntmps52
    go_wp2_with (first | ((with_reducible refine gate_dst (N := 3) rfl ?_); refine box_event ?hg (N := 3) ?hd (cs := #[.string a0, .slice A1 l1.length c1, .slice A2 l2.length c2, .string a3]) (t := 25) ?hr ?_; (case hd => rfl); (case hg => rfl); (case hr => first | (go_simp; done) | (go_simp; rfl)); intro g3 hg w1 hbox hb; have hbx : Below w.heap.size w w1 := below_step (by repeat (first | (with_reducible first | exact Below.refl _ _ | apply below_alloc | apply pw_below_drewN | apply below_drew1) | exact Below.refl _ _)) hb; have n_R := Aside0.mk (R.out.below hbx); have n_HB := Aside0.mk (below_step HB.out hbx); clear HB R; have R := n_R; have HB := n_HB; clear hbx n_R n_HB; have BK3 := Aside0.mk (Bk.mk (hbox : Blk w1 g3 25 #[.string a0, .slice A1 l1.length c1, .slice A2 l2.length c2, .string a3])); clear hbox hg hb; have zBK3_0 : w1.cell? ⟨g3, 0, none⟩ = some (.string a0) := (blk_cell BK3.out.blk 0).trans rfl; have zBK3_1 : w1.cell? ⟨g3, 1, none⟩ = some (.slice A1 l1.length c1) := (blk_cell BK3.out.blk 1).trans rfl; have zBK3_2 : w1.cell? ⟨g3, 2, none⟩ = some (.slice A2 l2.length c2) := (blk_cell BK3.out.blk 2).trans rfl; have zBK3_3 : w1.cell? ⟨g3, 3, none⟩ = some (.string a3) := (blk_cell BK3.out.blk 3).trans rfl) | ((with_reducible refine gate_dst (N := 5) rfl ?_); refine box_event ?hg (N := 5) ?hd (cs := #[.func (.func kf) #[] lb]) (t := 75) ?hr ?_; (case hd => rfl); (case hg => rfl); (case hr => first | (go_simp; done) | (go_simp; rfl)); intro g5 hg w2 hbox hb; have hbx : Below w1.heap.size w1 w2 := below_step (by repeat (first | (with_reducible first | exact Below.refl _ _ | apply below_alloc | apply pw_below_drewN | apply below_drew1) | exact Below.refl _ _)) hb; clear zBK3_0 zBK3_1 zBK3_2 zBK3_3; have n_R := Aside0.mk (R.out.below hbx); have n_BK3 := Aside0.mk (BK3.out.below hbx); have n_HB := Aside0.mk (below_step HB.out hbx); clear HB R BK3; have R := n_R; have BK3 := n_BK3; have HB := n_HB; clear hbx n_R n_BK3 n_HB; have BK5 := Aside0.mk (Bk.mk (hbox : Blk w2 g5 75 #[.func (.func kf) #[] lb])); clear hbox hg hb; have zBK3_0 : w2.cell? ⟨g3, 0, none⟩ = some (.string a0) := (blk_cell BK3.out.blk 0).trans rfl; have zBK3_1 : w2.cell? ⟨g3, 1, none⟩ = some (.slice A1 l1.length c1) := (blk_cell BK3.out.blk 1).trans rfl; have zBK3_2 : w2.cell? ⟨g3, 2, none⟩ = some (.slice A2 l2.length c2) := (blk_cell BK3.out.blk 2).trans rfl; have zBK3_3 : w2.cell? ⟨g3, 3, none⟩ = some (.string a3) := (blk_cell BK3.out.blk 3).trans rfl; have zBK5_0 : w2.cell? ⟨g5, 0, none⟩ = some (.func (.func kf) #[] lb) := (blk_cell BK5.out.blk 0).trans rfl) | ((with_reducible refine gate_callee (f := 18) rfl ?_); refine goesL_ (some 11) rfl rfl Try.func18 (by kernel_rfl) rfl #[.agg #[.string a0, .slice A1 l1.length c1, .slice A2 l2.length c2, .string a3]] rfl (by (try simp only [List.map_toArray, List.map_cons, List.map_nil]); first | done | rfl | (simp only [List.length_drop, List.length_take]; rfl)) ?_; (with_reducible refine (nodes_any _ (R.out.below (by repeat (first | (with_reducible first | exact Below.refl _ _ | apply below_alloc | apply pw_below_drewN | apply below_drew1) | exact Below.refl _ _))) OK.out).mono ?_); rintro e w3 ⟨v, rfl, ho, hb⟩; have hbx : Below w2.heap.size w2 w3 := below_step (by repeat (first | (with_reducible first | exact Below.refl _ _ | apply below_alloc | apply pw_below_drewN | apply below_drew1) | exact Below.refl _ _)) hb; obtain ⟨A_, c_, rfl, hw_⟩ := Ro.sliceS ho; clear zBK3_0 zBK3_1 zBK3_2 zBK3_3 zBK5_0; have n_R := Aside0.mk (R.out.below hbx); have n_BK3 := Aside0.mk (BK3.out.below hbx); have n_BK5 := Aside0.mk (BK5.out.below hbx); have n_HB := Aside0.mk (below_step HB.out hbx); clear HB R BK3 BK5; have R := n_R; have BK3 := n_BK3; have BK5 := n_BK5; have HB := n_HB; clear hbx n_R n_BK3 n_BK5 n_HB; have NW := Aside0.mk (hw_.out); clear hb; clear ho hw_; have zBK3_0 : w3.cell? ⟨g3, 0, none⟩ = some (.string a0) := (blk_cell BK3.out.blk 0).trans rfl; have zBK3_1 : w3.cell? ⟨g3, 1, none⟩ = some (.slice A1 l1.length c1) := (blk_cell BK3.out.blk 1).trans rfl; have zBK3_2 : w3.cell? ⟨g3, 2, none⟩ = some (.slice A2 l2.length c2) := (blk_cell BK3.out.blk 2).trans rfl; have zBK3_3 : w3.cell? ⟨g3, 3, none⟩ = some (.string a3) := (blk_cell BK3.out.blk 3).trans rfl; have zBK5_0 : w3.cell? ⟨g5, 0, none⟩ = some (.func (.func kf) #[] lb) := (blk_cell BK5.out.blk 0).trans rfl; refine ⟨_, rfl, ?_⟩) | ((with_reducible refine gate_callee (f := 26) rfl ?_); refine goesL_ (some 14) rfl rfl Try.func26 (by kernel_rfl) rfl #[.slice A_ (nodesL (es l1)).length c_, .string n] rfl (by (try simp only [List.map_toArray, List.map_cons, List.map_nil]); first | done | rfl | (simp only [List.length_drop, List.length_take]; rfl)) ?_; (with_reducible refine (conS_b A_ c_ _ n _ (NW.out.below (by repeat (first | (with_reducible first | exact Below.refl _ _ | apply below_alloc | apply pw_below_drewN | apply below_drew1) | exact Below.refl _ _))) NL1.out HN.out).mono ?_); rintro e w4 ⟨rfl, hb⟩; have hbx : Below w3.heap.size w3 w4 := below_step (by repeat (first | (with_reducible first | exact Below.refl _ _ | apply below_alloc | apply pw_below_drewN | apply below_drew1) | exact Below.refl _ _)) hb; clear zBK3_0 zBK3_1 zBK3_2 zBK3_3 zBK5_0; have n_R := Aside0.mk (R.out.below hbx); have n_BK3 := Aside0.mk (BK3.out.below hbx); have n_BK5 := Aside0.mk (BK5.out.below hbx); have n_NW := Aside0.mk (NW.out.below hbx); have n_HB := Aside0.mk (below_step HB.out hbx); clear HB R BK3 BK5 NW; have R := n_R; have BK3 := n_BK3; have BK5 := n_BK5; have NW := n_NW; have HB := n_HB; clear hbx n_R n_BK3 n_BK5 n_NW n_HB; clear hb; have zBK3_0 : w4.cell? ⟨g3, 0, none⟩ = some (.string a0) := (blk_cell BK3.out.blk 0).trans rfl; have zBK3_1 : w4.cell? ⟨g3, 1, none⟩ = some (.slice A1 l1.length c1) := (blk_cell BK3.out.blk 1).trans rfl; have zBK3_2 : w4.cell? ⟨g3, 2, none⟩ = some (.slice A2 l2.length c2) := (blk_cell BK3.out.blk 2).trans rfl; have zBK3_3 : w4.cell? ⟨g3, 3, none⟩ = some (.string a3) := (blk_cell BK3.out.blk 3).trans rfl; have zBK5_0 : w4.cell? ⟨g5, 0, none⟩ = some (.func (.func kf) #[] lb) := (blk_cell BK5.out.blk 0).trans rfl; refine ⟨_, rfl, ?_⟩))
    go_ret
    exact ⟨_, rfl, by unfold gathL; rw [if_neg hn]; exact ⟨Kd.R_nil _ _ _ _ _⟩, HB.out⟩
end
end Go.Proofs.Ytmacdknicgfglaa.Gw
end
section
/- graph.Reachable, graph.Ancestors, walked. -/
namespace Go.Proofs.Ytmacdknicgfglaa.Gw
open Go.RowKit Go.Shelf Go.Proofs.YtmacdknicgfglaaW.PrintWords Go.Proofs.YtmacdknicgfglaaW.PrintMore Go.Proofs.YtmacdknicgfglaaW.PrintLast Go.Proofs.Ytmacdknicgfglaa.Chg Go.Proofs.Ytmacdknicgfglaa.Evt Go.Proofs.Ytmacdknicgfglaa.Impl Go.Proofs.Ytmacdknicgfglaa.Gp Go.Proofs.Ytmacdknicgfglaa.Mp
set_option linter.unusedVariables false
set_option linter.unusedSimpArgs false
set_option maxRecDepth 100000
theorem suc_in {l : List Ed} {n m : ByteArray} (h : m ∈ sucL l n) : m ∈ nodesL l := by
  unfold sucL at h
  obtain ⟨i, hi, rfl⟩ := List.mem_map.1 h
  obtain ⟨j, rfl, hj, _⟩ := outL_mem.1 hi
  unfold toE
  rw [Int.toNat_natCast, List.getD_eq_getElem?_getD, List.getElem?_eq_getElem hj]
  exact nodesL_mem.2 (.inr (.inr ⟨_, List.getElem_mem hj, .inr rfl⟩))
theorem pre_in {l : List Ed} {n m : ByteArray} (h : m ∈ preL l n) : m ∈ nodesL l := by
  unfold preL at h
  obtain ⟨i, hi, rfl⟩ := List.mem_map.1 h
  obtain ⟨j, rfl, hj, _⟩ := inL_mem.1 hi
  unfold fromE
  rw [Int.toNat_natCast, List.getD_eq_getElem?_getD, List.getElem?_eq_getElem hj]
  exact nodesL_mem.2 (.inr (.inr ⟨_, List.getElem_mem hj, .inl rfl⟩))
theorem suc_len {l : List Ed} (h : l.length ≤ 1000) (n : ByteArray) : (sucL l n).length ≤ 1000 := by
  unfold sucL outL
  rw [List.length_map]
  exact Nat.le_trans (idxs_len _ l) h
theorem pre_len {l : List Ed} (h : l.length ≤ 1000) (n : ByteArray) : (preL l n).length ≤ 1000 := by
  unfold preL inL
  rw [List.length_map]
  exact Nat.le_trans (idxs_len _ l) h
theorem eg_s : ∀ args w, (callFunc 53 args).run Try.prog w = .ok (.enter 53 args) w := enters_of Try.func53 (by kernel_rfl) rfl
theorem eg_p : ∀ args w, (callFunc 55 args).run Try.prog w = .ok (.enter 55 args) w := enters_of Try.func55 (by kernel_rfl) rfl
theorem StepsV.mono {k : Nat} {lb : Array Value} {q : ByteArray → List ByteArray} {O O' : World → Prop} (h : StepsV k lb q O) (ho : ∀ W, O' W → O W) : StepsV k lb q O' := ⟨fun W x hO => h.out W x (ho W hO)⟩
section
variable {w w' : World} {A1 A2 : Option Addr} {c1 c2 g : Nat} {l1 : List S41} {l2 : List S101} {a0 a3 : ByteArray}
theorem suc_at (hok : okG (es l1) = true) (hb : Bk w g 25 #[.string a0, .slice A1 l1.length c1, .slice A2 l2.length c2, .string a3]) (h : Rg w A1 c1 l1 A2 c2 l2) : StepsV 53 #[.pointer (some ⟨g, 0, none⟩)] (sucL (es l1)) (fun W => Below w.heap.size w W) :=
  (suc_any (w0 := w) (gr := g) (a0 := a0) (A1 := A1) (c1 := c1) (A2 := A2) (c2 := c2) (l2 := l2) (a3 := a3) hok).mono (fun W hW => ⟨hb.below hW, hW, h⟩)
theorem pre_at (hok : okG (es l1) = true) (hb : Bk w g 25 #[.string a0, .slice A1 l1.length c1, .slice A2 l2.length c2, .string a3]) (h : Rg w A1 c1 l1 A2 c2 l2) : StepsV 55 #[.pointer (some ⟨g, 0, none⟩)] (preL (es l1)) (fun W => Below w.heap.size w W) :=
  (pre_any (w0 := w) (gr := g) (a0 := a0) (A1 := A1) (c1 := c1) (A2 := A2) (c2 := c2) (l2 := l2) (a3 := a3) hok).mono (fun W hW => ⟨hb.below hW, hW, h⟩)
set_option maxHeartbeats 2000000 in
theorem reach_any (w : World) (h : Rg w A1 c1 l1 A2 c2 l2) (hok : okG (es l1) = true) (n : ByteArray) :
    Calls Try.prog 27 #[.agg #[.string a0, .slice A1 l1.length c1, .slice A2 l2.length c2, .string a3], .string n] w fun e w' => ∃ v, e = .returned v ∧ Ro Kd.string 9 w w' v (reachL (es l1) n) ∧ Below w.heap.size w w' := by
  have hmf : ∀ (fn : Fn) (first cap : Array Value) (w : World), (Instr.makeFunc fn first cap).run Try.prog w = .ok (.func fn first cap) w := fun _ _ _ _ => rfl
  have LN : (es l1).length ≤ 1000 := okG_len hok
  have OK := Aside0.mk hok
  have HB := Aside0.mk (Below.refl w.heap.size w)
  have R := Aside0.mk (h)
  clear h hok
  go_enter Try.func27, Try.ntmps27
  go_wp2_with (first | ((with_reducible refine gate_dst (N := 2) rfl ?_); refine box_event ?hg (N := 2) ?hd (cs := #[.string a0, .slice A1 l1.length c1, .slice A2 l2.length c2, .string a3]) (t := 25) ?hr ?_; (case hd => rfl); (case hg => rfl); (case hr => first | (go_simp; done) | (go_simp; rfl)); intro g2 hg w1 hbox hb; have hbx : Below w.heap.size w w1 := below_step (by repeat (first | (with_reducible first | exact Below.refl _ _ | apply below_alloc | apply pw_below_drewN | apply below_drew1) | exact Below.refl _ _)) hb; have n_R := Aside0.mk (R.out.below hbx); have n_HB := Aside0.mk (below_step HB.out hbx); clear HB R; have R := n_R; have HB := n_HB; clear hbx n_R n_HB; have BK2 := Aside0.mk (Bk.mk (hbox : Blk w1 g2 25 #[.string a0, .slice A1 l1.length c1, .slice A2 l2.length c2, .string a3])); clear hbox hg hb; have zBK2_0 : w1.cell? ⟨g2, 0, none⟩ = some (.string a0) := (blk_cell BK2.out.blk 0).trans rfl; have zBK2_1 : w1.cell? ⟨g2, 1, none⟩ = some (.slice A1 l1.length c1) := (blk_cell BK2.out.blk 1).trans rfl; have zBK2_2 : w1.cell? ⟨g2, 2, none⟩ = some (.slice A2 l2.length c2) := (blk_cell BK2.out.blk 2).trans rfl; have zBK2_3 : w1.cell? ⟨g2, 3, none⟩ = some (.string a3) := (blk_cell BK2.out.blk 3).trans rfl) | ((with_reducible refine gate_callee (f := 52) rfl ?_); refine goesL_ (some 8) rfl rfl Try.func52 (by kernel_rfl) rfl #[.agg #[.string a0, .slice A1 l1.length c1, .slice A2 l2.length c2, .string a3], .string n, .func (.func 53) #[] #[.pointer (some ⟨g2, 0, none⟩)]] rfl (by (try simp only [List.map_toArray, List.map_cons, List.map_nil]); first | done | rfl | (simp only [List.length_drop, List.length_take]; rfl)) ?_; (with_reducible refine (gather_any _ (R.out.below (by repeat (first | (with_reducible first | exact Below.refl _ _ | apply below_alloc | apply pw_below_drewN | apply below_drew1) | exact Below.refl _ _))) OK.out (suc_at OK.out (BK2.out.below (by repeat (first | (with_reducible first | exact Below.refl _ _ | apply below_alloc | apply pw_below_drewN | apply below_drew1) | exact Below.refl _ _))) (R.out.below (by repeat (first | (with_reducible first | exact Below.refl _ _ | apply below_alloc | apply pw_below_drewN | apply below_drew1) | exact Below.refl _ _)))) eg_s (fun n hn m hm => suc_in hm) (fun n => suc_len LN n) n).mono ?_); rintro e w2 ⟨v, rfl, ho, hb⟩; have hbx : Below w1.heap.size w1 w2 := below_step (by repeat (first | (with_reducible first | exact Below.refl _ _ | apply below_alloc | apply pw_below_drewN | apply below_drew1) | exact Below.refl _ _)) hb; have ho_ := Ro.lower ho (below_size (below_step HB.out (by repeat (first | (with_reducible first | exact Below.refl _ _ | apply below_alloc | apply pw_below_drewN | apply below_drew1) | exact Below.refl _ _)))); clear zBK2_0 zBK2_1 zBK2_2 zBK2_3; have n_R := Aside0.mk (R.out.below hbx); have n_BK2 := Aside0.mk (BK2.out.below hbx); have n_HB := Aside0.mk (below_step HB.out hbx); clear HB R BK2; have R := n_R; have BK2 := n_BK2; have HB := n_HB; clear hbx n_R n_BK2 n_HB; have RV := Aside0.mk (ho_); clear hb; clear ho ho_; have zBK2_0 : w2.cell? ⟨g2, 0, none⟩ = some (.string a0) := (blk_cell BK2.out.blk 0).trans rfl; have zBK2_1 : w2.cell? ⟨g2, 1, none⟩ = some (.slice A1 l1.length c1) := (blk_cell BK2.out.blk 1).trans rfl; have zBK2_2 : w2.cell? ⟨g2, 2, none⟩ = some (.slice A2 l2.length c2) := (blk_cell BK2.out.blk 2).trans rfl; have zBK2_3 : w2.cell? ⟨g2, 3, none⟩ = some (.string a3) := (blk_cell BK2.out.blk 3).trans rfl; refine ⟨_, rfl, ?_⟩))
  go_ret
  exact ⟨_, rfl, RV.out, HB.out⟩
set_option maxHeartbeats 2000000 in
theorem anc_any (w : World) (h : Rg w A1 c1 l1 A2 c2 l2) (hok : okG (es l1) = true) (n : ByteArray) :
    Calls Try.prog 30 #[.agg #[.string a0, .slice A1 l1.length c1, .slice A2 l2.length c2, .string a3], .string n] w fun e w' => ∃ v, e = .returned v ∧ Ro Kd.string 9 w w' v (ancL (es l1) n) ∧ Below w.heap.size w w' := by
  have hmf : ∀ (fn : Fn) (first cap : Array Value) (w : World), (Instr.makeFunc fn first cap).run Try.prog w = .ok (.func fn first cap) w := fun _ _ _ _ => rfl
  have LN : (es l1).length ≤ 1000 := okG_len hok
  have OK := Aside0.mk hok
  have HB := Aside0.mk (Below.refl w.heap.size w)
  have R := Aside0.mk (h)
  clear h hok
  go_enter Try.func30, Try.ntmps30
  go_wp2_with (first | ((with_reducible refine gate_dst (N := 2) rfl ?_); refine box_event ?hg (N := 2) ?hd (cs := #[.string a0, .slice A1 l1.length c1, .slice A2 l2.length c2, .string a3]) (t := 25) ?hr ?_; (case hd => rfl); (case hg => rfl); (case hr => first | (go_simp; done) | (go_simp; rfl)); intro g2 hg w1 hbox hb; have hbx : Below w.heap.size w w1 := below_step (by repeat (first | (with_reducible first | exact Below.refl _ _ | apply below_alloc | apply pw_below_drewN | apply below_drew1) | exact Below.refl _ _)) hb; have n_R := Aside0.mk (R.out.below hbx); have n_HB := Aside0.mk (below_step HB.out hbx); clear HB R; have R := n_R; have HB := n_HB; clear hbx n_R n_HB; have BK2 := Aside0.mk (Bk.mk (hbox : Blk w1 g2 25 #[.string a0, .slice A1 l1.length c1, .slice A2 l2.length c2, .string a3])); clear hbox hg hb; have zBK2_0 : w1.cell? ⟨g2, 0, none⟩ = some (.string a0) := (blk_cell BK2.out.blk 0).trans rfl; have zBK2_1 : w1.cell? ⟨g2, 1, none⟩ = some (.slice A1 l1.length c1) := (blk_cell BK2.out.blk 1).trans rfl; have zBK2_2 : w1.cell? ⟨g2, 2, none⟩ = some (.slice A2 l2.length c2) := (blk_cell BK2.out.blk 2).trans rfl; have zBK2_3 : w1.cell? ⟨g2, 3, none⟩ = some (.string a3) := (blk_cell BK2.out.blk 3).trans rfl) | ((with_reducible refine gate_callee (f := 52) rfl ?_); refine goesL_ (some 8) rfl rfl Try.func52 (by kernel_rfl) rfl #[.agg #[.string a0, .slice A1 l1.length c1, .slice A2 l2.length c2, .string a3], .string n, .func (.func 55) #[] #[.pointer (some ⟨g2, 0, none⟩)]] rfl (by (try simp only [List.map_toArray, List.map_cons, List.map_nil]); first | done | rfl | (simp only [List.length_drop, List.length_take]; rfl)) ?_; (with_reducible refine (gather_any _ (R.out.below (by repeat (first | (with_reducible first | exact Below.refl _ _ | apply below_alloc | apply pw_below_drewN | apply below_drew1) | exact Below.refl _ _))) OK.out (pre_at OK.out (BK2.out.below (by repeat (first | (with_reducible first | exact Below.refl _ _ | apply below_alloc | apply pw_below_drewN | apply below_drew1) | exact Below.refl _ _))) (R.out.below (by repeat (first | (with_reducible first | exact Below.refl _ _ | apply below_alloc | apply pw_below_drewN | apply below_drew1) | exact Below.refl _ _)))) eg_p (fun n hn m hm => pre_in hm) (fun n => pre_len LN n) n).mono ?_); rintro e w2 ⟨v, rfl, ho, hb⟩; have hbx : Below w1.heap.size w1 w2 := below_step (by repeat (first | (with_reducible first | exact Below.refl _ _ | apply below_alloc | apply pw_below_drewN | apply below_drew1) | exact Below.refl _ _)) hb; have ho_ := Ro.lower ho (below_size (below_step HB.out (by repeat (first | (with_reducible first | exact Below.refl _ _ | apply below_alloc | apply pw_below_drewN | apply below_drew1) | exact Below.refl _ _)))); clear zBK2_0 zBK2_1 zBK2_2 zBK2_3; have n_R := Aside0.mk (R.out.below hbx); have n_BK2 := Aside0.mk (BK2.out.below hbx); have n_HB := Aside0.mk (below_step HB.out hbx); clear HB R BK2; have R := n_R; have BK2 := n_BK2; have HB := n_HB; clear hbx n_R n_BK2 n_HB; have RV := Aside0.mk (ho_); clear hb; clear ho ho_; have zBK2_0 : w2.cell? ⟨g2, 0, none⟩ = some (.string a0) := (blk_cell BK2.out.blk 0).trans rfl; have zBK2_1 : w2.cell? ⟨g2, 1, none⟩ = some (.slice A1 l1.length c1) := (blk_cell BK2.out.blk 1).trans rfl; have zBK2_2 : w2.cell? ⟨g2, 2, none⟩ = some (.slice A2 l2.length c2) := (blk_cell BK2.out.blk 2).trans rfl; have zBK2_3 : w2.cell? ⟨g2, 3, none⟩ = some (.string a3) := (blk_cell BK2.out.blk 3).trans rfl; refine ⟨_, rfl, ?_⟩))
  go_ret
  exact ⟨_, rfl, RV.out, HB.out⟩
end
end Go.Proofs.Ytmacdknicgfglaa.Gw
end
section
/- busbarlaw12.alive, walked. -/
namespace Go.Proofs.Ytmacdknicgfglaa.Gw
open Go.RowKit Go.Shelf Go.Proofs.YtmacdknicgfglaaW.PrintWords Go.Proofs.YtmacdknicgfglaaW.PrintMore Go.Proofs.YtmacdknicgfglaaW.PrintLast Go.Proofs.Ytmacdknicgfglaa.Chg Go.Proofs.Ytmacdknicgfglaa.Evt Go.Proofs.Ytmacdknicgfglaa.Impl Go.Proofs.Ytmacdknicgfglaa.Gp Go.Proofs.Ytmacdknicgfglaa.Mp
set_option linter.unusedVariables false
set_option linter.unusedSimpArgs false
set_option maxRecDepth 100000
/-- A contact between two nodes, nothing else told. -/
def mkC (c : Ed) : S41 := ⟨0, ⟨0, 0⟩, c.1, c.2⟩
def cellsE : List Ed → List Value
  | [] => []
  | c :: l => .int .i64 0 :: .int .i64 0 :: .int .i64 0 :: .string c.1 :: .string c.2 :: cellsE l
theorem cellsE_len : ∀ l : List Ed, (cellsE l).length = l.length * 5
  | [] => rfl
  | c :: l => by simp only [cellsE, List.length_cons, cellsE_len l]; omega
theorem cellsE_at : ∀ (l : List Ed) (j : Nat) (c : Ed), l[j]? = some c → ((cellsE l).drop (j * 5)).take 5 = [.int .i64 0, .int .i64 0, .int .i64 0, .string c.1, .string c.2]
  | [], j, c, h => by simp at h
  | d :: l, 0, c, h => by simp at h; subst h; simp [cellsE]
  | d :: l, j + 1, c, h => by
    have h2 := cellsE_at l j c (by simpa using h)
    rw [show (j + 1) * 5 = j * 5 + 5 by omega, ← List.drop_drop]
    simpa [cellsE] using h2
theorem es_mk (l : List Ed) : es (l.map mkC) = l := by simp [es, mkC, Function.comp_def]
theorem Rg.of_blk {w : World} {g : Nat} {l : List Ed} (h : Bk w g 41 (cellsE l).toArray) (hl : l.length ≤ 1000) : Rg w (some ⟨g, 0, none⟩) l.length (l.map mkC) none 0 [] := by
  refine ⟨?_, by simp, Kd.C_nil _ _, Nat.le_refl _⟩
  refine ⟨rfl, by simp; omega, fun _ => ⟨_, rfl, fun j p hp => ?_⟩⟩
  rw [List.getElem?_map] at hp
  obtain ⟨c, hc, rfl⟩ := Option.map_eq_some_iff.1 hp
  refine ⟨_, rfl, k41_mk w (mkC c), fun i u hu => ?_⟩
  have h1 := cellsE_at l j c hc
  have h2 : (cellsE l)[j * 5 + i]? = some u := by
    have h3 : (((cellsE l).drop (j * 5)).take 5)[i]? = some u := by rw [h1]; exact hu
    rw [List.getElem?_take] at h3
    split at h3
    · rw [List.getElem?_drop] at h3; exact h3
    · cases h3
  have h4 := h.blk.cell (j * 5 + i) (v := u) (by simpa using h2)
  show w.cell? (Addr.add ⟨g, 0, none⟩ (j * 5 + i)) = some u
  rw [Addr.add_lit, Nat.zero_add]
  exact h4
section
variable {w w' : World} {A1 A2 : Option Addr} {c1 c2 b n : Nat} {l1 : List S41} {l2 : List S101} {a0 a3 : ByteArray}
theorem topo_any' (w : World) (h : Rg w A1 c1 l1 A2 c2 l2) (hok : okG (es l1) = true) {o : Option (List ByteArray)} (ho : topo (es l1) = o) :
    Calls Try.prog 25 #[.agg #[.string a0, .slice A1 l1.length c1, .slice A2 l2.length c2, .string a3]] w fun e w' => ∃ v, e = .returned (.tuple #[v, .int .i64 (errT o)]) ∧ Ro Kd.string 9 w w' v (o.getD []) ∧ Below w.heap.size w w' := by subst ho; exact topo_any w h hok
theorem nodes_any' (w : World) (h : Rg w A1 c1 l1 A2 c2 l2) (hok : okG (es l1) = true) {o : List ByteArray} (ho : nodesL (es l1) = o) :
    Calls Try.prog 18 #[.agg #[.string a0, .slice A1 l1.length c1, .slice A2 l2.length c2, .string a3]] w fun e w' => ∃ v, e = .returned v ∧ Ro Kd.string 9 w w' v o ∧ Below w.heap.size w w' := by subst ho; exact nodes_any w h hok
end
def sA : ByteArray := ⟨#[97]⟩
def alE : List Ed := [(sL, sA), (sA, sR)]
theorem al_topo : topo (es (alE.map mkC)) = some [sL, sA, sR] := by rw [es_mk]; decide
theorem al_nodes : nodesL (es (alE.map mkC)) = [sL, sR, sA] := by rw [es_mk]; decide
theorem al_ok : okG (es (alE.map mkC)) = true := by rw [es_mk]; decide
/-- A row of plain strings in a block of one's own. -/
theorem Rw.lit {w : World} {g : Nat} {l : List ByteArray} (h : Bk w g 9 (encs Value.string l).toArray) (hl : l.length ≤ 1000) : Rw Kd.string w (some ⟨g, 0, none⟩) l.length l := by
  refine ⟨Nat.le_refl _, Kd.C_of_reads (enc := Value.string) (d := ByteArray.empty) (h1 := fun _ => rfl) ⟨rfl, by omega, fun _ => ⟨_, rfl, fun j hj => ?_⟩⟩⟩
  rw [Addr.add_lit, Nat.zero_add]
  refine h.blk.cell j ?_
  simp [encs, List.getElem?_eq_getElem hj, List.getD_eq_getElem?_getD]
theorem eqS_any (A0 : Option Addr) (c0 : Nat) (l0 : List ByteArray) (A1 : Option Addr) (c1 : Nat) (l1 : List ByteArray) (w : World) (h0 : Rw Kd.string w A0 c0 l0) (h1 : Rw Kd.string w A1 c1 l1) (hn : l0.length ≤ 1000000) {r : Bool} (hr : decide (l0 = l1) = r) :
    Calls Try.prog 17 #[.slice A0 l0.length c0, .slice A1 l1.length c1] w fun e w' => e = .returned (.bool r) ∧ Below w.heap.size w w' := by
  subst hr
  obtain ⟨k, hk⟩ := (Pe.eqS_ev l0 l1 (by omega)).rounds
  exact (slices_Equal_string_string.calls k A0 c0 l0 A1 c1 l1 _ w h0.row h0.cap h1.row h1.cap hk).mono (by rintro e w' ⟨rfl, ⟨n, rfl⟩⟩; exact ⟨rfl, pw_below_drewN (Below.refl _ _) n⟩)
theorem al_topo_call (w : World) {g : Nat} (h : Bk w g 41 #[.int .i64 0, .int .i64 0, .int .i64 0, .string sL, .string sA, .int .i64 0, .int .i64 0, .int .i64 0, .string sA, .string sR]) : Calls Try.prog 25 #[.agg #[.string ⟨#[]⟩, .slice (some ⟨g, 0, none⟩) 2 2, .slice none 0 0, .string ⟨#[]⟩]] w fun e w' => ∃ v, e = .returned (.tuple #[v, .int .i64 0]) ∧ Ro Kd.string 9 w w' v ([⟨#[76]⟩, ⟨#[97]⟩, ⟨#[82]⟩] : List ByteArray) ∧ Below w.heap.size w w' :=
  topo_any' (l1 := alE.map mkC) (l2 := []) (A2 := none) (c2 := 0) w (Rg.of_blk (l := alE) h (by decide)) al_ok al_topo
theorem al_nodes_call (w : World) {g : Nat} (h : Bk w g 41 #[.int .i64 0, .int .i64 0, .int .i64 0, .string sL, .string sA, .int .i64 0, .int .i64 0, .int .i64 0, .string sA, .string sR]) : Calls Try.prog 18 #[.agg #[.string ⟨#[]⟩, .slice (some ⟨g, 0, none⟩) 2 2, .slice none 0 0, .string ⟨#[]⟩]] w fun e w' => ∃ v, e = .returned v ∧ Ro Kd.string 9 w w' v ([⟨#[76]⟩, ⟨#[82]⟩, ⟨#[97]⟩] : List ByteArray) ∧ Below w.heap.size w w' :=
  nodes_any' (l1 := alE.map mkC) (l2 := []) (A2 := none) (c2 := 0) w (Rg.of_blk (l := alE) h (by decide)) al_ok al_nodes
theorem al_eq_call (A0 : Option Addr) (c0 : Nat) (w : World) {g : Nat} (x y z : ByteArray) (h0 : Rw Kd.string w A0 c0 [x, y, z]) (h1 : Bk w g 9 #[.string x, .string y, .string z]) :
    Calls Try.prog 17 #[.slice A0 3 c0, .slice (some ⟨g, 0, none⟩) 3 3] w fun e w' => e = .returned (.bool true) ∧ Below w.heap.size w w' :=
  eqS_any A0 c0 [x, y, z] (some ⟨g, 0, none⟩) 3 [x, y, z] w h0 (Rw.lit (l := [x, y, z]) h1 (by simp)) (by simp) (decide_eq_true rfl)
set_option maxHeartbeats 4000000 in
theorem alive_any (w : World) : Calls Try.prog 16 #[] w fun e w' => e = .returned (.bool true) ∧ Below w.heap.size w w' := by
  have HB := Aside0.mk (Below.refl w.heap.size w)
  go_enter Try.func16, Try.ntmps16
  go_wp2_with (first | ((with_reducible refine gate_dst (N := 6) rfl ?_); refine Evt.slice_event ?hg (N := 6) ?hd (cs := #[.int .i64 0, .int .i64 0, .int .i64 0, .string sL, .string sA, .int .i64 0, .int .i64 0, .int .i64 0, .string sA, .string sR]) (t := 41) (n := 2) ?hr ?_; (case hd => rfl); (case hg => rfl); (case hr => first | (go_simp; done) | (go_simp; rfl)); intro g6 hg w1 hbox hb; have hbx : Below w.heap.size w w1 := below_step (by repeat (first | (with_reducible first | exact Below.refl _ _ | apply below_alloc | apply pw_below_drewN | apply below_drew1) | exact Below.refl _ _)) hb; have n_HB := Aside0.mk (below_step HB.out hbx); clear HB ; have HB := n_HB; clear hbx n_HB; have BK6 := Aside0.mk (Bk.mk (hbox : Blk w1 g6 41 #[.int .i64 0, .int .i64 0, .int .i64 0, .string sL, .string sA, .int .i64 0, .int .i64 0, .int .i64 0, .string sA, .string sR])); clear hbox hg hb; have zBK6_0 : w1.cell? ⟨g6, 0, none⟩ = some (.int .i64 0) := (blk_cell BK6.out.blk 0).trans rfl; have zBK6_1 : w1.cell? ⟨g6, 1, none⟩ = some (.int .i64 0) := (blk_cell BK6.out.blk 1).trans rfl; have zBK6_2 : w1.cell? ⟨g6, 2, none⟩ = some (.int .i64 0) := (blk_cell BK6.out.blk 2).trans rfl; have zBK6_3 : w1.cell? ⟨g6, 3, none⟩ = some (.string sL) := (blk_cell BK6.out.blk 3).trans rfl; have zBK6_4 : w1.cell? ⟨g6, 4, none⟩ = some (.string sA) := (blk_cell BK6.out.blk 4).trans rfl; have zBK6_5 : w1.cell? ⟨g6, 5, none⟩ = some (.int .i64 0) := (blk_cell BK6.out.blk 5).trans rfl; have zBK6_6 : w1.cell? ⟨g6, 6, none⟩ = some (.int .i64 0) := (blk_cell BK6.out.blk 6).trans rfl; have zBK6_7 : w1.cell? ⟨g6, 7, none⟩ = some (.int .i64 0) := (blk_cell BK6.out.blk 7).trans rfl; have zBK6_8 : w1.cell? ⟨g6, 8, none⟩ = some (.string sA) := (blk_cell BK6.out.blk 8).trans rfl; have zBK6_9 : w1.cell? ⟨g6, 9, none⟩ = some (.string sR) := (blk_cell BK6.out.blk 9).trans rfl) | ((with_reducible refine gate_dst (N := 1) rfl ?_); refine Evt.box2 ?hg (N := 1) ?hd (z := #[.string ⟨#[]⟩, .slice none 0 0, .slice none 0 0, .string ⟨#[]⟩]) (cs := #[.string ⟨#[]⟩, .slice (some ⟨g6, 0, none⟩) 2 2, .slice none 0 0, .string ⟨#[]⟩]) (T := 25) ?hr ?hg2 (.tmp 7) ?ho2 ?hd2 ?hy ?hx ?hi ?hz ?h1 ?_; (case hd => rfl); (case hg => rfl); (case hr => first | (go_simp; done) | (go_simp; rfl)); (case hg2 => rfl); (case ho2 => rfl); (case hd2 => rfl); (case hy => first | rfl | (go_simp; done)); (case hx => first | rfl | (go_simp; done)); (case hi => kernel_rfl); (case hz => rfl); (case h1 => first | rfl | (simp [Value.oneCell'])); intro g1 hg w2 hbox hb; have hbx : Below w1.heap.size w1 w2 := below_step (by repeat (first | (with_reducible first | exact Below.refl _ _ | apply below_alloc | apply pw_below_drewN | apply below_drew1) | exact Below.refl _ _)) hb; clear zBK6_0 zBK6_1 zBK6_2 zBK6_3 zBK6_4 zBK6_5 zBK6_6 zBK6_7 zBK6_8 zBK6_9; have n_BK6 := Aside0.mk (BK6.out.below hbx); have n_HB := Aside0.mk (below_step HB.out hbx); clear HB BK6; have BK6 := n_BK6; have HB := n_HB; clear hbx n_BK6 n_HB; have BK1 := Aside0.mk (Bk.mk (hbox : Blk w2 g1 25 #[.string ⟨#[]⟩, .slice (some ⟨g6, 0, none⟩) 2 2, .slice none 0 0, .string ⟨#[]⟩])); clear hbox hg hb; have zBK6_0 : w2.cell? ⟨g6, 0, none⟩ = some (.int .i64 0) := (blk_cell BK6.out.blk 0).trans rfl; have zBK6_1 : w2.cell? ⟨g6, 1, none⟩ = some (.int .i64 0) := (blk_cell BK6.out.blk 1).trans rfl; have zBK6_2 : w2.cell? ⟨g6, 2, none⟩ = some (.int .i64 0) := (blk_cell BK6.out.blk 2).trans rfl; have zBK6_3 : w2.cell? ⟨g6, 3, none⟩ = some (.string sL) := (blk_cell BK6.out.blk 3).trans rfl; have zBK6_4 : w2.cell? ⟨g6, 4, none⟩ = some (.string sA) := (blk_cell BK6.out.blk 4).trans rfl; have zBK6_5 : w2.cell? ⟨g6, 5, none⟩ = some (.int .i64 0) := (blk_cell BK6.out.blk 5).trans rfl; have zBK6_6 : w2.cell? ⟨g6, 6, none⟩ = some (.int .i64 0) := (blk_cell BK6.out.blk 6).trans rfl; have zBK6_7 : w2.cell? ⟨g6, 7, none⟩ = some (.int .i64 0) := (blk_cell BK6.out.blk 7).trans rfl; have zBK6_8 : w2.cell? ⟨g6, 8, none⟩ = some (.string sA) := (blk_cell BK6.out.blk 8).trans rfl; have zBK6_9 : w2.cell? ⟨g6, 9, none⟩ = some (.string sR) := (blk_cell BK6.out.blk 9).trans rfl; have zBK1_0 : w2.cell? ⟨g1, 0, none⟩ = some (.string ⟨#[]⟩) := (blk_cell BK1.out.blk 0).trans rfl; have zBK1_1 : w2.cell? ⟨g1, 1, none⟩ = some (.slice (some ⟨g6, 0, none⟩) 2 2) := (blk_cell BK1.out.blk 1).trans rfl; have zBK1_2 : w2.cell? ⟨g1, 2, none⟩ = some (.slice none 0 0) := (blk_cell BK1.out.blk 2).trans rfl; have zBK1_3 : w2.cell? ⟨g1, 3, none⟩ = some (.string ⟨#[]⟩) := (blk_cell BK1.out.blk 3).trans rfl) | ((with_reducible refine gate_callee (f := 25) rfl ?_); refine goesL_ (some 10) rfl rfl Try.func25 (by kernel_rfl) rfl #[.agg #[.string ⟨#[]⟩, .slice (some ⟨g6, 0, none⟩) 2 2, .slice none 0 0, .string ⟨#[]⟩]] rfl (by (try simp only [List.map_toArray, List.map_cons, List.map_nil]); first | done | rfl | (simp only [List.length_drop, List.length_take]; rfl)) ?_; (with_reducible refine (al_topo_call _ (BK6.out.below (by repeat (first | (with_reducible first | exact Below.refl _ _ | apply below_alloc | apply pw_below_drewN | apply below_drew1) | exact Below.refl _ _)))).mono ?_); rintro e w3 ⟨v, rfl, ho, hb⟩; have hbx : Below w2.heap.size w2 w3 := below_step (by repeat (first | (with_reducible first | exact Below.refl _ _ | apply below_alloc | apply pw_below_drewN | apply below_drew1) | exact Below.refl _ _)) hb; obtain ⟨A_, c_, rfl, hw_⟩ := Ro.sliceS ho; clear zBK6_0 zBK6_1 zBK6_2 zBK6_3 zBK6_4 zBK6_5 zBK6_6 zBK6_7 zBK6_8 zBK6_9 zBK1_0 zBK1_1 zBK1_2 zBK1_3; have n_BK6 := Aside0.mk (BK6.out.below hbx); have n_BK1 := Aside0.mk (BK1.out.below hbx); have n_HB := Aside0.mk (below_step HB.out hbx); clear HB BK6 BK1; have BK6 := n_BK6; have BK1 := n_BK1; have HB := n_HB; clear hbx n_BK6 n_BK1 n_HB; have TW := Aside0.mk (hw_.out); clear hb; clear ho hw_; have zBK6_0 : w3.cell? ⟨g6, 0, none⟩ = some (.int .i64 0) := (blk_cell BK6.out.blk 0).trans rfl; have zBK6_1 : w3.cell? ⟨g6, 1, none⟩ = some (.int .i64 0) := (blk_cell BK6.out.blk 1).trans rfl; have zBK6_2 : w3.cell? ⟨g6, 2, none⟩ = some (.int .i64 0) := (blk_cell BK6.out.blk 2).trans rfl; have zBK6_3 : w3.cell? ⟨g6, 3, none⟩ = some (.string sL) := (blk_cell BK6.out.blk 3).trans rfl; have zBK6_4 : w3.cell? ⟨g6, 4, none⟩ = some (.string sA) := (blk_cell BK6.out.blk 4).trans rfl; have zBK6_5 : w3.cell? ⟨g6, 5, none⟩ = some (.int .i64 0) := (blk_cell BK6.out.blk 5).trans rfl; have zBK6_6 : w3.cell? ⟨g6, 6, none⟩ = some (.int .i64 0) := (blk_cell BK6.out.blk 6).trans rfl; have zBK6_7 : w3.cell? ⟨g6, 7, none⟩ = some (.int .i64 0) := (blk_cell BK6.out.blk 7).trans rfl; have zBK6_8 : w3.cell? ⟨g6, 8, none⟩ = some (.string sA) := (blk_cell BK6.out.blk 8).trans rfl; have zBK6_9 : w3.cell? ⟨g6, 9, none⟩ = some (.string sR) := (blk_cell BK6.out.blk 9).trans rfl; have zBK1_0 : w3.cell? ⟨g1, 0, none⟩ = some (.string ⟨#[]⟩) := (blk_cell BK1.out.blk 0).trans rfl; have zBK1_1 : w3.cell? ⟨g1, 1, none⟩ = some (.slice (some ⟨g6, 0, none⟩) 2 2) := (blk_cell BK1.out.blk 1).trans rfl; have zBK1_2 : w3.cell? ⟨g1, 2, none⟩ = some (.slice none 0 0) := (blk_cell BK1.out.blk 2).trans rfl; have zBK1_3 : w3.cell? ⟨g1, 3, none⟩ = some (.string ⟨#[]⟩) := (blk_cell BK1.out.blk 3).trans rfl; refine ⟨_, rfl, ?_⟩) | (go_at_call 18; (with_reducible refine (al_nodes_call _ (BK6.out.below (by repeat (first | (with_reducible first | exact Below.refl _ _ | apply below_alloc | apply pw_below_drewN | apply below_drew1) | exact Below.refl _ _)))).mono ?_); rintro e w4 ⟨v, rfl, ho, hb⟩; have hbx : Below w3.heap.size w3 w4 := below_step (by repeat (first | (with_reducible first | exact Below.refl _ _ | apply below_alloc | apply pw_below_drewN | apply below_drew1) | exact Below.refl _ _)) hb; obtain ⟨A2_, c2_, rfl, hw_⟩ := Ro.sliceS ho; clear zBK6_0 zBK6_1 zBK6_2 zBK6_3 zBK6_4 zBK6_5 zBK6_6 zBK6_7 zBK6_8 zBK6_9 zBK1_0 zBK1_1 zBK1_2 zBK1_3; have n_BK6 := Aside0.mk (BK6.out.below hbx); have n_BK1 := Aside0.mk (BK1.out.below hbx); have n_TW := Aside0.mk (TW.out.below hbx); have n_HB := Aside0.mk (below_step HB.out hbx); clear HB BK6 BK1 TW; have BK6 := n_BK6; have BK1 := n_BK1; have TW := n_TW; have HB := n_HB; clear hbx n_BK6 n_BK1 n_TW n_HB; have NW := Aside0.mk (hw_.out); clear hb; clear ho hw_; have zBK6_0 : w4.cell? ⟨g6, 0, none⟩ = some (.int .i64 0) := (blk_cell BK6.out.blk 0).trans rfl; have zBK6_1 : w4.cell? ⟨g6, 1, none⟩ = some (.int .i64 0) := (blk_cell BK6.out.blk 1).trans rfl; have zBK6_2 : w4.cell? ⟨g6, 2, none⟩ = some (.int .i64 0) := (blk_cell BK6.out.blk 2).trans rfl; have zBK6_3 : w4.cell? ⟨g6, 3, none⟩ = some (.string sL) := (blk_cell BK6.out.blk 3).trans rfl; have zBK6_4 : w4.cell? ⟨g6, 4, none⟩ = some (.string sA) := (blk_cell BK6.out.blk 4).trans rfl; have zBK6_5 : w4.cell? ⟨g6, 5, none⟩ = some (.int .i64 0) := (blk_cell BK6.out.blk 5).trans rfl; have zBK6_6 : w4.cell? ⟨g6, 6, none⟩ = some (.int .i64 0) := (blk_cell BK6.out.blk 6).trans rfl; have zBK6_7 : w4.cell? ⟨g6, 7, none⟩ = some (.int .i64 0) := (blk_cell BK6.out.blk 7).trans rfl; have zBK6_8 : w4.cell? ⟨g6, 8, none⟩ = some (.string sA) := (blk_cell BK6.out.blk 8).trans rfl; have zBK6_9 : w4.cell? ⟨g6, 9, none⟩ = some (.string sR) := (blk_cell BK6.out.blk 9).trans rfl; have zBK1_0 : w4.cell? ⟨g1, 0, none⟩ = some (.string ⟨#[]⟩) := (blk_cell BK1.out.blk 0).trans rfl; have zBK1_1 : w4.cell? ⟨g1, 1, none⟩ = some (.slice (some ⟨g6, 0, none⟩) 2 2) := (blk_cell BK1.out.blk 1).trans rfl; have zBK1_2 : w4.cell? ⟨g1, 2, none⟩ = some (.slice none 0 0) := (blk_cell BK1.out.blk 2).trans rfl; have zBK1_3 : w4.cell? ⟨g1, 3, none⟩ = some (.string ⟨#[]⟩) := (blk_cell BK1.out.blk 3).trans rfl) | (go_at_call 17; (with_reducible refine (al_eq_call A2_ c2_ _ ⟨#[76]⟩ ⟨#[82]⟩ ⟨#[97]⟩ (NW.out.below (by repeat (first | (with_reducible first | exact Below.refl _ _ | apply below_alloc | apply pw_below_drewN | apply below_drew1) | exact Below.refl _ _))) (Bk.new_eq rfl)).mono ?_); rintro e w5 ⟨rfl, hb⟩; have hbx : Below w4.heap.size w4 w5 := below_step (by repeat (first | (with_reducible first | exact Below.refl _ _ | apply below_alloc | apply pw_below_drewN | apply below_drew1) | exact Below.refl _ _)) hb; clear zBK6_0 zBK6_1 zBK6_2 zBK6_3 zBK6_4 zBK6_5 zBK6_6 zBK6_7 zBK6_8 zBK6_9 zBK1_0 zBK1_1 zBK1_2 zBK1_3; have n_BK6 := Aside0.mk (BK6.out.below hbx); have n_BK1 := Aside0.mk (BK1.out.below hbx); have n_TW := Aside0.mk (TW.out.below hbx); have n_NW := Aside0.mk (NW.out.below hbx); have n_HB := Aside0.mk (below_step HB.out hbx); clear HB BK6 BK1 TW NW; have BK6 := n_BK6; have BK1 := n_BK1; have TW := n_TW; have NW := n_NW; have HB := n_HB; clear hbx n_BK6 n_BK1 n_TW n_NW n_HB; clear hb; have zBK6_0 : w5.cell? ⟨g6, 0, none⟩ = some (.int .i64 0) := (blk_cell BK6.out.blk 0).trans rfl; have zBK6_1 : w5.cell? ⟨g6, 1, none⟩ = some (.int .i64 0) := (blk_cell BK6.out.blk 1).trans rfl; have zBK6_2 : w5.cell? ⟨g6, 2, none⟩ = some (.int .i64 0) := (blk_cell BK6.out.blk 2).trans rfl; have zBK6_3 : w5.cell? ⟨g6, 3, none⟩ = some (.string sL) := (blk_cell BK6.out.blk 3).trans rfl; have zBK6_4 : w5.cell? ⟨g6, 4, none⟩ = some (.string sA) := (blk_cell BK6.out.blk 4).trans rfl; have zBK6_5 : w5.cell? ⟨g6, 5, none⟩ = some (.int .i64 0) := (blk_cell BK6.out.blk 5).trans rfl; have zBK6_6 : w5.cell? ⟨g6, 6, none⟩ = some (.int .i64 0) := (blk_cell BK6.out.blk 6).trans rfl; have zBK6_7 : w5.cell? ⟨g6, 7, none⟩ = some (.int .i64 0) := (blk_cell BK6.out.blk 7).trans rfl; have zBK6_8 : w5.cell? ⟨g6, 8, none⟩ = some (.string sA) := (blk_cell BK6.out.blk 8).trans rfl; have zBK6_9 : w5.cell? ⟨g6, 9, none⟩ = some (.string sR) := (blk_cell BK6.out.blk 9).trans rfl; have zBK1_0 : w5.cell? ⟨g1, 0, none⟩ = some (.string ⟨#[]⟩) := (blk_cell BK1.out.blk 0).trans rfl; have zBK1_1 : w5.cell? ⟨g1, 1, none⟩ = some (.slice (some ⟨g6, 0, none⟩) 2 2) := (blk_cell BK1.out.blk 1).trans rfl; have zBK1_2 : w5.cell? ⟨g1, 2, none⟩ = some (.slice none 0 0) := (blk_cell BK1.out.blk 2).trans rfl; have zBK1_3 : w5.cell? ⟨g1, 3, none⟩ = some (.string ⟨#[]⟩) := (blk_cell BK1.out.blk 3).trans rfl) | (go_at_call 17; (with_reducible refine (al_eq_call A_ c_ _ ⟨#[76]⟩ ⟨#[97]⟩ ⟨#[82]⟩ (TW.out.below (by repeat (first | (with_reducible first | exact Below.refl _ _ | apply below_alloc | apply pw_below_drewN | apply below_drew1) | exact Below.refl _ _))) (Bk.new_eq rfl)).mono ?_); rintro e w6 ⟨rfl, hb⟩; have hbx : Below w5.heap.size w5 w6 := below_step (by repeat (first | (with_reducible first | exact Below.refl _ _ | apply below_alloc | apply pw_below_drewN | apply below_drew1) | exact Below.refl _ _)) hb; clear zBK6_0 zBK6_1 zBK6_2 zBK6_3 zBK6_4 zBK6_5 zBK6_6 zBK6_7 zBK6_8 zBK6_9 zBK1_0 zBK1_1 zBK1_2 zBK1_3; have n_BK6 := Aside0.mk (BK6.out.below hbx); have n_BK1 := Aside0.mk (BK1.out.below hbx); have n_TW := Aside0.mk (TW.out.below hbx); have n_NW := Aside0.mk (NW.out.below hbx); have n_HB := Aside0.mk (below_step HB.out hbx); clear HB BK6 BK1 TW NW; have BK6 := n_BK6; have BK1 := n_BK1; have TW := n_TW; have NW := n_NW; have HB := n_HB; clear hbx n_BK6 n_BK1 n_TW n_NW n_HB; clear hb; have zBK6_0 : w6.cell? ⟨g6, 0, none⟩ = some (.int .i64 0) := (blk_cell BK6.out.blk 0).trans rfl; have zBK6_1 : w6.cell? ⟨g6, 1, none⟩ = some (.int .i64 0) := (blk_cell BK6.out.blk 1).trans rfl; have zBK6_2 : w6.cell? ⟨g6, 2, none⟩ = some (.int .i64 0) := (blk_cell BK6.out.blk 2).trans rfl; have zBK6_3 : w6.cell? ⟨g6, 3, none⟩ = some (.string sL) := (blk_cell BK6.out.blk 3).trans rfl; have zBK6_4 : w6.cell? ⟨g6, 4, none⟩ = some (.string sA) := (blk_cell BK6.out.blk 4).trans rfl; have zBK6_5 : w6.cell? ⟨g6, 5, none⟩ = some (.int .i64 0) := (blk_cell BK6.out.blk 5).trans rfl; have zBK6_6 : w6.cell? ⟨g6, 6, none⟩ = some (.int .i64 0) := (blk_cell BK6.out.blk 6).trans rfl; have zBK6_7 : w6.cell? ⟨g6, 7, none⟩ = some (.int .i64 0) := (blk_cell BK6.out.blk 7).trans rfl; have zBK6_8 : w6.cell? ⟨g6, 8, none⟩ = some (.string sA) := (blk_cell BK6.out.blk 8).trans rfl; have zBK6_9 : w6.cell? ⟨g6, 9, none⟩ = some (.string sR) := (blk_cell BK6.out.blk 9).trans rfl; have zBK1_0 : w6.cell? ⟨g1, 0, none⟩ = some (.string ⟨#[]⟩) := (blk_cell BK1.out.blk 0).trans rfl; have zBK1_1 : w6.cell? ⟨g1, 1, none⟩ = some (.slice (some ⟨g6, 0, none⟩) 2 2) := (blk_cell BK1.out.blk 1).trans rfl; have zBK1_2 : w6.cell? ⟨g1, 2, none⟩ = some (.slice none 0 0) := (blk_cell BK1.out.blk 2).trans rfl; have zBK1_3 : w6.cell? ⟨g1, 3, none⟩ = some (.string ⟨#[]⟩) := (blk_cell BK1.out.blk 3).trans rfl))
  go_ret
  exact ⟨rfl, HB.out⟩
end Go.Proofs.Ytmacdknicgfglaa.Gw
end
section
/- Rows of contacts that a function makes: one more behind the others; a rung of one's own. -/
namespace Go.Proofs.Ytmacdknicgfglaa.Evt
open Go.RowKit Go.Proofs.YtmacdknicgfglaaW.PrintWords Go.Proofs.YtmacdknicgfglaaW.PrintMore Go.Proofs.YtmacdknicgfglaaW.PrintLast Go.Proofs.Ytmacdknicgfglaa.Chg Go.Proofs.Ytmacdknicgfglaa.Mp Go.Proofs.Ytmacdknicgfglaa.Impl
set_option linter.unusedVariables false
section
variable {ops : Array Oper} {rest : List Oper} {o : Oper} {a : Act} {Q : Exit → Act → World → Prop} {W : World}
/-- A cell of a variable is written. -/
theorem setc_ev (hgd : o.guard = none) {g : Nat} (i : Nat) {cs : Array Value} {v : Value} {T : TypeId} (hb : Bk W g T cs)
    (hrun : (execOp a.eval o).run Try.prog W = .ok .skip (W.setCell ⟨g, i, none⟩ v))
    (h : ∀ w1, Bk w1 g T (cs.setIfInBounds i v) → W.grownBy w1 (some g) → wpList Try.prog ops Q rest (a.put o.dst undef) w1) : wpList Try.prog ops Q (o :: rest) a W := by
  refine skip_ev hgd hrun (h _ ⟨Blk.set_ hb.blk i v⟩ ⟨rfl, rfl, rfl, by simp [World.setCell], fun k hk hne => ?_⟩)
  exact Below.heap_setCell W ⟨g, i, none⟩ v k (fun e => hne (by rw [e]))
end
theorem k41_KM {w : World} {base : Nat} {ok : Nat → Prop} {x : S41} {cs : List Value} (h : k41.K w x cs) : k41.M w base ok x cs := by
  rw [k41_open h]
  exact k41_mkM w base ok x
theorem info41 : (Try.prog.info? 41).map (fun i => (i.zero, i.size, i.bytes)) = some (some (.agg #[.int .i64 0, .int .i64 0, .int .i64 0, .string ⟨#[]⟩, .string ⟨#[]⟩]), 5, 56) := by kernel_rfl
section
variable {ops : Array Oper} {rest : List Oper} {o : Oper} {a : Act} {Q : Exit → Act → World → Prop} {w0 W : World}
theorem app41 (hgd : o.guard = none) (s x : Operand) (ho : o.op = .call { callee := .builtin .append, args := #[s, x], argTypes := #[22, 22] }) (v : Value) (xs ys : List S41) (A : Option Addr) (m c : Nat) (hs : a.eval s = v) (hx : a.eval x = .slice A m c)
    (HO : Kd.R k41 41 W w0.heap.size (fun _ => True) v xs) (HC : Kd.C k41 W A m ys) (HB : Below w0.heap.size w0 W) (hl : (xs.length + m) * 56 ≤ 140737488355328)
    (h : ∀ v1 w1, Kd.R k41 41 w1 w0.heap.size (fun _ => True) v1 (xs ++ ys) → Below w0.heap.size w0 w1 → W.grownBy w1 v.ownBlock → (v1.ownBlock = v.ownBlock ∨ ∃ b, v1.ownBlock = some b ∧ W.heap.size ≤ b) → wpList Try.prog ops Q rest (a.put o.dst v1) w1) : wpList Try.prog ops Q (o :: rest) a W :=
  Kd.R_append_rows k41 (Rr := k41.K W) (w0 := w0) w0.heap.size hgd s x 22 41 _ 56 ho Try.underlying22 info41 (by rfl) (by decide) (by decide) v xs ys A m c (fun _ => True) (fun _ => False) hs hx HO HC (fun _ _ hk => k41_KM hk) (fun _ hk => hk.elim) (fun _ _ => trivial) HB HB.size hl h
end
/-- A row of contacts stays while another block is written. -/
theorem row41_other {w w1 : World} {base : Nat} {v : Value} {xs : List S41} {g : Nat} (h : Kd.R k41 41 w base (fun _ => True) v xs) (hg : w.grownBy w1 (some g)) (hne : some g ≠ v.ownBlock) : Kd.R k41 41 w1 base (fun _ => True) v xs := by
  obtain ⟨h1, inner, ho, hr⟩ := h
  refine ⟨h1, inner, own_move ho (fun k hk => hg.block k (own_lt ho k hk) (fun e => hne (by rw [hk, ← e]))), hr.1, fun j p hj => ?_⟩
  have h2 := hr.2 j p hj
  rw [k41_openM h2]
  exact k41_mkM _ _ _ p
/-- A rung that is being made: its contacts so far. -/
structure Rv (w0 w : World) (g : Nat) (v : Value) (xs : List S41) : Prop where
  bel : Below w0.heap.size w0 w
  ge : w0.heap.size ≤ g
  br : Bk w g 25 #[.string ⟨#[]⟩, v, .slice none 0 0, .string ⟨#[]⟩]
  row : Kd.R k41 41 w w0.heap.size (fun _ => True) v xs
theorem Rv.below {w0 w w' : World} {g : Nat} {v : Value} {xs : List S41} (h : Rv w0 w g v xs) (hb : Below w.heap.size w w') : Rv w0 w' g v xs := ⟨below_step h.bel hb, h.ge, h.br.below hb, Kd.R_below h.row hb⟩
/-- The row has grown; the rung does not know of it yet. -/
structure Rn (w0 w : World) (g : Nat) (v v1 : Value) (xs : List S41) : Prop where
  bel : Below w0.heap.size w0 w
  ge : w0.heap.size ≤ g
  br : Bk w g 25 #[.string ⟨#[]⟩, v, .slice none 0 0, .string ⟨#[]⟩]
  row : Kd.R k41 41 w w0.heap.size (fun _ => True) v1 xs
theorem Rv.app {w0 w w1 : World} {g : Nat} {v v1 : Value} {xs ys : List S41} (h : Rv w0 w g v xs) (hr : Kd.R k41 41 w1 w0.heap.size (fun _ => True) v1 ys) (hb : Below w0.heap.size w0 w1) (hg : w.grownBy w1 v.ownBlock) : Rn w0 w1 g v v1 ys := ⟨hb, h.ge, h.br.grown hg (row_ne h.row h.br.blk (by decide)), hr⟩
theorem Rn.set {w0 w w1 : World} {g : Nat} {v v1 : Value} {xs : List S41} (h : Rn w0 w g v v1 xs) (hb : Bk w1 g 25 (#[.string ⟨#[]⟩, v, .slice none 0 0, .string ⟨#[]⟩].setIfInBounds 1 v1)) (hg : w.grownBy w1 (some g)) : Rv w0 w1 g v1 xs := by
  refine ⟨h.bel.grown hg h.bel.size (fun k hk => by cases hk; exact h.ge), h.ge, hb, ?_⟩
  exact row41_other h.row hg (row_ne h.row h.br.blk (by decide))
theorem Rv.at {w0 w : World} {g : Nat} {v : Value} {xs : List S41} (h : Rv w0 w g v xs) : ∃ A c, v = .slice A xs.length c ∧ Aside0 (Gw.Rg w A c xs none 0 []) := by
  obtain ⟨A, c, rfl⟩ := Kd.R_slice h.row
  obtain ⟨h1, h2, h3⟩ := Kd.R_reads' h.row
  exact ⟨A, c, rfl, ⟨h3, h2, Kd.C_nil _ _, Nat.le_refl _⟩⟩
end Go.Proofs.Ytmacdknicgfglaa.Evt
end
section
/- A rung of one's own (no coils) as an argument; the first cells of a row of strings. -/
namespace Go.Proofs.Ytmacdknicgfglaa.Gw
open Go.RowKit Go.Shelf Go.Proofs.YtmacdknicgfglaaW.PrintWords Go.Proofs.YtmacdknicgfglaaW.PrintMore Go.Proofs.YtmacdknicgfglaaW.PrintLast Go.Proofs.Ytmacdknicgfglaa.Chg Go.Proofs.Ytmacdknicgfglaa.Evt Go.Proofs.Ytmacdknicgfglaa.Impl Go.Proofs.Ytmacdknicgfglaa.Gp Go.Proofs.Ytmacdknicgfglaa.Mp
set_option linter.unusedVariables false
set_option linter.unusedSimpArgs false
theorem Rw.atS {w : World} {ad : Addr} {c : Nat} {l : List ByteArray} (h : Rw Kd.string w (some ad) c l) {j : Nat} (hj : j < l.length) : w.cell? (ad.add j) = some (.string l[j]) := by
  obtain ⟨ad', e, x⟩ := Kd.at_string h.row (j : Int) (by omega) (by omega)
  injection e with e
  subst e
  rw [Int.toNat_natCast, show rdOf ByteArray.empty l (j : Int) = l[j] by simp [rdOf, List.getD_eq_getElem?_getD, List.getElem?_eq_getElem hj]] at x
  exact x
theorem Rw.someS {w : World} {A : Option Addr} {c : Nat} {l : List ByteArray} (h : Rw Kd.string w A c l) (hj : 0 < l.length) : ∃ ad, A = some ad := by
  obtain ⟨ad, e, _⟩ := Kd.at_string h.row 0 (by omega) (by omega)
  exact ⟨ad, e⟩
theorem Rw.at0 {w : World} {ad : Addr} {c : Nat} {l : List ByteArray} (h : Rw Kd.string w (some ad) c l) (hj : 0 < l.length) : w.cell? ad = some (.string l[0]) := by
  have := Rw.atS h hj
  simpa [Addr.add] using this
theorem Rw.at1 {w : World} {ad : Addr} {c : Nat} {l : List ByteArray} (h : Rw Kd.string w (some ad) c l) (hj : 1 < l.length) : w.cell? { block := ad.block, off := ad.off + 1 } = some (.string l[1]) := by
  have := Rw.atS h hj
  simpa [Addr.add] using this
section
variable {A1 A2 : Option Addr} {c1 c2 : Nat} {l1 : List S41} {l2 : List S101} {a0 a3 s : ByteArray}
theorem reach_q (w : World) (h : Rg w A1 c1 l1 none 0 []) (hok : okG (es l1) = true) (n : ByteArray) : Calls Try.prog 27 #[.agg #[.string a0, .slice A1 l1.length c1, .slice none 0 0, .string a3], .string n] w fun e w' => ∃ v, e = .returned v ∧ Ro Kd.string 9 w w' v (reachL (es l1) n) ∧ Below w.heap.size w w' := reach_any (a0 := a0) (a3 := a3) (A1 := A1) (c1 := c1) (A2 := none) (c2 := 0) (l1 := l1) (l2 := []) w h hok n
theorem anc_q (w : World) (h : Rg w A1 c1 l1 none 0 []) (hok : okG (es l1) = true) (n : ByteArray) : Calls Try.prog 30 #[.agg #[.string a0, .slice A1 l1.length c1, .slice none 0 0, .string a3], .string n] w fun e w' => ∃ v, e = .returned v ∧ Ro Kd.string 9 w w' v (ancL (es l1) n) ∧ Below w.heap.size w w' := anc_any (a0 := a0) (a3 := a3) (A1 := A1) (c1 := c1) (A2 := none) (c2 := 0) (l1 := l1) (l2 := []) w h hok n
theorem topo_q (w : World) (h : Rg w A1 c1 l1 none 0 []) (hok : okG (es l1) = true) : Calls Try.prog 25 #[.agg #[.string a0, .slice A1 l1.length c1, .slice none 0 0, .string a3]] w fun e w' => ∃ v, e = .returned (.tuple #[v, .int .i64 (errT (topo (es l1)))]) ∧ Ro Kd.string 9 w w' v ((topo (es l1)).getD []) ∧ Below w.heap.size w w' := topo_any (a0 := a0) (a3 := a3) (A1 := A1) (c1 := c1) (A2 := none) (c2 := 0) (l1 := l1) (l2 := []) w h hok
theorem nodes_q (w : World) (h : Rg w A1 c1 l1 none 0 []) (hok : okG (es l1) = true) : Calls Try.prog 18 #[.agg #[.string a0, .slice A1 l1.length c1, .slice none 0 0, .string a3]] w fun e w' => ∃ v, e = .returned v ∧ Ro Kd.string 9 w w' v (nodesL (es l1)) ∧ Below w.heap.size w w' := nodes_any (a0 := a0) (a3 := a3) (A1 := A1) (c1 := c1) (A2 := none) (c2 := 0) (l1 := l1) (l2 := []) w h hok
theorem out_q (w : World) (h : Rg w A1 c1 l1 none 0 []) (hn : l1.length ≤ 1000) (n : ByteArray) : Calls Try.prog 21 #[.agg #[.string a0, .slice A1 l1.length c1, .slice none 0 0, .string a3], .string n] w fun e w' => ∃ v, e = .returned v ∧ Ro (Kd.int .i64) 3 w w' v (outL (es l1) n) ∧ Below w.heap.size w w' := outgoing_any (a0 := a0) (a3 := a3) (A1 := A1) (c1 := c1) (A2 := none) (c2 := 0) (l1 := l1) (l2 := []) w h hn n
theorem in_q (w : World) (h : Rg w A1 c1 l1 none 0 []) (hn : l1.length ≤ 1000) (n : ByteArray) : Calls Try.prog 23 #[.agg #[.string a0, .slice A1 l1.length c1, .slice none 0 0, .string a3], .string n] w fun e w' => ∃ v, e = .returned v ∧ Ro (Kd.int .i64) 3 w w' v (inL (es l1) n) ∧ Below w.heap.size w w' := incoming_any (a0 := a0) (a3 := a3) (A1 := A1) (c1 := c1) (A2 := none) (c2 := 0) (l1 := l1) (l2 := []) w h hn n
end
end Go.Proofs.Ytmacdknicgfglaa.Gw
end
section
/- slices.Backward: its iterator, for every loop body that keeps what lay below a bound. -/
namespace Go.Proofs.Ytmacdknicgfglaa.Gw
open Go.RowKit Go.Shelf Go.Proofs.YtmacdknicgfglaaW.PrintWords Go.Proofs.YtmacdknicgfglaaW.PrintMore Go.Proofs.YtmacdknicgfglaaW.PrintLast Go.Proofs.Ytmacdknicgfglaa.Chg Go.Proofs.Ytmacdknicgfglaa.Evt
set_option linter.unusedVariables false
set_option linter.unusedSimpArgs false
attribute [local go_sem] Oper.semAt_some
/-- A place and the name there. -/
abbrev PN := { x : Int × ByteArray // x.2.size ≤ 100000 }
def encPN (x : PN) : Array Value := #[.int .i64 x.1.1, .string x.1.2]
/-- What has come when k rounds are over. -/
def bk (r : List PN) (k : Nat) : List PN := (r.reverse).take k
/-- The names with their places. -/
def withN (r : List ByteArray) (hr : ∀ x ∈ r, x.size ≤ 100000) : List PN := (List.range r.length).attach.map fun i => ⟨((i.1 : Int), r[i.1]'(List.mem_range.1 i.2)), hr _ (List.getElem_mem _)⟩
theorem withN_len (r : List ByteArray) (hr : ∀ x ∈ r, x.size ≤ 100000) : (withN r hr).length = r.length := by simp [withN]
theorem withN_get (r : List ByteArray) (hr : ∀ x ∈ r, x.size ≤ 100000) {i : Nat} (hi : i < r.length) : (withN r hr)[i]'(by rw [withN_len]; exact hi) = ⟨((i : Int), r[i]), hr _ (List.getElem_mem _)⟩ := by simp [withN]
theorem withN_names (r : List ByteArray) (hr : ∀ x ∈ r, x.size ≤ 100000) : ((withN r hr).reverse.map fun x => x.1.2) = r.reverse := by
  rw [List.map_reverse]
  congr 1
  apply List.ext_getElem
  · simp [withN_len]
  · intro i h1 h2
    rw [List.getElem_map, withN_get r hr h2]
theorem bk_succ {r : List PN} {k : Nat} (h : k < r.length) : bk r (k + 1) = bk r k ++ [r[r.length - 1 - k]'(by omega)] := by
  unfold bk
  rw [List.take_succ_eq_append_getElem (by rw [List.length_reverse]; exact h), List.getElem_reverse]
/-- What a round keeps: all below a bound, and block g. -/
structure Kq (n₀ g : Nat) (W W' : World) : Prop where
  bel : Below n₀ W W'
  at_ : g < W.heap.size → W'.heap[g]? = W.heap[g]?
theorem Kq.refl (n₀ g : Nat) (W : World) : Kq n₀ g W W := ⟨Below.refl _ _, fun _ => rfl⟩
theorem Kq.trans {n₀ g : Nat} {A B C : World} (h : Kq n₀ g A B) (k : Kq n₀ g B C) : Kq n₀ g A C := ⟨h.bel.trans k.bel, fun hg => (k.at_ (Nat.lt_of_lt_of_le hg h.bel.size)).trans (h.at_ hg)⟩
theorem Kq.put {n₀ g : Nat} {w : World} (hn : n₀ ≤ w.heap.size) (hg : g < w.heap.size) (W : World) (l : Nat) (o o' : Obj) (hl : w.heap.size ≤ l) (h : W.heap[l]? = some o) (h1 : o.isCells = false) (h2 : o.isWalk = false) : Kq n₀ g W (W.putObj l o') := ⟨belowK_b hn W l o o' hl h h1 h2, fun _ => World.putObj_heap_other (by omega)⟩
set_option maxRecDepth 100000 in
set_option maxHeartbeats 2000000 in
theorem bw1_in (n : Nat) (hn : 1 ≤ n) (l Bs n₀ : Nat) (A : Option Addr) (c : Nat) (r : List ByteArray) (hr : ∀ x ∈ r, x.size ≤ 100000) (hlen : r.length ≤ 1000000) (J Jx : List PN → World → Prop)
    (hY : ∀ pre x W, J pre W → pre.length < r.length → YieldAt Fence.wide (n - 1) Try.prog l (encPN x) W fun e W' =>
      (e = .returned (.bool true) ∧ J (pre ++ [x]) W' ∧ Kq n₀ Bs W W') ∨ (e = .returned (.bool false) ∧ Jx (pre ++ [x]) W'))
    (W : World) (hBs : Bk W Bs 29 #[.slice A r.length c]) (hc : ∀ W', Kq n₀ Bs W W' → Rw Kd.string W' A c r) (h0 : J [] W) :
    CallsIn Fence.wide n Try.prog 65 #[.func (.yield l) #[] #[], .pointer (some ⟨Bs, 0, none⟩)] W fun e W' => (∃ v, e = .returned v) ∧
      ((∃ ys, ys = (withN r hr).reverse ∧ J ys W') ∨ (∃ pre, pre <+: (withN r hr).reverse ∧ Jx pre W')) := by
  have HC := Aside0.mk hc
  have HR := Aside0.mk hr
  have HL := Aside0.mk (withN_len r hr)
  have HG := Aside0.mk (fun (i : Nat) (hi : i < r.length) => withN_get r hr hi)
  have B0 := Aside0.mk hBs
  obtain ⟨rn, hrn⟩ : ∃ rn, Aside0 (withN r hr = rn) := ⟨_, ⟨rfl⟩⟩
  have HG' : Aside0 (∀ (i : Nat) (hi : i < r.length), ∃ hz : (r[i]).size ≤ 100000, rn[i]? = some ⟨((i : Int), r[i]), hz⟩) := ⟨fun i hi => ⟨hr _ (List.getElem_mem _), by rw [← hrn.out, List.getElem?_eq_getElem (by rw [withN_len]; exact hi), withN_get r hr hi]⟩⟩
  rw [hrn.out] at HL ⊢
  clear hc hr hBs HG hrn HR
  have J0 : J (bk rn 0) W := h0
  refine callsIn_of_wp Try.func65 rfl trivial ?_ rfl
  simp only [Try.ntmps65, List.size_toArray, List.length_cons, List.length_nil, Nat.reduceAdd, Nat.reduceSub, Array.replicate_succ, Array.replicate_zero, List.push_toArray, List.append_toArray, List.nil_append, List.cons_append]
  have hBs := B0.out.blk.cell 0 rfl
  gi_wp2
  clear hBs
  gi_loopw [3] (fun i wr => ∃ k : Nat, k ≤ r.length ∧ i = .int .i64 ((r.length : Int) - 1 - k) ∧ J (bk rn k) wr ∧ Kq n₀ Bs W wr)
    (fun i _ => (intOf i + 1).toNat)
  case atStart => exact ⟨0, Nat.zero_le _, by simp, J0, Kq.refl _ _ _⟩
  case round =>
    obtain ⟨k, hk, rfl, hJs, hnx⟩ := hrel
    by_cases hlt : k < r.length
    · obtain ⟨j, hj⟩ : ∃ j : Nat, r.length = j + 1 + k := ⟨r.length - 1 - k, by omega⟩
      have hjl : j < r.length := by omega
      have e1 : (r.length : Int) - 1 - k = (j : Int) := by omega
      have E2 : Aside0 ((j : Int) - 1 = (r.length : Int) - 1 - ((k + 1 : Nat) : Int)) := ⟨by omega⟩
      have HJ := Aside0.mk hj
      rw [e1]
      clear e1 hj
      have HW := Aside0.mk (HC.out wr hnx)
      obtain ⟨ad, rfl⟩ := Rw.someS HW.out (by omega)
      have x0 := Rw.atS HW.out hjl
      have hBw : wr.cell? ⟨Bs, 0, none⟩ = some (.slice (some ad) r.length c) := Blk.cell ((hnx.at_ B0.out.blk.lt).trans B0.out.blk) 0 rfl
      obtain ⟨hz, hgj⟩ := HG'.out j hjl
      have hyy := hY (bk rn k) ⟨((j : Int), r[j]), hz⟩ wr hJs (by unfold bk; rw [List.length_take, List.length_reverse, HL.out]; omega)
      have hbs : bk rn k ++ [⟨((j : Int), r[j]), hz⟩] = bk rn (k + 1) := by
        rw [bk_succ (by rw [HL.out]; exact hlt)]
        congr 2
        rw [List.getElem?_eq_some_iff] at hgj
        obtain ⟨_, q⟩ := hgj
        rw [← q]
        congr 1
        have := HL.out; have := HJ.out; omega
      have HBS := Aside0.mk hbs
      clear hbs hgj
      obtain ⟨fn, tmps, assign, body, hy, hR⟩ := hyy
      dsimp only [encPN] at hy
      obtain ⟨x, hx⟩ : ∃ x, Aside0 (r[j] = x) := ⟨_, ⟨rfl⟩⟩
      rw [hx.out] at x0 hy
      gi_wp2
      refine hR.mono ?_
      rintro e W3 (⟨rfl, hJ3, hk3⟩ | ⟨rfl, hJx3⟩)
      · rw [HBS.out] at hJ3
        gi_wp2
        go_roundw
        case rel => exact ⟨k + 1, by omega, by rw [← E2.out], hJ3, hnx.trans hk3⟩
        case measure => (simp [intOf]; try omega)
      · rw [HBS.out] at hJx3
        gi_wp2
        refine bodyPost_ret (results_none rfl _ _ _) rfl ?_
        exact ⟨⟨_, rfl⟩, .inr ⟨_, List.take_prefix _ _, hJx3⟩⟩
    · have e1 : (r.length : Int) - 1 - k = -1 := by omega
      have HJ : Aside0 (bk rn k = rn.reverse) := ⟨by unfold bk; rw [List.take_of_length_le]; rw [List.length_reverse, HL.out]; omega⟩
      rw [e1]
      rw [HJ.out] at hJs
      gi_wp2
      go_end0
      exact ⟨⟨_, rfl⟩, .inl ⟨_, rfl, hJs⟩⟩
end Go.Proofs.Ytmacdknicgfglaa.Gw
end
section
/- Plain laws of chapter 12: what the statements say, of the closure. -/
namespace Go.Proofs.Ytmacdknicgfglaa.Gp
set_option linter.unusedVariables false
set_option linter.unusedSimpArgs false
theorem rch_turn {l : List Ed} {a b : ByteArray} (h : Rch (sucL l) a b) : Rch (preL l) b a := by
  induction h with
  | refl => exact .refl
  | step _ hx ih =>
    obtain ⟨c, hc, rfl, rfl⟩ := suc_mem.1 hx
    exact .head (pre_mem.2 ⟨c, hc, rfl, rfl⟩) ih
theorem rch_turn' {l : List Ed} {a b : ByteArray} (h : Rch (preL l) a b) : Rch (sucL l) b a := by
  induction h with
  | refl => exact .refl
  | step _ hx ih =>
    obtain ⟨c, hc, rfl, rfl⟩ := pre_mem.1 hx
    exact .head (suc_mem.2 ⟨c, hc, rfl, rfl⟩) ih
theorem reach_self {l : List Ed} {a : ByteArray} (h : a ∈ nodesL l) : a ∈ reachL l a := reach_mem.2 ⟨h, .refl⟩
theorem reach_anc {l : List Ed} {a b : ByteArray} (ha : a ∈ nodesL l) (hb : b ∈ nodesL l) : a ∈ ancL l b ↔ b ∈ reachL l a := by
  rw [reach_mem, anc_mem]
  exact ⟨fun h => ⟨ha, rch_turn' h.2⟩, fun h => ⟨hb, rch_turn h.2⟩⟩
theorem reach_step {l : List Ed} {a b : ByteArray} (h : b ∈ reachL l a) {i : Int} (hi : i ∈ outL l b) : toE l i ∈ reachL l a := by
  rw [reach_mem] at h ⊢
  exact ⟨h.1, h.2.step (List.mem_map.2 ⟨i, hi, rfl⟩)⟩
end Go.Proofs.Ytmacdknicgfglaa.Gp
end
