/- Several texts of this session in one (merge.py): Impl6, Impl7, Impl8, Pq, Pt, Po, Pa, Cp, Cn, Open, Opz, Op12, Tl. -/
import Derived.Test.YtmacdknicgfglaaMc0
import Derived.Test.YtmacdknicgfglaaMc1
import Derived.Test.YtmacdknicgfglaaWRepsOne
import Derived.Test.YtmacdknicgfglaaWWords
import Derived.WalkKit
import Derived.ProofKit
import Derived.OpenShut
import Derived.ShutString
import Derived.ChangeOld
import Derived.Below
import Derived.SizedLaws
import Derived.Deep.Slices
section
/- Printed by a program of this session (a copy of the kit's print.py, one text for all functions of the seat), with some contracts typed by hand among them: for each Go function a Lean function and a proof that the code comes to its answers. -/
namespace Go.Proofs.Ytmacdknicgfglaa.Impl
open Go.RowKit Go.Proofs.YtmacdknicgfglaaW.PrintWords Go.Proofs.YtmacdknicgfglaaW.PrintLast Go.Proofs.YtmacdknicgfglaaW.PrintMore
attribute [local go_sem] max2_int min2_int max_two min_two
set_option linter.unusedVariables false
set_option linter.unusedSimpArgs false

/-! ### busbarref12_TopoSort: function 28 -/
mutual
def busbarref12_TopoSort.l0 : Nat → List ByteArray → List ByteArray → ByteArray → List (S41) → List (S101) → ByteArray → Option (List ByteArray × Int)
  | 0, _, _, _, _, _, _ => none
  | k + 1, x4, x5, x160000, x160001, x160002, x160003 => if (x5.length : Int) < (x4.length : Int) then (busbarref12_TopoSort.l1 k x4 x5 (-1) 0 x160000 x160001 x160002 x160003) else (some (x5, 0))
def busbarref12_TopoSort.l1 : Nat → List ByteArray → List ByteArray → Int → Int → ByteArray → List (S41) → List (S101) → ByteArray → Option (List ByteArray × Int)
  | 0, _, _, _, _, _, _, _, _ => none
  | k + 1, x4, x5, x6, x7, x160000, x160001, x160002, x160003 => if x7 < (x4.length : Int) then (busbarref12_TopoSort.j2 k x4 x5 x6 x7 (decide (x6 < 0)) x160000 x160001 x160002 x160003) else (busbarref12_TopoSort.j2 k x4 x5 x6 x7 false x160000 x160001 x160002 x160003)
def busbarref12_TopoSort.j2 : Nat → List ByteArray → List ByteArray → Int → Int → Bool → ByteArray → List (S41) → List (S101) → ByteArray → Option (List ByteArray × Int)
  | 0, _, _, _, _, _, _, _, _, _ => none
  | k + 1, x4, x5, x6, x7, x24, x160000, x160001, x160002, x160003 => if x24 = true then (if 0 ≤ x7 then (if x7 < (x4.length : Int) then ((busbarref12_has.f k x5 (rdOf ByteArray.empty x4 x7)).bind fun t168 => (if t168 = true then (busbarref12_TopoSort.l1 k x4 x5 x6 (wrap64 (x7 + 1)) x160000 x160001 x160002 x160003) else (busbarref12_TopoSort.l2 k x4 x5 x6 x7 true 0 x160000 x160001 x160002 x160003))) else (none)) else (none)) else (if x6 < 0 then (some (([] : List ByteArray), 12)) else (if 0 ≤ x6 then (if x6 < (x4.length : Int) then (if x5.length < 8796093022208 then (busbarref12_TopoSort.l0 k x4 (x5 ++ [rdOf ByteArray.empty x4 x6]) x160000 x160001 x160002 x160003) else (none)) else (none)) else (none)))
def busbarref12_TopoSort.l2 : Nat → List ByteArray → List ByteArray → Int → Int → Bool → Int → ByteArray → List (S41) → List (S101) → ByteArray → Option (List ByteArray × Int)
  | 0, _, _, _, _, _, _, _, _, _, _ => none
  | k + 1, x4, x5, x6, x7, x8, x9, x160000, x160001, x160002, x160003 => if x9 < (x160001.length : Int) then (if 0 ≤ x9 then (if 0 ≤ x7 then (if x7 < (x4.length : Int) then (if ((rd_T41 x160001 x9).f3).toList = (rdOf ByteArray.empty x4 x7).toList then ((busbarref12_has.f k x5 ((rd_T41 x160001 x9).f2)).bind fun t172 => (if t172 = true then (busbarref12_TopoSort.l2 k x4 x5 x6 x7 x8 (wrap64 (x9 + 1)) x160000 x160001 x160002 x160003) else (busbarref12_TopoSort.l2 k x4 x5 x6 x7 false (wrap64 (x9 + 1)) x160000 x160001 x160002 x160003))) else (busbarref12_TopoSort.l2 k x4 x5 x6 x7 x8 (wrap64 (x9 + 1)) x160000 x160001 x160002 x160003)) else (none)) else (none)) else (none)) else (if x8 = true then (busbarref12_TopoSort.l1 k x4 x5 x7 (wrap64 (x7 + 1)) x160000 x160001 x160002 x160003) else (busbarref12_TopoSort.l1 k x4 x5 x6 (wrap64 (x7 + 1)) x160000 x160001 x160002 x160003))
end
def busbarref12_TopoSort.f (k : Nat) (a0_0 : ByteArray) (l0_1 : List (S41)) (l0_2 : List (S101)) (a0_3 : ByteArray) : Option (List ByteArray × Int) := (busbarref12_Nodes.f k a0_0 l0_1 l0_2 a0_3).bind fun t160 => (busbarref12_TopoSort.l0 k t160 ([] : List ByteArray) a0_0 l0_1 l0_2 a0_3)
theorem busbarref12_TopoSort.mono_l : ∀ k, (∀ y0 y1 y2 y3 y4 y5, LeO (busbarref12_TopoSort.l0 k y0 y1 y2 y3 y4 y5) (busbarref12_TopoSort.l0 (k + 1) y0 y1 y2 y3 y4 y5)) ∧ (∀ y0 y1 y2 y3 y4 y5 y6 y7, LeO (busbarref12_TopoSort.l1 k y0 y1 y2 y3 y4 y5 y6 y7) (busbarref12_TopoSort.l1 (k + 1) y0 y1 y2 y3 y4 y5 y6 y7)) ∧ (∀ y0 y1 y2 y3 y4 y5 y6 y7 y8, LeO (busbarref12_TopoSort.j2 k y0 y1 y2 y3 y4 y5 y6 y7 y8) (busbarref12_TopoSort.j2 (k + 1) y0 y1 y2 y3 y4 y5 y6 y7 y8)) ∧ (∀ y0 y1 y2 y3 y4 y5 y6 y7 y8 y9, LeO (busbarref12_TopoSort.l2 k y0 y1 y2 y3 y4 y5 y6 y7 y8 y9) (busbarref12_TopoSort.l2 (k + 1) y0 y1 y2 y3 y4 y5 y6 y7 y8 y9))
  | 0 => ⟨fun _ _ _ _ _ _ r h => by simp [busbarref12_TopoSort.l0] at h, fun _ _ _ _ _ _ _ _ r h => by simp [busbarref12_TopoSort.l1] at h, fun _ _ _ _ _ _ _ _ _ r h => by simp [busbarref12_TopoSort.j2] at h, fun _ _ _ _ _ _ _ _ _ _ r h => by simp [busbarref12_TopoSort.l2] at h⟩
  | k + 1 => by
    obtain ⟨ih0, ih1, ih2, ih3⟩ := busbarref12_TopoSort.mono_l k
    refine ⟨?_, ?_, ?_, ?_⟩
    · intro y0 y1 y2 y3 y4 y5
      unfold busbarref12_TopoSort.l0
      repeat' first
      | (with_reducible exact ih0 _ _ _ _ _ _)
      | (with_reducible exact ih1 _ _ _ _ _ _ _ _)
      | (with_reducible exact ih2 _ _ _ _ _ _ _ _ _)
      | (with_reducible exact ih3 _ _ _ _ _ _ _ _ _ _)
      | (with_reducible exact busbarref12_Nodes.mono _ _ _ _ _)
      | (with_reducible exact busbarref12_has.mono _ _ _)
      | (with_reducible exact LeO.refl _)
      | (with_reducible exact LeO.none _)
      | (with_reducible refine LeO.ite ?_ ?_)
      | (with_reducible refine LeO.bind ?_ (fun _ => ?_))
      | exact ih0 _ _ _ _ _ _
      | exact ih1 _ _ _ _ _ _ _ _
      | exact ih2 _ _ _ _ _ _ _ _ _
      | exact ih3 _ _ _ _ _ _ _ _ _ _
      | exact busbarref12_Nodes.mono _ _ _ _ _
      | exact busbarref12_has.mono _ _ _
      | exact LeO.none _
      | refine LeO.ite ?_ ?_
      | refine LeO.bind ?_ (fun _ => ?_)
    · intro y0 y1 y2 y3 y4 y5 y6 y7
      unfold busbarref12_TopoSort.l1
      repeat' first
      | (with_reducible exact ih0 _ _ _ _ _ _)
      | (with_reducible exact ih1 _ _ _ _ _ _ _ _)
      | (with_reducible exact ih2 _ _ _ _ _ _ _ _ _)
      | (with_reducible exact ih3 _ _ _ _ _ _ _ _ _ _)
      | (with_reducible exact busbarref12_Nodes.mono _ _ _ _ _)
      | (with_reducible exact busbarref12_has.mono _ _ _)
      | (with_reducible exact LeO.refl _)
      | (with_reducible exact LeO.none _)
      | (with_reducible refine LeO.ite ?_ ?_)
      | (with_reducible refine LeO.bind ?_ (fun _ => ?_))
      | exact ih0 _ _ _ _ _ _
      | exact ih1 _ _ _ _ _ _ _ _
      | exact ih2 _ _ _ _ _ _ _ _ _
      | exact ih3 _ _ _ _ _ _ _ _ _ _
      | exact busbarref12_Nodes.mono _ _ _ _ _
      | exact busbarref12_has.mono _ _ _
      | exact LeO.none _
      | refine LeO.ite ?_ ?_
      | refine LeO.bind ?_ (fun _ => ?_)
    · intro y0 y1 y2 y3 y4 y5 y6 y7 y8
      unfold busbarref12_TopoSort.j2
      repeat' first
      | (with_reducible exact ih0 _ _ _ _ _ _)
      | (with_reducible exact ih1 _ _ _ _ _ _ _ _)
      | (with_reducible exact ih2 _ _ _ _ _ _ _ _ _)
      | (with_reducible exact ih3 _ _ _ _ _ _ _ _ _ _)
      | (with_reducible exact busbarref12_Nodes.mono _ _ _ _ _)
      | (with_reducible exact busbarref12_has.mono _ _ _)
      | (with_reducible exact LeO.refl _)
      | (with_reducible exact LeO.none _)
      | (with_reducible refine LeO.ite ?_ ?_)
      | (with_reducible refine LeO.bind ?_ (fun _ => ?_))
      | exact ih0 _ _ _ _ _ _
      | exact ih1 _ _ _ _ _ _ _ _
      | exact ih2 _ _ _ _ _ _ _ _ _
      | exact ih3 _ _ _ _ _ _ _ _ _ _
      | exact busbarref12_Nodes.mono _ _ _ _ _
      | exact busbarref12_has.mono _ _ _
      | exact LeO.none _
      | refine LeO.ite ?_ ?_
      | refine LeO.bind ?_ (fun _ => ?_)
    · intro y0 y1 y2 y3 y4 y5 y6 y7 y8 y9
      unfold busbarref12_TopoSort.l2
      repeat' first
      | (with_reducible exact ih0 _ _ _ _ _ _)
      | (with_reducible exact ih1 _ _ _ _ _ _ _ _)
      | (with_reducible exact ih2 _ _ _ _ _ _ _ _ _)
      | (with_reducible exact ih3 _ _ _ _ _ _ _ _ _ _)
      | (with_reducible exact busbarref12_Nodes.mono _ _ _ _ _)
      | (with_reducible exact busbarref12_has.mono _ _ _)
      | (with_reducible exact LeO.refl _)
      | (with_reducible exact LeO.none _)
      | (with_reducible refine LeO.ite ?_ ?_)
      | (with_reducible refine LeO.bind ?_ (fun _ => ?_))
      | exact ih0 _ _ _ _ _ _
      | exact ih1 _ _ _ _ _ _ _ _
      | exact ih2 _ _ _ _ _ _ _ _ _
      | exact ih3 _ _ _ _ _ _ _ _ _ _
      | exact busbarref12_Nodes.mono _ _ _ _ _
      | exact busbarref12_has.mono _ _ _
      | exact LeO.none _
      | refine LeO.ite ?_ ?_
      | refine LeO.bind ?_ (fun _ => ?_)
theorem busbarref12_TopoSort.mono : ∀ a0 a1 a2 a3 k, LeO (busbarref12_TopoSort.f k a0 a1 a2 a3) (busbarref12_TopoSort.f (k + 1) a0 a1 a2 a3) := by
  intro a0 a1 a2 a3 k
  obtain ⟨ih0, ih1, ih2, ih3⟩ := busbarref12_TopoSort.mono_l k
  unfold busbarref12_TopoSort.f
  repeat' first
      | (with_reducible exact ih0 _ _ _ _ _ _)
      | (with_reducible exact ih1 _ _ _ _ _ _ _ _)
      | (with_reducible exact ih2 _ _ _ _ _ _ _ _ _)
      | (with_reducible exact ih3 _ _ _ _ _ _ _ _ _ _)
      | (with_reducible exact busbarref12_Nodes.mono _ _ _ _ _)
      | (with_reducible exact busbarref12_has.mono _ _ _)
      | (with_reducible exact LeO.refl _)
      | (with_reducible exact LeO.none _)
      | (with_reducible refine LeO.ite ?_ ?_)
      | (with_reducible refine LeO.bind ?_ (fun _ => ?_))
      | exact ih0 _ _ _ _ _ _
      | exact ih1 _ _ _ _ _ _ _ _
      | exact ih2 _ _ _ _ _ _ _ _ _
      | exact ih3 _ _ _ _ _ _ _ _ _ _
      | exact busbarref12_Nodes.mono _ _ _ _ _
      | exact busbarref12_has.mono _ _ _
      | exact LeO.none _
      | refine LeO.ite ?_ ?_
      | refine LeO.bind ?_ (fun _ => ?_)
set_option maxHeartbeats 8000000 in
set_option maxRecDepth 100000 in
theorem busbarref12_TopoSort.calls (k : Nat) (a0_0 : ByteArray) (A0_1 : Option Addr) (c0_1 : Nat) (l0_1 : List (S41)) (A0_2 : Option Addr) (c0_2 : Nat) (l0_2 : List (S101)) (a0_3 : ByteArray) (r1 : List ByteArray) (r2 : Int) (w : World) (hr0_1 : Kd.C k41 w A0_1 l0_1.length l0_1) (hc0_1 : l0_1.length ≤ c0_1) (hr0_2 : Kd.C k101 w A0_2 l0_2.length l0_2) (hc0_2 : l0_2.length ≤ c0_2) (h : busbarref12_TopoSort.f k a0_0 l0_1 l0_2 a0_3 = some (r1, r2)) :
    Calls Try.prog 28 #[.agg #[.string a0_0, .slice A0_1 l0_1.length c0_1, .slice A0_2 l0_2.length c0_2, .string a0_3]] w fun e w' => ∃ v0_ : Value, e = .returned (.tuple #[v0_, .int .i64 r2]) ∧ Kd.R Kd.string 9 w' w.heap.size (fun _ => True) v0_ r1 ∧ Below w.heap.size w w' := by
  have hu25 := Try.underlying25
  have HR0_1 := Aside0.mk hr0_1
  have HC0_1 := Aside0.mk hc0_1
  clear hr0_1 hc0_1
  have HR0_2 := Aside0.mk hr0_2
  have HC0_2 := Aside0.mk hc0_2
  clear hr0_2 hc0_2
  have HB := Aside0.mk (Below.refl w.heap.size w)
  have H : ((busbarref12_Nodes.f k a0_0 l0_1 l0_2 a0_3).bind fun t160 => (busbarref12_TopoSort.l0 k t160 ([] : List ByteArray) a0_0 l0_1 l0_2 a0_3)) = some (r1, r2) := h
  clear h
  replace H := Option.bind_eq_some_iff.mp H
  obtain ⟨t160, A20, H⟩ := H
  replace H : (busbarref12_TopoSort.l0 k t160 ([] : List ByteArray) a0_0 l0_1 l0_2 a0_3) = some (r1, r2) := H
  have A2 := Aside0.mk A20
  clear A20
  have H' := Aside0.mk H
  clear H
  go_enter Try.func28, Try.ntmps28
  go_wp2_with (first | ((with_reducible refine gate_dst (N := 1) rfl ?_); refine box_event ?hg (N := 1) ?hd (cs := #[.string a0_0, .slice A0_1 l0_1.length c0_1, .slice A0_2 l0_2.length c0_2, .string a0_3]) (t := 25) ?hr ?_; (case hd => rfl); (case hg => rfl); (case hr => first | (go_simp; done) | (go_simp; rfl)); intro gb159 hg w3 hbox hb; have n0_ := Aside0.mk (below_step (by repeat (first | (with_reducible first | exact HB.out | apply below_alloc | apply pw_below_drewN | apply below_drew1) | exact HB.out)) hb); have n1_ := Aside0.mk (hbox); have n2_ := Aside0.mk ((by rw [hg]; exact (below_size (by repeat (first | (with_reducible first | exact HB.out | apply below_alloc | apply pw_below_drewN | apply below_drew1) | exact HB.out))) : w.heap.size ≤ gb159)); have n3_ := Aside0.mk ((by rw [hg]; exact (below_size (by repeat (first | (with_reducible first | exact HB.out | apply below_alloc | apply pw_below_drewN | apply below_drew1) | exact HB.out))) : w.heap.size ≤ gb159)); clear HB; have HB := n0_; have BK159 := n1_; have GW159 := n2_; have GE159 := n3_; clear n0_ n1_ n2_ n3_; clear hb hbox hg; have hcz4_0 : w3.cell? ⟨gb159, 0, none⟩ = some (.string a0_0) := (blk_cell BK159.out 0).trans rfl; have hcz4_1 : w3.cell? ⟨gb159, 1, none⟩ = some (.slice A0_1 l0_1.length c0_1) := (blk_cell BK159.out 1).trans rfl; have hcz4_2 : w3.cell? ⟨gb159, 2, none⟩ = some (.slice A0_2 l0_2.length c0_2) := (blk_cell BK159.out 2).trans rfl; have hcz4_3 : w3.cell? ⟨gb159, 3, none⟩ = some (.string a0_3) := (blk_cell BK159.out 3).trans rfl; have hfz4_0 := blk_frozen BK159.out 0; have hfz4_1 := blk_frozen BK159.out 1; have hfz4_2 := blk_frozen BK159.out 2; have hfz4_3 := blk_frozen BK159.out 3) | (go_at_call 19; (with_reducible refine (busbarref12_Nodes.calls k a0_0 _ _ l0_1 _ _ l0_2 a0_3 t160 _ ?side1 ?side2 ?side3 ?side4 A2.out).mono ?_); (case side1 => repeat (first | exact (Kd.C_below HR0_1.out HB.out) | (with_reducible refine Kd.C_alloc ?_ _) | (with_reducible refine Kd.C_drewN ?_ _) | (with_reducible refine Kd.C_drew ?_))); (case side2 => exact HC0_1.out); (case side3 => repeat (first | exact (Kd.C_below HR0_2.out HB.out) | (with_reducible refine Kd.C_alloc ?_ _) | (with_reducible refine Kd.C_drewN ?_ _) | (with_reducible refine Kd.C_drew ?_))); (case side4 => exact HC0_2.out); rintro e w5 ⟨v161, rfl, ho0, hb⟩; have n0_ := Aside0.mk (Kd.R_lower ho0 (below_size (by repeat (first | (with_reducible first | exact HB.out | apply below_alloc | apply pw_below_drewN | apply below_drew1 | refine below_set ?_ GE159.out) | exact HB.out)))); have n1_ := Aside0.mk (blk_below (g := gb159) (o := .cells #[.string a0_0, .slice A0_1 l0_1.length c0_1, .slice A0_2 l0_2.length c0_2, .string a0_3] 25 (0, 0)) (by (with_reducible repeat (first | refine blk_drewN ?_ _ | refine blk_drew ?_ | refine blk_alloc ?_ _)); exact BK159.out) hb); have n2_ := Aside0.mk (below_step (by repeat (first | (with_reducible first | exact HB.out | apply below_alloc | apply pw_below_drewN | apply below_drew1 | refine below_set ?_ GE159.out) | exact HB.out)) hb); clear BK159; clear HB; have HO162 := n0_; have BK159 := n1_; have HB := n2_; clear n0_ n1_ n2_; (try clear hb); (try clear hb2); (try clear hk); (try clear hi); (try clear ho0)))
  repeat (go_quiet (first | ((with_reducible refine gate_dst (N := 1) rfl ?_); refine box_event ?hg (N := 1) ?hd (cs := #[.string a0_0, .slice A0_1 l0_1.length c0_1, .slice A0_2 l0_2.length c0_2, .string a0_3]) (t := 25) ?hr ?_; (case hd => rfl); (case hg => rfl); (case hr => first | (go_simp; done) | (go_simp; rfl)); intro gb159 hg w3 hbox hb; have n0_ := Aside0.mk (below_step (by repeat (first | (with_reducible first | exact HB.out | apply below_alloc | apply pw_below_drewN | apply below_drew1) | exact HB.out)) hb); have n1_ := Aside0.mk (hbox); have n2_ := Aside0.mk ((by rw [hg]; exact (below_size (by repeat (first | (with_reducible first | exact HB.out | apply below_alloc | apply pw_below_drewN | apply below_drew1) | exact HB.out))) : w.heap.size ≤ gb159)); have n3_ := Aside0.mk ((by rw [hg]; exact (below_size (by repeat (first | (with_reducible first | exact HB.out | apply below_alloc | apply pw_below_drewN | apply below_drew1) | exact HB.out))) : w.heap.size ≤ gb159)); clear HB; have HB := n0_; have BK159 := n1_; have GW159 := n2_; have GE159 := n3_; clear n0_ n1_ n2_ n3_; clear hb hbox hg; have hcz4_0 : w3.cell? ⟨gb159, 0, none⟩ = some (.string a0_0) := (blk_cell BK159.out 0).trans rfl; have hcz4_1 : w3.cell? ⟨gb159, 1, none⟩ = some (.slice A0_1 l0_1.length c0_1) := (blk_cell BK159.out 1).trans rfl; have hcz4_2 : w3.cell? ⟨gb159, 2, none⟩ = some (.slice A0_2 l0_2.length c0_2) := (blk_cell BK159.out 2).trans rfl; have hcz4_3 : w3.cell? ⟨gb159, 3, none⟩ = some (.string a0_3) := (blk_cell BK159.out 3).trans rfl; have hfz4_0 := blk_frozen BK159.out 0; have hfz4_1 := blk_frozen BK159.out 1; have hfz4_2 := blk_frozen BK159.out 2; have hfz4_3 := blk_frozen BK159.out 3) | (go_at_call 19; (with_reducible refine (busbarref12_Nodes.calls k a0_0 _ _ l0_1 _ _ l0_2 a0_3 t160 _ ?side1 ?side2 ?side3 ?side4 A2.out).mono ?_); (case side1 => repeat (first | exact (Kd.C_below HR0_1.out HB.out) | (with_reducible refine Kd.C_alloc ?_ _) | (with_reducible refine Kd.C_drewN ?_ _) | (with_reducible refine Kd.C_drew ?_))); (case side2 => exact HC0_1.out); (case side3 => repeat (first | exact (Kd.C_below HR0_2.out HB.out) | (with_reducible refine Kd.C_alloc ?_ _) | (with_reducible refine Kd.C_drewN ?_ _) | (with_reducible refine Kd.C_drew ?_))); (case side4 => exact HC0_2.out); rintro e w5 ⟨v161, rfl, ho0, hb⟩; have n0_ := Aside0.mk (Kd.R_lower ho0 (below_size (by repeat (first | (with_reducible first | exact HB.out | apply below_alloc | apply pw_below_drewN | apply below_drew1 | refine below_set ?_ GE159.out) | exact HB.out)))); have n1_ := Aside0.mk (blk_below (g := gb159) (o := .cells #[.string a0_0, .slice A0_1 l0_1.length c0_1, .slice A0_2 l0_2.length c0_2, .string a0_3] 25 (0, 0)) (by (with_reducible repeat (first | refine blk_drewN ?_ _ | refine blk_drew ?_ | refine blk_alloc ?_ _)); exact BK159.out) hb); have n2_ := Aside0.mk (below_step (by repeat (first | (with_reducible first | exact HB.out | apply below_alloc | apply pw_below_drewN | apply below_drew1 | refine below_set ?_ GE159.out) | exact HB.out)) hb); clear BK159; clear HB; have HO162 := n0_; have BK159 := n1_; have HB := n2_; clear n0_ n1_ n2_; (try clear hb); (try clear hb2); (try clear hk); (try clear hi); (try clear ho0))); try go_wp2_with (first | ((with_reducible refine gate_dst (N := 1) rfl ?_); refine box_event ?hg (N := 1) ?hd (cs := #[.string a0_0, .slice A0_1 l0_1.length c0_1, .slice A0_2 l0_2.length c0_2, .string a0_3]) (t := 25) ?hr ?_; (case hd => rfl); (case hg => rfl); (case hr => first | (go_simp; done) | (go_simp; rfl)); intro gb159 hg w3 hbox hb; have n0_ := Aside0.mk (below_step (by repeat (first | (with_reducible first | exact HB.out | apply below_alloc | apply pw_below_drewN | apply below_drew1) | exact HB.out)) hb); have n1_ := Aside0.mk (hbox); have n2_ := Aside0.mk ((by rw [hg]; exact (below_size (by repeat (first | (with_reducible first | exact HB.out | apply below_alloc | apply pw_below_drewN | apply below_drew1) | exact HB.out))) : w.heap.size ≤ gb159)); have n3_ := Aside0.mk ((by rw [hg]; exact (below_size (by repeat (first | (with_reducible first | exact HB.out | apply below_alloc | apply pw_below_drewN | apply below_drew1) | exact HB.out))) : w.heap.size ≤ gb159)); clear HB; have HB := n0_; have BK159 := n1_; have GW159 := n2_; have GE159 := n3_; clear n0_ n1_ n2_ n3_; clear hb hbox hg; have hcz4_0 : w3.cell? ⟨gb159, 0, none⟩ = some (.string a0_0) := (blk_cell BK159.out 0).trans rfl; have hcz4_1 : w3.cell? ⟨gb159, 1, none⟩ = some (.slice A0_1 l0_1.length c0_1) := (blk_cell BK159.out 1).trans rfl; have hcz4_2 : w3.cell? ⟨gb159, 2, none⟩ = some (.slice A0_2 l0_2.length c0_2) := (blk_cell BK159.out 2).trans rfl; have hcz4_3 : w3.cell? ⟨gb159, 3, none⟩ = some (.string a0_3) := (blk_cell BK159.out 3).trans rfl; have hfz4_0 := blk_frozen BK159.out 0; have hfz4_1 := blk_frozen BK159.out 1; have hfz4_2 := blk_frozen BK159.out 2; have hfz4_3 := blk_frozen BK159.out 3) | (go_at_call 19; (with_reducible refine (busbarref12_Nodes.calls k a0_0 _ _ l0_1 _ _ l0_2 a0_3 t160 _ ?side1 ?side2 ?side3 ?side4 A2.out).mono ?_); (case side1 => repeat (first | exact (Kd.C_below HR0_1.out HB.out) | (with_reducible refine Kd.C_alloc ?_ _) | (with_reducible refine Kd.C_drewN ?_ _) | (with_reducible refine Kd.C_drew ?_))); (case side2 => exact HC0_1.out); (case side3 => repeat (first | exact (Kd.C_below HR0_2.out HB.out) | (with_reducible refine Kd.C_alloc ?_ _) | (with_reducible refine Kd.C_drewN ?_ _) | (with_reducible refine Kd.C_drew ?_))); (case side4 => exact HC0_2.out); rintro e w5 ⟨v161, rfl, ho0, hb⟩; have n0_ := Aside0.mk (Kd.R_lower ho0 (below_size (by repeat (first | (with_reducible first | exact HB.out | apply below_alloc | apply pw_below_drewN | apply below_drew1 | refine below_set ?_ GE159.out) | exact HB.out)))); have n1_ := Aside0.mk (blk_below (g := gb159) (o := .cells #[.string a0_0, .slice A0_1 l0_1.length c0_1, .slice A0_2 l0_2.length c0_2, .string a0_3] 25 (0, 0)) (by (with_reducible repeat (first | refine blk_drewN ?_ _ | refine blk_drew ?_ | refine blk_alloc ?_ _)); exact BK159.out) hb); have n2_ := Aside0.mk (below_step (by repeat (first | (with_reducible first | exact HB.out | apply below_alloc | apply pw_below_drewN | apply below_drew1 | refine below_set ?_ GE159.out) | exact HB.out)) hb); clear BK159; clear HB; have HO162 := n0_; have BK159 := n1_; have HB := n2_; clear n0_ n1_ n2_; (try clear hb); (try clear hb2); (try clear hk); (try clear hi); (try clear ho0))))
  go_loopg [5] k (fun kq v5 w' => ∃ (x5_1 : List ByteArray), Aside0 (busbarref12_TopoSort.l0 kq t160 x5_1 a0_0 l0_1 l0_2 a0_3 = some (r1, r2)) ∧ Aside0 (kq ≤ k) ∧ Aside0 (Kd.R Kd.string 9 w' w.heap.size (fun k_ => some k_ ≠ (v5 : Value).ownBlock) v161 t160) ∧ Aside0 (Kd.R Kd.string 9 w' w.heap.size (fun k_ => some k_ ≠ (v161 : Value).ownBlock) v5 x5_1) ∧ Aside0 (w'.heap[gb159]? = some (.cells #[.string a0_0, (.slice A0_1 l0_1.length c0_1), (.slice A0_2 l0_2.length c0_2), .string a0_3] 25 (0, 0))) ∧ Aside0 (Below w.heap.size w w'))
  case atStart => exact ⟨(([] : List ByteArray)), H', ⟨Nat.le_refl _⟩, ⟨by (with_reducible repeat (first | apply Kd.R_alloc | apply Kd.R_drewN | apply Kd.R_drew)); exact Kd.R_mono HO162.out (fun _ hk => (by simp [Value.ownBlock]))⟩, ⟨by first | exact Kd.R_nil _ _ _ _ _ | exact Kd.N_nil _ _ _ _ _ | exact Kd.V_nil _ _ _ _ _ | exact Kd.Q_nil _ _ _ _ _ | exact Kd.S_nil _ _ _ _ _⟩, ⟨by (with_reducible repeat (first | refine blk_drewN ?_ _ | refine blk_drew ?_ | refine blk_alloc ?_ _)); exact BK159.out⟩, ⟨by repeat (first | (with_reducible first | exact HB.out | apply below_alloc | apply pw_below_drewN | apply below_drew1 | refine below_set ?_ GE159.out) | exact HB.out)⟩⟩
  case round =>
    clear H'
    try clear c2
    try clear p2
    try clear hcz4_0
    try clear hcz4_1
    try clear hcz4_2
    try clear hcz4_3
    try clear hfz4_0
    try clear hfz4_1
    try clear hfz4_2
    try clear hfz4_3
    obtain ⟨x5_1, HA, HK1, HO_4, HO_5, BK159, HB⟩ := hrel
    cases gk with
    | zero => exact absurd HA.out (by simp [busbarref12_TopoSort.l0])
    | succ k1 =>
      have H := HA.out
      clear HA
      simp only [busbarref12_TopoSort.l0] at H
      by_cases c6 : (x5_1.length : Int) < (t160.length : Int)
      · rw [if_pos c6] at H
        have c6b0 : decide ((x5_1.length : Int) < (t160.length : Int)) = true := decide_eq_true c6
        have c6b1 : decide (x5_1.length < t160.length) = true := decide_eq_true (Int.ofNat_lt.mp c6)
        clear c6
        have H' := Aside0.mk H
        clear H
        obtain ⟨Ao7, co7, eo7⟩ := Kd.R_slice HO_5.out
        subst eo7
        obtain ⟨Ao8, co8, eo8⟩ := Kd.R_slice HO_4.out
        subst eo8
        go_wp2
        repeat (go_quiet (fail); try go_wp2)
        go_loopg [6, 7] k1 (fun kq v6 v7 w' => ∃ (x6_2 : Int) (x7_2 : Int), v6 = .int .i64 x6_2 ∧ v7 = .int .i64 x7_2 ∧ Aside0 (busbarref12_TopoSort.l1 kq t160 x5_1 x6_2 x7_2 a0_0 l0_1 l0_2 a0_3 = some (r1, r2)) ∧ Aside0 (kq ≤ k1) ∧ Aside0 (Kd.R Kd.string 9 w' w.heap.size (fun k_ => some k_ ≠ ((.slice Ao7 x5_1.length co7) : Value).ownBlock) (.slice Ao8 t160.length co8) t160) ∧ Aside0 (Kd.R Kd.string 9 w' w.heap.size (fun k_ => some k_ ≠ ((.slice Ao8 t160.length co8) : Value).ownBlock) (.slice Ao7 x5_1.length co7) x5_1) ∧ Aside0 (w'.heap[gb159]? = some (.cells #[.string a0_0, (.slice A0_1 l0_1.length c0_1), (.slice A0_2 l0_2.length c0_2), .string a0_3] 25 (0, 0))) ∧ Aside0 (Below w.heap.size w w'))
        case atStart => exact ⟨((-1)), (0), (by first | rfl | (simp; done) | (simp [*]; done)), (by first | rfl | (simp; done) | (simp [*]; done)), H', ⟨Nat.le_refl _⟩, ⟨by (with_reducible repeat (first | apply Kd.R_alloc | apply Kd.R_drewN | apply Kd.R_drew)); exact HO_4.out⟩, ⟨by (with_reducible repeat (first | apply Kd.R_alloc | apply Kd.R_drewN | apply Kd.R_drew)); exact HO_5.out⟩, ⟨by (with_reducible repeat (first | refine blk_drewN ?_ _ | refine blk_drew ?_ | refine blk_alloc ?_ _)); exact BK159.out⟩, ⟨by repeat (first | (with_reducible first | exact HB.out | apply below_alloc | apply pw_below_drewN | apply below_drew1 | refine below_set ?_ GE159.out) | exact HB.out)⟩⟩
        case round =>
          clear H'
          try clear c2
          try clear p2
          try clear c6
          try clear c6b0
          try clear c6b1
          try clear hcz4_0
          try clear hcz4_1
          try clear hcz4_2
          try clear hcz4_3
          try clear hfz4_0
          try clear hfz4_1
          try clear hfz4_2
          try clear hfz4_3
          try clear p2
          obtain ⟨x6_2, x7_2, rfl, rfl, HA, HK2, HO_4, HO_5, BK159, HB⟩ := hrel
          cases gk with
          | zero => exact absurd HA.out (by simp [busbarref12_TopoSort.l1])
          | succ k2 =>
            have H := HA.out
            clear HA
            simp only [busbarref12_TopoSort.l1] at H
            have HC9 := Aside0.mk H
            clear H
            go_upto_region 6 with (fail)
            repeat (go_quiet (fail); go_upto_region 6 with (fail))
            go_cut [24] (fun v24 wc => ∃ (kq : Nat) (x24_8 : Bool), v24 = .bool x24_8 ∧ Aside0 (busbarref12_TopoSort.j2 kq t160 x5_1 x6_2 x7_2 x24_8 a0_0 l0_1 l0_2 a0_3 = some (r1, r2)) ∧ Aside0 (kq ≤ k2) ∧ Aside0 (Kd.R Kd.string 9 wc w.heap.size (fun k_ => some k_ ≠ ((.slice Ao7 x5_1.length co7) : Value).ownBlock) (.slice Ao8 t160.length co8) t160) ∧ Aside0 (Kd.R Kd.string 9 wc w.heap.size (fun k_ => some k_ ≠ ((.slice Ao8 t160.length co8) : Value).ownBlock) (.slice Ao7 x5_1.length co7) x5_1) ∧ Aside0 (wc.heap[gb159]? = some (.cells #[.string a0_0, (.slice A0_1 l0_1.length c0_1), (.slice A0_2 l0_2.length c0_2), .string a0_3] 25 (0, 0))) ∧ Aside0 (Below w.heap.size w wc))
            case first =>
              have H := HC9.out
              clear HC9
              by_cases c10 : x7_2 < (t160.length : Int)
              · rw [if_pos c10] at H
                have c10b0 : decide (x7_2 < (t160.length : Int)) = true := decide_eq_true c10
                clear c10
                (first | rw [c10b0] | (simp only [i64_w, i32_w]; rw [c10b0]) | skip)
                have H' := Aside0.mk H
                clear H
                go_wp2
                repeat (go_quiet (fail); try go_wp2)
                go_meet
                case rel => exact ⟨_, (decide (x6_2 < 0)), (by first | rfl | (simp; done) | (simp [*]; done)), H', ⟨by have := HK1.out; have := HK2.out; first | omega | exact Nat.le_refl _⟩, ⟨by (with_reducible repeat (first | apply Kd.R_alloc | apply Kd.R_drewN | apply Kd.R_drew)); exact HO_4.out⟩, ⟨by (with_reducible repeat (first | apply Kd.R_alloc | apply Kd.R_drewN | apply Kd.R_drew)); exact HO_5.out⟩, ⟨by (with_reducible repeat (first | refine blk_drewN ?_ _ | refine blk_drew ?_ | refine blk_alloc ?_ _)); exact BK159.out⟩, ⟨by repeat (first | (with_reducible first | exact HB.out | apply below_alloc | apply pw_below_drewN | apply below_drew1 | refine below_set ?_ GE159.out) | exact HB.out)⟩⟩
              · rw [if_neg c10] at H
                have c10b0 : decide (x7_2 < (t160.length : Int)) = false := decide_eq_false c10
                clear c10
                (first | rw [c10b0] | (simp only [i64_w, i32_w]; rw [c10b0]) | skip)
                have H' := Aside0.mk H
                clear H
                go_wp2
                repeat (go_quiet (fail); try go_wp2)
                go_meet
                case rel => exact ⟨_, (false), (by first | rfl | (simp; done) | (simp [*]; done)), H', ⟨by have := HK1.out; have := HK2.out; first | omega | exact Nat.le_refl _⟩, ⟨by (with_reducible repeat (first | apply Kd.R_alloc | apply Kd.R_drewN | apply Kd.R_drew)); exact HO_4.out⟩, ⟨by (with_reducible repeat (first | apply Kd.R_alloc | apply Kd.R_drewN | apply Kd.R_drew)); exact HO_5.out⟩, ⟨by (with_reducible repeat (first | refine blk_drewN ?_ _ | refine blk_drew ?_ | refine blk_alloc ?_ _)); exact BK159.out⟩, ⟨by repeat (first | (with_reducible first | exact HB.out | apply below_alloc | apply pw_below_drewN | apply below_drew1 | refine below_set ?_ GE159.out) | exact HB.out)⟩⟩
            case rest =>
              clear HC9
              try clear c1
              try clear c2
              try clear p2
              try clear c6
              try clear c6b0
              try clear c6b1
              try clear c10
              try clear c10b0
              try clear hcz4_0
              try clear hcz4_1
              try clear hcz4_2
              try clear hcz4_3
              try clear hfz4_0
              try clear hfz4_1
              try clear hfz4_2
              try clear hfz4_3
              try clear p2
              obtain ⟨kq, x24_8, rfl, HA, HJ8, HO_4, HO_5, BK159, HB⟩ := hcut
              cases kq with
              | zero => exact absurd HA.out (by simp [busbarref12_TopoSort.j2])
              | succ kj8 =>
                have H := HA.out
                clear HA
                simp only [busbarref12_TopoSort.j2] at H
                by_cases c11 : x24_8 = true
                · subst c11
                  have H1 : (if 0 ≤ x7_2 then (if x7_2 < (t160.length : Int) then ((busbarref12_has.f kj8 x5_1 (rdOf ByteArray.empty t160 x7_2)).bind fun t168 => (if t168 = true then (busbarref12_TopoSort.l1 kj8 t160 x5_1 x6_2 (wrap64 (x7_2 + 1)) a0_0 l0_1 l0_2 a0_3) else (busbarref12_TopoSort.l2 kj8 t160 x5_1 x6_2 x7_2 true 0 a0_0 l0_1 l0_2 a0_3))) else (none)) else (none)) = some (r1, r2) := by rw [if_pos rfl] at H; exact H
                  clear H
                  have H := H1
                  clear H1
                  by_cases c12 : 0 ≤ x7_2
                  · rw [if_pos c12] at H
                    have c12b0 : decide (0 ≤ x7_2) = true := decide_eq_true c12
                    clear c12
                    by_cases c13 : x7_2 < (t160.length : Int)
                    · rw [if_pos c13] at H
                      have c13b0 : decide (x7_2 < (t160.length : Int)) = true := decide_eq_true c13
                      clear c13
                      replace H := Option.bind_eq_some_iff.mp H
                      obtain ⟨t168, A140, H⟩ := H
                      replace H : (if t168 = true then (busbarref12_TopoSort.l1 kj8 t160 x5_1 x6_2 (wrap64 (x7_2 + 1)) a0_0 l0_1 l0_2 a0_3) else (busbarref12_TopoSort.l2 kj8 t160 x5_1 x6_2 x7_2 true 0 a0_0 l0_1 l0_2 a0_3)) = some (r1, r2) := H
                      have A14 := Aside0.mk A140
                      clear A140
                      by_cases c15 : t168 = true
                      · subst c15
                        have H1 : (busbarref12_TopoSort.l1 kj8 t160 x5_1 x6_2 (wrap64 (x7_2 + 1)) a0_0 l0_1 l0_2 a0_3) = some (r1, r2) := by rw [if_pos rfl] at H; exact H
                        clear H
                        have H := H1
                        clear H1
                        have H' := Aside0.mk H
                        clear H
                        have p167 : 0 ≤ (x7_2 : Int) := of_decide_eq_true (by first | (with_reducible assumption) | assumption)
                        have q167 : x7_2 < (t160.length : Int) := of_decide_eq_true (by first | (with_reducible assumption) | assumption)
                        obtain ⟨ad167, e167, hx167_0⟩ := Kd.at_string (Kd.R_reads' HO_4.out).2.2 x7_2 p167 q167
                        cases e167
                        replace p167 := eq_true p167
                        replace q167 := eq_true q167
                        go_wp2_with (first | (go_at_call 42; (with_reducible refine (busbarref12_has.calls kj8 _ _ x5_1 (rdOf ByteArray.empty t160 x7_2) true _ ?side1 ?side2 A14.out).mono ?_); (case side1 => repeat (first | exact (Kd.R_reads' HO_5.out).2.2 | (with_reducible refine Kd.C_alloc ?_ _) | (with_reducible refine Kd.C_drewN ?_ _) | (with_reducible refine Kd.C_drew ?_))); (case side2 => exact (Kd.R_reads' HO_5.out).2.1); rintro e w' ⟨rfl, ⟨nd, rfl⟩⟩; (try first | exact ⟨rfl, _, World.drewN_drewN _ _ _⟩ | exact ⟨rfl, _, Eq.trans (World.drewN_drewN _ _ _) (congrArg (World.drewN _) (Nat.add_assoc _ _ _))⟩)))
                        repeat (go_quiet (first | (go_at_call 42; (with_reducible refine (busbarref12_has.calls kj8 _ _ x5_1 (rdOf ByteArray.empty t160 x7_2) true _ ?side1 ?side2 A14.out).mono ?_); (case side1 => repeat (first | exact (Kd.R_reads' HO_5.out).2.2 | (with_reducible refine Kd.C_alloc ?_ _) | (with_reducible refine Kd.C_drewN ?_ _) | (with_reducible refine Kd.C_drew ?_))); (case side2 => exact (Kd.R_reads' HO_5.out).2.1); rintro e w' ⟨rfl, ⟨nd, rfl⟩⟩; (try first | exact ⟨rfl, _, World.drewN_drewN _ _ _⟩ | exact ⟨rfl, _, Eq.trans (World.drewN_drewN _ _ _) (congrArg (World.drewN _) (Nat.add_assoc _ _ _))⟩))); try go_wp2_with (first | (go_at_call 42; (with_reducible refine (busbarref12_has.calls kj8 _ _ x5_1 (rdOf ByteArray.empty t160 x7_2) true _ ?side1 ?side2 A14.out).mono ?_); (case side1 => repeat (first | exact (Kd.R_reads' HO_5.out).2.2 | (with_reducible refine Kd.C_alloc ?_ _) | (with_reducible refine Kd.C_drewN ?_ _) | (with_reducible refine Kd.C_drew ?_))); (case side2 => exact (Kd.R_reads' HO_5.out).2.1); rintro e w' ⟨rfl, ⟨nd, rfl⟩⟩; (try first | exact ⟨rfl, _, World.drewN_drewN _ _ _⟩ | exact ⟨rfl, _, Eq.trans (World.drewN_drewN _ _ _) (congrArg (World.drewN _) (Nat.add_assoc _ _ _))⟩))))
                        go_roundg kj8
                        case measure => have := HK1.out; have := HK2.out; have := HJ8.out; omega
                        case rel => exact ⟨(x6_2), (wrap64 (x7_2 + 1)), (by first | rfl | (simp; done) | (simp [*]; done)), (by first | rfl | (simp; done) | (simp [*]; done)), H', ⟨by have := HK1.out; have := HK2.out; have := HJ8.out; omega⟩, ⟨by (with_reducible repeat (first | apply Kd.R_alloc | apply Kd.R_drewN | apply Kd.R_drew)); exact HO_4.out⟩, ⟨by (with_reducible repeat (first | apply Kd.R_alloc | apply Kd.R_drewN | apply Kd.R_drew)); exact HO_5.out⟩, ⟨by (with_reducible repeat (first | refine blk_drewN ?_ _ | refine blk_drew ?_ | refine blk_alloc ?_ _)); exact BK159.out⟩, ⟨by repeat (first | (with_reducible first | exact HB.out | apply below_alloc | apply pw_below_drewN | apply below_drew1 | refine below_set ?_ GE159.out) | exact HB.out)⟩⟩
                      · replace c15 := Bool.eq_false_iff.mpr c15
                        subst c15
                        have H1 : (busbarref12_TopoSort.l2 kj8 t160 x5_1 x6_2 x7_2 true 0 a0_0 l0_1 l0_2 a0_3) = some (r1, r2) := by rw [if_neg (show ¬ (false = true) by decide)] at H; exact H
                        clear H
                        have H := H1
                        clear H1
                        have H' := Aside0.mk H
                        clear H
                        have p167 : 0 ≤ (x7_2 : Int) := of_decide_eq_true (by first | (with_reducible assumption) | assumption)
                        have q167 : x7_2 < (t160.length : Int) := of_decide_eq_true (by first | (with_reducible assumption) | assumption)
                        obtain ⟨ad167, e167, hx167_0⟩ := Kd.at_string (Kd.R_reads' HO_4.out).2.2 x7_2 p167 q167
                        cases e167
                        replace p167 := eq_true p167
                        replace q167 := eq_true q167
                        go_wp2_with (first | (go_at_call 42; (with_reducible refine (busbarref12_has.calls kj8 _ _ x5_1 (rdOf ByteArray.empty t160 x7_2) false _ ?side1 ?side2 A14.out).mono ?_); (case side1 => repeat (first | exact (Kd.R_reads' HO_5.out).2.2 | (with_reducible refine Kd.C_alloc ?_ _) | (with_reducible refine Kd.C_drewN ?_ _) | (with_reducible refine Kd.C_drew ?_))); (case side2 => exact (Kd.R_reads' HO_5.out).2.1); rintro e w' ⟨rfl, ⟨nd, rfl⟩⟩; (try first | exact ⟨rfl, _, World.drewN_drewN _ _ _⟩ | exact ⟨rfl, _, Eq.trans (World.drewN_drewN _ _ _) (congrArg (World.drewN _) (Nat.add_assoc _ _ _))⟩)))
                        repeat (go_quiet (first | (go_at_call 42; (with_reducible refine (busbarref12_has.calls kj8 _ _ x5_1 (rdOf ByteArray.empty t160 x7_2) false _ ?side1 ?side2 A14.out).mono ?_); (case side1 => repeat (first | exact (Kd.R_reads' HO_5.out).2.2 | (with_reducible refine Kd.C_alloc ?_ _) | (with_reducible refine Kd.C_drewN ?_ _) | (with_reducible refine Kd.C_drew ?_))); (case side2 => exact (Kd.R_reads' HO_5.out).2.1); rintro e w' ⟨rfl, ⟨nd, rfl⟩⟩; (try first | exact ⟨rfl, _, World.drewN_drewN _ _ _⟩ | exact ⟨rfl, _, Eq.trans (World.drewN_drewN _ _ _) (congrArg (World.drewN _) (Nat.add_assoc _ _ _))⟩))); try go_wp2_with (first | (go_at_call 42; (with_reducible refine (busbarref12_has.calls kj8 _ _ x5_1 (rdOf ByteArray.empty t160 x7_2) false _ ?side1 ?side2 A14.out).mono ?_); (case side1 => repeat (first | exact (Kd.R_reads' HO_5.out).2.2 | (with_reducible refine Kd.C_alloc ?_ _) | (with_reducible refine Kd.C_drewN ?_ _) | (with_reducible refine Kd.C_drew ?_))); (case side2 => exact (Kd.R_reads' HO_5.out).2.1); rintro e w' ⟨rfl, ⟨nd, rfl⟩⟩; (try first | exact ⟨rfl, _, World.drewN_drewN _ _ _⟩ | exact ⟨rfl, _, Eq.trans (World.drewN_drewN _ _ _) (congrArg (World.drewN _) (Nat.add_assoc _ _ _))⟩))))
                        go_loopg [8, 9] kj8 (fun kq v8 v9 w' => ∃ (x8_4 : Bool) (x9_4 : Int), v8 = .bool x8_4 ∧ v9 = .int .i64 x9_4 ∧ Aside0 (busbarref12_TopoSort.l2 kq t160 x5_1 x6_2 x7_2 x8_4 x9_4 a0_0 l0_1 l0_2 a0_3 = some (r1, r2)) ∧ Aside0 (kq ≤ kj8) ∧ Aside0 (Kd.R Kd.string 9 w' w.heap.size (fun k_ => some k_ ≠ ((.slice Ao7 x5_1.length co7) : Value).ownBlock) (.slice (some ad167) t160.length co8) t160) ∧ Aside0 (Kd.R Kd.string 9 w' w.heap.size (fun k_ => some k_ ≠ ((.slice (some ad167) t160.length co8) : Value).ownBlock) (.slice Ao7 x5_1.length co7) x5_1) ∧ Aside0 (w'.heap[gb159]? = some (.cells #[.string a0_0, (.slice A0_1 l0_1.length c0_1), (.slice A0_2 l0_2.length c0_2), .string a0_3] 25 (0, 0))) ∧ Aside0 (Below w.heap.size w w'))
                        case atStart => exact ⟨(true), (0), (by first | rfl | (simp; done) | (simp [*]; done)), (by first | rfl | (simp; done) | (simp [*]; done)), H', ⟨Nat.le_refl _⟩, ⟨by (with_reducible repeat (first | apply Kd.R_alloc | apply Kd.R_drewN | apply Kd.R_drew)); exact HO_4.out⟩, ⟨by (with_reducible repeat (first | apply Kd.R_alloc | apply Kd.R_drewN | apply Kd.R_drew)); exact HO_5.out⟩, ⟨by (with_reducible repeat (first | refine blk_drewN ?_ _ | refine blk_drew ?_ | refine blk_alloc ?_ _)); exact BK159.out⟩, ⟨by repeat (first | (with_reducible first | exact HB.out | apply below_alloc | apply pw_below_drewN | apply below_drew1 | refine below_set ?_ GE159.out) | exact HB.out)⟩⟩
                        case round =>
                          clear H'
                          try clear c1
                          try clear p1
                          try clear q1
                          try clear hx1
                          try clear c2
                          try clear p2
                          try clear c6
                          try clear c6b0
                          try clear c6b1
                          try clear p6
                          try clear c10
                          try clear c10b0
                          try clear c11
                          try clear c12
                          try clear c12b0
                          try clear c13
                          try clear c13b0
                          try clear c15
                          try clear hcz4_0
                          try clear hcz4_1
                          try clear hcz4_2
                          try clear hcz4_3
                          try clear hfz4_0
                          try clear hfz4_1
                          try clear hfz4_2
                          try clear hfz4_3
                          try clear hx167_0
                          try clear p167
                          try clear p2
                          try clear q167
                          obtain ⟨x8_4, x9_4, rfl, rfl, HA, HK4, HO_4, HO_5, BK159, HB⟩ := hrel
                          cases gk with
                          | zero => exact absurd HA.out (by simp [busbarref12_TopoSort.l2])
                          | succ k4 =>
                            have H := HA.out
                            clear HA
                            simp only [busbarref12_TopoSort.l2] at H
                            by_cases c16 : x9_4 < (l0_1.length : Int)
                            · rw [if_pos c16] at H
                              have c16b0 : decide (x9_4 < (l0_1.length : Int)) = true := decide_eq_true c16
                              clear c16
                              by_cases c17 : 0 ≤ x9_4
                              · rw [if_pos c17] at H
                                have c17b0 : decide (0 ≤ x9_4) = true := decide_eq_true c17
                                clear c17
                                by_cases c18 : 0 ≤ x7_2
                                · rw [if_pos c18] at H
                                  have c18b0 : decide (0 ≤ x7_2) = true := decide_eq_true c18
                                  clear c18
                                  by_cases c19 : x7_2 < (t160.length : Int)
                                  · rw [if_pos c19] at H
                                    have c19b0 : decide (x7_2 < (t160.length : Int)) = true := decide_eq_true c19
                                    clear c19
                                    by_cases c20 : ((rd_T41 l0_1 x9_4).f3).toList = (rdOf ByteArray.empty t160 x7_2).toList
                                    · rw [if_pos c20] at H
                                      have c20b0 : (((rd_T41 l0_1 x9_4).f3).toList == (rdOf ByteArray.empty t160 x7_2).toList) = true := beq_iff_eq.mpr c20
                                      have c20b1 : (((rd_T41 l0_1 x9_4).f3).toList != (rdOf ByteArray.empty t160 x7_2).toList) = false := bne_eq_false_iff_eq.mpr c20
                                      clear c20
                                      replace H := Option.bind_eq_some_iff.mp H
                                      obtain ⟨t172, A210, H⟩ := H
                                      replace H : (if t172 = true then (busbarref12_TopoSort.l2 k4 t160 x5_1 x6_2 x7_2 x8_4 (wrap64 (x9_4 + 1)) a0_0 l0_1 l0_2 a0_3) else (busbarref12_TopoSort.l2 k4 t160 x5_1 x6_2 x7_2 false (wrap64 (x9_4 + 1)) a0_0 l0_1 l0_2 a0_3)) = some (r1, r2) := H
                                      have A21 := Aside0.mk A210
                                      clear A210
                                      by_cases c22 : t172 = true
                                      · subst c22
                                        have H1 : (busbarref12_TopoSort.l2 k4 t160 x5_1 x6_2 x7_2 x8_4 (wrap64 (x9_4 + 1)) a0_0 l0_1 l0_2 a0_3) = some (r1, r2) := by rw [if_pos rfl] at H; exact H
                                        clear H
                                        have H := H1
                                        clear H1
                                        have H' := Aside0.mk H
                                        clear H
                                        have hcz23_0 : wr.cell? ⟨gb159, 0, none⟩ = some (.string a0_0) := (blk_cell BK159.out 0).trans rfl
                                        have hcz23_1 : wr.cell? ⟨gb159, 1, none⟩ = some (.slice A0_1 l0_1.length c0_1) := (blk_cell BK159.out 1).trans rfl
                                        have hcz23_2 : wr.cell? ⟨gb159, 2, none⟩ = some (.slice A0_2 l0_2.length c0_2) := (blk_cell BK159.out 2).trans rfl
                                        have hcz23_3 : wr.cell? ⟨gb159, 3, none⟩ = some (.string a0_3) := (blk_cell BK159.out 3).trans rfl
                                        have hfz23_0 := blk_frozen BK159.out 0
                                        have hfz23_1 := blk_frozen BK159.out 1
                                        have hfz23_2 := blk_frozen BK159.out 2
                                        have hfz23_3 := blk_frozen BK159.out 3
                                        have p169 : 0 ≤ (x9_4 : Int) := of_decide_eq_true (by first | (with_reducible assumption) | assumption)
                                        have q169 : x9_4 < (l0_1.length : Int) := of_decide_eq_true (by first | (with_reducible assumption) | assumption)
                                        obtain ⟨ad169, e169, hx169_0, hx169_1, hx169_2, hx169_3, hx169_4⟩ := at_T41 HR0_1.out x9_4 p169 q169
                                        cases e169
                                        replace hx169_0 := (HB.out.cell (World.block_lt_of_cell? w _ hx169_0)).trans hx169_0
                                        replace hx169_1 := (HB.out.cell (World.block_lt_of_cell? w _ hx169_1)).trans hx169_1
                                        replace hx169_2 := (HB.out.cell (World.block_lt_of_cell? w _ hx169_2)).trans hx169_2
                                        replace hx169_3 := (HB.out.cell (World.block_lt_of_cell? w _ hx169_3)).trans hx169_3
                                        replace hx169_4 := (HB.out.cell (World.block_lt_of_cell? w _ hx169_4)).trans hx169_4
                                        replace p169 := eq_true p169
                                        replace q169 := eq_true q169
                                        have p170 : 0 ≤ (x7_2 : Int) := of_decide_eq_true (by first | (with_reducible assumption) | assumption)
                                        have q170 : x7_2 < (t160.length : Int) := of_decide_eq_true (by first | (with_reducible assumption) | assumption)
                                        obtain ⟨ad170, e170, hx170_0⟩ := Kd.at_string (Kd.R_reads' HO_4.out).2.2 x7_2 p170 q170
                                        obtain rfl : ad167 = ad170 := (by injection e170)
                                        replace p170 := eq_true p170
                                        replace q170 := eq_true q170
                                        have p171 : 0 ≤ (x9_4 : Int) := of_decide_eq_true (by first | (with_reducible assumption) | assumption)
                                        have q171 : x9_4 < (l0_1.length : Int) := of_decide_eq_true (by first | (with_reducible assumption) | assumption)
                                        obtain ⟨ad171, e171, hx171_0, hx171_1, hx171_2, hx171_3, hx171_4⟩ := at_T41 HR0_1.out x9_4 p171 q171
                                        obtain rfl : ad169 = ad171 := (by injection e171)
                                        replace hx171_0 := (HB.out.cell (World.block_lt_of_cell? w _ hx171_0)).trans hx171_0
                                        replace hx171_1 := (HB.out.cell (World.block_lt_of_cell? w _ hx171_1)).trans hx171_1
                                        replace hx171_2 := (HB.out.cell (World.block_lt_of_cell? w _ hx171_2)).trans hx171_2
                                        replace hx171_3 := (HB.out.cell (World.block_lt_of_cell? w _ hx171_3)).trans hx171_3
                                        replace hx171_4 := (HB.out.cell (World.block_lt_of_cell? w _ hx171_4)).trans hx171_4
                                        replace p171 := eq_true p171
                                        replace q171 := eq_true q171
                                        go_wp2_with (first | (go_at_call 42; (with_reducible refine (busbarref12_has.calls k4 _ _ x5_1 ((rd_T41 l0_1 x9_4).f2) true _ ?side1 ?side2 A21.out).mono ?_); (case side1 => repeat (first | exact (Kd.R_reads' HO_5.out).2.2 | (with_reducible refine Kd.C_alloc ?_ _) | (with_reducible refine Kd.C_drewN ?_ _) | (with_reducible refine Kd.C_drew ?_))); (case side2 => exact (Kd.R_reads' HO_5.out).2.1); rintro e w' ⟨rfl, ⟨nd, rfl⟩⟩; (try first | exact ⟨rfl, _, World.drewN_drewN _ _ _⟩ | exact ⟨rfl, _, Eq.trans (World.drewN_drewN _ _ _) (congrArg (World.drewN _) (Nat.add_assoc _ _ _))⟩)))
                                        repeat (go_quiet (first | (go_at_call 42; (with_reducible refine (busbarref12_has.calls k4 _ _ x5_1 ((rd_T41 l0_1 x9_4).f2) true _ ?side1 ?side2 A21.out).mono ?_); (case side1 => repeat (first | exact (Kd.R_reads' HO_5.out).2.2 | (with_reducible refine Kd.C_alloc ?_ _) | (with_reducible refine Kd.C_drewN ?_ _) | (with_reducible refine Kd.C_drew ?_))); (case side2 => exact (Kd.R_reads' HO_5.out).2.1); rintro e w' ⟨rfl, ⟨nd, rfl⟩⟩; (try first | exact ⟨rfl, _, World.drewN_drewN _ _ _⟩ | exact ⟨rfl, _, Eq.trans (World.drewN_drewN _ _ _) (congrArg (World.drewN _) (Nat.add_assoc _ _ _))⟩))); try go_wp2_with (first | (go_at_call 42; (with_reducible refine (busbarref12_has.calls k4 _ _ x5_1 ((rd_T41 l0_1 x9_4).f2) true _ ?side1 ?side2 A21.out).mono ?_); (case side1 => repeat (first | exact (Kd.R_reads' HO_5.out).2.2 | (with_reducible refine Kd.C_alloc ?_ _) | (with_reducible refine Kd.C_drewN ?_ _) | (with_reducible refine Kd.C_drew ?_))); (case side2 => exact (Kd.R_reads' HO_5.out).2.1); rintro e w' ⟨rfl, ⟨nd, rfl⟩⟩; (try first | exact ⟨rfl, _, World.drewN_drewN _ _ _⟩ | exact ⟨rfl, _, Eq.trans (World.drewN_drewN _ _ _) (congrArg (World.drewN _) (Nat.add_assoc _ _ _))⟩))))
                                        go_roundg k4
                                        case measure => have := HK1.out; have := HK2.out; have := HJ8.out; have := HK4.out; omega
                                        case rel => exact ⟨(x8_4), (wrap64 (x9_4 + 1)), (by first | rfl | (simp; done) | (simp [*]; done)), (by first | rfl | (simp; done) | (simp [*]; done)), H', ⟨by have := HK1.out; have := HK2.out; have := HJ8.out; have := HK4.out; omega⟩, ⟨by (with_reducible repeat (first | apply Kd.R_alloc | apply Kd.R_drewN | apply Kd.R_drew)); exact HO_4.out⟩, ⟨by (with_reducible repeat (first | apply Kd.R_alloc | apply Kd.R_drewN | apply Kd.R_drew)); exact HO_5.out⟩, ⟨by (with_reducible repeat (first | refine blk_drewN ?_ _ | refine blk_drew ?_ | refine blk_alloc ?_ _)); exact BK159.out⟩, ⟨by repeat (first | (with_reducible first | exact HB.out | apply below_alloc | apply pw_below_drewN | apply below_drew1 | refine below_set ?_ GE159.out) | exact HB.out)⟩⟩
                                      · replace c22 := Bool.eq_false_iff.mpr c22
                                        subst c22
                                        have H1 : (busbarref12_TopoSort.l2 k4 t160 x5_1 x6_2 x7_2 false (wrap64 (x9_4 + 1)) a0_0 l0_1 l0_2 a0_3) = some (r1, r2) := by rw [if_neg (show ¬ (false = true) by decide)] at H; exact H
                                        clear H
                                        have H := H1
                                        clear H1
                                        have H' := Aside0.mk H
                                        clear H
                                        have hcz24_0 : wr.cell? ⟨gb159, 0, none⟩ = some (.string a0_0) := (blk_cell BK159.out 0).trans rfl
                                        have hcz24_1 : wr.cell? ⟨gb159, 1, none⟩ = some (.slice A0_1 l0_1.length c0_1) := (blk_cell BK159.out 1).trans rfl
                                        have hcz24_2 : wr.cell? ⟨gb159, 2, none⟩ = some (.slice A0_2 l0_2.length c0_2) := (blk_cell BK159.out 2).trans rfl
                                        have hcz24_3 : wr.cell? ⟨gb159, 3, none⟩ = some (.string a0_3) := (blk_cell BK159.out 3).trans rfl
                                        have hfz24_0 := blk_frozen BK159.out 0
                                        have hfz24_1 := blk_frozen BK159.out 1
                                        have hfz24_2 := blk_frozen BK159.out 2
                                        have hfz24_3 := blk_frozen BK159.out 3
                                        have p169 : 0 ≤ (x9_4 : Int) := of_decide_eq_true (by first | (with_reducible assumption) | assumption)
                                        have q169 : x9_4 < (l0_1.length : Int) := of_decide_eq_true (by first | (with_reducible assumption) | assumption)
                                        obtain ⟨ad169, e169, hx169_0, hx169_1, hx169_2, hx169_3, hx169_4⟩ := at_T41 HR0_1.out x9_4 p169 q169
                                        cases e169
                                        replace hx169_0 := (HB.out.cell (World.block_lt_of_cell? w _ hx169_0)).trans hx169_0
                                        replace hx169_1 := (HB.out.cell (World.block_lt_of_cell? w _ hx169_1)).trans hx169_1
                                        replace hx169_2 := (HB.out.cell (World.block_lt_of_cell? w _ hx169_2)).trans hx169_2
                                        replace hx169_3 := (HB.out.cell (World.block_lt_of_cell? w _ hx169_3)).trans hx169_3
                                        replace hx169_4 := (HB.out.cell (World.block_lt_of_cell? w _ hx169_4)).trans hx169_4
                                        replace p169 := eq_true p169
                                        replace q169 := eq_true q169
                                        have p170 : 0 ≤ (x7_2 : Int) := of_decide_eq_true (by first | (with_reducible assumption) | assumption)
                                        have q170 : x7_2 < (t160.length : Int) := of_decide_eq_true (by first | (with_reducible assumption) | assumption)
                                        obtain ⟨ad170, e170, hx170_0⟩ := Kd.at_string (Kd.R_reads' HO_4.out).2.2 x7_2 p170 q170
                                        obtain rfl : ad167 = ad170 := (by injection e170)
                                        replace p170 := eq_true p170
                                        replace q170 := eq_true q170
                                        have p171 : 0 ≤ (x9_4 : Int) := of_decide_eq_true (by first | (with_reducible assumption) | assumption)
                                        have q171 : x9_4 < (l0_1.length : Int) := of_decide_eq_true (by first | (with_reducible assumption) | assumption)
                                        obtain ⟨ad171, e171, hx171_0, hx171_1, hx171_2, hx171_3, hx171_4⟩ := at_T41 HR0_1.out x9_4 p171 q171
                                        obtain rfl : ad169 = ad171 := (by injection e171)
                                        replace hx171_0 := (HB.out.cell (World.block_lt_of_cell? w _ hx171_0)).trans hx171_0
                                        replace hx171_1 := (HB.out.cell (World.block_lt_of_cell? w _ hx171_1)).trans hx171_1
                                        replace hx171_2 := (HB.out.cell (World.block_lt_of_cell? w _ hx171_2)).trans hx171_2
                                        replace hx171_3 := (HB.out.cell (World.block_lt_of_cell? w _ hx171_3)).trans hx171_3
                                        replace hx171_4 := (HB.out.cell (World.block_lt_of_cell? w _ hx171_4)).trans hx171_4
                                        replace p171 := eq_true p171
                                        replace q171 := eq_true q171
                                        go_wp2_with (first | (go_at_call 42; (with_reducible refine (busbarref12_has.calls k4 _ _ x5_1 ((rd_T41 l0_1 x9_4).f2) false _ ?side1 ?side2 A21.out).mono ?_); (case side1 => repeat (first | exact (Kd.R_reads' HO_5.out).2.2 | (with_reducible refine Kd.C_alloc ?_ _) | (with_reducible refine Kd.C_drewN ?_ _) | (with_reducible refine Kd.C_drew ?_))); (case side2 => exact (Kd.R_reads' HO_5.out).2.1); rintro e w' ⟨rfl, ⟨nd, rfl⟩⟩; (try first | exact ⟨rfl, _, World.drewN_drewN _ _ _⟩ | exact ⟨rfl, _, Eq.trans (World.drewN_drewN _ _ _) (congrArg (World.drewN _) (Nat.add_assoc _ _ _))⟩)))
                                        repeat (go_quiet (first | (go_at_call 42; (with_reducible refine (busbarref12_has.calls k4 _ _ x5_1 ((rd_T41 l0_1 x9_4).f2) false _ ?side1 ?side2 A21.out).mono ?_); (case side1 => repeat (first | exact (Kd.R_reads' HO_5.out).2.2 | (with_reducible refine Kd.C_alloc ?_ _) | (with_reducible refine Kd.C_drewN ?_ _) | (with_reducible refine Kd.C_drew ?_))); (case side2 => exact (Kd.R_reads' HO_5.out).2.1); rintro e w' ⟨rfl, ⟨nd, rfl⟩⟩; (try first | exact ⟨rfl, _, World.drewN_drewN _ _ _⟩ | exact ⟨rfl, _, Eq.trans (World.drewN_drewN _ _ _) (congrArg (World.drewN _) (Nat.add_assoc _ _ _))⟩))); try go_wp2_with (first | (go_at_call 42; (with_reducible refine (busbarref12_has.calls k4 _ _ x5_1 ((rd_T41 l0_1 x9_4).f2) false _ ?side1 ?side2 A21.out).mono ?_); (case side1 => repeat (first | exact (Kd.R_reads' HO_5.out).2.2 | (with_reducible refine Kd.C_alloc ?_ _) | (with_reducible refine Kd.C_drewN ?_ _) | (with_reducible refine Kd.C_drew ?_))); (case side2 => exact (Kd.R_reads' HO_5.out).2.1); rintro e w' ⟨rfl, ⟨nd, rfl⟩⟩; (try first | exact ⟨rfl, _, World.drewN_drewN _ _ _⟩ | exact ⟨rfl, _, Eq.trans (World.drewN_drewN _ _ _) (congrArg (World.drewN _) (Nat.add_assoc _ _ _))⟩))))
                                        go_roundg k4
                                        case measure => have := HK1.out; have := HK2.out; have := HJ8.out; have := HK4.out; omega
                                        case rel => exact ⟨(false), (wrap64 (x9_4 + 1)), (by first | rfl | (simp; done) | (simp [*]; done)), (by first | rfl | (simp; done) | (simp [*]; done)), H', ⟨by have := HK1.out; have := HK2.out; have := HJ8.out; have := HK4.out; omega⟩, ⟨by (with_reducible repeat (first | apply Kd.R_alloc | apply Kd.R_drewN | apply Kd.R_drew)); exact HO_4.out⟩, ⟨by (with_reducible repeat (first | apply Kd.R_alloc | apply Kd.R_drewN | apply Kd.R_drew)); exact HO_5.out⟩, ⟨by (with_reducible repeat (first | refine blk_drewN ?_ _ | refine blk_drew ?_ | refine blk_alloc ?_ _)); exact BK159.out⟩, ⟨by repeat (first | (with_reducible first | exact HB.out | apply below_alloc | apply pw_below_drewN | apply below_drew1 | refine below_set ?_ GE159.out) | exact HB.out)⟩⟩
                                    · rw [if_neg c20] at H
                                      have c20b0 : (((rd_T41 l0_1 x9_4).f3).toList == (rdOf ByteArray.empty t160 x7_2).toList) = false := beq_eq_false_iff_ne.mpr c20
                                      have c20b1 : (((rd_T41 l0_1 x9_4).f3).toList != (rdOf ByteArray.empty t160 x7_2).toList) = true := bne_iff_ne.mpr c20
                                      have H' := Aside0.mk H
                                      clear H
                                      have hcz25_0 : wr.cell? ⟨gb159, 0, none⟩ = some (.string a0_0) := (blk_cell BK159.out 0).trans rfl
                                      have hcz25_1 : wr.cell? ⟨gb159, 1, none⟩ = some (.slice A0_1 l0_1.length c0_1) := (blk_cell BK159.out 1).trans rfl
                                      have hcz25_2 : wr.cell? ⟨gb159, 2, none⟩ = some (.slice A0_2 l0_2.length c0_2) := (blk_cell BK159.out 2).trans rfl
                                      have hcz25_3 : wr.cell? ⟨gb159, 3, none⟩ = some (.string a0_3) := (blk_cell BK159.out 3).trans rfl
                                      have hfz25_0 := blk_frozen BK159.out 0
                                      have hfz25_1 := blk_frozen BK159.out 1
                                      have hfz25_2 := blk_frozen BK159.out 2
                                      have hfz25_3 := blk_frozen BK159.out 3
                                      have p169 : 0 ≤ (x9_4 : Int) := of_decide_eq_true (by first | (with_reducible assumption) | assumption)
                                      have q169 : x9_4 < (l0_1.length : Int) := of_decide_eq_true (by first | (with_reducible assumption) | assumption)
                                      obtain ⟨ad169, e169, hx169_0, hx169_1, hx169_2, hx169_3, hx169_4⟩ := at_T41 HR0_1.out x9_4 p169 q169
                                      cases e169
                                      replace hx169_0 := (HB.out.cell (World.block_lt_of_cell? w _ hx169_0)).trans hx169_0
                                      replace hx169_1 := (HB.out.cell (World.block_lt_of_cell? w _ hx169_1)).trans hx169_1
                                      replace hx169_2 := (HB.out.cell (World.block_lt_of_cell? w _ hx169_2)).trans hx169_2
                                      replace hx169_3 := (HB.out.cell (World.block_lt_of_cell? w _ hx169_3)).trans hx169_3
                                      replace hx169_4 := (HB.out.cell (World.block_lt_of_cell? w _ hx169_4)).trans hx169_4
                                      replace p169 := eq_true p169
                                      replace q169 := eq_true q169
                                      have p170 : 0 ≤ (x7_2 : Int) := of_decide_eq_true (by first | (with_reducible assumption) | assumption)
                                      have q170 : x7_2 < (t160.length : Int) := of_decide_eq_true (by first | (with_reducible assumption) | assumption)
                                      obtain ⟨ad170, e170, hx170_0⟩ := Kd.at_string (Kd.R_reads' HO_4.out).2.2 x7_2 p170 q170
                                      obtain rfl : ad167 = ad170 := (by injection e170)
                                      replace p170 := eq_true p170
                                      replace q170 := eq_true q170
                                      go_wp2
                                      repeat (go_quiet (fail); try go_wp2)
                                      go_roundg k4
                                      case measure => have := HK1.out; have := HK2.out; have := HJ8.out; have := HK4.out; omega
                                      case rel => exact ⟨(x8_4), (wrap64 (x9_4 + 1)), (by first | rfl | (simp; done) | (simp [*]; done)), (by first | rfl | (simp; done) | (simp [*]; done)), H', ⟨by have := HK1.out; have := HK2.out; have := HJ8.out; have := HK4.out; omega⟩, ⟨by (with_reducible repeat (first | apply Kd.R_alloc | apply Kd.R_drewN | apply Kd.R_drew)); exact HO_4.out⟩, ⟨by (with_reducible repeat (first | apply Kd.R_alloc | apply Kd.R_drewN | apply Kd.R_drew)); exact HO_5.out⟩, ⟨by (with_reducible repeat (first | refine blk_drewN ?_ _ | refine blk_drew ?_ | refine blk_alloc ?_ _)); exact BK159.out⟩, ⟨by repeat (first | (with_reducible first | exact HB.out | apply below_alloc | apply pw_below_drewN | apply below_drew1 | refine below_set ?_ GE159.out) | exact HB.out)⟩⟩
                                  · rw [if_neg c19] at H
                                    exact absurd H (by simp)
                                · rw [if_neg c18] at H
                                  exact absurd H (by simp)
                              · rw [if_neg c17] at H
                                exact absurd H (by simp)
                            · rw [if_neg c16] at H
                              have c16b0 : decide (x9_4 < (l0_1.length : Int)) = false := decide_eq_false c16
                              clear c16
                              by_cases c26 : x8_4 = true
                              · subst c26
                                have H1 : (busbarref12_TopoSort.l1 k4 t160 x5_1 x7_2 (wrap64 (x7_2 + 1)) a0_0 l0_1 l0_2 a0_3) = some (r1, r2) := by rw [if_pos rfl] at H; exact H
                                clear H
                                have H := H1
                                clear H1
                                have H' := Aside0.mk H
                                clear H
                                have hcz27_0 : wr.cell? ⟨gb159, 0, none⟩ = some (.string a0_0) := (blk_cell BK159.out 0).trans rfl
                                have hcz27_1 : wr.cell? ⟨gb159, 1, none⟩ = some (.slice A0_1 l0_1.length c0_1) := (blk_cell BK159.out 1).trans rfl
                                have hcz27_2 : wr.cell? ⟨gb159, 2, none⟩ = some (.slice A0_2 l0_2.length c0_2) := (blk_cell BK159.out 2).trans rfl
                                have hcz27_3 : wr.cell? ⟨gb159, 3, none⟩ = some (.string a0_3) := (blk_cell BK159.out 3).trans rfl
                                have hfz27_0 := blk_frozen BK159.out 0
                                have hfz27_1 := blk_frozen BK159.out 1
                                have hfz27_2 := blk_frozen BK159.out 2
                                have hfz27_3 := blk_frozen BK159.out 3
                                go_wp2
                                repeat (go_quiet (fail); try go_wp2)
                                go_roundg k4
                                case measure => have := HK1.out; have := HK2.out; have := HJ8.out; have := HK4.out; omega
                                case rel => exact ⟨(x7_2), (wrap64 (x7_2 + 1)), (by first | rfl | (simp; done) | (simp [*]; done)), (by first | rfl | (simp; done) | (simp [*]; done)), H', ⟨by have := HK1.out; have := HK2.out; have := HJ8.out; have := HK4.out; omega⟩, ⟨by (with_reducible repeat (first | apply Kd.R_alloc | apply Kd.R_drewN | apply Kd.R_drew)); exact HO_4.out⟩, ⟨by (with_reducible repeat (first | apply Kd.R_alloc | apply Kd.R_drewN | apply Kd.R_drew)); exact HO_5.out⟩, ⟨by (with_reducible repeat (first | refine blk_drewN ?_ _ | refine blk_drew ?_ | refine blk_alloc ?_ _)); exact BK159.out⟩, ⟨by repeat (first | (with_reducible first | exact HB.out | apply below_alloc | apply pw_below_drewN | apply below_drew1 | refine below_set ?_ GE159.out) | exact HB.out)⟩⟩
                              · replace c26 := Bool.eq_false_iff.mpr c26
                                subst c26
                                have H1 : (busbarref12_TopoSort.l1 k4 t160 x5_1 x6_2 (wrap64 (x7_2 + 1)) a0_0 l0_1 l0_2 a0_3) = some (r1, r2) := by rw [if_neg (show ¬ (false = true) by decide)] at H; exact H
                                clear H
                                have H := H1
                                clear H1
                                have H' := Aside0.mk H
                                clear H
                                have hcz28_0 : wr.cell? ⟨gb159, 0, none⟩ = some (.string a0_0) := (blk_cell BK159.out 0).trans rfl
                                have hcz28_1 : wr.cell? ⟨gb159, 1, none⟩ = some (.slice A0_1 l0_1.length c0_1) := (blk_cell BK159.out 1).trans rfl
                                have hcz28_2 : wr.cell? ⟨gb159, 2, none⟩ = some (.slice A0_2 l0_2.length c0_2) := (blk_cell BK159.out 2).trans rfl
                                have hcz28_3 : wr.cell? ⟨gb159, 3, none⟩ = some (.string a0_3) := (blk_cell BK159.out 3).trans rfl
                                have hfz28_0 := blk_frozen BK159.out 0
                                have hfz28_1 := blk_frozen BK159.out 1
                                have hfz28_2 := blk_frozen BK159.out 2
                                have hfz28_3 := blk_frozen BK159.out 3
                                go_wp2
                                repeat (go_quiet (fail); try go_wp2)
                                go_roundg k4
                                case measure => have := HK1.out; have := HK2.out; have := HJ8.out; have := HK4.out; omega
                                case rel => exact ⟨(x6_2), (wrap64 (x7_2 + 1)), (by first | rfl | (simp; done) | (simp [*]; done)), (by first | rfl | (simp; done) | (simp [*]; done)), H', ⟨by have := HK1.out; have := HK2.out; have := HJ8.out; have := HK4.out; omega⟩, ⟨by (with_reducible repeat (first | apply Kd.R_alloc | apply Kd.R_drewN | apply Kd.R_drew)); exact HO_4.out⟩, ⟨by (with_reducible repeat (first | apply Kd.R_alloc | apply Kd.R_drewN | apply Kd.R_drew)); exact HO_5.out⟩, ⟨by (with_reducible repeat (first | refine blk_drewN ?_ _ | refine blk_drew ?_ | refine blk_alloc ?_ _)); exact BK159.out⟩, ⟨by repeat (first | (with_reducible first | exact HB.out | apply below_alloc | apply pw_below_drewN | apply below_drew1 | refine below_set ?_ GE159.out) | exact HB.out)⟩⟩
                    · rw [if_neg c13] at H
                      exact absurd H (by simp)
                  · rw [if_neg c12] at H
                    exact absurd H (by simp)
                · replace c11 := Bool.eq_false_iff.mpr c11
                  subst c11
                  have H1 : (if x6_2 < 0 then (some (([] : List ByteArray), 12)) else (if 0 ≤ x6_2 then (if x6_2 < (t160.length : Int) then (if x5_1.length < 8796093022208 then (busbarref12_TopoSort.l0 kj8 t160 (x5_1 ++ [rdOf ByteArray.empty t160 x6_2]) a0_0 l0_1 l0_2 a0_3) else (none)) else (none)) else (none))) = some (r1, r2) := by rw [if_neg (show ¬ (false = true) by decide)] at H; exact H
                  clear H
                  have H := H1
                  clear H1
                  by_cases c29 : x6_2 < 0
                  · rw [if_pos c29] at H
                    have c29b0 : decide (x6_2 < 0) = true := decide_eq_true c29
                    clear c29
                    simp only [Option.some.injEq, Prod.mk.injEq] at H
                    obtain ⟨rfl, rfl⟩ := H
                    go_wp2
                    repeat (go_quiet (fail); try go_wp2)
                    go_ret2
                    exact ⟨_, by first | rfl | (simp [errW_none, errW_some] <;> rfl) | (simp [*, errW_none, errW_some] <;> rfl), by first | exact Kd.R_nil _ _ _ _ _ | exact Kd.N_nil _ _ _ _ _ | exact Kd.V_nil _ _ _ _ _ | exact Kd.Q_nil _ _ _ _ _ | exact Kd.S_nil _ _ _ _ _, by repeat (first | (with_reducible first | exact HB.out | apply below_alloc | apply pw_below_drewN | apply below_drew1 | refine below_set ?_ GE159.out) | exact HB.out)⟩
                  · rw [if_neg c29] at H
                    have c29b0 : decide (x6_2 < 0) = false := decide_eq_false c29
                    clear c29
                    by_cases c30 : 0 ≤ x6_2
                    · rw [if_pos c30] at H
                      have c30b0 : decide (0 ≤ x6_2) = true := decide_eq_true c30
                      clear c30
                      by_cases c31 : x6_2 < (t160.length : Int)
                      · rw [if_pos c31] at H
                        have c31b0 : decide (x6_2 < (t160.length : Int)) = true := decide_eq_true c31
                        clear c31
                        by_cases c32 : x5_1.length < 8796093022208
                        · rw [if_pos c32] at H
                          have LMc32 := Aside0.mk c32
                          clear c32
                          obtain ⟨y164, hy164⟩ : ∃ y_ : List ByteArray, y_ = (x5_1 ++ [rdOf ByteArray.empty t160 x6_2]) := ⟨_, rfl⟩
                          replace H : (busbarref12_TopoSort.l0 kj8 t160 y164 a0_0 l0_1 l0_2 a0_3) = some (r1, r2) := by first | (rw [hy164]; with_reducible exact H) | (have H2_ := (Option.bind_some _ _).symm.trans H; rw [hy164]; with_reducible exact H2_) | (have H2_ := (Option.bind_some _ _).symm.trans H; with_reducible exact H2_) | with_reducible exact H | (rw [hy164]; exact H) | exact H
                          have Ny164 := Aside0.mk hy164
                          clear hy164
                          have H' := Aside0.mk H
                          clear H
                          have p163 : 0 ≤ (x6_2 : Int) := of_decide_eq_true (by first | (with_reducible assumption) | assumption)
                          have q163 : x6_2 < (t160.length : Int) := of_decide_eq_true (by first | (with_reducible assumption) | assumption)
                          obtain ⟨ad163, e163, hx163_0⟩ := Kd.at_string (Kd.R_reads' HO_4.out).2.2 x6_2 p163 q163
                          cases e163
                          replace p163 := eq_true p163
                          replace q163 := eq_true q163
                          go_wp2_with (first | ((with_reducible refine gate_builtin (b := .append) (xs := #[.tmp 66, .tmp 71]) rfl ?_); at_builtin; refine Kd.R_append Kd.string (w0 := w) w.heap.size rfl (.tmp 66) (.tmp 71) 29 9 (.string ⟨#[]⟩) 16 rfl Try.underlying29 info9 rfl (by decide) (by omega) (.slice Ao7 x5_1.length co7) x5_1 (rdOf ByteArray.empty t160 x6_2) [.string (rdOf ByteArray.empty t160 x6_2)] (fun k_ => some k_ ≠ (.slice (some ad163) t160.length co8 : Value).ownBlock) (fun _ => False) rfl rfl ?aP (fun _ hk => hk.elim) ?aF ?aO ?aB ?aS ?aL ?_; (case aP => exact rfl); (case aB => exact (by repeat (first | (with_reducible first | exact HB.out | apply below_alloc | apply pw_below_drewN | apply below_drew1 | refine below_set ?_ GE159.out) | exact HB.out))); (case aF => exact (fun k_ hk => Kd.fresh' (Kd.R_lt (by (with_reducible repeat (first | apply Kd.R_alloc | apply Kd.R_drewN | apply Kd.R_drew)); exact HO_4.out)) k_ hk)); (case aO => exact (by (with_reducible repeat (first | apply Kd.R_alloc | apply Kd.R_drewN | apply Kd.R_drew)); exact HO_5.out)); (case aS => exact (below_size (by repeat (first | (with_reducible first | exact HB.out | apply below_alloc | apply pw_below_drewN | apply below_drew1 | refine below_set ?_ GE159.out) | exact HB.out)))); (case aL => have := LMc32.out; omega); intro v165 w33 ho hb hg hat; rw [← Ny164.out] at ho; have n0_ := Aside0.mk (Kd.R_after (ok := (fun _ => True)) (by (with_reducible repeat (first | apply Kd.R_alloc | apply Kd.R_drewN | apply Kd.R_drew)); exact Kd.R_mono HO_4.out (fun _ hk => ⟨trivial, hk⟩)) hg hat); have n1_ := Aside0.mk (blk_grown (g := gb159) (o := .cells #[.string a0_0, .slice A0_1 l0_1.length c0_1, .slice A0_2 l0_2.length c0_2, .string a0_3] 25 (0, 0)) (by (with_reducible repeat (first | refine blk_drewN ?_ _ | refine blk_drew ?_ | refine blk_alloc ?_ _)); exact BK159.out) hg (Kd.R_ne HO_5.out BK159.out (by decide))); have n2_ := Aside0.mk (hb); have n3_ := Aside0.mk (ho); clear HO_4; clear BK159; clear HB; clear HO_5; have HO_4 := n0_; have BK159 := n1_; have HB := n2_; have HO166 := n3_; clear n0_ n1_ n2_ n3_; clear ho hb hg hat))
                          repeat (go_quiet (first | ((with_reducible refine gate_builtin (b := .append) (xs := #[.tmp 66, .tmp 71]) rfl ?_); at_builtin; refine Kd.R_append Kd.string (w0 := w) w.heap.size rfl (.tmp 66) (.tmp 71) 29 9 (.string ⟨#[]⟩) 16 rfl Try.underlying29 info9 rfl (by decide) (by omega) (.slice Ao7 x5_1.length co7) x5_1 (rdOf ByteArray.empty t160 x6_2) [.string (rdOf ByteArray.empty t160 x6_2)] (fun k_ => some k_ ≠ (.slice (some ad163) t160.length co8 : Value).ownBlock) (fun _ => False) rfl rfl ?aP (fun _ hk => hk.elim) ?aF ?aO ?aB ?aS ?aL ?_; (case aP => exact rfl); (case aB => exact (by repeat (first | (with_reducible first | exact HB.out | apply below_alloc | apply pw_below_drewN | apply below_drew1 | refine below_set ?_ GE159.out) | exact HB.out))); (case aF => exact (fun k_ hk => Kd.fresh' (Kd.R_lt (by (with_reducible repeat (first | apply Kd.R_alloc | apply Kd.R_drewN | apply Kd.R_drew)); exact HO_4.out)) k_ hk)); (case aO => exact (by (with_reducible repeat (first | apply Kd.R_alloc | apply Kd.R_drewN | apply Kd.R_drew)); exact HO_5.out)); (case aS => exact (below_size (by repeat (first | (with_reducible first | exact HB.out | apply below_alloc | apply pw_below_drewN | apply below_drew1 | refine below_set ?_ GE159.out) | exact HB.out)))); (case aL => have := LMc32.out; omega); intro v165 w33 ho hb hg hat; rw [← Ny164.out] at ho; have n0_ := Aside0.mk (Kd.R_after (ok := (fun _ => True)) (by (with_reducible repeat (first | apply Kd.R_alloc | apply Kd.R_drewN | apply Kd.R_drew)); exact Kd.R_mono HO_4.out (fun _ hk => ⟨trivial, hk⟩)) hg hat); have n1_ := Aside0.mk (blk_grown (g := gb159) (o := .cells #[.string a0_0, .slice A0_1 l0_1.length c0_1, .slice A0_2 l0_2.length c0_2, .string a0_3] 25 (0, 0)) (by (with_reducible repeat (first | refine blk_drewN ?_ _ | refine blk_drew ?_ | refine blk_alloc ?_ _)); exact BK159.out) hg (Kd.R_ne HO_5.out BK159.out (by decide))); have n2_ := Aside0.mk (hb); have n3_ := Aside0.mk (ho); clear HO_4; clear BK159; clear HB; clear HO_5; have HO_4 := n0_; have BK159 := n1_; have HB := n2_; have HO166 := n3_; clear n0_ n1_ n2_ n3_; clear ho hb hg hat)); try go_wp2_with (first | ((with_reducible refine gate_builtin (b := .append) (xs := #[.tmp 66, .tmp 71]) rfl ?_); at_builtin; refine Kd.R_append Kd.string (w0 := w) w.heap.size rfl (.tmp 66) (.tmp 71) 29 9 (.string ⟨#[]⟩) 16 rfl Try.underlying29 info9 rfl (by decide) (by omega) (.slice Ao7 x5_1.length co7) x5_1 (rdOf ByteArray.empty t160 x6_2) [.string (rdOf ByteArray.empty t160 x6_2)] (fun k_ => some k_ ≠ (.slice (some ad163) t160.length co8 : Value).ownBlock) (fun _ => False) rfl rfl ?aP (fun _ hk => hk.elim) ?aF ?aO ?aB ?aS ?aL ?_; (case aP => exact rfl); (case aB => exact (by repeat (first | (with_reducible first | exact HB.out | apply below_alloc | apply pw_below_drewN | apply below_drew1 | refine below_set ?_ GE159.out) | exact HB.out))); (case aF => exact (fun k_ hk => Kd.fresh' (Kd.R_lt (by (with_reducible repeat (first | apply Kd.R_alloc | apply Kd.R_drewN | apply Kd.R_drew)); exact HO_4.out)) k_ hk)); (case aO => exact (by (with_reducible repeat (first | apply Kd.R_alloc | apply Kd.R_drewN | apply Kd.R_drew)); exact HO_5.out)); (case aS => exact (below_size (by repeat (first | (with_reducible first | exact HB.out | apply below_alloc | apply pw_below_drewN | apply below_drew1 | refine below_set ?_ GE159.out) | exact HB.out)))); (case aL => have := LMc32.out; omega); intro v165 w33 ho hb hg hat; rw [← Ny164.out] at ho; have n0_ := Aside0.mk (Kd.R_after (ok := (fun _ => True)) (by (with_reducible repeat (first | apply Kd.R_alloc | apply Kd.R_drewN | apply Kd.R_drew)); exact Kd.R_mono HO_4.out (fun _ hk => ⟨trivial, hk⟩)) hg hat); have n1_ := Aside0.mk (blk_grown (g := gb159) (o := .cells #[.string a0_0, .slice A0_1 l0_1.length c0_1, .slice A0_2 l0_2.length c0_2, .string a0_3] 25 (0, 0)) (by (with_reducible repeat (first | refine blk_drewN ?_ _ | refine blk_drew ?_ | refine blk_alloc ?_ _)); exact BK159.out) hg (Kd.R_ne HO_5.out BK159.out (by decide))); have n2_ := Aside0.mk (hb); have n3_ := Aside0.mk (ho); clear HO_4; clear BK159; clear HB; clear HO_5; have HO_4 := n0_; have BK159 := n1_; have HB := n2_; have HO166 := n3_; clear n0_ n1_ n2_ n3_; clear ho hb hg hat)))
                          go_roundg kj8
                          case measure => have := HK1.out; have := HK2.out; have := HJ8.out; omega
                          case rel => exact ⟨(y164), H', ⟨by have := HK1.out; have := HK2.out; have := HJ8.out; omega⟩, ⟨by (with_reducible repeat (first | apply Kd.R_alloc | apply Kd.R_drewN | apply Kd.R_drew)); exact Kd.R_mono HO_4.out (fun _ hk => hk.2)⟩, ⟨by (with_reducible repeat (first | apply Kd.R_alloc | apply Kd.R_drewN | apply Kd.R_drew)); exact HO166.out⟩, ⟨by (with_reducible repeat (first | refine blk_drewN ?_ _ | refine blk_drew ?_ | refine blk_alloc ?_ _)); exact BK159.out⟩, ⟨by repeat (first | (with_reducible first | exact HB.out | apply below_alloc | apply pw_below_drewN | apply below_drew1 | refine below_set ?_ GE159.out) | exact HB.out)⟩⟩
                        · rw [if_neg c32] at H
                          exact absurd H (by simp)
                      · rw [if_neg c31] at H
                        exact absurd H (by simp)
                    · rw [if_neg c30] at H
                      exact absurd H (by simp)
      · rw [if_neg c6] at H
        have c6b0 : decide ((x5_1.length : Int) < (t160.length : Int)) = false := decide_eq_false c6
        have c6b1 : decide (x5_1.length < t160.length) = false := decide_eq_false (fun h => c6 (Int.ofNat_lt.mpr h))
        clear c6
        simp only [Option.some.injEq, Prod.mk.injEq] at H
        obtain ⟨rfl, rfl⟩ := H
        obtain ⟨Ao34, co34, eo34⟩ := Kd.R_slice HO_5.out
        subst eo34
        obtain ⟨Ao35, co35, eo35⟩ := Kd.R_slice HO_4.out
        subst eo35
        go_wp2
        repeat (go_quiet (fail); try go_wp2)
        go_ret2
        exact ⟨_, by first | rfl | (simp [errW_none, errW_some] <;> rfl) | (simp [*, errW_none, errW_some] <;> rfl), by (with_reducible repeat (first | apply Kd.R_alloc | apply Kd.R_drewN | apply Kd.R_drew)); exact Kd.R_mono HO_5.out (fun _ hk => trivial), by repeat (first | (with_reducible first | exact HB.out | apply below_alloc | apply pw_below_drewN | apply below_drew1 | refine below_set ?_ GE159.out) | exact HB.out)⟩

end Go.Proofs.Ytmacdknicgfglaa.Impl
end
section
/- Printed by a program of this session (a copy of the kit's print.py, one text for all functions of the seat), with some contracts typed by hand among them: for each Go function a Lean function and a proof that the code comes to its answers. -/
namespace Go.Proofs.Ytmacdknicgfglaa.Impl
open Go.RowKit Go.Proofs.YtmacdknicgfglaaW.PrintWords Go.Proofs.YtmacdknicgfglaaW.PrintLast Go.Proofs.YtmacdknicgfglaaW.PrintMore
attribute [local go_sem] max2_int min2_int max_two min_two
set_option linter.unusedVariables false
set_option linter.unusedSimpArgs false

/-! ### busbarref12_spread: function 54 -/
mutual
def busbarref12_spread.l0 : Nat → Bool → List ByteArray → List ByteArray → Int → ByteArray → List (S41) → List (S101) → ByteArray → Option (List ByteArray)
  | 0, _, _, _, _, _, _, _, _ => none
  | k + 1, x2, x7, x8, x9, x174000, x174001, x174002, x174003 => if x9 < (x7.length : Int) then (busbarref12_spread.l1 k x2 x7 x8 x9 0 x174000 x174001 x174002 x174003) else (busbarref12_spread.l2 k x7 x8 ([] : List ByteArray) 0)
def busbarref12_spread.l1 : Nat → Bool → List ByteArray → List ByteArray → Int → Int → ByteArray → List (S41) → List (S101) → ByteArray → Option (List ByteArray)
  | 0, _, _, _, _, _, _, _, _, _ => none
  | k + 1, x2, x7, x8, x9, x10, x174000, x174001, x174002, x174003 => if x10 < (x174001.length : Int) then (if 0 ≤ x10 then (if x2 = true then (busbarref12_spread.j2 k x2 x7 x8 x9 x10 ((rd_T41 x174001 x10).f3) ((rd_T41 x174001 x10).f2) x174000 x174001 x174002 x174003) else (busbarref12_spread.j2 k x2 x7 x8 x9 x10 ((rd_T41 x174001 x10).f2) ((rd_T41 x174001 x10).f3) x174000 x174001 x174002 x174003)) else (none)) else (busbarref12_spread.l0 k x2 x7 x8 (wrap64 (x9 + 1)) x174000 x174001 x174002 x174003)
def busbarref12_spread.j2 : Nat → Bool → List ByteArray → List ByteArray → Int → Int → ByteArray → ByteArray → ByteArray → List (S41) → List (S101) → ByteArray → Option (List ByteArray)
  | 0, _, _, _, _, _, _, _, _, _, _, _ => none
  | k + 1, x2, x7, x8, x9, x10, x11, x12, x174000, x174001, x174002, x174003 => (busbarref12_has.f k x8 x11).bind fun t185 => (if t185 = true then ((busbarref12_has.f k x8 x12).bind fun t186 => (if t186 = true then (busbarref12_spread.l1 k x2 x7 x8 x9 (wrap64 (x10 + 1)) x174000 x174001 x174002 x174003) else (if x8.length < 8796093022208 then (busbarref12_spread.l1 k x2 x7 (x8 ++ [x12]) x9 (wrap64 (x10 + 1)) x174000 x174001 x174002 x174003) else (none)))) else (busbarref12_spread.l1 k x2 x7 x8 x9 (wrap64 (x10 + 1)) x174000 x174001 x174002 x174003))
def busbarref12_spread.l2 : Nat → List ByteArray → List ByteArray → List ByteArray → Int → Option (List ByteArray)
  | 0, _, _, _, _ => none
  | k + 1, x7, x8, x13, x14 => if x14 < (x7.length : Int) then (if 0 ≤ x14 then ((busbarref12_has.f k x8 (rdOf ByteArray.empty x7 x14)).bind fun t191 => (if t191 = true then (if x13.length < 8796093022208 then (busbarref12_spread.l2 k x7 x8 (x13 ++ [rdOf ByteArray.empty x7 x14]) (wrap64 (x14 + 1))) else (none)) else (busbarref12_spread.l2 k x7 x8 x13 (wrap64 (x14 + 1))))) else (none)) else (some x13)
end
def busbarref12_spread.f (k : Nat) (a0_0 : ByteArray) (l0_1 : List (S41)) (l0_2 : List (S101)) (a0_3 : ByteArray) (a1 : ByteArray) (a2 : Bool) : Option (List ByteArray) := (busbarref12_Nodes.f k a0_0 l0_1 l0_2 a0_3).bind fun t174 => ((busbarref12_has.f k t174 a1).bind fun t177 => (if t177 = true then (busbarref12_spread.l0 k a2 t174 (([a1] : List ByteArray)) 0 a0_0 l0_1 l0_2 a0_3) else (some ([] : List ByteArray))))
theorem busbarref12_spread.mono_l : ∀ k, (∀ y0 y1 y2 y3 y4 y5 y6 y7, LeO (busbarref12_spread.l0 k y0 y1 y2 y3 y4 y5 y6 y7) (busbarref12_spread.l0 (k + 1) y0 y1 y2 y3 y4 y5 y6 y7)) ∧ (∀ y0 y1 y2 y3 y4 y5 y6 y7 y8, LeO (busbarref12_spread.l1 k y0 y1 y2 y3 y4 y5 y6 y7 y8) (busbarref12_spread.l1 (k + 1) y0 y1 y2 y3 y4 y5 y6 y7 y8)) ∧ (∀ y0 y1 y2 y3 y4 y5 y6 y7 y8 y9 y10, LeO (busbarref12_spread.j2 k y0 y1 y2 y3 y4 y5 y6 y7 y8 y9 y10) (busbarref12_spread.j2 (k + 1) y0 y1 y2 y3 y4 y5 y6 y7 y8 y9 y10)) ∧ (∀ y0 y1 y2 y3, LeO (busbarref12_spread.l2 k y0 y1 y2 y3) (busbarref12_spread.l2 (k + 1) y0 y1 y2 y3))
  | 0 => ⟨fun _ _ _ _ _ _ _ _ r h => by simp [busbarref12_spread.l0] at h, fun _ _ _ _ _ _ _ _ _ r h => by simp [busbarref12_spread.l1] at h, fun _ _ _ _ _ _ _ _ _ _ _ r h => by simp [busbarref12_spread.j2] at h, fun _ _ _ _ r h => by simp [busbarref12_spread.l2] at h⟩
  | k + 1 => by
    obtain ⟨ih0, ih1, ih2, ih3⟩ := busbarref12_spread.mono_l k
    refine ⟨?_, ?_, ?_, ?_⟩
    · intro y0 y1 y2 y3 y4 y5 y6 y7
      unfold busbarref12_spread.l0
      repeat' first
      | (with_reducible exact ih0 _ _ _ _ _ _ _ _)
      | (with_reducible exact ih1 _ _ _ _ _ _ _ _ _)
      | (with_reducible exact ih2 _ _ _ _ _ _ _ _ _ _ _)
      | (with_reducible exact ih3 _ _ _ _)
      | (with_reducible exact busbarref12_Nodes.mono _ _ _ _ _)
      | (with_reducible exact busbarref12_has.mono _ _ _)
      | (with_reducible exact LeO.refl _)
      | (with_reducible exact LeO.none _)
      | (with_reducible refine LeO.ite ?_ ?_)
      | (with_reducible refine LeO.bind ?_ (fun _ => ?_))
      | exact ih0 _ _ _ _ _ _ _ _
      | exact ih1 _ _ _ _ _ _ _ _ _
      | exact ih2 _ _ _ _ _ _ _ _ _ _ _
      | exact ih3 _ _ _ _
      | exact busbarref12_Nodes.mono _ _ _ _ _
      | exact busbarref12_has.mono _ _ _
      | exact LeO.none _
      | refine LeO.ite ?_ ?_
      | refine LeO.bind ?_ (fun _ => ?_)
    · intro y0 y1 y2 y3 y4 y5 y6 y7 y8
      unfold busbarref12_spread.l1
      repeat' first
      | (with_reducible exact ih0 _ _ _ _ _ _ _ _)
      | (with_reducible exact ih1 _ _ _ _ _ _ _ _ _)
      | (with_reducible exact ih2 _ _ _ _ _ _ _ _ _ _ _)
      | (with_reducible exact ih3 _ _ _ _)
      | (with_reducible exact busbarref12_Nodes.mono _ _ _ _ _)
      | (with_reducible exact busbarref12_has.mono _ _ _)
      | (with_reducible exact LeO.refl _)
      | (with_reducible exact LeO.none _)
      | (with_reducible refine LeO.ite ?_ ?_)
      | (with_reducible refine LeO.bind ?_ (fun _ => ?_))
      | exact ih0 _ _ _ _ _ _ _ _
      | exact ih1 _ _ _ _ _ _ _ _ _
      | exact ih2 _ _ _ _ _ _ _ _ _ _ _
      | exact ih3 _ _ _ _
      | exact busbarref12_Nodes.mono _ _ _ _ _
      | exact busbarref12_has.mono _ _ _
      | exact LeO.none _
      | refine LeO.ite ?_ ?_
      | refine LeO.bind ?_ (fun _ => ?_)
    · intro y0 y1 y2 y3 y4 y5 y6 y7 y8 y9 y10
      unfold busbarref12_spread.j2
      repeat' first
      | (with_reducible exact ih0 _ _ _ _ _ _ _ _)
      | (with_reducible exact ih1 _ _ _ _ _ _ _ _ _)
      | (with_reducible exact ih2 _ _ _ _ _ _ _ _ _ _ _)
      | (with_reducible exact ih3 _ _ _ _)
      | (with_reducible exact busbarref12_Nodes.mono _ _ _ _ _)
      | (with_reducible exact busbarref12_has.mono _ _ _)
      | (with_reducible exact LeO.refl _)
      | (with_reducible exact LeO.none _)
      | (with_reducible refine LeO.ite ?_ ?_)
      | (with_reducible refine LeO.bind ?_ (fun _ => ?_))
      | exact ih0 _ _ _ _ _ _ _ _
      | exact ih1 _ _ _ _ _ _ _ _ _
      | exact ih2 _ _ _ _ _ _ _ _ _ _ _
      | exact ih3 _ _ _ _
      | exact busbarref12_Nodes.mono _ _ _ _ _
      | exact busbarref12_has.mono _ _ _
      | exact LeO.none _
      | refine LeO.ite ?_ ?_
      | refine LeO.bind ?_ (fun _ => ?_)
    · intro y0 y1 y2 y3
      unfold busbarref12_spread.l2
      repeat' first
      | (with_reducible exact ih0 _ _ _ _ _ _ _ _)
      | (with_reducible exact ih1 _ _ _ _ _ _ _ _ _)
      | (with_reducible exact ih2 _ _ _ _ _ _ _ _ _ _ _)
      | (with_reducible exact ih3 _ _ _ _)
      | (with_reducible exact busbarref12_Nodes.mono _ _ _ _ _)
      | (with_reducible exact busbarref12_has.mono _ _ _)
      | (with_reducible exact LeO.refl _)
      | (with_reducible exact LeO.none _)
      | (with_reducible refine LeO.ite ?_ ?_)
      | (with_reducible refine LeO.bind ?_ (fun _ => ?_))
      | exact ih0 _ _ _ _ _ _ _ _
      | exact ih1 _ _ _ _ _ _ _ _ _
      | exact ih2 _ _ _ _ _ _ _ _ _ _ _
      | exact ih3 _ _ _ _
      | exact busbarref12_Nodes.mono _ _ _ _ _
      | exact busbarref12_has.mono _ _ _
      | exact LeO.none _
      | refine LeO.ite ?_ ?_
      | refine LeO.bind ?_ (fun _ => ?_)
theorem busbarref12_spread.mono : ∀ a0 a1 a2 a3 a4 a5 k, LeO (busbarref12_spread.f k a0 a1 a2 a3 a4 a5) (busbarref12_spread.f (k + 1) a0 a1 a2 a3 a4 a5) := by
  intro a0 a1 a2 a3 a4 a5 k
  obtain ⟨ih0, ih1, ih2, ih3⟩ := busbarref12_spread.mono_l k
  unfold busbarref12_spread.f
  repeat' first
      | (with_reducible exact ih0 _ _ _ _ _ _ _ _)
      | (with_reducible exact ih1 _ _ _ _ _ _ _ _ _)
      | (with_reducible exact ih2 _ _ _ _ _ _ _ _ _ _ _)
      | (with_reducible exact ih3 _ _ _ _)
      | (with_reducible exact busbarref12_Nodes.mono _ _ _ _ _)
      | (with_reducible exact busbarref12_has.mono _ _ _)
      | (with_reducible exact LeO.refl _)
      | (with_reducible exact LeO.none _)
      | (with_reducible refine LeO.ite ?_ ?_)
      | (with_reducible refine LeO.bind ?_ (fun _ => ?_))
      | exact ih0 _ _ _ _ _ _ _ _
      | exact ih1 _ _ _ _ _ _ _ _ _
      | exact ih2 _ _ _ _ _ _ _ _ _ _ _
      | exact ih3 _ _ _ _
      | exact busbarref12_Nodes.mono _ _ _ _ _
      | exact busbarref12_has.mono _ _ _
      | exact LeO.none _
      | refine LeO.ite ?_ ?_
      | refine LeO.bind ?_ (fun _ => ?_)
set_option maxHeartbeats 8000000 in
set_option maxRecDepth 100000 in
theorem busbarref12_spread.calls (k : Nat) (a0_0 : ByteArray) (A0_1 : Option Addr) (c0_1 : Nat) (l0_1 : List (S41)) (A0_2 : Option Addr) (c0_2 : Nat) (l0_2 : List (S101)) (a0_3 : ByteArray) (a1 : ByteArray) (a2 : Bool) (r : List ByteArray) (w : World) (hr0_1 : Kd.C k41 w A0_1 l0_1.length l0_1) (hc0_1 : l0_1.length ≤ c0_1) (hr0_2 : Kd.C k101 w A0_2 l0_2.length l0_2) (hc0_2 : l0_2.length ≤ c0_2) (h : busbarref12_spread.f k a0_0 l0_1 l0_2 a0_3 a1 a2 = some r) :
    Calls Try.prog 54 #[.agg #[.string a0_0, .slice A0_1 l0_1.length c0_1, .slice A0_2 l0_2.length c0_2, .string a0_3], .string a1, .bool a2] w fun e w' => ∃ v0_ : Value, e = .returned (v0_) ∧ Kd.R Kd.string 9 w' w.heap.size (fun _ => True) v0_ r ∧ Below w.heap.size w w' := by
  have hu25 := Try.underlying25
  have HR0_1 := Aside0.mk hr0_1
  have HC0_1 := Aside0.mk hc0_1
  clear hr0_1 hc0_1
  have HR0_2 := Aside0.mk hr0_2
  have HC0_2 := Aside0.mk hc0_2
  clear hr0_2 hc0_2
  have HB := Aside0.mk (Below.refl w.heap.size w)
  have H : ((busbarref12_Nodes.f k a0_0 l0_1 l0_2 a0_3).bind fun t174 => ((busbarref12_has.f k t174 a1).bind fun t177 => (if t177 = true then (busbarref12_spread.l0 k a2 t174 (([a1] : List ByteArray)) 0 a0_0 l0_1 l0_2 a0_3) else (some ([] : List ByteArray))))) = some r := h
  clear h
  replace H := Option.bind_eq_some_iff.mp H
  obtain ⟨t174, A40, H⟩ := H
  replace H : ((busbarref12_has.f k t174 a1).bind fun t177 => (if t177 = true then (busbarref12_spread.l0 k a2 t174 (([a1] : List ByteArray)) 0 a0_0 l0_1 l0_2 a0_3) else (some ([] : List ByteArray)))) = some r := H
  have A4 := Aside0.mk A40
  clear A40
  replace H := Option.bind_eq_some_iff.mp H
  obtain ⟨t177, A50, H⟩ := H
  replace H : (if t177 = true then (busbarref12_spread.l0 k a2 t174 (([a1] : List ByteArray)) 0 a0_0 l0_1 l0_2 a0_3) else (some ([] : List ByteArray))) = some r := H
  have A5 := Aside0.mk A50
  clear A50
  by_cases c6 : t177 = true
  · subst c6
    have H1 : (busbarref12_spread.l0 k a2 t174 (([a1] : List ByteArray)) 0 a0_0 l0_1 l0_2 a0_3) = some r := by rw [if_pos rfl] at H; exact H
    clear H
    have H := H1
    clear H1
    obtain ⟨y178, hy178⟩ : ∃ y_ : List ByteArray, y_ = (([a1] : List ByteArray)) := ⟨_, rfl⟩
    replace H : (busbarref12_spread.l0 k a2 t174 y178 0 a0_0 l0_1 l0_2 a0_3) = some r := by first | (rw [hy178]; with_reducible exact H) | (have H2_ := (Option.bind_some _ _).symm.trans H; rw [hy178]; with_reducible exact H2_) | (have H2_ := (Option.bind_some _ _).symm.trans H; with_reducible exact H2_) | with_reducible exact H | (rw [hy178]; exact H) | exact H
    have Ny178 := Aside0.mk hy178
    clear hy178
    have H' := Aside0.mk H
    clear H
    go_enter Try.func54, Try.ntmps54
    go_wp2_with (first | ((with_reducible refine gate_dst (N := 3) rfl ?_); refine box_event ?hg (N := 3) ?hd (cs := #[.string a0_0, .slice A0_1 l0_1.length c0_1, .slice A0_2 l0_2.length c0_2, .string a0_3]) (t := 25) ?hr ?_; (case hd => rfl); (case hg => rfl); (case hr => first | (go_simp; done) | (go_simp; rfl)); intro gb173 hg w7 hbox hb; have n0_ := Aside0.mk (below_step (by repeat (first | (with_reducible first | exact HB.out | apply below_alloc | apply pw_below_drewN | apply below_drew1) | exact HB.out)) hb); have n1_ := Aside0.mk (hbox); have n2_ := Aside0.mk ((by rw [hg]; exact (below_size (by repeat (first | (with_reducible first | exact HB.out | apply below_alloc | apply pw_below_drewN | apply below_drew1) | exact HB.out))) : w.heap.size ≤ gb173)); have n3_ := Aside0.mk ((by rw [hg]; exact (below_size (by repeat (first | (with_reducible first | exact HB.out | apply below_alloc | apply pw_below_drewN | apply below_drew1) | exact HB.out))) : w.heap.size ≤ gb173)); clear HB; have HB := n0_; have BK173 := n1_; have GW173 := n2_; have GE173 := n3_; clear n0_ n1_ n2_ n3_; clear hb hbox hg; have hcz8_0 : w7.cell? ⟨gb173, 0, none⟩ = some (.string a0_0) := (blk_cell BK173.out 0).trans rfl; have hcz8_1 : w7.cell? ⟨gb173, 1, none⟩ = some (.slice A0_1 l0_1.length c0_1) := (blk_cell BK173.out 1).trans rfl; have hcz8_2 : w7.cell? ⟨gb173, 2, none⟩ = some (.slice A0_2 l0_2.length c0_2) := (blk_cell BK173.out 2).trans rfl; have hcz8_3 : w7.cell? ⟨gb173, 3, none⟩ = some (.string a0_3) := (blk_cell BK173.out 3).trans rfl; have hfz8_0 := blk_frozen BK173.out 0; have hfz8_1 := blk_frozen BK173.out 1; have hfz8_2 := blk_frozen BK173.out 2; have hfz8_3 := blk_frozen BK173.out 3) | ((with_reducible refine gate_callee (f := 19) rfl ?_); refine goesL_ (some 16) rfl rfl Try.func19 (by kernel_rfl) rfl #[.agg #[.string a0_0, .slice A0_1 l0_1.length c0_1, .slice A0_2 l0_2.length c0_2, .string a0_3]] rfl (by (try simp only [List.map_toArray, List.map_cons, List.map_nil]); first | done | rfl | (simp only [List.length_drop, List.length_take]; rfl)) ?_; (with_reducible refine (busbarref12_Nodes.calls k a0_0 _ _ l0_1 _ _ l0_2 a0_3 t174 _ ?side1 ?side2 ?side3 ?side4 A4.out).mono ?_); (case side1 => repeat (first | exact (Kd.C_below HR0_1.out HB.out) | (with_reducible refine Kd.C_alloc ?_ _) | (with_reducible refine Kd.C_drewN ?_ _) | (with_reducible refine Kd.C_drew ?_))); (case side2 => exact HC0_1.out); (case side3 => repeat (first | exact (Kd.C_below HR0_2.out HB.out) | (with_reducible refine Kd.C_alloc ?_ _) | (with_reducible refine Kd.C_drewN ?_ _) | (with_reducible refine Kd.C_drew ?_))); (case side4 => exact HC0_2.out); rintro e w9 ⟨v175, rfl, ho0, hb⟩; refine ⟨_, rfl, ?_⟩; have n0_ := Aside0.mk (Kd.R_lower ho0 (below_size (by repeat (first | (with_reducible first | exact HB.out | apply below_alloc | apply pw_below_drewN | apply below_drew1 | refine below_set ?_ GE173.out) | exact HB.out)))); have n1_ := Aside0.mk (blk_below (g := gb173) (o := .cells #[.string a0_0, .slice A0_1 l0_1.length c0_1, .slice A0_2 l0_2.length c0_2, .string a0_3] 25 (0, 0)) (by (with_reducible repeat (first | refine blk_drewN ?_ _ | refine blk_drew ?_ | refine blk_alloc ?_ _)); exact BK173.out) hb); have n2_ := Aside0.mk (below_step (by repeat (first | (with_reducible first | exact HB.out | apply below_alloc | apply pw_below_drewN | apply below_drew1 | refine below_set ?_ GE173.out) | exact HB.out)) hb); clear BK173; clear HB; have HO176 := n0_; have BK173 := n1_; have HB := n2_; clear n0_ n1_ n2_; (try clear hb); (try clear hb2); (try clear hk); (try clear hi); (try clear ho0); obtain ⟨Ao10, co10, eo10⟩ := Kd.R_slice HO176.out; subst eo10) | ((with_reducible refine gate_callee (f := 42) rfl ?_); refine goesL_ (some 19) rfl rfl Try.func42 (by kernel_rfl) rfl #[.slice Ao10 t174.length co10, .string a1] rfl (by (try simp only [List.map_toArray, List.map_cons, List.map_nil]); first | done | rfl | (simp only [List.length_drop, List.length_take]; rfl)) ?_; (with_reducible refine (busbarref12_has.calls k _ _ t174 a1 true _ ?side1 ?side2 A5.out).mono ?_); (case side1 => repeat (first | exact (Kd.R_reads' HO176.out).2.2 | (with_reducible refine Kd.C_alloc ?_ _) | (with_reducible refine Kd.C_drewN ?_ _) | (with_reducible refine Kd.C_drew ?_))); (case side2 => exact (Kd.R_reads' HO176.out).2.1); rintro e w' ⟨rfl, ⟨nd, rfl⟩⟩; refine ⟨_, rfl, ?_⟩) | ((with_reducible refine gate_dst (N := 22) rfl ?_); refine Kd.R_lit Kd.string _ 9 ?hg (N := 22) ?hd (xs := ([a1] : List ByteArray)) (inner := [.string a1]) (ok := fun _ => True) (okp := fun _ => True) ?hr ?hp (fun _ hk => hk) trivial (Below.refl _ _) (Nat.le_refl _) (by simp) ?_; (case hd => rfl); (case hg => rfl); (case hr => first | (go_simp; done) | (go_simp; rfl)); (case hp => exact (Reps.one (show Kd.M Kd.string _ _ _ a1 [.string a1] from rfl) (Reps.none _ _))); intro v179 w11 ho12 hb hg_ hnew_; clear hg_ hnew_; (first | rw [← Ny178.out] at ho12 | (simp only [Int.reduceToNat] at ho12; rw [← Ny178.out] at ho12)); have n0_ := Aside0.mk (Kd.R_elder' (by (with_reducible repeat (first | apply Kd.R_alloc | apply Kd.R_drewN | apply Kd.R_drew)); exact HO176.out) (Kd.R_base ho12) hb); have n1_ := Aside0.mk (Kd.R_lower (Kd.R_new' ho12 (Kd.R_lt (by (with_reducible repeat (first | apply Kd.R_alloc | apply Kd.R_drewN | apply Kd.R_drew)); exact HO176.out))) (below_size (by repeat (first | (with_reducible first | exact HB.out | apply below_alloc | apply pw_below_drewN | apply below_drew1 | refine below_set ?_ GE173.out) | exact HB.out)))); have n2_ := Aside0.mk (blk_below (g := gb173) (o := .cells #[.string a0_0, .slice A0_1 l0_1.length c0_1, .slice A0_2 l0_2.length c0_2, .string a0_3] 25 (0, 0)) (by (with_reducible repeat (first | refine blk_drewN ?_ _ | refine blk_drew ?_ | refine blk_alloc ?_ _)); exact BK173.out) hb); have n3_ := Aside0.mk (below_step (by repeat (first | (with_reducible first | exact HB.out | apply below_alloc | apply pw_below_drewN | apply below_drew1 | refine below_set ?_ GE173.out) | exact HB.out)) hb); clear HO176; clear BK173; clear HB; have HO176 := n0_; have HO180 := n1_; have BK173 := n2_; have HB := n3_; clear n0_ n1_ n2_ n3_; clear hb ho12))
    go_loopg [8, 9] k (fun kq v8 v9 w' => ∃ (x8_1 : List ByteArray) (x9_1 : Int), v9 = .int .i64 x9_1 ∧ Aside0 (busbarref12_spread.l0 kq a2 t174 x8_1 x9_1 a0_0 l0_1 l0_2 a0_3 = some r) ∧ Aside0 (kq ≤ k) ∧ Aside0 (Kd.R Kd.string 9 w' w.heap.size (fun k_ => some k_ ≠ (v8 : Value).ownBlock) (.slice Ao10 t174.length co10) t174) ∧ Aside0 (Kd.R Kd.string 9 w' w.heap.size (fun k_ => some k_ ≠ ((.slice Ao10 t174.length co10) : Value).ownBlock) v8 x8_1) ∧ Aside0 (w'.heap[gb173]? = some (.cells #[.string a0_0, (.slice A0_1 l0_1.length c0_1), (.slice A0_2 l0_2.length c0_2), .string a0_3] 25 (0, 0))) ∧ Aside0 (Below w.heap.size w w'))
    case atStart => exact ⟨(y178), (0), (by first | rfl | (simp; done) | (simp [*]; done)), H', ⟨Nat.le_refl _⟩, ⟨by (with_reducible repeat (first | apply Kd.R_alloc | apply Kd.R_drewN | apply Kd.R_drew)); exact Kd.R_mono HO176.out (fun _ hk => hk.2)⟩, ⟨by (with_reducible repeat (first | apply Kd.R_alloc | apply Kd.R_drewN | apply Kd.R_drew)); exact Kd.R_mono HO180.out (fun _ hk => hk.2)⟩, ⟨by (with_reducible repeat (first | refine blk_drewN ?_ _ | refine blk_drew ?_ | refine blk_alloc ?_ _)); exact BK173.out⟩, ⟨by repeat (first | (with_reducible first | exact HB.out | apply below_alloc | apply pw_below_drewN | apply below_drew1 | refine below_set ?_ GE173.out) | exact HB.out)⟩⟩
    case round =>
      clear H'
      try clear c1
      try clear p2
      try clear c4
      try clear c5
      try clear c6
      try clear hcz8_0
      try clear hcz8_1
      try clear hcz8_2
      try clear hcz8_3
      try clear hfz8_0
      try clear hfz8_1
      try clear hfz8_2
      try clear hfz8_3
      obtain ⟨x8_1, x9_1, rfl, HA, HK1, HO_7, HO_8, BK173, HB⟩ := hrel
      cases gk with
      | zero => exact absurd HA.out (by simp [busbarref12_spread.l0])
      | succ k1 =>
        have H := HA.out
        clear HA
        simp only [busbarref12_spread.l0] at H
        by_cases c13 : x9_1 < (t174.length : Int)
        · rw [if_pos c13] at H
          have c13b0 : decide (x9_1 < (t174.length : Int)) = true := decide_eq_true c13
          clear c13
          have H' := Aside0.mk H
          clear H
          go_wp2
          go_loopg [8, 10] k1 (fun kq v8 v10 w' => ∃ (x8_2 : List ByteArray) (x10_2 : Int), v10 = .int .i64 x10_2 ∧ Aside0 (busbarref12_spread.l1 kq a2 t174 x8_2 x9_1 x10_2 a0_0 l0_1 l0_2 a0_3 = some r) ∧ Aside0 (kq ≤ k1) ∧ Aside0 (Kd.R Kd.string 9 w' w.heap.size (fun k_ => some k_ ≠ (v8 : Value).ownBlock) (.slice Ao10 t174.length co10) t174) ∧ Aside0 (Kd.R Kd.string 9 w' w.heap.size (fun k_ => some k_ ≠ ((.slice Ao10 t174.length co10) : Value).ownBlock) v8 x8_2) ∧ Aside0 (w'.heap[gb173]? = some (.cells #[.string a0_0, (.slice A0_1 l0_1.length c0_1), (.slice A0_2 l0_2.length c0_2), .string a0_3] 25 (0, 0))) ∧ Aside0 (Below w.heap.size w w'))
          case atStart => exact ⟨(x8_1), (0), (by first | rfl | (simp; done) | (simp [*]; done)), H', ⟨Nat.le_refl _⟩, ⟨by (with_reducible repeat (first | apply Kd.R_alloc | apply Kd.R_drewN | apply Kd.R_drew)); exact HO_7.out⟩, ⟨by (with_reducible repeat (first | apply Kd.R_alloc | apply Kd.R_drewN | apply Kd.R_drew)); exact HO_8.out⟩, ⟨by (with_reducible repeat (first | refine blk_drewN ?_ _ | refine blk_drew ?_ | refine blk_alloc ?_ _)); exact BK173.out⟩, ⟨by repeat (first | (with_reducible first | exact HB.out | apply below_alloc | apply pw_below_drewN | apply below_drew1 | refine below_set ?_ GE173.out) | exact HB.out)⟩⟩
          case round =>
            clear H'
            try clear c1
            try clear p2
            try clear c4
            try clear c5
            try clear c6
            try clear c13
            try clear c13b0
            try clear hcz8_0
            try clear hcz8_1
            try clear hcz8_2
            try clear hcz8_3
            try clear hfz8_0
            try clear hfz8_1
            try clear hfz8_2
            try clear hfz8_3
            try clear p2
            obtain ⟨x8_2, x10_2, rfl, HA, HK2, HO_7, HO_8, BK173, HB⟩ := hrel
            cases gk with
            | zero => exact absurd HA.out (by simp [busbarref12_spread.l1])
            | succ k2 =>
              have H := HA.out
              clear HA
              simp only [busbarref12_spread.l1] at H
              by_cases c14 : x10_2 < (l0_1.length : Int)
              · rw [if_pos c14] at H
                have c14b0 : decide (x10_2 < (l0_1.length : Int)) = true := decide_eq_true c14
                clear c14
                by_cases c15 : 0 ≤ x10_2
                · rw [if_pos c15] at H
                  have c15b0 : decide (0 ≤ x10_2) = true := decide_eq_true c15
                  clear c15
                  have HC16 := Aside0.mk H
                  clear H
                  have hcz17_0 : wr.cell? ⟨gb173, 0, none⟩ = some (.string a0_0) := (blk_cell BK173.out 0).trans rfl
                  have hcz17_1 : wr.cell? ⟨gb173, 1, none⟩ = some (.slice A0_1 l0_1.length c0_1) := (blk_cell BK173.out 1).trans rfl
                  have hcz17_2 : wr.cell? ⟨gb173, 2, none⟩ = some (.slice A0_2 l0_2.length c0_2) := (blk_cell BK173.out 2).trans rfl
                  have hcz17_3 : wr.cell? ⟨gb173, 3, none⟩ = some (.string a0_3) := (blk_cell BK173.out 3).trans rfl
                  have hfz17_0 := blk_frozen BK173.out 0
                  have hfz17_1 := blk_frozen BK173.out 1
                  have hfz17_2 := blk_frozen BK173.out 2
                  have hfz17_3 := blk_frozen BK173.out 3
                  have p181 : 0 ≤ (x10_2 : Int) := of_decide_eq_true (by first | (with_reducible assumption) | assumption)
                  have q181 : x10_2 < (l0_1.length : Int) := of_decide_eq_true (by first | (with_reducible assumption) | assumption)
                  obtain ⟨ad181, e181, hx181_0, hx181_1, hx181_2, hx181_3, hx181_4⟩ := at_T41 HR0_1.out x10_2 p181 q181
                  cases e181
                  replace hx181_0 := (HB.out.cell (World.block_lt_of_cell? w _ hx181_0)).trans hx181_0
                  replace hx181_1 := (HB.out.cell (World.block_lt_of_cell? w _ hx181_1)).trans hx181_1
                  replace hx181_2 := (HB.out.cell (World.block_lt_of_cell? w _ hx181_2)).trans hx181_2
                  replace hx181_3 := (HB.out.cell (World.block_lt_of_cell? w _ hx181_3)).trans hx181_3
                  replace hx181_4 := (HB.out.cell (World.block_lt_of_cell? w _ hx181_4)).trans hx181_4
                  replace p181 := eq_true p181
                  replace q181 := eq_true q181
                  have p182 : 0 ≤ (x10_2 : Int) := of_decide_eq_true (by first | (with_reducible assumption) | assumption)
                  have q182 : x10_2 < (l0_1.length : Int) := of_decide_eq_true (by first | (with_reducible assumption) | assumption)
                  obtain ⟨ad182, e182, hx182_0, hx182_1, hx182_2, hx182_3, hx182_4⟩ := at_T41 HR0_1.out x10_2 p182 q182
                  obtain rfl : ad181 = ad182 := (by injection e182)
                  replace hx182_0 := (HB.out.cell (World.block_lt_of_cell? w _ hx182_0)).trans hx182_0
                  replace hx182_1 := (HB.out.cell (World.block_lt_of_cell? w _ hx182_1)).trans hx182_1
                  replace hx182_2 := (HB.out.cell (World.block_lt_of_cell? w _ hx182_2)).trans hx182_2
                  replace hx182_3 := (HB.out.cell (World.block_lt_of_cell? w _ hx182_3)).trans hx182_3
                  replace hx182_4 := (HB.out.cell (World.block_lt_of_cell? w _ hx182_4)).trans hx182_4
                  replace p182 := eq_true p182
                  replace q182 := eq_true q182
                  go_upto_if 48 with (fail)
                  go_cut [11, 12] (fun v11 v12 wc => ∃ (kq : Nat) (x11_15 : ByteArray) (x12_15 : ByteArray), v11 = .string x11_15 ∧ v12 = .string x12_15 ∧ Aside0 (busbarref12_spread.j2 kq a2 t174 x8_2 x9_1 x10_2 x11_15 x12_15 a0_0 l0_1 l0_2 a0_3 = some r) ∧ Aside0 (kq ≤ k2) ∧ Aside0 (Kd.R Kd.string 9 wc w.heap.size (fun k_ => some k_ ≠ (u8 : Value).ownBlock) (.slice Ao10 t174.length co10) t174) ∧ Aside0 (Kd.R Kd.string 9 wc w.heap.size (fun k_ => some k_ ≠ ((.slice Ao10 t174.length co10) : Value).ownBlock) u8 x8_2) ∧ Aside0 (wc.heap[gb173]? = some (.cells #[.string a0_0, (.slice (some ad181) l0_1.length c0_1), (.slice A0_2 l0_2.length c0_2), .string a0_3] 25 (0, 0))) ∧ Aside0 (Below w.heap.size w wc))
                  case first =>
                    have H := HC16.out
                    clear HC16
                    by_cases c18 : a2 = true
                    · subst c18
                      have H1 : (busbarref12_spread.j2 k2 true t174 x8_2 x9_1 x10_2 ((rd_T41 l0_1 x10_2).f3) ((rd_T41 l0_1 x10_2).f2) a0_0 l0_1 l0_2 a0_3) = some r := by rw [if_pos rfl] at H; exact H
                      clear H
                      have H := H1
                      clear H1
                      have H' := Aside0.mk H
                      clear H
                      have hcz19_0 : wr.cell? ⟨gb173, 0, none⟩ = some (.string a0_0) := (blk_cell BK173.out 0).trans rfl
                      have hcz19_1 : wr.cell? ⟨gb173, 1, none⟩ = some (.slice (some ad181) l0_1.length c0_1) := (blk_cell BK173.out 1).trans rfl
                      have hcz19_2 : wr.cell? ⟨gb173, 2, none⟩ = some (.slice A0_2 l0_2.length c0_2) := (blk_cell BK173.out 2).trans rfl
                      have hcz19_3 : wr.cell? ⟨gb173, 3, none⟩ = some (.string a0_3) := (blk_cell BK173.out 3).trans rfl
                      have hfz19_0 := blk_frozen BK173.out 0
                      have hfz19_1 := blk_frozen BK173.out 1
                      have hfz19_2 := blk_frozen BK173.out 2
                      have hfz19_3 := blk_frozen BK173.out 3
                      have p183 : 0 ≤ (x10_2 : Int) := of_decide_eq_true (by first | (with_reducible assumption) | assumption)
                      have q183 : x10_2 < (l0_1.length : Int) := of_decide_eq_true (by first | (with_reducible assumption) | assumption)
                      obtain ⟨ad183, e183, hx183_0, hx183_1, hx183_2, hx183_3, hx183_4⟩ := at_T41 HR0_1.out x10_2 p183 q183
                      obtain rfl : ad181 = ad183 := (by injection e183)
                      replace hx183_0 := (HB.out.cell (World.block_lt_of_cell? w _ hx183_0)).trans hx183_0
                      replace hx183_1 := (HB.out.cell (World.block_lt_of_cell? w _ hx183_1)).trans hx183_1
                      replace hx183_2 := (HB.out.cell (World.block_lt_of_cell? w _ hx183_2)).trans hx183_2
                      replace hx183_3 := (HB.out.cell (World.block_lt_of_cell? w _ hx183_3)).trans hx183_3
                      replace hx183_4 := (HB.out.cell (World.block_lt_of_cell? w _ hx183_4)).trans hx183_4
                      replace p183 := eq_true p183
                      replace q183 := eq_true q183
                      have p184 : 0 ≤ (x10_2 : Int) := of_decide_eq_true (by first | (with_reducible assumption) | assumption)
                      have q184 : x10_2 < (l0_1.length : Int) := of_decide_eq_true (by first | (with_reducible assumption) | assumption)
                      obtain ⟨ad184, e184, hx184_0, hx184_1, hx184_2, hx184_3, hx184_4⟩ := at_T41 HR0_1.out x10_2 p184 q184
                      obtain rfl : ad181 = ad184 := (by injection e184)
                      replace hx184_0 := (HB.out.cell (World.block_lt_of_cell? w _ hx184_0)).trans hx184_0
                      replace hx184_1 := (HB.out.cell (World.block_lt_of_cell? w _ hx184_1)).trans hx184_1
                      replace hx184_2 := (HB.out.cell (World.block_lt_of_cell? w _ hx184_2)).trans hx184_2
                      replace hx184_3 := (HB.out.cell (World.block_lt_of_cell? w _ hx184_3)).trans hx184_3
                      replace hx184_4 := (HB.out.cell (World.block_lt_of_cell? w _ hx184_4)).trans hx184_4
                      replace p184 := eq_true p184
                      replace q184 := eq_true q184
                      go_wp2
                      go_meet
                      case rel => exact ⟨_, ((rd_T41 l0_1 x10_2).f3), ((rd_T41 l0_1 x10_2).f2), (by first | rfl | (simp; done) | (simp [*]; done)), (by first | rfl | (simp; done) | (simp [*]; done)), H', ⟨by have := HK1.out; have := HK2.out; first | omega | exact Nat.le_refl _⟩, ⟨by (with_reducible repeat (first | apply Kd.R_alloc | apply Kd.R_drewN | apply Kd.R_drew)); exact HO_7.out⟩, ⟨by (with_reducible repeat (first | apply Kd.R_alloc | apply Kd.R_drewN | apply Kd.R_drew)); exact HO_8.out⟩, ⟨by (with_reducible repeat (first | refine blk_drewN ?_ _ | refine blk_drew ?_ | refine blk_alloc ?_ _)); exact BK173.out⟩, ⟨by repeat (first | (with_reducible first | exact HB.out | apply below_alloc | apply pw_below_drewN | apply below_drew1 | refine below_set ?_ GE173.out) | exact HB.out)⟩⟩
                    · replace c18 := Bool.eq_false_iff.mpr c18
                      subst c18
                      have H1 : (busbarref12_spread.j2 k2 false t174 x8_2 x9_1 x10_2 ((rd_T41 l0_1 x10_2).f2) ((rd_T41 l0_1 x10_2).f3) a0_0 l0_1 l0_2 a0_3) = some r := by rw [if_neg (show ¬ (false = true) by decide)] at H; exact H
                      clear H
                      have H := H1
                      clear H1
                      have H' := Aside0.mk H
                      clear H
                      go_wp2
                      go_meet
                      case rel => exact ⟨_, ((rd_T41 l0_1 x10_2).f2), ((rd_T41 l0_1 x10_2).f3), (by first | rfl | (simp; done) | (simp [*]; done)), (by first | rfl | (simp; done) | (simp [*]; done)), H', ⟨by have := HK1.out; have := HK2.out; first | omega | exact Nat.le_refl _⟩, ⟨by (with_reducible repeat (first | apply Kd.R_alloc | apply Kd.R_drewN | apply Kd.R_drew)); exact HO_7.out⟩, ⟨by (with_reducible repeat (first | apply Kd.R_alloc | apply Kd.R_drewN | apply Kd.R_drew)); exact HO_8.out⟩, ⟨by (with_reducible repeat (first | refine blk_drewN ?_ _ | refine blk_drew ?_ | refine blk_alloc ?_ _)); exact BK173.out⟩, ⟨by repeat (first | (with_reducible first | exact HB.out | apply below_alloc | apply pw_below_drewN | apply below_drew1 | refine below_set ?_ GE173.out) | exact HB.out)⟩⟩
                  case rest =>
                    clear HC16
                    try clear c1
                    try clear p1
                    try clear q1
                    try clear hx1
                    try clear p2
                    try clear c4
                    try clear c5
                    try clear c6
                    try clear c13
                    try clear c13b0
                    try clear c14
                    try clear c14b0
                    try clear c15
                    try clear c15b0
                    try clear c18
                    try clear p18
                    try clear q18
                    try clear hx18
                    try clear c19
                    try clear hcz17_0
                    try clear hcz17_1
                    try clear hcz17_2
                    try clear hcz17_3
                    try clear hcz19_0
                    try clear hcz19_1
                    try clear hcz19_2
                    try clear hcz19_3
                    try clear hcz8_0
                    try clear hcz8_1
                    try clear hcz8_2
                    try clear hcz8_3
                    try clear hfz17_0
                    try clear hfz17_1
                    try clear hfz17_2
                    try clear hfz17_3
                    try clear hfz19_0
                    try clear hfz19_1
                    try clear hfz19_2
                    try clear hfz19_3
                    try clear hfz8_0
                    try clear hfz8_1
                    try clear hfz8_2
                    try clear hfz8_3
                    try clear hx181_0
                    try clear hx181_1
                    try clear hx181_2
                    try clear hx181_3
                    try clear hx181_4
                    try clear hx182_0
                    try clear hx182_1
                    try clear hx182_2
                    try clear hx182_3
                    try clear hx182_4
                    try clear hx183_0
                    try clear hx183_1
                    try clear hx183_2
                    try clear hx183_3
                    try clear hx183_4
                    try clear hx184_0
                    try clear hx184_1
                    try clear hx184_2
                    try clear hx184_3
                    try clear hx184_4
                    try clear p181
                    try clear p182
                    try clear p183
                    try clear p184
                    try clear p2
                    try clear q181
                    try clear q182
                    try clear q183
                    try clear q184
                    obtain ⟨kq, x11_15, x12_15, rfl, rfl, HA, HJ15, HO_7, HO_8, BK173, HB⟩ := hcut
                    cases kq with
                    | zero => exact absurd HA.out (by simp [busbarref12_spread.j2])
                    | succ kj15 =>
                      have H := HA.out
                      clear HA
                      simp only [busbarref12_spread.j2] at H
                      replace H := Option.bind_eq_some_iff.mp H
                      obtain ⟨t185, A200, H⟩ := H
                      replace H : (if t185 = true then ((busbarref12_has.f kj15 x8_2 x12_15).bind fun t186 => (if t186 = true then (busbarref12_spread.l1 kj15 a2 t174 x8_2 x9_1 (wrap64 (x10_2 + 1)) a0_0 l0_1 l0_2 a0_3) else (if x8_2.length < 8796093022208 then (busbarref12_spread.l1 kj15 a2 t174 (x8_2 ++ [x12_15]) x9_1 (wrap64 (x10_2 + 1)) a0_0 l0_1 l0_2 a0_3) else (none)))) else (busbarref12_spread.l1 kj15 a2 t174 x8_2 x9_1 (wrap64 (x10_2 + 1)) a0_0 l0_1 l0_2 a0_3)) = some r := H
                      have A20 := Aside0.mk A200
                      clear A200
                      by_cases c21 : t185 = true
                      · subst c21
                        have H1 : ((busbarref12_has.f kj15 x8_2 x12_15).bind fun t186 => (if t186 = true then (busbarref12_spread.l1 kj15 a2 t174 x8_2 x9_1 (wrap64 (x10_2 + 1)) a0_0 l0_1 l0_2 a0_3) else (if x8_2.length < 8796093022208 then (busbarref12_spread.l1 kj15 a2 t174 (x8_2 ++ [x12_15]) x9_1 (wrap64 (x10_2 + 1)) a0_0 l0_1 l0_2 a0_3) else (none)))) = some r := by rw [if_pos rfl] at H; exact H
                        clear H
                        have H := H1
                        clear H1
                        replace H := Option.bind_eq_some_iff.mp H
                        obtain ⟨t186, A220, H⟩ := H
                        replace H : (if t186 = true then (busbarref12_spread.l1 kj15 a2 t174 x8_2 x9_1 (wrap64 (x10_2 + 1)) a0_0 l0_1 l0_2 a0_3) else (if x8_2.length < 8796093022208 then (busbarref12_spread.l1 kj15 a2 t174 (x8_2 ++ [x12_15]) x9_1 (wrap64 (x10_2 + 1)) a0_0 l0_1 l0_2 a0_3) else (none))) = some r := H
                        have A22 := Aside0.mk A220
                        clear A220
                        by_cases c23 : t186 = true
                        · subst c23
                          have H1 : (busbarref12_spread.l1 kj15 a2 t174 x8_2 x9_1 (wrap64 (x10_2 + 1)) a0_0 l0_1 l0_2 a0_3) = some r := by rw [if_pos rfl] at H; exact H
                          clear H
                          have H := H1
                          clear H1
                          have H' := Aside0.mk H
                          clear H
                          obtain ⟨Ao24, co24, eo24⟩ := Kd.R_slice HO_8.out
                          subst eo24
                          go_wp2_with (first | ((with_reducible refine gate_callee (f := 42) rfl ?_); refine goesL_ (some 63) rfl rfl Try.func42 (by kernel_rfl) rfl #[.slice Ao24 x8_2.length co24, .string x11_15] rfl (by (try simp only [List.map_toArray, List.map_cons, List.map_nil]); first | done | rfl | (simp only [List.length_drop, List.length_take]; rfl)) ?_; (with_reducible refine (busbarref12_has.calls kj15 _ _ x8_2 x11_15 true _ ?side1 ?side2 A20.out).mono ?_); (case side1 => repeat (first | exact (Kd.R_reads' HO_8.out).2.2 | (with_reducible refine Kd.C_alloc ?_ _) | (with_reducible refine Kd.C_drewN ?_ _) | (with_reducible refine Kd.C_drew ?_))); (case side2 => exact (Kd.R_reads' HO_8.out).2.1); rintro e w' ⟨rfl, ⟨nd, rfl⟩⟩; refine ⟨_, rfl, ?_⟩) | (go_at_call 42; (with_reducible refine (busbarref12_has.calls kj15 _ _ x8_2 x12_15 true _ ?side1 ?side2 A22.out).mono ?_); (case side1 => repeat (first | exact (Kd.R_reads' HO_8.out).2.2 | (with_reducible refine Kd.C_alloc ?_ _) | (with_reducible refine Kd.C_drewN ?_ _) | (with_reducible refine Kd.C_drew ?_))); (case side2 => exact (Kd.R_reads' HO_8.out).2.1); rintro e w' ⟨rfl, ⟨nd, rfl⟩⟩))
                          go_roundg kj15
                          case measure => have := HK1.out; have := HK2.out; have := HJ15.out; omega
                          case rel => exact ⟨(x8_2), (wrap64 (x10_2 + 1)), (by first | rfl | (simp; done) | (simp [*]; done)), H', ⟨by have := HK1.out; have := HK2.out; have := HJ15.out; omega⟩, ⟨by (with_reducible repeat (first | apply Kd.R_alloc | apply Kd.R_drewN | apply Kd.R_drew)); exact HO_7.out⟩, ⟨by (with_reducible repeat (first | apply Kd.R_alloc | apply Kd.R_drewN | apply Kd.R_drew)); exact HO_8.out⟩, ⟨by (with_reducible repeat (first | refine blk_drewN ?_ _ | refine blk_drew ?_ | refine blk_alloc ?_ _)); exact BK173.out⟩, ⟨by repeat (first | (with_reducible first | exact HB.out | apply below_alloc | apply pw_below_drewN | apply below_drew1 | refine below_set ?_ GE173.out) | exact HB.out)⟩⟩
                        · replace c23 := Bool.eq_false_iff.mpr c23
                          subst c23
                          have H1 : (if x8_2.length < 8796093022208 then (busbarref12_spread.l1 kj15 a2 t174 (x8_2 ++ [x12_15]) x9_1 (wrap64 (x10_2 + 1)) a0_0 l0_1 l0_2 a0_3) else (none)) = some r := by rw [if_neg (show ¬ (false = true) by decide)] at H; exact H
                          clear H
                          have H := H1
                          clear H1
                          by_cases c25 : x8_2.length < 8796093022208
                          · rw [if_pos c25] at H
                            have LMc25 := Aside0.mk c25
                            clear c25
                            obtain ⟨y187, hy187⟩ : ∃ y_ : List ByteArray, y_ = (x8_2 ++ [x12_15]) := ⟨_, rfl⟩
                            replace H : (busbarref12_spread.l1 kj15 a2 t174 y187 x9_1 (wrap64 (x10_2 + 1)) a0_0 l0_1 l0_2 a0_3) = some r := by first | (rw [hy187]; with_reducible exact H) | (have H2_ := (Option.bind_some _ _).symm.trans H; rw [hy187]; with_reducible exact H2_) | (have H2_ := (Option.bind_some _ _).symm.trans H; with_reducible exact H2_) | with_reducible exact H | (rw [hy187]; exact H) | exact H
                            have Ny187 := Aside0.mk hy187
                            clear hy187
                            have H' := Aside0.mk H
                            clear H
                            obtain ⟨Ao26, co26, eo26⟩ := Kd.R_slice HO_8.out
                            subst eo26
                            go_wp2_with (first | ((with_reducible refine gate_callee (f := 42) rfl ?_); refine goesL_ (some 63) rfl rfl Try.func42 (by kernel_rfl) rfl #[.slice Ao26 x8_2.length co26, .string x11_15] rfl (by (try simp only [List.map_toArray, List.map_cons, List.map_nil]); first | done | rfl | (simp only [List.length_drop, List.length_take]; rfl)) ?_; (with_reducible refine (busbarref12_has.calls kj15 _ _ x8_2 x11_15 true _ ?side1 ?side2 A20.out).mono ?_); (case side1 => repeat (first | exact (Kd.R_reads' HO_8.out).2.2 | (with_reducible refine Kd.C_alloc ?_ _) | (with_reducible refine Kd.C_drewN ?_ _) | (with_reducible refine Kd.C_drew ?_))); (case side2 => exact (Kd.R_reads' HO_8.out).2.1); rintro e w' ⟨rfl, ⟨nd, rfl⟩⟩; refine ⟨_, rfl, ?_⟩) | (go_at_call 42; (with_reducible refine (busbarref12_has.calls kj15 _ _ x8_2 x12_15 false _ ?side1 ?side2 A22.out).mono ?_); (case side1 => repeat (first | exact (Kd.R_reads' HO_8.out).2.2 | (with_reducible refine Kd.C_alloc ?_ _) | (with_reducible refine Kd.C_drewN ?_ _) | (with_reducible refine Kd.C_drew ?_))); (case side2 => exact (Kd.R_reads' HO_8.out).2.1); rintro e w' ⟨rfl, ⟨nd, rfl⟩⟩) | ((with_reducible refine gate_builtin (b := .append) (xs := #[.tmp 70, .tmp 72]) rfl ?_); at_builtin; refine Kd.R_append Kd.string (w0 := w) w.heap.size rfl (.tmp 70) (.tmp 72) 29 9 (.string ⟨#[]⟩) 16 rfl Try.underlying29 info9 rfl (by decide) (by omega) (.slice Ao26 x8_2.length co26) x8_2 x12_15 [.string x12_15] (fun k_ => some k_ ≠ (.slice Ao10 t174.length co10 : Value).ownBlock) (fun _ => False) rfl rfl ?aP (fun _ hk => hk.elim) ?aF ?aO ?aB ?aS ?aL ?_; (case aP => exact rfl); (case aB => exact (by repeat (first | (with_reducible first | exact HB.out | apply below_alloc | apply pw_below_drewN | apply below_drew1 | refine below_set ?_ GE173.out) | exact HB.out))); (case aF => exact (fun k_ hk => Kd.fresh' (Kd.R_lt (by (with_reducible repeat (first | apply Kd.R_alloc | apply Kd.R_drewN | apply Kd.R_drew)); exact HO_7.out)) k_ hk)); (case aO => exact (by (with_reducible repeat (first | apply Kd.R_alloc | apply Kd.R_drewN | apply Kd.R_drew)); exact HO_8.out)); (case aS => exact (below_size (by repeat (first | (with_reducible first | exact HB.out | apply below_alloc | apply pw_below_drewN | apply below_drew1 | refine below_set ?_ GE173.out) | exact HB.out)))); (case aL => have := LMc25.out; omega); intro v188 w27 ho hb hg hat; rw [← Ny187.out] at ho; have n0_ := Aside0.mk (Kd.R_after (ok := (fun _ => True)) (by (with_reducible repeat (first | apply Kd.R_alloc | apply Kd.R_drewN | apply Kd.R_drew)); exact Kd.R_mono HO_7.out (fun _ hk => ⟨trivial, hk⟩)) hg hat); have n1_ := Aside0.mk (blk_grown (g := gb173) (o := .cells #[.string a0_0, .slice (some ad181) l0_1.length c0_1, .slice A0_2 l0_2.length c0_2, .string a0_3] 25 (0, 0)) (by (with_reducible repeat (first | refine blk_drewN ?_ _ | refine blk_drew ?_ | refine blk_alloc ?_ _)); exact BK173.out) hg (Kd.R_ne HO_8.out BK173.out (by decide))); have n2_ := Aside0.mk (hb); have n3_ := Aside0.mk (ho); clear HO_7; clear BK173; clear HB; clear HO_8; have HO_7 := n0_; have BK173 := n1_; have HB := n2_; have HO189 := n3_; clear n0_ n1_ n2_ n3_; clear ho hb hg hat))
                            go_roundg kj15
                            case measure => have := HK1.out; have := HK2.out; have := HJ15.out; omega
                            case rel => exact ⟨(y187), (wrap64 (x10_2 + 1)), (by first | rfl | (simp; done) | (simp [*]; done)), H', ⟨by have := HK1.out; have := HK2.out; have := HJ15.out; omega⟩, ⟨by (with_reducible repeat (first | apply Kd.R_alloc | apply Kd.R_drewN | apply Kd.R_drew)); exact Kd.R_mono HO_7.out (fun _ hk => hk.2)⟩, ⟨by (with_reducible repeat (first | apply Kd.R_alloc | apply Kd.R_drewN | apply Kd.R_drew)); exact HO189.out⟩, ⟨by (with_reducible repeat (first | refine blk_drewN ?_ _ | refine blk_drew ?_ | refine blk_alloc ?_ _)); exact BK173.out⟩, ⟨by repeat (first | (with_reducible first | exact HB.out | apply below_alloc | apply pw_below_drewN | apply below_drew1 | refine below_set ?_ GE173.out) | exact HB.out)⟩⟩
                          · rw [if_neg c25] at H
                            exact absurd H (by simp)
                      · replace c21 := Bool.eq_false_iff.mpr c21
                        subst c21
                        have H1 : (busbarref12_spread.l1 kj15 a2 t174 x8_2 x9_1 (wrap64 (x10_2 + 1)) a0_0 l0_1 l0_2 a0_3) = some r := by rw [if_neg (show ¬ (false = true) by decide)] at H; exact H
                        clear H
                        have H := H1
                        clear H1
                        have H' := Aside0.mk H
                        clear H
                        obtain ⟨Ao28, co28, eo28⟩ := Kd.R_slice HO_8.out
                        subst eo28
                        go_wp2_with (first | ((with_reducible refine gate_callee (f := 42) rfl ?_); refine goesL_ (some 63) rfl rfl Try.func42 (by kernel_rfl) rfl #[.slice Ao28 x8_2.length co28, .string x11_15] rfl (by (try simp only [List.map_toArray, List.map_cons, List.map_nil]); first | done | rfl | (simp only [List.length_drop, List.length_take]; rfl)) ?_; (with_reducible refine (busbarref12_has.calls kj15 _ _ x8_2 x11_15 false _ ?side1 ?side2 A20.out).mono ?_); (case side1 => repeat (first | exact (Kd.R_reads' HO_8.out).2.2 | (with_reducible refine Kd.C_alloc ?_ _) | (with_reducible refine Kd.C_drewN ?_ _) | (with_reducible refine Kd.C_drew ?_))); (case side2 => exact (Kd.R_reads' HO_8.out).2.1); rintro e w' ⟨rfl, ⟨nd, rfl⟩⟩; refine ⟨_, rfl, ?_⟩))
                        go_roundg kj15
                        case measure => have := HK1.out; have := HK2.out; have := HJ15.out; omega
                        case rel => exact ⟨(x8_2), (wrap64 (x10_2 + 1)), (by first | rfl | (simp; done) | (simp [*]; done)), H', ⟨by have := HK1.out; have := HK2.out; have := HJ15.out; omega⟩, ⟨by (with_reducible repeat (first | apply Kd.R_alloc | apply Kd.R_drewN | apply Kd.R_drew)); exact HO_7.out⟩, ⟨by (with_reducible repeat (first | apply Kd.R_alloc | apply Kd.R_drewN | apply Kd.R_drew)); exact HO_8.out⟩, ⟨by (with_reducible repeat (first | refine blk_drewN ?_ _ | refine blk_drew ?_ | refine blk_alloc ?_ _)); exact BK173.out⟩, ⟨by repeat (first | (with_reducible first | exact HB.out | apply below_alloc | apply pw_below_drewN | apply below_drew1 | refine below_set ?_ GE173.out) | exact HB.out)⟩⟩
                · rw [if_neg c15] at H
                  exact absurd H (by simp)
              · rw [if_neg c14] at H
                have c14b0 : decide (x10_2 < (l0_1.length : Int)) = false := decide_eq_false c14
                clear c14
                have H' := Aside0.mk H
                clear H
                have hcz29_0 : wr.cell? ⟨gb173, 0, none⟩ = some (.string a0_0) := (blk_cell BK173.out 0).trans rfl
                have hcz29_1 : wr.cell? ⟨gb173, 1, none⟩ = some (.slice A0_1 l0_1.length c0_1) := (blk_cell BK173.out 1).trans rfl
                have hcz29_2 : wr.cell? ⟨gb173, 2, none⟩ = some (.slice A0_2 l0_2.length c0_2) := (blk_cell BK173.out 2).trans rfl
                have hcz29_3 : wr.cell? ⟨gb173, 3, none⟩ = some (.string a0_3) := (blk_cell BK173.out 3).trans rfl
                have hfz29_0 := blk_frozen BK173.out 0
                have hfz29_1 := blk_frozen BK173.out 1
                have hfz29_2 := blk_frozen BK173.out 2
                have hfz29_3 := blk_frozen BK173.out 3
                go_wp2
                go_roundg k2
                case measure => have := HK1.out; have := HK2.out; omega
                case rel => exact ⟨(x8_2), (wrap64 (x9_1 + 1)), (by first | rfl | (simp; done) | (simp [*]; done)), H', ⟨by have := HK1.out; have := HK2.out; omega⟩, ⟨by (with_reducible repeat (first | apply Kd.R_alloc | apply Kd.R_drewN | apply Kd.R_drew)); exact HO_7.out⟩, ⟨by (with_reducible repeat (first | apply Kd.R_alloc | apply Kd.R_drewN | apply Kd.R_drew)); exact HO_8.out⟩, ⟨by (with_reducible repeat (first | refine blk_drewN ?_ _ | refine blk_drew ?_ | refine blk_alloc ?_ _)); exact BK173.out⟩, ⟨by repeat (first | (with_reducible first | exact HB.out | apply below_alloc | apply pw_below_drewN | apply below_drew1 | refine below_set ?_ GE173.out) | exact HB.out)⟩⟩
        · rw [if_neg c13] at H
          have c13b0 : decide (x9_1 < (t174.length : Int)) = false := decide_eq_false c13
          clear c13
          have H' := Aside0.mk H
          clear H
          go_wp2
          go_loopg [13, 14] k1 (fun kq v13 v14 w' => ∃ (x13_2 : List ByteArray) (x14_2 : Int), v14 = .int .i64 x14_2 ∧ Aside0 (busbarref12_spread.l2 kq t174 x8_1 x13_2 x14_2 = some r) ∧ Aside0 (kq ≤ k1) ∧ Aside0 (Kd.R Kd.string 9 w' w.heap.size (fun k_ => some k_ ≠ (u8 : Value).ownBlock ∧ some k_ ≠ (v13 : Value).ownBlock) (.slice Ao10 t174.length co10) t174) ∧ Aside0 (Kd.R Kd.string 9 w' w.heap.size (fun k_ => some k_ ≠ ((.slice Ao10 t174.length co10) : Value).ownBlock ∧ some k_ ≠ (v13 : Value).ownBlock) u8 x8_1) ∧ Aside0 (Kd.R Kd.string 9 w' w.heap.size (fun k_ => some k_ ≠ ((.slice Ao10 t174.length co10) : Value).ownBlock ∧ some k_ ≠ (u8 : Value).ownBlock) v13 x13_2) ∧ Aside0 (w'.heap[gb173]? = some (.cells #[.string a0_0, (.slice A0_1 l0_1.length c0_1), (.slice A0_2 l0_2.length c0_2), .string a0_3] 25 (0, 0))) ∧ Aside0 (Below w.heap.size w w'))
          case atStart => exact ⟨(([] : List ByteArray)), (0), (by first | rfl | (simp; done) | (simp [*]; done)), H', ⟨Nat.le_refl _⟩, ⟨by (with_reducible repeat (first | apply Kd.R_alloc | apply Kd.R_drewN | apply Kd.R_drew)); exact Kd.R_mono HO_7.out (fun _ hk => ⟨hk, (by simp [Value.ownBlock])⟩)⟩, ⟨by (with_reducible repeat (first | apply Kd.R_alloc | apply Kd.R_drewN | apply Kd.R_drew)); exact Kd.R_mono HO_8.out (fun _ hk => ⟨hk, (by simp [Value.ownBlock])⟩)⟩, ⟨by first | exact Kd.R_nil _ _ _ _ _ | exact Kd.N_nil _ _ _ _ _ | exact Kd.V_nil _ _ _ _ _ | exact Kd.Q_nil _ _ _ _ _ | exact Kd.S_nil _ _ _ _ _⟩, ⟨by (with_reducible repeat (first | refine blk_drewN ?_ _ | refine blk_drew ?_ | refine blk_alloc ?_ _)); exact BK173.out⟩, ⟨by repeat (first | (with_reducible first | exact HB.out | apply below_alloc | apply pw_below_drewN | apply below_drew1 | refine below_set ?_ GE173.out) | exact HB.out)⟩⟩
          case round =>
            clear H'
            try clear c1
            try clear p1
            try clear q1
            try clear hx1
            try clear c2
            try clear p2
            try clear c4
            try clear c5
            try clear c6
            try clear p6
            try clear c13
            try clear c13b0
            try clear c14
            try clear c14b0
            try clear c15
            try clear c15b0
            try clear c18
            try clear p18
            try clear q18
            try clear hx18
            try clear c19
            try clear c21
            try clear c23
            try clear c25
            try clear hcz17_0
            try clear hcz17_1
            try clear hcz17_2
            try clear hcz17_3
            try clear hcz19_0
            try clear hcz19_1
            try clear hcz19_2
            try clear hcz19_3
            try clear hcz29_0
            try clear hcz29_1
            try clear hcz29_2
            try clear hcz29_3
            try clear hcz8_0
            try clear hcz8_1
            try clear hcz8_2
            try clear hcz8_3
            try clear hfz17_0
            try clear hfz17_1
            try clear hfz17_2
            try clear hfz17_3
            try clear hfz19_0
            try clear hfz19_1
            try clear hfz19_2
            try clear hfz19_3
            try clear hfz29_0
            try clear hfz29_1
            try clear hfz29_2
            try clear hfz29_3
            try clear hfz8_0
            try clear hfz8_1
            try clear hfz8_2
            try clear hfz8_3
            try clear hx181_0
            try clear hx181_1
            try clear hx181_2
            try clear hx181_3
            try clear hx181_4
            try clear hx182_0
            try clear hx182_1
            try clear hx182_2
            try clear hx182_3
            try clear hx182_4
            try clear hx183_0
            try clear hx183_1
            try clear hx183_2
            try clear hx183_3
            try clear hx183_4
            try clear hx184_0
            try clear hx184_1
            try clear hx184_2
            try clear hx184_3
            try clear hx184_4
            try clear p1
            try clear p18
            try clear p181
            try clear p182
            try clear p183
            try clear p184
            try clear p2
            try clear q1
            try clear q18
            try clear q181
            try clear q182
            try clear q183
            try clear q184
            obtain ⟨x13_2, x14_2, rfl, HA, HK2, HO_7, HO_8, HO_13, BK173, HB⟩ := hrel
            cases gk with
            | zero => exact absurd HA.out (by simp [busbarref12_spread.l2])
            | succ k2 =>
              have H := HA.out
              clear HA
              simp only [busbarref12_spread.l2] at H
              by_cases c30 : x14_2 < (t174.length : Int)
              · rw [if_pos c30] at H
                have c30b0 : decide (x14_2 < (t174.length : Int)) = true := decide_eq_true c30
                clear c30
                by_cases c31 : 0 ≤ x14_2
                · rw [if_pos c31] at H
                  have c31b0 : decide (0 ≤ x14_2) = true := decide_eq_true c31
                  clear c31
                  replace H := Option.bind_eq_some_iff.mp H
                  obtain ⟨t191, A320, H⟩ := H
                  replace H : (if t191 = true then (if x13_2.length < 8796093022208 then (busbarref12_spread.l2 k2 t174 x8_1 (x13_2 ++ [rdOf ByteArray.empty t174 x14_2]) (wrap64 (x14_2 + 1))) else (none)) else (busbarref12_spread.l2 k2 t174 x8_1 x13_2 (wrap64 (x14_2 + 1)))) = some r := H
                  have A32 := Aside0.mk A320
                  clear A320
                  by_cases c33 : t191 = true
                  · subst c33
                    have H1 : (if x13_2.length < 8796093022208 then (busbarref12_spread.l2 k2 t174 x8_1 (x13_2 ++ [rdOf ByteArray.empty t174 x14_2]) (wrap64 (x14_2 + 1))) else (none)) = some r := by rw [if_pos rfl] at H; exact H
                    clear H
                    have H := H1
                    clear H1
                    by_cases c34 : x13_2.length < 8796093022208
                    · rw [if_pos c34] at H
                      have LMc34 := Aside0.mk c34
                      clear c34
                      obtain ⟨y193, hy193⟩ : ∃ y_ : List ByteArray, y_ = (x13_2 ++ [rdOf ByteArray.empty t174 x14_2]) := ⟨_, rfl⟩
                      replace H : (busbarref12_spread.l2 k2 t174 x8_1 y193 (wrap64 (x14_2 + 1))) = some r := by first | (rw [hy193]; with_reducible exact H) | (have H2_ := (Option.bind_some _ _).symm.trans H; rw [hy193]; with_reducible exact H2_) | (have H2_ := (Option.bind_some _ _).symm.trans H; with_reducible exact H2_) | with_reducible exact H | (rw [hy193]; exact H) | exact H
                      have Ny193 := Aside0.mk hy193
                      clear hy193
                      have H' := Aside0.mk H
                      clear H
                      have p190 : 0 ≤ (x14_2 : Int) := of_decide_eq_true (by first | (with_reducible assumption) | assumption)
                      have q190 : x14_2 < (t174.length : Int) := of_decide_eq_true (by first | (with_reducible assumption) | assumption)
                      obtain ⟨ad190, e190, hx190_0⟩ := Kd.at_string (Kd.R_reads' HO_7.out).2.2 x14_2 p190 q190
                      cases e190
                      replace p190 := eq_true p190
                      replace q190 := eq_true q190
                      obtain ⟨Ao35, co35, eo35⟩ := Kd.R_slice HO_8.out
                      subst eo35
                      go_wp2_with (first | ((with_reducible refine gate_callee (f := 42) rfl ?_); refine goesL_ (some 85) rfl rfl Try.func42 (by kernel_rfl) rfl #[.slice Ao35 x8_1.length co35, .string (rdOf ByteArray.empty t174 x14_2)] rfl (by (try simp only [List.map_toArray, List.map_cons, List.map_nil]); first | done | rfl | (simp only [List.length_drop, List.length_take]; rfl)) ?_; (with_reducible refine (busbarref12_has.calls k2 _ _ x8_1 (rdOf ByteArray.empty t174 x14_2) true _ ?side1 ?side2 A32.out).mono ?_); (case side1 => repeat (first | exact (Kd.R_reads' HO_8.out).2.2 | (with_reducible refine Kd.C_alloc ?_ _) | (with_reducible refine Kd.C_drewN ?_ _) | (with_reducible refine Kd.C_drew ?_))); (case side2 => exact (Kd.R_reads' HO_8.out).2.1); rintro e w' ⟨rfl, ⟨nd, rfl⟩⟩; refine ⟨_, rfl, ?_⟩; have p192 : 0 ≤ (x14_2 : Int) := of_decide_eq_true (by first | (with_reducible assumption) | assumption); have q192 : x14_2 < (t174.length : Int) := of_decide_eq_true (by first | (with_reducible assumption) | assumption); obtain ⟨ad192, e192, hx192_0⟩ := Kd.at_string (Kd.R_reads' HO_7.out).2.2 x14_2 p192 q192; obtain rfl : ad190 = ad192 := (by injection e192); replace p192 := eq_true p192; replace q192 := eq_true q192) | ((with_reducible refine gate_builtin (b := .append) (xs := #[.tmp 86, .tmp 91]) rfl ?_); at_builtin; refine Kd.R_append Kd.string (w0 := w) w.heap.size rfl (.tmp 86) (.tmp 91) 29 9 (.string ⟨#[]⟩) 16 rfl Try.underlying29 info9 rfl (by decide) (by omega) u13 x13_2 (rdOf ByteArray.empty t174 x14_2) [.string (rdOf ByteArray.empty t174 x14_2)] (fun k_ => some k_ ≠ (.slice (some ad190) t174.length co10 : Value).ownBlock ∧ some k_ ≠ (.slice Ao35 x8_1.length co35 : Value).ownBlock) (fun _ => False) rfl rfl ?aP (fun _ hk => hk.elim) ?aF ?aO ?aB ?aS ?aL ?_; (case aP => exact rfl); (case aB => exact (by repeat (first | (with_reducible first | exact HB.out | apply below_alloc | apply pw_below_drewN | apply below_drew1 | refine below_set ?_ GE173.out) | exact HB.out))); (case aF => exact (fun k_ hk => ⟨Kd.fresh' (Kd.R_lt (by (with_reducible repeat (first | apply Kd.R_alloc | apply Kd.R_drewN | apply Kd.R_drew)); exact HO_7.out)) k_ hk, Kd.fresh' (Kd.R_lt (by (with_reducible repeat (first | apply Kd.R_alloc | apply Kd.R_drewN | apply Kd.R_drew)); exact HO_8.out)) k_ hk⟩)); (case aO => exact (by (with_reducible repeat (first | apply Kd.R_alloc | apply Kd.R_drewN | apply Kd.R_drew)); exact HO_13.out)); (case aS => exact (below_size (by repeat (first | (with_reducible first | exact HB.out | apply below_alloc | apply pw_below_drewN | apply below_drew1 | refine below_set ?_ GE173.out) | exact HB.out)))); (case aL => have := LMc34.out; omega); intro v194 w36 ho hb hg hat; rw [← Ny193.out] at ho; have n0_ := Aside0.mk (Kd.R_after (ok := (fun k_ => some k_ ≠ (.slice Ao35 x8_1.length co35 : Value).ownBlock)) (by (with_reducible repeat (first | apply Kd.R_alloc | apply Kd.R_drewN | apply Kd.R_drew)); exact HO_7.out) hg hat); have n1_ := Aside0.mk (Kd.R_after (ok := (fun k_ => some k_ ≠ (.slice (some ad190) t174.length co10 : Value).ownBlock)) (by (with_reducible repeat (first | apply Kd.R_alloc | apply Kd.R_drewN | apply Kd.R_drew)); exact HO_8.out) hg hat); have n2_ := Aside0.mk (blk_grown (g := gb173) (o := .cells #[.string a0_0, .slice A0_1 l0_1.length c0_1, .slice A0_2 l0_2.length c0_2, .string a0_3] 25 (0, 0)) (by (with_reducible repeat (first | refine blk_drewN ?_ _ | refine blk_drew ?_ | refine blk_alloc ?_ _)); exact BK173.out) hg (Kd.R_ne HO_13.out BK173.out (by decide))); have n3_ := Aside0.mk (hb); have n4_ := Aside0.mk (ho); clear HO_7; clear HO_8; clear BK173; clear HB; clear HO_13; have HO_7 := n0_; have HO_8 := n1_; have BK173 := n2_; have HB := n3_; have HO195 := n4_; clear n0_ n1_ n2_ n3_ n4_; clear ho hb hg hat))
                      go_roundg k2
                      case measure => have := HK1.out; have := HK2.out; omega
                      case rel => exact ⟨(y193), (wrap64 (x14_2 + 1)), (by first | rfl | (simp; done) | (simp [*]; done)), H', ⟨by have := HK1.out; have := HK2.out; omega⟩, ⟨by (with_reducible repeat (first | apply Kd.R_alloc | apply Kd.R_drewN | apply Kd.R_drew)); exact HO_7.out⟩, ⟨by (with_reducible repeat (first | apply Kd.R_alloc | apply Kd.R_drewN | apply Kd.R_drew)); exact HO_8.out⟩, ⟨by (with_reducible repeat (first | apply Kd.R_alloc | apply Kd.R_drewN | apply Kd.R_drew)); exact HO195.out⟩, ⟨by (with_reducible repeat (first | refine blk_drewN ?_ _ | refine blk_drew ?_ | refine blk_alloc ?_ _)); exact BK173.out⟩, ⟨by repeat (first | (with_reducible first | exact HB.out | apply below_alloc | apply pw_below_drewN | apply below_drew1 | refine below_set ?_ GE173.out) | exact HB.out)⟩⟩
                    · rw [if_neg c34] at H
                      exact absurd H (by simp)
                  · replace c33 := Bool.eq_false_iff.mpr c33
                    subst c33
                    have H1 : (busbarref12_spread.l2 k2 t174 x8_1 x13_2 (wrap64 (x14_2 + 1))) = some r := by rw [if_neg (show ¬ (false = true) by decide)] at H; exact H
                    clear H
                    have H := H1
                    clear H1
                    have H' := Aside0.mk H
                    clear H
                    have p190 : 0 ≤ (x14_2 : Int) := of_decide_eq_true (by first | (with_reducible assumption) | assumption)
                    have q190 : x14_2 < (t174.length : Int) := of_decide_eq_true (by first | (with_reducible assumption) | assumption)
                    obtain ⟨ad190, e190, hx190_0⟩ := Kd.at_string (Kd.R_reads' HO_7.out).2.2 x14_2 p190 q190
                    cases e190
                    replace p190 := eq_true p190
                    replace q190 := eq_true q190
                    obtain ⟨Ao37, co37, eo37⟩ := Kd.R_slice HO_8.out
                    subst eo37
                    go_wp2_with (first | ((with_reducible refine gate_callee (f := 42) rfl ?_); refine goesL_ (some 85) rfl rfl Try.func42 (by kernel_rfl) rfl #[.slice Ao37 x8_1.length co37, .string (rdOf ByteArray.empty t174 x14_2)] rfl (by (try simp only [List.map_toArray, List.map_cons, List.map_nil]); first | done | rfl | (simp only [List.length_drop, List.length_take]; rfl)) ?_; (with_reducible refine (busbarref12_has.calls k2 _ _ x8_1 (rdOf ByteArray.empty t174 x14_2) false _ ?side1 ?side2 A32.out).mono ?_); (case side1 => repeat (first | exact (Kd.R_reads' HO_8.out).2.2 | (with_reducible refine Kd.C_alloc ?_ _) | (with_reducible refine Kd.C_drewN ?_ _) | (with_reducible refine Kd.C_drew ?_))); (case side2 => exact (Kd.R_reads' HO_8.out).2.1); rintro e w' ⟨rfl, ⟨nd, rfl⟩⟩; refine ⟨_, rfl, ?_⟩))
                    go_roundg k2
                    case measure => have := HK1.out; have := HK2.out; omega
                    case rel => exact ⟨(x13_2), (wrap64 (x14_2 + 1)), (by first | rfl | (simp; done) | (simp [*]; done)), H', ⟨by have := HK1.out; have := HK2.out; omega⟩, ⟨by (with_reducible repeat (first | apply Kd.R_alloc | apply Kd.R_drewN | apply Kd.R_drew)); exact HO_7.out⟩, ⟨by (with_reducible repeat (first | apply Kd.R_alloc | apply Kd.R_drewN | apply Kd.R_drew)); exact HO_8.out⟩, ⟨by (with_reducible repeat (first | apply Kd.R_alloc | apply Kd.R_drewN | apply Kd.R_drew)); exact HO_13.out⟩, ⟨by (with_reducible repeat (first | refine blk_drewN ?_ _ | refine blk_drew ?_ | refine blk_alloc ?_ _)); exact BK173.out⟩, ⟨by repeat (first | (with_reducible first | exact HB.out | apply below_alloc | apply pw_below_drewN | apply below_drew1 | refine below_set ?_ GE173.out) | exact HB.out)⟩⟩
                · rw [if_neg c31] at H
                  exact absurd H (by simp)
              · rw [if_neg c30] at H
                have c30b0 : decide (x14_2 < (t174.length : Int)) = false := decide_eq_false c30
                clear c30
                obtain rfl := Option.some.inj H
                go_wp2
                go_ret
                exact ⟨_, by first | rfl | (simp [errW_none, errW_some] <;> rfl) | (simp [*, errW_none, errW_some] <;> rfl), by (with_reducible repeat (first | apply Kd.R_alloc | apply Kd.R_drewN | apply Kd.R_drew)); exact Kd.R_mono HO_13.out (fun _ hk => trivial), by repeat (first | (with_reducible first | exact HB.out | apply below_alloc | apply pw_below_drewN | apply below_drew1 | refine below_set ?_ GE173.out) | exact HB.out)⟩
  · replace c6 := Bool.eq_false_iff.mpr c6
    subst c6
    have H1 : (some ([] : List ByteArray)) = some r := by rw [if_neg (show ¬ (false = true) by decide)] at H; exact H
    clear H
    have H := H1
    clear H1
    obtain rfl := Option.some.inj H
    go_enter Try.func54, Try.ntmps54
    go_wp2_with (first | ((with_reducible refine gate_dst (N := 3) rfl ?_); refine box_event ?hg (N := 3) ?hd (cs := #[.string a0_0, .slice A0_1 l0_1.length c0_1, .slice A0_2 l0_2.length c0_2, .string a0_3]) (t := 25) ?hr ?_; (case hd => rfl); (case hg => rfl); (case hr => first | (go_simp; done) | (go_simp; rfl)); intro gb173 hg w38 hbox hb; have n0_ := Aside0.mk (below_step (by repeat (first | (with_reducible first | exact HB.out | apply below_alloc | apply pw_below_drewN | apply below_drew1) | exact HB.out)) hb); have n1_ := Aside0.mk (hbox); have n2_ := Aside0.mk ((by rw [hg]; exact (below_size (by repeat (first | (with_reducible first | exact HB.out | apply below_alloc | apply pw_below_drewN | apply below_drew1) | exact HB.out))) : w.heap.size ≤ gb173)); have n3_ := Aside0.mk ((by rw [hg]; exact (below_size (by repeat (first | (with_reducible first | exact HB.out | apply below_alloc | apply pw_below_drewN | apply below_drew1) | exact HB.out))) : w.heap.size ≤ gb173)); clear HB; have HB := n0_; have BK173 := n1_; have GW173 := n2_; have GE173 := n3_; clear n0_ n1_ n2_ n3_; clear hb hbox hg; have hcz39_0 : w38.cell? ⟨gb173, 0, none⟩ = some (.string a0_0) := (blk_cell BK173.out 0).trans rfl; have hcz39_1 : w38.cell? ⟨gb173, 1, none⟩ = some (.slice A0_1 l0_1.length c0_1) := (blk_cell BK173.out 1).trans rfl; have hcz39_2 : w38.cell? ⟨gb173, 2, none⟩ = some (.slice A0_2 l0_2.length c0_2) := (blk_cell BK173.out 2).trans rfl; have hcz39_3 : w38.cell? ⟨gb173, 3, none⟩ = some (.string a0_3) := (blk_cell BK173.out 3).trans rfl; have hfz39_0 := blk_frozen BK173.out 0; have hfz39_1 := blk_frozen BK173.out 1; have hfz39_2 := blk_frozen BK173.out 2; have hfz39_3 := blk_frozen BK173.out 3) | ((with_reducible refine gate_callee (f := 19) rfl ?_); refine goesL_ (some 16) rfl rfl Try.func19 (by kernel_rfl) rfl #[.agg #[.string a0_0, .slice A0_1 l0_1.length c0_1, .slice A0_2 l0_2.length c0_2, .string a0_3]] rfl (by (try simp only [List.map_toArray, List.map_cons, List.map_nil]); first | done | rfl | (simp only [List.length_drop, List.length_take]; rfl)) ?_; (with_reducible refine (busbarref12_Nodes.calls k a0_0 _ _ l0_1 _ _ l0_2 a0_3 t174 _ ?side1 ?side2 ?side3 ?side4 A4.out).mono ?_); (case side1 => repeat (first | exact (Kd.C_below HR0_1.out HB.out) | (with_reducible refine Kd.C_alloc ?_ _) | (with_reducible refine Kd.C_drewN ?_ _) | (with_reducible refine Kd.C_drew ?_))); (case side2 => exact HC0_1.out); (case side3 => repeat (first | exact (Kd.C_below HR0_2.out HB.out) | (with_reducible refine Kd.C_alloc ?_ _) | (with_reducible refine Kd.C_drewN ?_ _) | (with_reducible refine Kd.C_drew ?_))); (case side4 => exact HC0_2.out); rintro e w40 ⟨v175, rfl, ho0, hb⟩; refine ⟨_, rfl, ?_⟩; have n0_ := Aside0.mk (Kd.R_lower ho0 (below_size (by repeat (first | (with_reducible first | exact HB.out | apply below_alloc | apply pw_below_drewN | apply below_drew1 | refine below_set ?_ GE173.out) | exact HB.out)))); have n1_ := Aside0.mk (blk_below (g := gb173) (o := .cells #[.string a0_0, .slice A0_1 l0_1.length c0_1, .slice A0_2 l0_2.length c0_2, .string a0_3] 25 (0, 0)) (by (with_reducible repeat (first | refine blk_drewN ?_ _ | refine blk_drew ?_ | refine blk_alloc ?_ _)); exact BK173.out) hb); have n2_ := Aside0.mk (below_step (by repeat (first | (with_reducible first | exact HB.out | apply below_alloc | apply pw_below_drewN | apply below_drew1 | refine below_set ?_ GE173.out) | exact HB.out)) hb); clear BK173; clear HB; have HO176 := n0_; have BK173 := n1_; have HB := n2_; clear n0_ n1_ n2_; (try clear hb); (try clear hb2); (try clear hk); (try clear hi); (try clear ho0); obtain ⟨Ao41, co41, eo41⟩ := Kd.R_slice HO176.out; subst eo41) | ((with_reducible refine gate_callee (f := 42) rfl ?_); refine goesL_ (some 19) rfl rfl Try.func42 (by kernel_rfl) rfl #[.slice Ao41 t174.length co41, .string a1] rfl (by (try simp only [List.map_toArray, List.map_cons, List.map_nil]); first | done | rfl | (simp only [List.length_drop, List.length_take]; rfl)) ?_; (with_reducible refine (busbarref12_has.calls k _ _ t174 a1 false _ ?side1 ?side2 A5.out).mono ?_); (case side1 => repeat (first | exact (Kd.R_reads' HO176.out).2.2 | (with_reducible refine Kd.C_alloc ?_ _) | (with_reducible refine Kd.C_drewN ?_ _) | (with_reducible refine Kd.C_drew ?_))); (case side2 => exact (Kd.R_reads' HO176.out).2.1); rintro e w' ⟨rfl, ⟨nd, rfl⟩⟩; refine ⟨_, rfl, ?_⟩))
    go_ret
    exact ⟨_, by first | rfl | (simp [errW_none, errW_some] <;> rfl) | (simp [*, errW_none, errW_some] <;> rfl), by first | exact Kd.R_nil _ _ _ _ _ | exact Kd.N_nil _ _ _ _ _ | exact Kd.V_nil _ _ _ _ _ | exact Kd.Q_nil _ _ _ _ _ | exact Kd.S_nil _ _ _ _ _, by repeat (first | (with_reducible first | exact HB.out | apply below_alloc | apply pw_below_drewN | apply below_drew1 | refine below_set ?_ GE173.out) | exact HB.out)⟩

end Go.Proofs.Ytmacdknicgfglaa.Impl
end
section
/- Printed by a program of this session (a copy of the kit's print.py, one text for all functions of the seat), with some contracts typed by hand among them: for each Go function a Lean function and a proof that the code comes to its answers. -/
namespace Go.Proofs.Ytmacdknicgfglaa.Impl
open Go.RowKit Go.Proofs.YtmacdknicgfglaaW.PrintWords Go.Proofs.YtmacdknicgfglaaW.PrintLast Go.Proofs.YtmacdknicgfglaaW.PrintMore
attribute [local go_sem] max2_int min2_int max_two min_two
set_option linter.unusedVariables false
set_option linter.unusedSimpArgs false

/-! ### busbarref12_Reachable: function 29 -/
def busbarref12_Reachable.f (k : Nat) (a0_0 : ByteArray) (l0_1 : List (S41)) (l0_2 : List (S101)) (a0_3 : ByteArray) (a1 : ByteArray) : Option (List ByteArray) := (busbarref12_spread.f k a0_0 l0_1 l0_2 a0_3 a1 false).bind fun t197 => (some t197)
theorem busbarref12_Reachable.mono : ∀ a0 a1 a2 a3 a4 k, LeO (busbarref12_Reachable.f k a0 a1 a2 a3 a4) (busbarref12_Reachable.f (k + 1) a0 a1 a2 a3 a4) := by
  intro a0 a1 a2 a3 a4 k
  unfold busbarref12_Reachable.f
  repeat' first
      | (with_reducible exact busbarref12_spread.mono _ _ _ _ _ _ _)
      | (with_reducible exact LeO.refl _)
      | (with_reducible exact LeO.none _)
      | (with_reducible refine LeO.ite ?_ ?_)
      | (with_reducible refine LeO.bind ?_ (fun _ => ?_))
      | exact busbarref12_spread.mono _ _ _ _ _ _ _
      | exact LeO.none _
      | refine LeO.ite ?_ ?_
      | refine LeO.bind ?_ (fun _ => ?_)
set_option maxHeartbeats 8000000 in
set_option maxRecDepth 100000 in
theorem busbarref12_Reachable.calls (k : Nat) (a0_0 : ByteArray) (A0_1 : Option Addr) (c0_1 : Nat) (l0_1 : List (S41)) (A0_2 : Option Addr) (c0_2 : Nat) (l0_2 : List (S101)) (a0_3 : ByteArray) (a1 : ByteArray) (r : List ByteArray) (w : World) (hr0_1 : Kd.C k41 w A0_1 l0_1.length l0_1) (hc0_1 : l0_1.length ≤ c0_1) (hr0_2 : Kd.C k101 w A0_2 l0_2.length l0_2) (hc0_2 : l0_2.length ≤ c0_2) (h : busbarref12_Reachable.f k a0_0 l0_1 l0_2 a0_3 a1 = some r) :
    Calls Try.prog 29 #[.agg #[.string a0_0, .slice A0_1 l0_1.length c0_1, .slice A0_2 l0_2.length c0_2, .string a0_3], .string a1] w fun e w' => ∃ v0_ : Value, e = .returned (v0_) ∧ Kd.R Kd.string 9 w' w.heap.size (fun _ => True) v0_ r ∧ Below w.heap.size w w' := by
  have hu25 := Try.underlying25
  have HR0_1 := Aside0.mk hr0_1
  have HC0_1 := Aside0.mk hc0_1
  clear hr0_1 hc0_1
  have HR0_2 := Aside0.mk hr0_2
  have HC0_2 := Aside0.mk hc0_2
  clear hr0_2 hc0_2
  have HB := Aside0.mk (Below.refl w.heap.size w)
  have H : ((busbarref12_spread.f k a0_0 l0_1 l0_2 a0_3 a1 false).bind fun t197 => (some t197)) = some r := h
  clear h
  replace H := Option.bind_eq_some_iff.mp H
  obtain ⟨t197, A30, H⟩ := H
  replace H : (some t197) = some r := H
  have A3 := Aside0.mk A30
  clear A30
  obtain rfl := Option.some.inj H
  go_enter Try.func29, Try.ntmps29
  go_wp2_with (first | ((with_reducible refine gate_dst (N := 2) rfl ?_); refine box_event ?hg (N := 2) ?hd (cs := #[.string a0_0, .slice A0_1 l0_1.length c0_1, .slice A0_2 l0_2.length c0_2, .string a0_3]) (t := 25) ?hr ?_; (case hd => rfl); (case hg => rfl); (case hr => first | (go_simp; done) | (go_simp; rfl)); intro gb196 hg w4 hbox hb; have n0_ := Aside0.mk (below_step (by repeat (first | (with_reducible first | exact HB.out | apply below_alloc | apply pw_below_drewN | apply below_drew1) | exact HB.out)) hb); have n1_ := Aside0.mk (hbox); have n2_ := Aside0.mk ((by rw [hg]; exact (below_size (by repeat (first | (with_reducible first | exact HB.out | apply below_alloc | apply pw_below_drewN | apply below_drew1) | exact HB.out))) : w.heap.size ≤ gb196)); have n3_ := Aside0.mk ((by rw [hg]; exact (below_size (by repeat (first | (with_reducible first | exact HB.out | apply below_alloc | apply pw_below_drewN | apply below_drew1) | exact HB.out))) : w.heap.size ≤ gb196)); clear HB; have HB := n0_; have BK196 := n1_; have GW196 := n2_; have GE196 := n3_; clear n0_ n1_ n2_ n3_; clear hb hbox hg; have hcz5_0 : w4.cell? ⟨gb196, 0, none⟩ = some (.string a0_0) := (blk_cell BK196.out 0).trans rfl; have hcz5_1 : w4.cell? ⟨gb196, 1, none⟩ = some (.slice A0_1 l0_1.length c0_1) := (blk_cell BK196.out 1).trans rfl; have hcz5_2 : w4.cell? ⟨gb196, 2, none⟩ = some (.slice A0_2 l0_2.length c0_2) := (blk_cell BK196.out 2).trans rfl; have hcz5_3 : w4.cell? ⟨gb196, 3, none⟩ = some (.string a0_3) := (blk_cell BK196.out 3).trans rfl; have hfz5_0 := blk_frozen BK196.out 0; have hfz5_1 := blk_frozen BK196.out 1; have hfz5_2 := blk_frozen BK196.out 2; have hfz5_3 := blk_frozen BK196.out 3) | ((with_reducible refine gate_callee (f := 54) rfl ?_); refine goesL_ (some 7) rfl rfl Try.func54 (by kernel_rfl) rfl #[.agg #[.string a0_0, .slice A0_1 l0_1.length c0_1, .slice A0_2 l0_2.length c0_2, .string a0_3], .string a1, .bool false] rfl (by (try simp only [List.map_toArray, List.map_cons, List.map_nil]); first | done | rfl | (simp only [List.length_drop, List.length_take]; rfl)) ?_; (with_reducible refine (busbarref12_spread.calls k a0_0 _ _ l0_1 _ _ l0_2 a0_3 a1 false t197 _ ?side1 ?side2 ?side3 ?side4 A3.out).mono ?_); (case side1 => repeat (first | exact (Kd.C_below HR0_1.out HB.out) | (with_reducible refine Kd.C_alloc ?_ _) | (with_reducible refine Kd.C_drewN ?_ _) | (with_reducible refine Kd.C_drew ?_))); (case side2 => exact HC0_1.out); (case side3 => repeat (first | exact (Kd.C_below HR0_2.out HB.out) | (with_reducible refine Kd.C_alloc ?_ _) | (with_reducible refine Kd.C_drewN ?_ _) | (with_reducible refine Kd.C_drew ?_))); (case side4 => exact HC0_2.out); rintro e w6 ⟨v198, rfl, ho0, hb⟩; refine ⟨_, rfl, ?_⟩; have n0_ := Aside0.mk (Kd.R_lower ho0 (below_size (by repeat (first | (with_reducible first | exact HB.out | apply below_alloc | apply pw_below_drewN | apply below_drew1 | refine below_set ?_ GE196.out) | exact HB.out)))); have n1_ := Aside0.mk (blk_below (g := gb196) (o := .cells #[.string a0_0, .slice A0_1 l0_1.length c0_1, .slice A0_2 l0_2.length c0_2, .string a0_3] 25 (0, 0)) (by (with_reducible repeat (first | refine blk_drewN ?_ _ | refine blk_drew ?_ | refine blk_alloc ?_ _)); exact BK196.out) hb); have n2_ := Aside0.mk (below_step (by repeat (first | (with_reducible first | exact HB.out | apply below_alloc | apply pw_below_drewN | apply below_drew1 | refine below_set ?_ GE196.out) | exact HB.out)) hb); clear BK196; clear HB; have HO199 := n0_; have BK196 := n1_; have HB := n2_; clear n0_ n1_ n2_; (try clear hb); (try clear hb2); (try clear hk); (try clear hi); (try clear ho0)))
  go_ret
  exact ⟨_, by first | rfl | (simp [errW_none, errW_some] <;> rfl) | (simp [*, errW_none, errW_some] <;> rfl), by (with_reducible repeat (first | apply Kd.R_alloc | apply Kd.R_drewN | apply Kd.R_drew)); exact HO199.out, by repeat (first | (with_reducible first | exact HB.out | apply below_alloc | apply pw_below_drewN | apply below_drew1 | refine below_set ?_ GE196.out) | exact HB.out)⟩

-- NOT PRINTED: function 30 (graph_Ancestors)

/-! ### busbarref12_Ancestors: function 31 -/
def busbarref12_Ancestors.f (k : Nat) (a0_0 : ByteArray) (l0_1 : List (S41)) (l0_2 : List (S101)) (a0_3 : ByteArray) (a1 : ByteArray) : Option (List ByteArray) := (busbarref12_spread.f k a0_0 l0_1 l0_2 a0_3 a1 true).bind fun t202 => (some t202)
theorem busbarref12_Ancestors.mono : ∀ a0 a1 a2 a3 a4 k, LeO (busbarref12_Ancestors.f k a0 a1 a2 a3 a4) (busbarref12_Ancestors.f (k + 1) a0 a1 a2 a3 a4) := by
  intro a0 a1 a2 a3 a4 k
  unfold busbarref12_Ancestors.f
  repeat' first
      | (with_reducible exact busbarref12_spread.mono _ _ _ _ _ _ _)
      | (with_reducible exact LeO.refl _)
      | (with_reducible exact LeO.none _)
      | (with_reducible refine LeO.ite ?_ ?_)
      | (with_reducible refine LeO.bind ?_ (fun _ => ?_))
      | exact busbarref12_spread.mono _ _ _ _ _ _ _
      | exact LeO.none _
      | refine LeO.ite ?_ ?_
      | refine LeO.bind ?_ (fun _ => ?_)
set_option maxHeartbeats 8000000 in
set_option maxRecDepth 100000 in
theorem busbarref12_Ancestors.calls (k : Nat) (a0_0 : ByteArray) (A0_1 : Option Addr) (c0_1 : Nat) (l0_1 : List (S41)) (A0_2 : Option Addr) (c0_2 : Nat) (l0_2 : List (S101)) (a0_3 : ByteArray) (a1 : ByteArray) (r : List ByteArray) (w : World) (hr0_1 : Kd.C k41 w A0_1 l0_1.length l0_1) (hc0_1 : l0_1.length ≤ c0_1) (hr0_2 : Kd.C k101 w A0_2 l0_2.length l0_2) (hc0_2 : l0_2.length ≤ c0_2) (h : busbarref12_Ancestors.f k a0_0 l0_1 l0_2 a0_3 a1 = some r) :
    Calls Try.prog 31 #[.agg #[.string a0_0, .slice A0_1 l0_1.length c0_1, .slice A0_2 l0_2.length c0_2, .string a0_3], .string a1] w fun e w' => ∃ v0_ : Value, e = .returned (v0_) ∧ Kd.R Kd.string 9 w' w.heap.size (fun _ => True) v0_ r ∧ Below w.heap.size w w' := by
  have hu25 := Try.underlying25
  have HR0_1 := Aside0.mk hr0_1
  have HC0_1 := Aside0.mk hc0_1
  clear hr0_1 hc0_1
  have HR0_2 := Aside0.mk hr0_2
  have HC0_2 := Aside0.mk hc0_2
  clear hr0_2 hc0_2
  have HB := Aside0.mk (Below.refl w.heap.size w)
  have H : ((busbarref12_spread.f k a0_0 l0_1 l0_2 a0_3 a1 true).bind fun t202 => (some t202)) = some r := h
  clear h
  replace H := Option.bind_eq_some_iff.mp H
  obtain ⟨t202, A30, H⟩ := H
  replace H : (some t202) = some r := H
  have A3 := Aside0.mk A30
  clear A30
  obtain rfl := Option.some.inj H
  go_enter Try.func31, Try.ntmps31
  go_wp2_with (first | ((with_reducible refine gate_dst (N := 2) rfl ?_); refine box_event ?hg (N := 2) ?hd (cs := #[.string a0_0, .slice A0_1 l0_1.length c0_1, .slice A0_2 l0_2.length c0_2, .string a0_3]) (t := 25) ?hr ?_; (case hd => rfl); (case hg => rfl); (case hr => first | (go_simp; done) | (go_simp; rfl)); intro gb201 hg w4 hbox hb; have n0_ := Aside0.mk (below_step (by repeat (first | (with_reducible first | exact HB.out | apply below_alloc | apply pw_below_drewN | apply below_drew1) | exact HB.out)) hb); have n1_ := Aside0.mk (hbox); have n2_ := Aside0.mk ((by rw [hg]; exact (below_size (by repeat (first | (with_reducible first | exact HB.out | apply below_alloc | apply pw_below_drewN | apply below_drew1) | exact HB.out))) : w.heap.size ≤ gb201)); have n3_ := Aside0.mk ((by rw [hg]; exact (below_size (by repeat (first | (with_reducible first | exact HB.out | apply below_alloc | apply pw_below_drewN | apply below_drew1) | exact HB.out))) : w.heap.size ≤ gb201)); clear HB; have HB := n0_; have BK201 := n1_; have GW201 := n2_; have GE201 := n3_; clear n0_ n1_ n2_ n3_; clear hb hbox hg; have hcz5_0 : w4.cell? ⟨gb201, 0, none⟩ = some (.string a0_0) := (blk_cell BK201.out 0).trans rfl; have hcz5_1 : w4.cell? ⟨gb201, 1, none⟩ = some (.slice A0_1 l0_1.length c0_1) := (blk_cell BK201.out 1).trans rfl; have hcz5_2 : w4.cell? ⟨gb201, 2, none⟩ = some (.slice A0_2 l0_2.length c0_2) := (blk_cell BK201.out 2).trans rfl; have hcz5_3 : w4.cell? ⟨gb201, 3, none⟩ = some (.string a0_3) := (blk_cell BK201.out 3).trans rfl; have hfz5_0 := blk_frozen BK201.out 0; have hfz5_1 := blk_frozen BK201.out 1; have hfz5_2 := blk_frozen BK201.out 2; have hfz5_3 := blk_frozen BK201.out 3) | ((with_reducible refine gate_callee (f := 54) rfl ?_); refine goesL_ (some 7) rfl rfl Try.func54 (by kernel_rfl) rfl #[.agg #[.string a0_0, .slice A0_1 l0_1.length c0_1, .slice A0_2 l0_2.length c0_2, .string a0_3], .string a1, .bool true] rfl (by (try simp only [List.map_toArray, List.map_cons, List.map_nil]); first | done | rfl | (simp only [List.length_drop, List.length_take]; rfl)) ?_; (with_reducible refine (busbarref12_spread.calls k a0_0 _ _ l0_1 _ _ l0_2 a0_3 a1 true t202 _ ?side1 ?side2 ?side3 ?side4 A3.out).mono ?_); (case side1 => repeat (first | exact (Kd.C_below HR0_1.out HB.out) | (with_reducible refine Kd.C_alloc ?_ _) | (with_reducible refine Kd.C_drewN ?_ _) | (with_reducible refine Kd.C_drew ?_))); (case side2 => exact HC0_1.out); (case side3 => repeat (first | exact (Kd.C_below HR0_2.out HB.out) | (with_reducible refine Kd.C_alloc ?_ _) | (with_reducible refine Kd.C_drewN ?_ _) | (with_reducible refine Kd.C_drew ?_))); (case side4 => exact HC0_2.out); rintro e w6 ⟨v203, rfl, ho0, hb⟩; refine ⟨_, rfl, ?_⟩; have n0_ := Aside0.mk (Kd.R_lower ho0 (below_size (by repeat (first | (with_reducible first | exact HB.out | apply below_alloc | apply pw_below_drewN | apply below_drew1 | refine below_set ?_ GE201.out) | exact HB.out)))); have n1_ := Aside0.mk (blk_below (g := gb201) (o := .cells #[.string a0_0, .slice A0_1 l0_1.length c0_1, .slice A0_2 l0_2.length c0_2, .string a0_3] 25 (0, 0)) (by (with_reducible repeat (first | refine blk_drewN ?_ _ | refine blk_drew ?_ | refine blk_alloc ?_ _)); exact BK201.out) hb); have n2_ := Aside0.mk (below_step (by repeat (first | (with_reducible first | exact HB.out | apply below_alloc | apply pw_below_drewN | apply below_drew1 | refine below_set ?_ GE201.out) | exact HB.out)) hb); clear BK201; clear HB; have HO204 := n0_; have BK201 := n1_; have HB := n2_; clear n0_ n1_ n2_; (try clear hb); (try clear hb2); (try clear hk); (try clear hi); (try clear ho0)))
  go_ret
  exact ⟨_, by first | rfl | (simp [errW_none, errW_some] <;> rfl) | (simp [*, errW_none, errW_some] <;> rfl), by (with_reducible repeat (first | apply Kd.R_alloc | apply Kd.R_drewN | apply Kd.R_drew)); exact HO204.out, by repeat (first | (with_reducible first | exact HB.out | apply below_alloc | apply pw_below_drewN | apply below_drew1 | refine below_set ?_ GE201.out) | exact HB.out)⟩

-- NOT PRINTED: function 6 (busbarlaw12_GraphReachabilityMatchesReference)

-- NOT PRINTED: function 7 (busbarlaw12_GraphReachableAncestors)

-- NOT PRINTED: function 8 (busbarlaw12_GraphReversal)

-- NOT PRINTED: function 35 (flow_DeadNodes)

-- NOT PRINTED: function 33 (flow_Check)

-- NOT PRINTED: function 59 (slices_Backward_string_string)

-- NOT PRINTED: function 37 (flow_CountPaths)

-- NOT PRINTED: function 60 (slices_IndexFunc_int_int)

-- NOT PRINTED: function 39 (flow_ShortestPath)

-- NOT PRINTED: function 32 (busbarlaw13_alive)

/-! ### busbarref13_has: function 58 -/
def busbarref13_has.l0 : Nat → List ByteArray → ByteArray → Int → Option (Bool)
  | 0, _, _, _ => none
  | k + 1, x0, x1, x5 => if x5 < (x0.length : Int) then (if 0 ≤ x5 then (if (rdOf ByteArray.empty x0 x5).toList = x1.toList then (some true) else (busbarref13_has.l0 k x0 x1 (wrap64 (x5 + 1)))) else (none)) else (some false)
def busbarref13_has.f (k : Nat) (l0 : List ByteArray) (a1 : ByteArray) : Option (Bool) := busbarref13_has.l0 k l0 a1 0
theorem busbarref13_has.mono_l : ∀ k, (∀ y0 y1 y2, LeO (busbarref13_has.l0 k y0 y1 y2) (busbarref13_has.l0 (k + 1) y0 y1 y2))
  | 0 => fun _ _ _ r h => by simp [busbarref13_has.l0] at h
  | k + 1 => by
    have ih0 := busbarref13_has.mono_l k
    · intro y0 y1 y2
      unfold busbarref13_has.l0
      repeat' first
      | (with_reducible exact ih0 _ _ _)
      | (with_reducible exact LeO.refl _)
      | (with_reducible exact LeO.none _)
      | (with_reducible refine LeO.ite ?_ ?_)
      | (with_reducible refine LeO.bind ?_ (fun _ => ?_))
      | exact ih0 _ _ _
      | exact LeO.none _
      | refine LeO.ite ?_ ?_
      | refine LeO.bind ?_ (fun _ => ?_)
theorem busbarref13_has.mono : ∀ a0 a1 k, LeO (busbarref13_has.f k a0 a1) (busbarref13_has.f (k + 1) a0 a1) := by
  intro a0 a1 k
  have ih0 := busbarref13_has.mono_l k
  unfold busbarref13_has.f
  repeat' first
      | (with_reducible exact ih0 _ _ _)
      | (with_reducible exact LeO.refl _)
      | (with_reducible exact LeO.none _)
      | (with_reducible refine LeO.ite ?_ ?_)
      | (with_reducible refine LeO.bind ?_ (fun _ => ?_))
      | exact ih0 _ _ _
      | exact LeO.none _
      | refine LeO.ite ?_ ?_
      | refine LeO.bind ?_ (fun _ => ?_)
set_option maxHeartbeats 8000000 in
set_option maxRecDepth 100000 in
theorem busbarref13_has.calls (k : Nat) (A0 : Option Addr) (c0 : Nat) (l0 : List ByteArray) (a1 : ByteArray) (r : Bool) (w : World) (hr0 : Kd.C Kd.string w A0 l0.length l0) (hc0 : l0.length ≤ c0) (h : busbarref13_has.f k l0 a1 = some r) :
    Calls Try.prog 58 #[.slice A0 l0.length c0, .string a1] w fun e w' => e = .returned (.bool r) ∧ Drawn0 w w' := by
  have HR0 := Aside0.mk hr0
  have HC0 := Aside0.mk hc0
  clear hr0 hc0
  have H : (busbarref13_has.l0 k l0 a1 0) = some r := h
  clear h
  have H' := Aside0.mk H
  clear H
  go_enter Try.func58, Try.ntmps58
  go_wp2
  go_loopg [5] k (fun kq v5 w' => ∃ (x5_1 : Int), v5 = .int .i64 x5_1 ∧ Aside0 (busbarref13_has.l0 kq l0 a1 x5_1 = some r) ∧ Aside0 (kq ≤ k) ∧ Drawn0 w w')
  case atStart => exact ⟨(0), (by first | rfl | (simp; done) | (simp [*]; done)), H', ⟨Nat.le_refl _⟩, by repeat (first | exact Drawn0.refl _ | apply Drawn0.step)⟩
  case round =>
    clear H'
    try clear p2
    obtain ⟨x5_1, rfl, HA, HK1, ⟨m1, rfl⟩⟩ := hrel
    cases gk with
    | zero => exact absurd HA.out (by simp [busbarref13_has.l0])
    | succ k1 =>
      have H := HA.out
      clear HA
      simp only [busbarref13_has.l0] at H
      by_cases c3 : x5_1 < (l0.length : Int)
      · rw [if_pos c3] at H
        have c3b0 : decide (x5_1 < (l0.length : Int)) = true := decide_eq_true c3
        clear c3
        by_cases c4 : 0 ≤ x5_1
        · rw [if_pos c4] at H
          have c4b0 : decide (0 ≤ x5_1) = true := decide_eq_true c4
          clear c4
          by_cases c5 : (rdOf ByteArray.empty l0 x5_1).toList = a1.toList
          · rw [if_pos c5] at H
            have c5b0 : ((rdOf ByteArray.empty l0 x5_1).toList == a1.toList) = true := beq_iff_eq.mpr c5
            have c5b1 : ((rdOf ByteArray.empty l0 x5_1).toList != a1.toList) = false := bne_eq_false_iff_eq.mpr c5
            clear c5
            obtain rfl := Option.some.inj H
            have p219 : 0 ≤ (x5_1 : Int) := of_decide_eq_true (by first | (with_reducible assumption) | assumption)
            have q219 : x5_1 < (l0.length : Int) := of_decide_eq_true (by first | (with_reducible assumption) | assumption)
            obtain ⟨ad219, e219, hx219_0⟩ := Kd.at_string HR0.out x5_1 p219 q219
            cases e219
            replace p219 := eq_true p219
            replace q219 := eq_true q219
            go_wp2
            go_ret
            exact ⟨by first | rfl | (simp; done) | (simp [*]; done), by repeat (first | exact Drawn0.refl _ | apply Drawn0.step)⟩
          · rw [if_neg c5] at H
            have c5b0 : ((rdOf ByteArray.empty l0 x5_1).toList == a1.toList) = false := beq_eq_false_iff_ne.mpr c5
            have c5b1 : ((rdOf ByteArray.empty l0 x5_1).toList != a1.toList) = true := bne_iff_ne.mpr c5
            have H' := Aside0.mk H
            clear H
            have p219 : 0 ≤ (x5_1 : Int) := of_decide_eq_true (by first | (with_reducible assumption) | assumption)
            have q219 : x5_1 < (l0.length : Int) := of_decide_eq_true (by first | (with_reducible assumption) | assumption)
            obtain ⟨ad219, e219, hx219_0⟩ := Kd.at_string HR0.out x5_1 p219 q219
            cases e219
            replace p219 := eq_true p219
            replace q219 := eq_true q219
            go_wp2
            go_roundg k1
            case measure => have := HK1.out; omega
            case rel => exact ⟨(wrap64 (x5_1 + 1)), (by first | rfl | (simp; done) | (simp [*]; done)), H', ⟨by have := HK1.out; omega⟩, by repeat (first | exact Drawn0.refl _ | apply Drawn0.step)⟩
        · rw [if_neg c4] at H
          exact absurd H (by simp)
      · rw [if_neg c3] at H
        have c3b0 : decide (x5_1 < (l0.length : Int)) = false := decide_eq_false c3
        clear c3
        obtain rfl := Option.some.inj H
        go_wp2
        go_ret
        exact ⟨by first | rfl | (simp; done) | (simp [*]; done), by repeat (first | exact Drawn0.refl _ | apply Drawn0.step)⟩

end Go.Proofs.Ytmacdknicgfglaa.Impl
end
section
/- What the printed reference functions spread and TopoSort compute. -/
namespace Go.Proofs.Ytmacdknicgfglaa.Pe
open Go.RowKit Go.Proofs.YtmacdknicgfglaaW.PrintWords Go.Proofs.YtmacdknicgfglaaW.PrintMore Go.Proofs.Ytmacdknicgfglaa.Impl Go.Proofs.Ytmacdknicgfglaa.Gp Go.Proofs.Ytmacdknicgfglaa.Gw
set_option linter.unusedVariables false
set_option linter.unusedSimpArgs false
section
variable {a0 a3 : ByteArray} {l1 : List S41} {l2 : List S101}
theorem sp_l2 (all got : List ByteArray) (hn : all.length ≤ 3000) (hg : got.length ≤ 3000) : ∀ (d j : Nat), all.length = j + d →
    Ev (fun k => busbarref12_spread.l2 k all got ((all.take j).filter fun s => decide (s ∈ got)) (j : Int)) (all.filter fun s => decide (s ∈ got))
  | 0, j, h => by
    refine Ev.step (f := fun _ => some (all.filter fun s => decide (s ∈ got))) (fun k => ?_) (Ev.now _)
    simp only [busbarref12_spread.l2]; rw [if_neg (by omega), List.take_of_length_le (by omega)]
  | d + 1, j, h => by
    have hj : j < all.length := by omega
    have ih := sp_l2 all got hn hg d (j + 1) (by omega)
    have hl : ((all.take j).filter fun s => decide (s ∈ got)).length ≤ 3000 := by
      refine Nat.le_trans (List.length_filter_le _ _) ?_
      rw [List.length_take]; omega
    rw [List.take_succ_eq_append_getElem hj, List.filter_append] at ih
    refine Ev.step (f := fun k => (busbarref12_has.f k got all[j]).bind fun t => busbarref12_spread.l2 k all got (if t = true then ((all.take j).filter fun s => decide (s ∈ got)) ++ [all[j]] else (all.take j).filter fun s => decide (s ∈ got)) ((j + 1 : Nat) : Int)) (fun k => ?_) ?_
    · simp only [busbarref12_spread.l2]
      rw [if_pos (by omega), if_pos (by omega), rdOf_lt _ _ _ hj, w64 hj (by omega)]
      congr 1
      funext t
      cases t with
      | true => simp only [if_true]; rw [if_pos (by omega)]
      | false => simp only [Bool.false_eq_true, if_false]
    · refine Ev.bind (has_ev got all[j] (by omega)) ?_
      have e1 : [all[j]].filter (fun s => decide (s ∈ got)) = if all[j] ∈ got then [all[j]] else [] := by
        by_cases h1 : all[j] ∈ got <;> simp [h1]
      rw [e1] at ih
      by_cases h1 : all[j] ∈ got
      · simp only [h1, decide_true, if_true] at ih ⊢; exact ih
      · simp only [h1, decide_false, Bool.false_eq_true, if_false, List.append_nil] at ih ⊢; exact ih
/-- What stays of the list got. -/
def InvG (all got : List ByteArray) : Prop := (∀ y ∈ got, y ∈ all) ∧ got.Nodup
theorem invG_step {F : List Ed} {all got : List ByteArray} (hF : ∀ c ∈ F, c.2 ∈ all) (h : InvG all got) {c : Ed} (hc : c ∈ F) : InvG all (stepE got c) := by
  unfold stepE
  split
  · refine ⟨fun y hy => ?_, addN_nodup h.2⟩
    rcases addN_mem.1 hy with hy | rfl
    · exact h.1 y hy
    · exact hF c hc
  · exact h
theorem way_len (back : Bool) (l : List Ed) : (wayE back l).length = l.length := by cases back <;> simp [wayE, turnE]
theorem way_get (back : Bool) {j : Nat} (hj : j < l1.length) : (wayE back (es l1))[j]'(by rw [way_len, es_len]; exact hj) = if back = true then (l1[j].f3, l1[j].f2) else (l1[j].f2, l1[j].f3) := by
  cases back <;> simp [wayE, turnE, es]
theorem way_2 (back : Bool) {l : List Ed} {c : Ed} (h : c ∈ wayE back l) : c.2 ∈ nodesL l := by
  cases back with
  | false => exact nodes_2 h
  | true => exact nodes_1 (turn_mem.1 h)
theorem sp_l1 (back : Bool) (all : List ByteArray) (x : Int) (r : List ByteArray) (hn : l1.length ≤ 1000) (ha : all.length ≤ 3000) (hall : ∀ c ∈ wayE back (es l1), c.2 ∈ all) : ∀ (d j : Nat) (got : List ByteArray), l1.length = j + d → InvG all got →
    Ev (fun k => busbarref12_spread.l0 k back all (((wayE back (es l1)).drop j).foldl stepE got) (wrap64 (x + 1)) a0 l1 l2 a3) r → Ev (fun k => busbarref12_spread.l1 k back all got x (j : Int) a0 l1 l2 a3) r
  | 0, j, got, h, hg, hk => by
    rw [List.drop_of_length_le (by rw [way_len, es_len]; omega)] at hk
    refine Ev.step (fun k => ?_) hk
    simp only [busbarref12_spread.l1]; rw [if_neg (by omega)]; rfl
  | d + 1, j, got, h, hg, hk => by
    have hj : j < l1.length := by omega
    have hjw : j < (wayE back (es l1)).length := by rw [way_len, es_len]; exact hj
    have hl : got.length ≤ 3000 := Nat.le_trans (nodup_len hg.2 hg.1) ha
    rw [drop_cons _ j hjw, List.foldl_cons] at hk
    have hi := invG_step hall hg (List.getElem_mem hjw)
    have ih := sp_l1 back all x r hn ha hall d (j + 1) (stepE got (wayE back (es l1))[j]) (by omega) hi hk
    generalize hc : (wayE back (es l1))[j] = c at ih hi
    have hcc : c = if back = true then (l1[j].f3, l1[j].f2) else (l1[j].f2, l1[j].f3) := by rw [← hc]; exact way_get back hj
    have key : Ev (fun k => busbarref12_spread.j2 k back all got x (j : Int) c.1 c.2 a0 l1 l2 a3) r := by
      refine Ev.step (f := fun k => (busbarref12_has.f k got c.1).bind fun t => if t = true then ((busbarref12_has.f k got c.2).bind fun u => busbarref12_spread.l1 k back all (if u = true then got else got ++ [c.2]) x ((j + 1 : Nat) : Int) a0 l1 l2 a3) else busbarref12_spread.l1 k back all got x ((j + 1 : Nat) : Int) a0 l1 l2 a3) (fun k => ?_) ?_
      · simp only [busbarref12_spread.j2]
        rw [w64 hj (by omega)]
        congr 1
        funext t
        cases t with
        | false => rfl
        | true =>
          simp only [if_true]
          congr 1
          funext u
          cases u with
          | true => rfl
          | false => simp only [Bool.false_eq_true, if_false]; rw [if_pos (by omega)]
      · refine Ev.bind (has_ev got c.1 (by omega)) ?_
        unfold stepE at ih
        by_cases h1 : c.1 ∈ got
        · rw [if_pos h1] at ih
          rw [decide_eq_true h1]
          simp only [if_true]
          refine Ev.bind (has_ev got c.2 (by omega)) ?_
          have e1 : (if decide (c.2 ∈ got) = true then got else got ++ [c.2]) = addN got c.2 := by unfold addN; simp
          rw [e1]; exact ih
        · rw [if_neg h1] at ih
          rw [decide_eq_false h1]
          simp only [Bool.false_eq_true, if_false]
          exact ih
    refine Ev.step (fun k => ?_) key
    simp only [busbarref12_spread.l1]
    rw [if_pos (by omega), if_pos (by omega), rd41_lt _ _ hj, hcc]
    cases back <;> simp
theorem invG_round {F : List Ed} {all : List ByteArray} (hF : ∀ c ∈ F, c.2 ∈ all) : ∀ got, InvG all got → InvG all (roundE F got) := roundE_inv (Q := InvG all) (fun got h c hc => invG_step hF h hc)
theorem sp_l0 (back : Bool) (all : List ByteArray) (hn : l1.length ≤ 1000) (ha : all.length ≤ 3000) (hall : ∀ c ∈ wayE back (es l1), c.2 ∈ all) : ∀ (d j : Nat) (got : List ByteArray), all.length = j + d → InvG all got →
    Ev (fun k => busbarref12_spread.l0 k back all got (j : Int) a0 l1 l2 a3) (all.filter fun s => decide (s ∈ roundsE (wayE back (es l1)) d got))
  | 0, j, got, h, hg => by
    have h2 := sp_l2 all got ha (Nat.le_trans (nodup_len hg.2 hg.1) ha) all.length 0 (by omega)
    refine Ev.step (fun k => ?_) h2
    simp only [busbarref12_spread.l0]; rw [if_neg (by omega)]; rfl
  | d + 1, j, got, h, hg => by
    have ih := sp_l0 back all hn ha hall d (j + 1) (roundE (wayE back (es l1)) got) (by omega) (invG_round hall got hg)
    have hw : wrap64 ((j : Int) + 1) = ((j + 1 : Nat) : Int) := w64 (n := all.length) (by omega) (by omega)
    have h2 := sp_l1 (a0 := a0) (a3 := a3) (l2 := l2) back all (j : Int) _ hn ha hall l1.length 0 got (by omega) hg (by rw [hw]; exact ih)
    refine Ev.step (fun k => ?_) h2
    simp only [busbarref12_spread.l0]; rw [if_pos (by omega)]; rfl
theorem spread_ev (back : Bool) (hn : l1.length ≤ 1000) (n : ByteArray) : Ev (fun k => busbarref12_spread.f k a0 l1 l2 a3 n back) (spreadL (es l1) n back) := by
  have hlen : (nodesL (es l1)).length ≤ 3000 := by have := nodesL_len (es l1); rw [es_len] at this; omega
  unfold busbarref12_spread.f spreadL
  refine Ev.bind (nodes_ev a0 a3 l1 l2 hn) (Ev.bind (has_ev (nodesL (es l1)) n (by omega)) ?_)
  by_cases h : n ∈ nodesL (es l1)
  · rw [decide_eq_true h, if_pos h]
    simp only [if_true]
    exact sp_l0 back (nodesL (es l1)) hn hlen (fun c hc => way_2 back hc) (nodesL (es l1)).length 0 [n] (by omega) ⟨fun y hy => by rw [List.mem_singleton.1 hy]; exact h, by simp⟩
  · rw [decide_eq_false h, if_neg h]
    simp only [Bool.false_eq_true, if_false]
    exact Ev.now _
theorem rreach_ev (hn : l1.length ≤ 1000) (n : ByteArray) : Ev (fun k => busbarref12_Reachable.f k a0 l1 l2 a3 n) (reachL (es l1) n) := by
  rw [reach_ref]
  unfold busbarref12_Reachable.f
  exact Ev.bind (spread_ev false hn n) (Ev.now _)
theorem ranc_ev (hn : l1.length ≤ 1000) (n : ByteArray) : Ev (fun k => busbarref12_Ancestors.f k a0 l1 l2 a3 n) (ancL (es l1) n) := by
  rw [anc_ref]
  unfold busbarref12_Ancestors.f
  exact Ev.bind (spread_ev true hn n) (Ev.now _)
end
end Go.Proofs.Ytmacdknicgfglaa.Pe
end
section
/- TopoSort: the reference's order is the program's. -/
namespace Go.Proofs.Ytmacdknicgfglaa.Gp
set_option linter.unusedVariables false
set_option linter.unusedSimpArgs false
/-- The next to be told. -/
def nextP (l : List Ed) (out : List ByteArray) (s : ByteArray) : Bool := decide (s ∉ out) && readyG l out s
def topoR (l : List Ed) (all : List ByteArray) : Nat → List ByteArray → Option (List ByteArray)
  | 0, out => some out
  | k + 1, out => match all.find? (nextP l out) with
    | none => none
    | some s => topoR l all k (out ++ [s])
theorem find_idx {p : ByteArray → Bool} : ∀ (l : List ByteArray), l.find? p = (l.findIdx? p).map fun i => l.getD i ⟨#[]⟩
  | [] => rfl
  | x :: l => by
    rw [List.find?_cons, List.findIdx?_cons]
    cases h : p x with
    | true => simp
    | false =>
      simp only [Bool.false_eq_true, if_false]
      rw [find_idx l]
      cases l.findIdx? p <;> simp
theorem erase_filter {l : List ByteArray} (hd : l.Nodup) {i : Nat} (hi : i < l.length) : l.eraseIdx i = l.filter fun x => decide (x ≠ l[i]) := by
  induction l generalizing i with
  | nil => simp at hi
  | cons a l ih =>
    have hd' := List.nodup_cons.1 hd
    cases i with
    | zero =>
      simp only [List.eraseIdx_zero, List.tail_cons, List.getElem_cons_zero, List.filter_cons, ne_eq, not_true_eq_false, decide_false, Bool.false_eq_true, if_false]
      symm
      rw [List.filter_eq_self]
      intro x hx
      exact decide_eq_true (fun e => hd'.1 (e ▸ hx))
    | succ i =>
      have hi' : i < l.length := by simpa using hi
      simp only [List.eraseIdx_cons_succ, List.getElem_cons_succ, List.filter_cons]
      have hne : a ≠ l[i] := fun e => hd'.1 (e ▸ List.getElem_mem hi')
      rw [if_pos (decide_eq_true hne), ih hd'.2 hi']
theorem topoG_R (l : List Ed) {all : List ByteArray} (hd : all.Nodup) : ∀ (k : Nat) (out : List ByteArray), topoG l k (all.filter fun s => decide (s ∉ out)) out = topoR l all k out
  | 0, out => rfl
  | k + 1, out => by
    have hf : (all.filter fun s => decide (s ∉ out)).find? (readyG l out) = all.find? (nextP l out) := by
      rw [List.find?_filter]
      congr 1
      funext a
      unfold nextP
      by_cases h1 : a ∈ out <;> cases h2 : readyG l out a <;> simp [h1]
    rw [find_idx] at hf
    unfold topoG topoR
    rw [← hf]
    cases h : (all.filter fun s => decide (s ∉ out)).findIdx? (readyG l out) with
    | none => rfl
    | some i =>
      have hi : i < (all.filter fun s => decide (s ∉ out)).length := by rw [List.findIdx?_eq_some_iff_getElem] at h; exact h.1
      simp only [Option.map_some]
      have e1 : (all.filter fun s => decide (s ∉ out)).getD i ⟨#[]⟩ = (all.filter fun s => decide (s ∉ out))[i] := by rw [List.getD_eq_getElem?_getD, List.getElem?_eq_getElem hi]; rfl
      rw [erase_filter (List.Pairwise.filter _ hd) hi, e1, ← topoG_R l hd k]
      congr 1
      rw [List.filter_filter]
      refine List.filter_congr fun x _ => ?_
      generalize (all.filter fun s => decide (s ∉ out))[i] = s
      by_cases h1 : x ∈ out <;> by_cases h2 : x = s <;> simp [h1, h2]
theorem topo_R (l : List Ed) : topo l = topoR l (nodesL l) (nodesL l).length [] := by
  unfold topo
  rw [← topoG_R l (nodesL_nodup l)]
  congr 1
  symm
  rw [List.filter_eq_self]
  intro x _
  exact decide_eq_true (by simp)
/-- Ready, contact by contact. -/
theorem ready_all (l : List Ed) (out : List ByteArray) (s : ByteArray) : readyG l out s = l.all fun c => !decide (c.2 = s) || decide (c.1 ∈ out) := by
  rw [Bool.eq_iff_iff]
  unfold readyG
  rw [Bool.not_eq_true', List.any_eq_false, List.all_eq_true]
  constructor
  · intro h c hc
    by_cases h2 : c.2 = s
    · obtain ⟨j, hj, rfl⟩ := List.getElem_of_mem hc
      have h3 := h (j : Int) (inL_mem.2 ⟨j, rfl, hj, h2⟩)
      unfold fromE at h3
      rw [Int.toNat_natCast, List.getD_eq_getElem?_getD, List.getElem?_eq_getElem hj] at h3
      simp at h3
      simp [h2, h3]
    · simp [h2]
  · intro h i hi
    obtain ⟨j, rfl, hj, h2⟩ := inL_mem.1 hi
    have h3 := h l[j] (List.getElem_mem hj)
    unfold fromE
    rw [Int.toNat_natCast, List.getD_eq_getElem?_getD, List.getElem?_eq_getElem hj]
    simp [h2] at h3
    simp [h3]
end Go.Proofs.Ytmacdknicgfglaa.Gp
namespace Go.Proofs.Ytmacdknicgfglaa.Pe
open Go.RowKit Go.Proofs.YtmacdknicgfglaaW.PrintWords Go.Proofs.YtmacdknicgfglaaW.PrintMore Go.Proofs.Ytmacdknicgfglaa.Impl Go.Proofs.Ytmacdknicgfglaa.Gp Go.Proofs.Ytmacdknicgfglaa.Gw
set_option linter.unusedVariables false
set_option linter.unusedSimpArgs false
section
variable {a0 a3 : ByteArray} {l1 : List S41} {l2 : List S101}
/-- A contact that does not hold s back. -/
def okC (out : List ByteArray) (s : ByteArray) (c : Ed) : Bool := !decide (c.2 = s) || decide (c.1 ∈ out)
theorem tr_l2 (all out : List ByteArray) (x6 : Int) (i : Nat) (r : List ByteArray × Int) (hi : i < all.length) (hn : l1.length ≤ 1000) (ho : out.length ≤ 3000) (ha : all.length ≤ 3000) : ∀ (d j : Nat) (fr : Bool), l1.length = j + d →
    Ev (fun k => busbarref12_TopoSort.l1 k all out (if (fr && ((es l1).drop j).all (okC out all[i])) = true then (i : Int) else x6) ((i + 1 : Nat) : Int) a0 l1 l2 a3) r → Ev (fun k => busbarref12_TopoSort.l2 k all out x6 (i : Int) fr (j : Int) a0 l1 l2 a3) r
  | 0, j, fr, h, hk => by
    rw [List.drop_of_length_le (by rw [es_len]; omega), List.all_nil, Bool.and_true] at hk
    refine Ev.step (fun k => ?_) hk
    simp only [busbarref12_TopoSort.l2]; rw [if_neg (by omega), w64 hi (by omega)]
    cases fr <;> simp
  | d + 1, j, fr, h, hk => by
    have hj : j < l1.length := by omega
    rw [drop_cons (es l1) j (by rw [es_len]; exact hj), List.all_cons, es_get hj, ← Bool.and_assoc] at hk
    have ih := tr_l2 all out x6 i r hi hn ho ha d (j + 1) (fr && okC out all[i] (l1[j].f2, l1[j].f3)) (by omega) hk
    by_cases h2 : l1[j].f3 = all[i]
    · refine Ev.step (f := fun k => (busbarref12_has.f k out l1[j].f2).bind fun t => busbarref12_TopoSort.l2 k all out x6 (i : Int) (if t = true then fr else false) ((j + 1 : Nat) : Int) a0 l1 l2 a3) (fun k => ?_) ?_
      · simp only [busbarref12_TopoSort.l2]
        rw [if_pos (by omega), if_pos (by omega), if_pos (by omega), if_pos (by omega), rd41_lt _ _ hj, rdOf_lt _ _ _ hi, if_pos (by rw [h2]), w64 hj (by omega)]
        congr 1
        funext t
        cases t <;> simp
      · refine Ev.bind (has_ev out l1[j].f2 (by omega)) ?_
        have e1 : (fr && okC out all[i] (l1[j].f2, l1[j].f3)) = if decide (l1[j].f2 ∈ out) = true then fr else false := by
          unfold okC
          by_cases h3 : l1[j].f2 ∈ out <;> simp [h2, h3]
        rw [e1] at ih
        exact ih
    · refine Ev.step (fun k => ?_) ih
      simp only [busbarref12_TopoSort.l2]
      rw [if_pos (by omega), if_pos (by omega), if_pos (by omega), if_pos (by omega), rd41_lt _ _ hj, rdOf_lt _ _ _ hi, if_neg (fun e => h2 (toList_inj.1 e)), w64 hj (by omega)]
      have e1 : (fr && okC out all[i] (l1[j].f2, l1[j].f3)) = fr := by unfold okC; simp [h2]
      rw [e1]
/-- One is found: it is told. -/
theorem tr_found (all out : List ByteArray) (i j : Nat) (r : List ByteArray × Int) (hi : i < all.length) (ho : out.length ≤ 3000) (hk : Ev (fun k => busbarref12_TopoSort.l0 k all (out ++ [all[i]]) a0 l1 l2 a3) r) :
    Ev (fun k => busbarref12_TopoSort.l1 k all out (i : Int) (j : Int) a0 l1 l2 a3) r := by
  have h2 : Ev (fun k => busbarref12_TopoSort.j2 k all out (i : Int) (j : Int) false a0 l1 l2 a3) r := by
    refine Ev.step (fun k => ?_) hk
    simp only [busbarref12_TopoSort.j2]
    rw [if_neg (by simp), if_neg (by omega), if_pos (by omega), if_pos (by omega), if_pos (by omega), rdOf_lt _ _ _ hi]
  refine Ev.step (fun k => ?_) h2
  simp only [busbarref12_TopoSort.l1]
  rw [show decide ((i : Int) < 0) = false from decide_eq_false (by omega)]
  split <;> rfl
theorem tr_l1 (all out : List ByteArray) (r : List ByteArray × Int) (hn : l1.length ≤ 1000) (ho : out.length ≤ 3000) (ha : all.length ≤ 3000) : ∀ (d i : Nat), all.length = i + d →
    (match (all.drop i).find? (nextP (es l1) out) with | none => r = ([], 12) | some s => Ev (fun k => busbarref12_TopoSort.l0 k all (out ++ [s]) a0 l1 l2 a3) r) → Ev (fun k => busbarref12_TopoSort.l1 k all out (-1) (i : Int) a0 l1 l2 a3) r
  | 0, i, h, hk => by
    rw [List.drop_of_length_le (by omega)] at hk
    obtain rfl : r = ([], 12) := hk
    have h2 : Ev (fun k => busbarref12_TopoSort.j2 k all out (-1) (i : Int) false a0 l1 l2 a3) ([], 12) := by
      refine Ev.step (f := fun _ => some ([], 12)) (fun k => ?_) (Ev.now _)
      simp only [busbarref12_TopoSort.j2]
      rw [if_neg (by simp), if_pos (by omega)]
    refine Ev.step (fun k => ?_) h2
    simp only [busbarref12_TopoSort.l1]
    rw [if_neg (by omega)]
  | d + 1, i, h, hk => by
    have hi : i < all.length := by omega
    rw [drop_cons all i hi, List.find?_cons] at hk
    have ih := tr_l1 all out r hn ho ha d (i + 1) (by omega)
    have key : Ev (fun k => busbarref12_TopoSort.j2 k all out (-1) (i : Int) true a0 l1 l2 a3) r := by
      refine Ev.step (f := fun k => (busbarref12_has.f k out all[i]).bind fun t => if t = true then busbarref12_TopoSort.l1 k all out (-1) ((i + 1 : Nat) : Int) a0 l1 l2 a3 else busbarref12_TopoSort.l2 k all out (-1) (i : Int) true 0 a0 l1 l2 a3) (fun k => ?_) ?_
      · simp only [busbarref12_TopoSort.j2]
        rw [if_pos trivial, if_pos (by omega), if_pos (by omega), rdOf_lt _ _ _ hi, w64 hi (by omega)]
      · refine Ev.bind (has_ev out all[i] (by omega)) ?_
        by_cases h1 : all[i] ∈ out
        · have e1 : nextP (es l1) out all[i] = false := by unfold nextP; simp [h1]
          rw [e1] at hk
          rw [decide_eq_true h1]
          simp only [if_true]
          exact ih hk
        · rw [decide_eq_false h1]
          simp only [Bool.false_eq_true, if_false]
          have e1 : nextP (es l1) out all[i] = (es l1).all (okC out all[i]) := by unfold nextP; rw [ready_all, decide_eq_true h1, Bool.true_and]; rfl
          rw [e1] at hk
          refine tr_l2 (a0 := a0) (a3 := a3) (l2 := l2) all out (-1) i r hi hn ho ha l1.length 0 true (by omega) ?_
          rw [List.drop_zero, Bool.true_and]
          cases hall : (es l1).all (okC out all[i]) with
          | true =>
            rw [hall] at hk
            simp only [if_true]
            exact tr_found all out i (i + 1) r hi ho hk
          | false =>
            rw [hall] at hk
            simp only [Bool.false_eq_true, if_false]
            exact ih hk
    refine Ev.step (fun k => ?_) key
    simp only [busbarref12_TopoSort.l1]
    rw [if_pos (by omega)]
    rfl
/-- The reference's result, as a pair. -/
def pairT (o : Option (List ByteArray)) : List ByteArray × Int := (o.getD [], errT o)
theorem tr_l0 (all : List ByteArray) (hn : l1.length ≤ 1000) (ha : all.length ≤ 3000) : ∀ (k : Nat) (out : List ByteArray), out.length + k = all.length →
    Ev (fun n => busbarref12_TopoSort.l0 n all out a0 l1 l2 a3) (pairT (topoR (es l1) all k out))
  | 0, out, h => by
    refine Ev.step (f := fun _ => some (out, 0)) (fun k => ?_) (Ev.now _)
    simp only [busbarref12_TopoSort.l0]; rw [if_neg (by omega)]
  | k + 1, out, h => by
    have h2 := tr_l1 (a0 := a0) (a3 := a3) (l2 := l2) all out (pairT (topoR (es l1) all (k + 1) out)) hn (by omega) ha all.length 0 (by omega) (by
      rw [List.drop_zero]
      unfold topoR
      cases hf : all.find? (nextP (es l1) out) with
      | none => rfl
      | some s => exact tr_l0 all hn ha k (out ++ [s]) (by simp; omega))
    refine Ev.step (fun n => ?_) h2
    simp only [busbarref12_TopoSort.l0]; rw [if_pos (by omega)]; rfl
theorem rtopo_ev (hn : l1.length ≤ 1000) : Ev (fun k => busbarref12_TopoSort.f k a0 l1 l2 a3) (pairT (topo (es l1))) := by
  have hlen : (nodesL (es l1)).length ≤ 3000 := by have := nodesL_len (es l1); rw [es_len] at this; omega
  unfold busbarref12_TopoSort.f
  rw [topo_R]
  exact Ev.bind (nodes_ev a0 a3 l1 l2 hn) (tr_l0 (nodesL (es l1)) hn hlen (nodesL (es l1)).length [] (by simp))
end
end Go.Proofs.Ytmacdknicgfglaa.Pe
end
section
/- TopoSort, plainly: an order when there is no cycle, none when there is. -/
namespace Go.Proofs.Ytmacdknicgfglaa.Gp
set_option linter.unusedVariables false
set_option linter.unusedSimpArgs false
theorem topoR_len' {l : List Ed} {all : List ByteArray} : ∀ (k : Nat) (out r : List ByteArray), topoR l all k out = some r → r.length = out.length + k
  | 0, out, r, h => by
    obtain rfl : out = r := by simpa [topoR] using h
    rfl
  | k + 1, out, r, h => by
    unfold topoR at h
    split at h
    · cases h
    · rename_i s hs
      have := topoR_len' k _ r h
      simp only [List.length_append, List.length_singleton] at this
      omega
structure Ord (l : List Ed) (all out : List ByteArray) : Prop where
  nd : out.Nodup
  sub : ∀ x ∈ out, x ∈ all
  ord : ∀ (i : Nat) (hi : i < out.length), ∀ c ∈ l, c.2 = out[i] → c.1 ∈ out.take i
theorem Ord.snoc {l : List Ed} {all out : List ByteArray} {s : ByteArray} (h : Ord l all out) (hs : s ∈ all) (hp : nextP l out s = true) : Ord l all (out ++ [s]) := by
  unfold nextP at hp
  rw [Bool.and_eq_true, decide_eq_true_eq, ready_all, List.all_eq_true] at hp
  obtain ⟨hn, hr⟩ := hp
  refine ⟨?_, fun x hx => ?_, fun i hi c hc e => ?_⟩
  · rw [List.nodup_append]
    refine ⟨h.nd, by simp, ?_⟩
    intro a ha b hb
    obtain rfl := List.mem_singleton.1 hb
    rintro rfl
    exact hn ha
  · rcases List.mem_append.1 hx with hx | hx
    · exact h.sub x hx
    · rw [List.mem_singleton.1 hx]; exact hs
  · rw [List.length_append, List.length_singleton] at hi
    by_cases h1 : i < out.length
    · rw [List.getElem_append_left h1] at e
      rw [List.take_append_of_le_length (by omega)]
      exact h.ord i h1 c hc e
    · obtain rfl : i = out.length := by omega
      rw [List.getElem_append_right (by omega)] at e
      simp only [Nat.sub_self, List.getElem_cons_zero] at e
      have h2 := hr c hc
      rw [e] at h2
      simp only [decide_true, Bool.not_true, Bool.false_or, decide_eq_true_eq] at h2
      rw [List.take_left' rfl]
      exact h2
theorem topoR_ord {l : List Ed} {all : List ByteArray} : ∀ (k : Nat) (out r : List ByteArray), Ord l all out → topoR l all k out = some r → Ord l all r
  | 0, out, r, h, e => by
    obtain rfl : out = r := by simpa [topoR] using e
    exact h
  | k + 1, out, r, h, e => by
    unfold topoR at e
    split at e
    · cases e
    · rename_i s hs
      exact topoR_ord k _ r (h.snoc (List.mem_of_find?_eq_some hs) (List.find?_some hs)) e
theorem topo_ord {l : List Ed} {r : List ByteArray} (h : topo l = some r) : Ord l (nodesL l) r ∧ r.length = (nodesL l).length := by
  rw [topo_R] at h
  refine ⟨topoR_ord _ [] r ⟨List.nodup_nil, fun x hx => (by cases hx), fun i hi => (by simp at hi)⟩ h, ?_⟩
  have h2 := topoR_len' _ _ _ h
  simpa using h2
/-- A list of all, each once, holds all. -/
theorem full {α : Type} [DecidableEq α] {all r : List α} (hd : r.Nodup) (hs : ∀ x ∈ r, x ∈ all) (hl : r.length = all.length) : ∀ x ∈ all, x ∈ r := by
  intro x hx
  refine Decidable.byContradiction fun hn => ?_
  have h1 : (x :: r).Nodup := List.nodup_cons.2 ⟨hn, hd⟩
  have h2 := nodup_len h1 (fun y hy => by
    rcases List.mem_cons.1 hy with rfl | hy
    · exact hx
    · exact hs y hy)
  simp only [List.length_cons] at h2
  omega
/-- Where a name stands in a list. -/
def posL (r : List ByteArray) (x : ByteArray) : Nat := (r.findIdx? fun y => decide (y = x)).getD r.length
theorem posL_at {r : List ByteArray} (hd : r.Nodup) {i : Nat} (hi : i < r.length) : posL r r[i] = i := by
  unfold posL
  have : r.findIdx? (fun y => decide (y = r[i])) = some i := by
    rw [List.findIdx?_eq_some_iff_getElem]
    refine ⟨hi, by simp, fun j hj => ?_⟩
    simp only [decide_eq_true_eq]
    intro e
    have h1 := (List.pairwise_iff_getElem.1 hd) j i (by omega) hi hj
    exact h1 e
  rw [this]
  rfl
theorem ord_lt {l : List Ed} {r : List ByteArray} (h : topo l = some r) {c : Ed} (hc : c ∈ l) : posL r c.1 < posL r c.2 := by
  obtain ⟨ho, hl⟩ := topo_ord h
  have h2 := full ho.nd ho.sub hl c.2 (nodes_2 hc)
  obtain ⟨i, hi, e⟩ := List.getElem_of_mem h2
  have h1 := ho.ord i hi c hc e.symm
  obtain ⟨j, hj, e2⟩ := List.getElem_of_mem h1
  rw [List.length_take] at hj
  rw [List.getElem_take] at e2
  rw [← e2, ← e, posL_at ho.nd hi, posL_at ho.nd (by omega)]
  omega
theorem ord_rch {l : List Ed} {r : List ByteArray} (h : topo l = some r) {a b : ByteArray} (hr : Rch (sucL l) a b) : posL r a ≤ posL r b := by
  induction hr with
  | refl => exact Nat.le_refl _
  | step _ hx ih =>
    obtain ⟨c, hc, rfl, rfl⟩ := suc_mem.1 hx
    have := ord_lt h hc
    omega
/-- Whether a contact's source is reachable from its target. -/
def comesL (l m : List Ed) : Bool := m.any fun c => decide (c.1 ∈ reachL l c.2)
theorem comes_none {l : List Ed} {r : List ByteArray} (h : topo l = some r) : comesL l l = false := by
  unfold comesL
  rw [List.any_eq_false]
  intro c hc
  simp only [decide_eq_true_eq]
  intro hr
  have h1 := ord_rch h (reach_mem.1 hr).2
  have h2 := ord_lt h hc
  omega
def itr (p : ByteArray → ByteArray) : Nat → ByteArray → ByteArray
  | 0, s => s
  | n + 1, s => p (itr p n s)
theorem itr_in {q : ByteArray → List ByteArray} {p : ByteArray → ByteArray} {X : List ByteArray} (hX : ∀ x ∈ X, p x ∈ X ∧ x ∈ q (p x)) {s : ByteArray} (hs : s ∈ X) : ∀ n, itr p n s ∈ X
  | 0 => hs
  | n + 1 => (hX _ (itr_in hX hs n)).1
/-- Going back d steps, one comes forth again. -/
theorem itr_rch {q : ByteArray → List ByteArray} {p : ByteArray → ByteArray} {X : List ByteArray} (hX : ∀ x ∈ X, p x ∈ X ∧ x ∈ q (p x)) {s : ByteArray} (hs : s ∈ X) (n : Nat) : ∀ d, Rch q (itr p (n + d) s) (itr p n s)
  | 0 => .refl
  | d + 1 => .head (hX _ (itr_in hX hs (n + d))).2 (itr_rch hX hs n d)
/-- Where each has one ahead of it, there is a circle. -/
theorem circle {q : ByteArray → List ByteArray} {p : ByteArray → ByteArray} {X : List ByteArray} (hX : ∀ x ∈ X, p x ∈ X ∧ x ∈ q (p x)) {s : ByteArray} (hs : s ∈ X) : ∃ x ∈ X, Rch q x (p x) := by
  refine Classical.byContradiction fun hno => ?_
  have hne : ∀ i j : Nat, i < j → itr p i s ≠ itr p j s := by
    intro i j hij e
    refine hno ⟨itr p i s, itr_in hX hs i, ?_⟩
    have h1 := itr_rch hX hs (i + 1) (j - (i + 1))
    rw [show i + 1 + (j - (i + 1)) = j by omega] at h1
    rw [← e] at h1
    exact h1
  have hnd : ((List.range (X.length + 1)).map fun i => itr p i s).Nodup := by
    unfold List.Nodup
    rw [List.pairwise_map]
    exact List.pairwise_lt_range.imp (fun h => hne _ _ h)
  have h2 := nodup_len hnd (fun x hx => by
    obtain ⟨i, _, rfl⟩ := List.mem_map.1 hx
    exact itr_in hX hs i)
  rw [List.length_map, List.length_range] at h2
  omega
theorem topoR_none {l : List Ed} {all : List ByteArray} (hd : all.Nodup) (hn : ∀ c ∈ l, c.1 ∈ all) : ∀ (k : Nat) (out : List ByteArray), Ord l all out → out.length + k = all.length → topoR l all k out = none → ∃ c ∈ l, Rch (sucL l) c.2 c.1
  | 0, out, _, _, e => by simp [topoR] at e
  | k + 1, out, h, hl, e => by
    unfold topoR at e
    split at e
    · rename_i hf
      rw [List.find?_eq_none] at hf
      -- some name is left
      have hex : ∃ x ∈ all, x ∉ out := by
        refine Classical.byContradiction fun hno => ?_
        have hall : ∀ x ∈ all, x ∈ out := fun x hx => Classical.byContradiction fun hn => hno ⟨x, hx, hn⟩
        have := nodup_len hd hall
        omega
      obtain ⟨s, hs, hsn⟩ := hex
      have hpre : ∀ x ∈ all.filter (fun x => decide (x ∉ out)), ∃ y ∈ all.filter (fun x => decide (x ∉ out)), ∃ c ∈ l, c.1 = y ∧ c.2 = x := by
        intro x hx
        rw [List.mem_filter, decide_eq_true_eq] at hx
        have h1 := hf x hx.1
        unfold nextP at h1
        rw [decide_eq_true hx.2, Bool.true_and, ready_all, List.all_eq_true] at h1
        refine Classical.byContradiction fun hno => h1 fun c hc => ?_
        by_cases h2 : c.2 = x
        · by_cases h3 : c.1 ∈ out
          · simp [h3]
          · exact absurd ⟨c.1, List.mem_filter.2 ⟨hn c hc, decide_eq_true h3⟩, c, hc, rfl, h2⟩ hno
        · simp [h2]
      obtain ⟨x, hx, hr⟩ := circle (q := sucL l) (p := fun x => if h : x ∈ all.filter (fun x => decide (x ∉ out)) then (hpre x h).choose else x) (X := all.filter fun x => decide (x ∉ out)) (fun x hx => by
        rw [dif_pos hx]
        obtain ⟨h1, c, hc, h2, h3⟩ := (hpre x hx).choose_spec
        exact ⟨h1, suc_mem.2 ⟨c, hc, h2, h3⟩⟩) (s := s) (List.mem_filter.2 ⟨hs, decide_eq_true hsn⟩)
      rw [dif_pos hx] at hr
      obtain ⟨h1, c, hc, h2, h3⟩ := (hpre x hx).choose_spec
      exact ⟨c, hc, by rw [h3, h2]; exact hr⟩
    · rename_i s hs
      exact topoR_none hd hn k _ (h.snoc (List.mem_of_find?_eq_some hs) (List.find?_some hs)) (by simp; omega) e
theorem comes_some {l : List Ed} (h : topo l = none) : comesL l l = true := by
  rw [topo_R] at h
  obtain ⟨c, hc, hr⟩ := topoR_none (nodesL_nodup l) (fun c hc => nodes_1 hc) _ [] ⟨List.nodup_nil, fun x hx => (by cases hx), fun i hi => (by simp at hi)⟩ (by simp) h
  unfold comesL
  rw [List.any_eq_true]
  exact ⟨c, hc, decide_eq_true (reach_mem.2 ⟨nodes_2 hc, hr⟩)⟩
end Go.Proofs.Ytmacdknicgfglaa.Gp
end
section
/- Plain laws of an added contact, and of all contacts turned. -/
namespace Go.Proofs.Ytmacdknicgfglaa.Gp
set_option linter.unusedVariables false
set_option linter.unusedSimpArgs false
theorem nodes_more {l m : List Ed} {x : ByteArray} (h : x ∈ nodesL l) : x ∈ nodesL (l ++ m) := by
  rw [nodesL_mem] at h ⊢
  rcases h with h | h | ⟨c, hc, h⟩
  · exact .inl h
  · exact .inr (.inl h)
  · exact .inr (.inr ⟨c, List.mem_append_left _ hc, h⟩)
theorem rch_more {l m : List Ed} {a b : ByteArray} (h : Rch (sucL l) a b) : Rch (sucL (l ++ m)) a b :=
  h.imp (fun n x hx => by
    obtain ⟨c, hc, h1, h2⟩ := suc_mem.1 hx
    exact suc_mem.2 ⟨c, List.mem_append_left _ hc, h1, h2⟩)
theorem reach_more {l m : List Ed} {n x : ByteArray} (h : x ∈ reachL l n) : x ∈ reachL (l ++ m) n := by
  rw [reach_mem] at h ⊢
  exact ⟨nodes_more h.1, rch_more h.2⟩
theorem reach_new {l : List Ed} {n a b : ByteArray} (h : a ∈ reachL (l ++ [(a, b)]) n) : b ∈ reachL (l ++ [(a, b)]) n := by
  rw [reach_mem] at h ⊢
  exact ⟨h.1, h.2.step (suc_mem.2 ⟨(a, b), by simp, rfl, rfl⟩)⟩
theorem nodes_more_len (l m : List Ed) : (nodesL l).length ≤ (nodesL (l ++ m)).length := nodup_len (nodesL_nodup l) (fun x hx => nodes_more hx)
/-- The rails come first. -/
theorem addN_pre {acc : List ByteArray} (s : ByteArray) : acc <+: addN acc s := by
  unfold addN
  split
  · exact List.prefix_refl _
  · exact List.prefix_append _ _
theorem fold_pre : ∀ (l : List Ed) (acc : List ByteArray), acc <+: l.foldl addC acc
  | [], acc => List.prefix_refl _
  | c :: l, acc => ((addN_pre c.1).trans (addN_pre c.2)).trans (fold_pre l _)
theorem nodes_rails (l : List Ed) : ∃ t, nodesL l = sL :: sR :: t := by
  obtain ⟨t, ht⟩ := fold_pre l [sL, sR]
  exact ⟨t, ht.symm⟩
/-! ### All contacts turned -/
theorem turn_len (l : List Ed) : (turnE l).length = l.length := by simp [turnE]
theorem turn_get {l : List Ed} {j : Nat} (h : j < l.length) : (turnE l)[j]'(by rw [turn_len]; exact h) = (l[j].2, l[j].1) := by simp [turnE]
theorem idxs_turn (l : List Ed) (p : Ed → Bool) : idxs p (turnE l) = idxs (fun c => p (c.2, c.1)) l := by
  unfold idxs
  rw [turn_len]
  congr 1
  refine List.filter_congr fun i hi => ?_
  rw [List.mem_range] at hi
  rw [List.getD_eq_getElem?_getD, List.getD_eq_getElem?_getD, List.getElem?_eq_getElem hi, List.getElem?_eq_getElem (by rw [turn_len]; exact hi), Option.getD_some, Option.getD_some, turn_get hi]
theorem out_turn (l : List Ed) (s : ByteArray) : outL (turnE l) s = inL l s := idxs_turn l _
theorem in_turn (l : List Ed) (s : ByteArray) : inL (turnE l) s = outL l s := idxs_turn l _
theorem nodes_turn {l : List Ed} {x : ByteArray} : x ∈ nodesL (turnE l) ↔ x ∈ nodesL l := by
  rw [nodesL_mem, nodesL_mem]
  constructor
  · rintro (h | h | ⟨c, hc, h⟩)
    · exact .inl h
    · exact .inr (.inl h)
    · exact .inr (.inr ⟨_, turn_mem.1 hc, h.symm⟩)
  · rintro (h | h | ⟨c, hc, h⟩)
    · exact .inl h
    · exact .inr (.inl h)
    · exact .inr (.inr ⟨(c.2, c.1), turn_mem.2 hc, h.symm⟩)
theorem suc_turn {l : List Ed} {m x : ByteArray} : x ∈ sucL (turnE l) m ↔ x ∈ preL l m := by
  rw [suc_mem, pre_mem]
  constructor
  · rintro ⟨c, hc, h1, h2⟩; exact ⟨_, turn_mem.1 hc, h1, h2⟩
  · rintro ⟨c, hc, h1, h2⟩; exact ⟨(c.2, c.1), turn_mem.2 hc, h1, h2⟩
theorem pre_turn {l : List Ed} {m x : ByteArray} : x ∈ preL (turnE l) m ↔ x ∈ sucL l m := by
  rw [suc_mem, pre_mem]
  constructor
  · rintro ⟨c, hc, h1, h2⟩; exact ⟨_, turn_mem.1 hc, h1, h2⟩
  · rintro ⟨c, hc, h1, h2⟩; exact ⟨(c.2, c.1), turn_mem.2 hc, h1, h2⟩
theorem anc_turn {l : List Ed} {n x : ByteArray} : x ∈ ancL (turnE l) n ↔ x ∈ reachL l n := by
  rw [anc_mem, reach_mem, nodes_turn]
  exact ⟨fun h => ⟨h.1, h.2.imp (fun _ _ hx => pre_turn.1 hx)⟩, fun h => ⟨h.1, h.2.imp (fun _ _ hx => pre_turn.2 hx)⟩⟩
theorem reach_turn {l : List Ed} {n x : ByteArray} : x ∈ reachL (turnE l) n ↔ x ∈ ancL l n := by
  rw [anc_mem, reach_mem, nodes_turn]
  exact ⟨fun h => ⟨h.1, h.2.imp (fun _ _ hx => suc_turn.1 hx)⟩, fun h => ⟨h.1, h.2.imp (fun _ _ hx => suc_turn.2 hx)⟩⟩
theorem gath_nodup (l : List Ed) (q : ByteArray → List ByteArray) (n : ByteArray) : (gathL l q n).Nodup := by
  unfold gathL
  split
  · exact List.Pairwise.filter _ (nodesL_nodup l)
  · exact List.nodup_nil
theorem same_len {a b : List ByteArray} (ha : a.Nodup) (hb : b.Nodup) (h : ∀ x, x ∈ a ↔ x ∈ b) : a.length = b.length :=
  Nat.le_antisymm (nodup_len ha (fun x hx => (h x).1 hx)) (nodup_len hb (fun x hx => (h x).2 hx))
theorem anc_turn_len (l : List Ed) (n : ByteArray) : (ancL (turnE l) n).length = (reachL l n).length := same_len (gath_nodup _ _ _) (gath_nodup _ _ _) (fun x => anc_turn)
theorem reach_turn_len (l : List Ed) (n : ByteArray) : (reachL (turnE l) n).length = (ancL l n).length := same_len (gath_nodup _ _ _) (gath_nodup _ _ _) (fun x => reach_turn)
/-- A cycle is one in both directions. -/
theorem topo_comes (l : List Ed) : (topo l).isNone = comesL l l := by
  cases h : topo l with
  | none => exact (comes_some h).symm
  | some r => exact (comes_none h).symm
theorem comes_turn (l : List Ed) : comesL (turnE l) (turnE l) = comesL l l := by
  rw [Bool.eq_iff_iff]
  unfold comesL
  rw [List.any_eq_true, List.any_eq_true]
  constructor
  · rintro ⟨c, hc, h⟩
    rw [decide_eq_true_eq, reach_turn, anc_mem] at h
    exact ⟨_, turn_mem.1 hc, decide_eq_true (reach_mem.2 ⟨nodes_2 (turn_mem.1 hc), rch_turn' h.2⟩)⟩
  · rintro ⟨c, hc, h⟩
    rw [decide_eq_true_eq, reach_mem] at h
    exact ⟨(c.2, c.1), turn_mem.2 hc, decide_eq_true (reach_turn.2 (anc_mem.2 ⟨nodes_1 hc, rch_turn h.2⟩))⟩
theorem err_turn (l : List Ed) : errT (topo (turnE l)) = errT (topo l) := by
  unfold errT
  rw [topo_comes, topo_comes, comes_turn]
end Go.Proofs.Ytmacdknicgfglaa.Gp
end
section
/- Counting ways through a graph, plainly. -/
namespace Go.Proofs.Ytmacdknicgfglaa.Gp
set_option linter.unusedVariables false
set_option linter.unusedSimpArgs false
/-- A sum over the contacts. -/
def sumE (l : List Ed) (f : Ed → Nat) : Nat := (l.map f).sum
theorem sumE_nil (f : Ed → Nat) : sumE [] f = 0 := rfl
theorem sumE_cons (c : Ed) (l : List Ed) (f : Ed → Nat) : sumE (c :: l) f = f c + sumE l f := by simp [sumE]
theorem sumE_append : ∀ (l m : List Ed) (f : Ed → Nat), sumE (l ++ m) f = sumE l f + sumE m f
  | [], m, f => by rw [List.nil_append, sumE_nil, Nat.zero_add]
  | c :: l, m, f => by rw [List.cons_append, sumE_cons, sumE_cons, sumE_append l m f, Nat.add_assoc]
theorem sumE_congr : ∀ {l : List Ed} {f g : Ed → Nat}, (∀ c ∈ l, f c = g c) → sumE l f = sumE l g
  | [], f, g, _ => rfl
  | c :: l, f, g, h => by rw [sumE_cons, sumE_cons, h c List.mem_cons_self, sumE_congr (fun d hd => h d (List.mem_cons_of_mem _ hd))]
theorem sumE_le : ∀ {l : List Ed} {f g : Ed → Nat}, (∀ c ∈ l, f c ≤ g c) → sumE l f ≤ sumE l g
  | [], f, g, _ => Nat.le_refl _
  | c :: l, f, g, h => by rw [sumE_cons, sumE_cons]; exact Nat.add_le_add (h c List.mem_cons_self) (sumE_le (fun d hd => h d (List.mem_cons_of_mem _ hd)))
theorem sumE_zero {l : List Ed} {f : Ed → Nat} (h : ∀ c ∈ l, f c = 0) : sumE l f = 0 := by
  rw [sumE_congr (g := fun _ => 0) h]
  induction l with
  | nil => rfl
  | cons c l ih => rw [sumE_cons, ih (fun d hd => h d (List.mem_cons_of_mem _ hd))]
theorem sumE_add : ∀ (l : List Ed) (f g : Ed → Nat), sumE l (fun c => f c + g c) = sumE l f + sumE l g
  | [], f, g => rfl
  | c :: l, f, g => by rw [sumE_cons, sumE_cons, sumE_cons, sumE_add l f g]; omega
theorem sumE_mul (k : Nat) : ∀ (l : List Ed) (f : Ed → Nat), sumE l (fun c => k * f c) = k * sumE l f
  | [], f => rfl
  | c :: l, f => by rw [sumE_cons, sumE_cons, sumE_mul k l f, Nat.mul_add]
theorem sumE_swap (m : List Ed) (f : Ed → Ed → Nat) : ∀ (l : List Ed), sumE l (fun c => sumE m (fun d => f c d)) = sumE m (fun d => sumE l (fun c => f c d))
  | [] => by rw [sumE_nil]; exact (sumE_zero (fun _ _ => rfl)).symm
  | c :: l => by
    rw [sumE_cons, sumE_swap m f l, ← sumE_add]
    exact sumE_congr (fun d _ => by rw [sumE_cons])
theorem sumE_if (p : Prop) [Decidable p] (l : List Ed) (f : Ed → Nat) : (if p then sumE l f else 0) = sumE l (fun c => if p then f c else 0) := by
  by_cases h : p
  · rw [if_pos h]; exact sumE_congr (fun c _ => by rw [if_pos h])
  · rw [if_neg h]; exact (sumE_zero (fun c _ => by rw [if_neg h])).symm
theorem sumE_mem {l : List Ed} {f : Ed → Nat} {c : Ed} (h : c ∈ l) : f c ≤ sumE l f := by
  obtain ⟨a, b, rfl⟩ := List.append_of_mem h
  rw [sumE_append, sumE_cons]
  omega
/-- The ways of at most k steps from x to t. -/
def bw (l : List Ed) (t : ByteArray) : Nat → ByteArray → Nat
  | 0, x => if x = t then 1 else 0
  | k + 1, x => (if x = t then 1 else 0) + sumE l (fun c => if c.1 = x then bw l t k c.2 else 0)
/-- The same, told from the other end. -/
def fw (l : List Ed) (s : ByteArray) : Nat → ByteArray → Nat
  | 0, y => if s = y then 1 else 0
  | k + 1, y => (if s = y then 1 else 0) + sumE l (fun c => if c.2 = y then fw l s k c.1 else 0)
theorem fw_head (l : List Ed) : ∀ (k : Nat) (s t : ByteArray), fw l s (k + 1) t = (if s = t then 1 else 0) + sumE l (fun c => if c.1 = s then fw l c.2 k t else 0)
  | 0, s, t => by
    show (if s = t then 1 else 0) + sumE l (fun c => if c.2 = t then (if s = c.1 then 1 else 0) else 0) = (if s = t then 1 else 0) + sumE l (fun c => if c.1 = s then (if c.2 = t then 1 else 0) else 0)
    congr 1
    refine sumE_congr (fun c _ => ?_)
    by_cases h1 : c.2 = t <;> by_cases h2 : c.1 = s
    · rw [if_pos h1, if_pos h2, if_pos h2.symm, if_pos h1]
    · rw [if_pos h1, if_neg h2, if_neg (fun e => h2 e.symm)]
    · rw [if_neg h1, if_pos h2, if_neg h1]
    · rw [if_neg h1, if_neg h2]
  | k + 1, s, t => by
    have L : fw l s (k + 2) t = (if s = t then 1 else 0) + sumE l (fun d => if d.2 = t then fw l s (k + 1) d.1 else 0) := rfl
    have e1 : sumE l (fun d => if d.2 = t then fw l s (k + 1) d.1 else 0) = sumE l (fun d => if d.2 = t then (if s = d.1 then 1 else 0) else 0) + sumE l (fun d => sumE l (fun c => if d.2 = t then (if c.1 = s then fw l c.2 k d.1 else 0) else 0)) := by
      rw [← sumE_add]
      refine sumE_congr (fun d _ => ?_)
      rw [← sumE_if]
      by_cases h : d.2 = t
      · rw [if_pos h, if_pos h, if_pos h, fw_head l k s d.1]
      · rw [if_neg h, if_neg h, if_neg h]
    have e2 : sumE l (fun c => if c.1 = s then fw l c.2 (k + 1) t else 0) = sumE l (fun c => if c.1 = s then (if c.2 = t then 1 else 0) else 0) + sumE l (fun c => sumE l (fun d => if d.2 = t then (if c.1 = s then fw l c.2 k d.1 else 0) else 0)) := by
      rw [← sumE_add]
      refine sumE_congr (fun c _ => ?_)
      by_cases h : c.1 = s
      · rw [if_pos h, if_pos h]
        show (if c.2 = t then 1 else 0) + sumE l (fun d => if d.2 = t then fw l c.2 k d.1 else 0) = _
        congr 1
        exact sumE_congr (fun d _ => by rw [if_pos h])
      · rw [if_neg h, if_neg h, Nat.zero_add]
        exact (sumE_zero (fun d _ => by rw [if_neg h]; split <;> rfl)).symm
    have e3 : sumE l (fun d => if d.2 = t then (if s = d.1 then 1 else 0) else 0) = sumE l (fun c => if c.1 = s then (if c.2 = t then 1 else 0) else 0) := by
      refine sumE_congr (fun c _ => ?_)
      by_cases h1 : c.2 = t <;> by_cases h2 : c.1 = s
      · rw [if_pos h1, if_pos h2, if_pos h2.symm, if_pos h1]
      · rw [if_pos h1, if_neg h2, if_neg (fun e => h2 e.symm)]
      · rw [if_neg h1, if_pos h2, if_neg h1]
      · rw [if_neg h1, if_neg h2]
    rw [L, e1, e2, e3, sumE_swap]
theorem bw_fw (l : List Ed) : ∀ (k : Nat) (s t : ByteArray), bw l t k s = fw l s k t
  | 0, s, t => rfl
  | k + 1, s, t => by
    rw [fw_head]
    show _ + _ = _ + _
    congr 1
    exact sumE_congr (fun c _ => by rw [bw_fw l k c.2 t])
/-! ### In an order -/
theorem posL_le (r : List ByteArray) (x : ByteArray) : posL r x ≤ r.length := by
  unfold posL
  cases h : r.findIdx? (fun y => decide (y = x)) with
  | none => exact Nat.le_refl _
  | some i =>
    obtain ⟨h1, _⟩ := List.findIdx?_eq_some_iff_getElem.1 h
    exact Nat.le_of_lt h1
section
variable {l : List Ed} {r : List ByteArray}
theorem bw_after (h : topo l = some r) (t : ByteArray) : ∀ (k : Nat) (x : ByteArray), posL r t < posL r x → bw l t k x = 0
  | 0, x, hx => if_neg (fun e => by rw [e] at hx; omega)
  | k + 1, x, hx => by
    show _ + _ = 0
    rw [if_neg (fun e => by rw [e] at hx; omega), Nat.zero_add]
    refine sumE_zero (fun c hc => ?_)
    by_cases e : c.1 = x
    · rw [if_pos e]
      have := ord_lt h hc
      rw [e] at this
      exact bw_after h t k c.2 (by omega)
    · exact if_neg e
theorem bw_stable (h : topo l = some r) (t : ByteArray) : ∀ (k : Nat) (x : ByteArray), r.length ≤ posL r x + k → bw l t (k + 1) x = bw l t k x
  | 0, x, hx => by
    show _ + _ = _
    rw [sumE_zero, Nat.add_zero]
    · rfl
    · intro c hc
      refine if_neg (fun e => ?_)
      have h1 := ord_lt h hc
      have h2 := posL_le r c.2
      rw [e] at h1
      omega
  | k + 1, x, hx => by
    show _ + _ = _ + _
    congr 1
    refine sumE_congr (fun c hc => ?_)
    by_cases e : c.1 = x
    · rw [if_pos e, if_pos e]
      have h1 := ord_lt h hc
      rw [e] at h1
      exact bw_stable h t k c.2 (by omega)
    · rw [if_neg e, if_neg e]
/-- All ways from x to t. -/
def Bw (l : List Ed) (t x : ByteArray) : Nat := bw l t (2 * l.length + 2) x
theorem topoE_len (h : topo l = some r) : r.length ≤ 2 * l.length + 2 := by
  have h1 := (topo_ord h).2
  have h2 := nodesL_len l
  omega
theorem Bw_ge (h : topo l = some r) (t : ByteArray) {k : Nat} (hk : 2 * l.length + 2 ≤ k) (x : ByteArray) : bw l t k x = Bw l t x := by
  obtain ⟨d, rfl⟩ : ∃ d, k = 2 * l.length + 2 + d := ⟨k - (2 * l.length + 2), by omega⟩
  induction d with
  | zero => rfl
  | succ d ih =>
    rw [← ih (by omega)]
    exact bw_stable h t (2 * l.length + 2 + d) x (by have := topoE_len h; omega)
theorem Bw_eq (h : topo l = some r) (t x : ByteArray) : Bw l t x = (if x = t then 1 else 0) + sumE l (fun c => if c.1 = x then Bw l t c.2 else 0) := (Bw_ge h t (k := 2 * l.length + 3) (by omega) x).symm
theorem Bw_after (h : topo l = some r) {t x : ByteArray} (hx : posL r t < posL r x) : Bw l t x = 0 := bw_after h t _ x hx
theorem Bw_self (h : topo l = some r) (t : ByteArray) : Bw l t t = 1 := by
  rw [Bw_eq h, if_pos rfl, sumE_zero]
  intro c hc
  by_cases e : c.1 = t
  · rw [if_pos e]
    have h1 := ord_lt h hc
    rw [e] at h1
    exact Bw_after h h1
  · exact if_neg e
theorem Bw_other (h : topo l = some r) {t x : ByteArray} (hx : x ≠ t) : Bw l t x = sumE l (fun c => if c.1 = x then Bw l t c.2 else 0) := by
  rw [Bw_eq h, if_neg hx, Nat.zero_add]
theorem Bw_fw (h : topo l = some r) (s t : ByteArray) {k : Nat} (hk : 2 * l.length + 2 ≤ k) : fw l s k t = Bw l t s := by
  rw [← bw_fw, Bw_ge h t hk]
/-- One solution alone. -/
theorem Bw_only (h : topo l = some r) (t : ByteArray) (g : Nat) {G : ByteArray → Nat} (hG : ∀ x, G x = (if x = t then g else 0) + sumE l (fun c => if c.1 = x then G c.2 else 0)) : ∀ (d : Nat) (x : ByteArray), r.length ≤ posL r x + d → G x = g * Bw l t x
  | d, x, hd => by
    rw [hG x, Bw_eq h t x, Nat.mul_add, ← sumE_mul]
    congr 1
    · split <;> simp
    · refine sumE_congr (fun c hc => ?_)
      by_cases e : c.1 = x
      · rw [if_pos e, if_pos e]
        have h1 := ord_lt h hc
        have h2 := posL_le r c.2
        rw [e] at h1
        cases d with
        | zero => omega
        | succ d => exact Bw_only h t g hG d c.2 (by omega)
      · rw [if_neg e, if_neg e, Nat.mul_zero]
theorem Bw_uniq (h : topo l = some r) (t : ByteArray) (g : Nat) {G : ByteArray → Nat} (hG : ∀ x, G x = (if x = t then g else 0) + sumE l (fun c => if c.1 = x then G c.2 else 0)) (x : ByteArray) : G x = g * Bw l t x := Bw_only h t g hG r.length x (by omega)
/-- How many contacts leave names from a place of the order on. -/
def behind (l : List Ed) (r : List ByteArray) (p : Nat) : Nat := sumE l (fun c => if p ≤ posL r c.1 then 1 else 0)
theorem behind_le (l : List Ed) (r : List ByteArray) (p : Nat) : behind l r p ≤ l.length := by
  unfold behind
  induction l with
  | nil => exact Nat.le_refl _
  | cons c l ih => rw [sumE_cons, List.length_cons]; split <;> omega
theorem sumE_lt2 {l : List Ed} {f : Ed → Nat} {M : Nat} {p : Ed → Prop} [DecidablePred p] (h : ∀ c ∈ l, f c ≤ if p c then M else 0) : sumE l f ≤ sumE l (fun c => if p c then 1 else 0) * M := by
  refine Nat.le_trans (sumE_le h) ?_
  rw [Nat.mul_comm, ← sumE_mul]
  refine Nat.le_of_eq (sumE_congr (fun c _ => ?_))
  split <;> simp
theorem le_two_pow (n : Nat) : n ≤ 2 ^ n := Nat.le_of_lt Nat.lt_two_pow_self
theorem bw_pow (h : topo l = some r) (t : ByteArray) : ∀ (k : Nat) (x : ByteArray), bw l t k x ≤ 2 ^ behind l r (posL r x)
  | 0, x => by
    have : 1 ≤ 2 ^ behind l r (posL r x) := Nat.one_le_two_pow
    show (if x = t then 1 else 0) ≤ _
    split <;> omega
  | k + 1, x => by
    by_cases e : x = t
    · have h1 : bw l t (k + 1) x = 1 := by
        show _ + _ = 1
        rw [if_pos e, sumE_zero]
        intro c hc
        by_cases e2 : c.1 = x
        · rw [if_pos e2]
          have h1 := ord_lt h hc
          rw [e2, e] at h1
          exact bw_after h t k c.2 h1
        · exact if_neg e2
      rw [h1]
      exact Nat.one_le_two_pow
    · show (if x = t then 1 else 0) + _ ≤ _
      rw [if_neg e, Nat.zero_add]
      have h1 := sumE_lt2 (l := l) (f := fun c => if c.1 = x then bw l t k c.2 else 0) (M := 2 ^ behind l r (posL r x + 1)) (p := fun c => c.1 = x) (fun c hc => by
        by_cases e2 : c.1 = x
        · simp only [if_pos e2]
          refine Nat.le_trans (bw_pow h t k c.2) (Nat.pow_le_pow_right (by omega) ?_)
          unfold behind
          refine sumE_le (fun d _ => ?_)
          have h2 := ord_lt h hc
          rw [e2] at h2
          by_cases h3 : posL r c.2 ≤ posL r d.1
          · rw [if_pos h3, if_pos (by omega)]; exact Nat.le_refl _
          · rw [if_neg h3]; exact Nat.zero_le _
        · simp only [if_neg e2]; exact Nat.le_refl _)
      refine Nat.le_trans h1 (Nat.le_trans (Nat.mul_le_mul_right _ (le_two_pow _)) ?_)
      rw [← Nat.pow_add]
      refine Nat.pow_le_pow_right (by omega) ?_
      unfold behind
      rw [← sumE_add]
      refine sumE_le (fun d _ => ?_)
      by_cases e2 : d.1 = x
      · rw [if_pos e2, e2, if_neg (by omega), if_pos (Nat.le_refl _)]; exact Nat.le_refl _
      · rw [if_neg e2, Nat.zero_add]
        by_cases h3 : posL r x + 1 ≤ posL r d.1
        · rw [if_pos h3, if_pos (by omega)]; exact Nat.le_refl _
        · rw [if_neg h3]; exact Nat.zero_le _
theorem Bw_pow (h : topo l = some r) (t x : ByteArray) : Bw l t x ≤ 2 ^ l.length := Nat.le_trans (bw_pow h t _ x) (Nat.pow_le_pow_right (by omega) (behind_le _ _ _))
theorem Bw_pos (h : topo l = some r) {t x : ByteArray} (hr : Rch (sucL l) x t) : 0 < Bw l t x := by
  have key : ∀ y, Rch (sucL l) x y → 0 < Bw l t y → 0 < Bw l t x := by
    intro y hy
    induction hy with
    | refl => exact id
    | @step y z _ hx ih =>
      intro h1
      refine ih ?_
      obtain ⟨c, hc, e1, e2⟩ := suc_mem.1 hx
      rw [Bw_eq h]
      have := sumE_mem (f := fun c => if c.1 = y then Bw l t c.2 else 0) hc
      simp only [if_pos e1, e2] at this
      omega
  exact key t hr (by rw [Bw_self h]; omega)
end
end Go.Proofs.Ytmacdknicgfglaa.Gp
end
section
/- CountPaths' table, plainly: what it holds is the number of ways, bounded. -/
namespace Go.Proofs.Ytmacdknicgfglaa.Gp
set_option linter.unusedVariables false
set_option linter.unusedSimpArgs false
/-- One contact is reckoned in. -/
def updT (x : ByteArray) (n : ByteArray → Option Int) (t : ByteArray) : ByteArray → Option Int := if x = sR then n else fun y => if y = x then some (min 1073741824 ((n x).getD 0 + (n t).getD 0)) else n y
def nodeN (l : List Ed) (n : ByteArray → Option Int) (x : ByteArray) : ByteArray → Option Int := (sucL l x).foldl (updT x) n
def ntab0 : ByteArray → Option Int := fun y => if y = sR then some 1 else none
def ntab (l : List Ed) (xs : List ByteArray) : ByteArray → Option Int := xs.foldl (nodeN l) ntab0
theorem map_range {α : Type} (l : List α) (z : α) : (List.range l.length).map (fun i => l.getD i z) = l := by
  apply List.ext_getElem
  · simp
  · intro i h1 h2
    simp [List.getD_eq_getElem?_getD, List.getElem?_eq_getElem h2]
theorem suc_eq (l : List Ed) (s : ByteArray) : sucL l s = (l.filter fun c => decide (c.1 = s)).map fun c => c.2 := by
  have h := map_range l zE
  unfold sucL outL idxs
  rw [List.map_map]
  conv => rhs; rw [← h]
  rw [List.filter_map, List.map_map]
  rfl
theorem suc_sum (l : List Ed) (s : ByteArray) (f : ByteArray → Nat) : ((sucL l s).map f).sum = sumE l (fun c => if c.1 = s then f c.2 else 0) := by
  rw [suc_eq]
  induction l with
  | nil => rfl
  | cons c l ih =>
    rw [sumE_cons, List.filter_cons]
    by_cases e : c.1 = s
    · rw [if_pos (by simpa using e), if_pos e, List.map_cons, List.map_cons, List.sum_cons, ih]
    · rw [if_neg (by simpa using e), if_neg e, ih, Nat.zero_add]
/-- The bounded number. -/
def capN (n : Nat) : Int := ((min 1073741824 n : Nat) : Int)
theorem capN_add (a b : Nat) : min 1073741824 (capN a + capN b) = capN (a + b) := by unfold capN; omega
theorem capN_cap (a : Nat) : min 1073741824 (capN a) = capN a := by unfold capN; omega
theorem capN_bd (a : Nat) : 0 ≤ capN a ∧ capN a ≤ 1073741824 := by unfold capN; omega
theorem capN_small {a : Nat} (h : a ≤ 1073741824) : capN a = (a : Int) := by unfold capN; omega
theorem foldT {x : ByteArray} (hx : x ≠ sR) (B : ByteArray → Nat) : ∀ (ts : List ByteArray) (n : ByteArray → Option Int) (a : Nat), x ∉ ts → (n x).getD 0 = capN a → (∀ t ∈ ts, (n t).getD 0 = capN (B t)) →
    ((ts.foldl (updT x) n) x).getD 0 = capN (a + (ts.map B).sum) ∧ ∀ y, y ≠ x → (ts.foldl (updT x) n) y = n y
  | [], n, a, _, ha, _ => ⟨by simpa using ha, fun y _ => rfl⟩
  | t :: ts, n, a, hn, ha, hB => by
    have ht : t ≠ x := fun e => hn (by rw [e]; exact List.mem_cons_self)
    have h1 : (updT x n t x).getD 0 = capN (a + B t) := by
      unfold updT
      rw [if_neg hx, if_pos rfl, Option.getD_some, ha, hB t List.mem_cons_self, capN_add]
    have h2 : ∀ y, y ≠ x → updT x n t y = n y := fun y hy => by
      unfold updT
      rw [if_neg hx, if_neg hy]
    obtain ⟨h3, h4⟩ := foldT hx B ts (updT x n t) (a + B t) (fun h => hn (List.mem_cons_of_mem _ h)) h1 (fun u hu => by
      rw [h2 u (fun e => hn (by rw [← e]; exact List.mem_cons_of_mem _ hu))]
      exact hB u (List.mem_cons_of_mem _ hu))
    rw [List.foldl_cons, List.map_cons, List.sum_cons, ← Nat.add_assoc]
    exact ⟨h3, fun y hy => (h4 y hy).trans (h2 y hy)⟩
theorem foldR (ts : List ByteArray) (n : ByteArray → Option Int) : ts.foldl (updT sR) n = n := by
  induction ts generalizing n with
  | nil => rfl
  | cons t ts ih => rw [List.foldl_cons, ih]; exact if_pos rfl
/-- Where an order stands, a contact's target comes behind its source. -/
theorem ord_behind {l : List Ed} {r A B : List ByteArray} {x : ByteArray} (h : topo l = some r) (e : r = A ++ x :: B) {c : Ed} (hc : c ∈ l) (hx : c.1 = x) : c.2 ∈ B ∧ x ∉ B ∧ x ∉ A := by
  obtain ⟨ho, hl⟩ := topo_ord h
  have hnd := ho.nd
  rw [e, List.nodup_append, List.nodup_cons] at hnd
  have hA : x ∉ A := fun hm => hnd.2.2 x hm x List.mem_cons_self rfl
  refine ⟨?_, hnd.2.1.1, hA⟩
  have hm := full ho.nd ho.sub hl c.2 (nodes_2 hc)
  obtain ⟨i, hi, q⟩ := List.getElem_of_mem hm
  have h1 := ho.ord i hi c hc q.symm
  rw [hx] at h1
  have hAi : A.length < i := by
    refine Nat.lt_of_not_le fun hle => hA ?_
    subst e
    rw [List.take_append_of_le_length hle] at h1
    exact List.mem_of_mem_take h1
  subst e
  rw [List.getElem_append_right (by omega), List.getElem_cons, dif_neg (by omega)] at q
  rw [← q]
  exact List.getElem_mem _
theorem ntab_inv {l : List Ed} {r : List ByteArray} (h : topo l = some r) : ∀ (B A : List ByteArray), r = A ++ B → ∀ y, (ntab l B.reverse y).getD 0 = if y ∈ B ∨ y = sR then capN (Bw l sR y) else 0
  | [], A, e, y => by
    show (ntab0 y).getD 0 = _
    unfold ntab0
    by_cases hy : y = sR
    · rw [if_pos hy, if_pos (.inr hy), hy, Bw_self h]; rfl
    · rw [if_neg hy, if_neg (by simp [hy])]; rfl
  | x :: B, A, e, y => by
    have ih := ntab_inv h B (A ++ [x]) (by rw [e]; simp)
    have hs : ntab l (x :: B).reverse = nodeN l (ntab l B.reverse) x := by
      unfold ntab
      rw [List.reverse_cons, List.foldl_append]
      rfl
    rw [hs]
    by_cases hx : x = sR
    · have : nodeN l (ntab l B.reverse) x = ntab l B.reverse := by unfold nodeN; rw [hx]; exact foldR _ _
      rw [this, ih y]
      by_cases hy : y = sR
      · rw [if_pos (.inr hy), if_pos (.inr hy)]
      · have : (y ∈ x :: B ∨ y = sR) ↔ (y ∈ B ∨ y = sR) := by rw [List.mem_cons, hx]; simp [hy]
        by_cases hB : y ∈ B
        · rw [if_pos (.inl hB), if_pos (.inl (List.mem_cons_of_mem _ hB))]
        · rw [if_neg (by simp [hB, hy]), if_neg (by rw [this]; simp [hB, hy])]
    · obtain ⟨ho, hl⟩ := topo_ord h
      have hxB : x ∉ B := by
        have hnd := ho.nd
        rw [e, List.nodup_append, List.nodup_cons] at hnd
        exact hnd.2.1.1
      obtain ⟨h1, h2⟩ := foldT hx (Bw l sR) (sucL l x) (ntab l B.reverse) 0 (fun hm => by
        obtain ⟨c, hc, q1, q2⟩ := suc_mem.1 hm
        have := (ord_behind h e hc q1).1
        rw [q2] at this
        exact hxB this) (by rw [ih x, if_neg (by simp [hxB, hx])]; rfl) (fun t ht => by
        obtain ⟨c, hc, q1, q2⟩ := suc_mem.1 ht
        have := (ord_behind h e hc q1).1
        rw [q2] at this
        rw [ih t, if_pos (.inl this)])
      by_cases hy : y = x
      · rw [hy, if_pos (.inl List.mem_cons_self)]
        show ((sucL l x).foldl (updT x) (ntab l B.reverse) x).getD 0 = _
        rw [h1, Nat.zero_add, suc_sum, ← Bw_other h hx]
      · show ((sucL l x).foldl (updT x) (ntab l B.reverse) y).getD 0 = _
        rw [h2 y hy, ih y]
        by_cases hB : y ∈ B ∨ y = sR
        · rw [if_pos hB, if_pos (hB.imp (List.mem_cons_of_mem _) id)]
        · rw [if_neg hB, if_neg (fun q => hB (q.imp (fun h => (List.mem_cons.1 h).resolve_left hy) id))]
/-- What CountPaths answers. -/
theorem ntab_all {l : List Ed} {r : List ByteArray} (h : topo l = some r) : (ntab l r.reverse sL).getD 0 = capN (Bw l sR sL) := by
  rw [ntab_inv h r [] rfl]
  obtain ⟨ho, hl⟩ := topo_ord h
  exact if_pos (.inl (full ho.nd ho.sub hl sL (nodesL_mem.2 (.inl rfl))))
/-- All numbers in the table lie within bounds. -/
theorem updT_bd {x : ByteArray} {n : ByteArray → Option Int} (hn : ∀ y, 0 ≤ (n y).getD 0 ∧ (n y).getD 0 ≤ 1073741824) (t : ByteArray) : ∀ y, 0 ≤ (updT x n t y).getD 0 ∧ (updT x n t y).getD 0 ≤ 1073741824 := by
  intro y
  unfold updT
  have h1 := hn x
  have h2 := hn t
  by_cases hx : x = sR
  · rw [if_pos hx]; exact hn y
  · rw [if_neg hx]
    by_cases hy : y = x
    · rw [if_pos hy, Option.getD_some]; omega
    · rw [if_neg hy]; exact hn y
theorem foldT_bd {x : ByteArray} : ∀ (ts : List ByteArray) (n : ByteArray → Option Int), (∀ y, 0 ≤ (n y).getD 0 ∧ (n y).getD 0 ≤ 1073741824) → ∀ y, 0 ≤ (ts.foldl (updT x) n y).getD 0 ∧ (ts.foldl (updT x) n y).getD 0 ≤ 1073741824
  | [], n, hn => hn
  | t :: ts, n, hn => foldT_bd ts _ (updT_bd hn t)
theorem ntab_bd (l : List Ed) (xs : List ByteArray) : ∀ y, 0 ≤ (ntab l xs y).getD 0 ∧ (ntab l xs y).getD 0 ≤ 1073741824 := by
  unfold ntab
  have h0 : ∀ y, 0 ≤ (ntab0 y).getD 0 ∧ (ntab0 y).getD 0 ≤ 1073741824 := by
    intro y
    unfold ntab0
    split <;> simp
  generalize ntab0 = n at h0 ⊢
  induction xs generalizing n with
  | nil => exact h0
  | cons x xs ih => exact ih _ (foldT_bd (sucL l x) n h0)
/-- What CountPaths answers: how many, the error. -/
def countL (l : List Ed) : Int × Int := if errT (topo l) = 0 then (capN (Bw l sR sL), 0) else (0, errT (topo l))
end Go.Proofs.Ytmacdknicgfglaa.Gp
end
section
/- What an argument's cells read as, kind by kind: from the statement's reading of an argument (DataW.trod) to the kinds (Kd) in which the contracts speak. -/
namespace Go.Proofs.Ytmacdknicgfglaa.Open
open Go.RowKit Go.Proofs.YtmacdknicgfglaaW.PrintWords Go.ChangeShapes Go.WideShapes Go.Deep

/-- Whatever reads as a value of type t reads as a y of kind d, and Q y. -/
def Opens {α : Type} (P : Program) (w : World) (t : TypeId) (d : Kd α) (Q : α → Prop) : Prop :=
  ∀ (H : Type) (enc : TypeId × Value → H) (base : Nat) (spare : Nat → Bool) (held : Bool) (fuel : Nat) (cs : List Value) (x : DataW H × List MemPlace),
    DataW.trod enc P w base spare held fuel t cs = some x → ∃ y, d.K w y cs ∧ Q y

section
variable {P : Program} {w : World} {t : TypeId}

theorem opens_bool (ht : P.underlying t = some .bool) : Opens P w t Kd.bool (fun _ => True) := by
  intro H enc base spare held fuel cs x h
  obtain ⟨b, rfl, _⟩ := DataW.trod_bool ht h
  exact ⟨b, rfl, trivial⟩
theorem opens_int {k : IntKind} (ht : P.underlying t = some (.int k)) : Opens P w t (Kd.int k) (fun n => (Lit.int k n).wf = true) := by
  intro H enc base spare held fuel cs x h
  obtain ⟨b, rfl, _, hw⟩ := DataW.trod_int ht h
  exact ⟨b, rfl, hw⟩
theorem opens_string (ht : P.underlying t = some .string) : Opens P w t Kd.string (fun s => s.size ≤ maxLen) := by
  intro H enc base spare held fuel cs x h
  obtain ⟨b, rfl, _, hw⟩ := DataW.trod_string ht h
  exact ⟨b, rfl, hw⟩
theorem Opens.imp_ {α : Type} {d : Kd α} {Q Q' : α → Prop} (h : Opens P w t d Q) (hq : ∀ y, Q y → Q' y) : Opens P w t d Q' := by
  intro H enc base spare held fuel cs x hx
  obtain ⟨y, hy, hQ⟩ := h H enc base spare held fuel cs x hx
  exact ⟨y, hy, hq y hQ⟩
theorem Opens.iso_ {α β : Type} {d : Kd α} {Q : α → Prop} (h : Opens P w t d Q) (f : β → α) (g : α → β) (hfg : ∀ y, f (g y) = y) : Opens P w t (Kd.iso d f) (fun y => Q (f y)) := by
  intro H enc base spare held fuel cs x hx
  obtain ⟨y, hy, hQ⟩ := h H enc base spare held fuel cs x hx
  refine ⟨g y, ?_, by show Q (f (g y)); rw [hfg]; exact hQ⟩
  show d.K w (f (g y)) cs
  rw [hfg]
  exact hy

/-- The elements of a list that is read place by place. -/
theorem exists_list {α : Type} {n : Nat} {p : Nat → α → Prop} (h : ∀ i, i < n → ∃ y, p i y) : ∃ l : List α, l.length = n ∧ ∀ i y, l[i]? = some y → p i y := by
  induction n with
  | zero => exact ⟨[], rfl, fun i y h => by simp at h⟩
  | succ n ih =>
    obtain ⟨l, hl, hp⟩ := ih (fun i hi => h i (by omega))
    obtain ⟨y, hy⟩ := h n (by omega)
    refine ⟨l ++ [y], by simp [hl], fun i z hz => ?_⟩
    rcases Nat.lt_or_ge i l.length with hi | hi
    · rw [List.getElem?_append_left hi] at hz
      exact hp i z hz
    · have : i = n := by
        have := (List.getElem?_eq_some_iff.1 hz).1
        rw [List.length_append, List.length_singleton] at this
        omega
      subst this
      have hz' : y = z := by simpa [hl] using hz
      subst hz'
      exact hy

/-- What a slice of such elements reads as. -/
def SlQ {α : Type} (Q : α → Prop) (xs : List α) : Prop := xs.length ≤ maxLen ∧ ∀ x ∈ xs, Q x

theorem opens_slice {α : Type} {e : TypeId} {d : Kd α} {Q : α → Prop} (ht : P.underlying t = some (.slice e)) (hC : P.cellsOf e = d.sz) (he : Opens P w e d Q) : Opens P w t (Kd.slice e d) (SlQ Q) := by
  intro H enc base spare held fuel cs x h
  rcases open_slice ht h with ⟨rfl, _⟩ | ⟨a, len, cap, m, n, D, Pl, rfl, _, hl, hm, hmm, _, hi⟩
  · exact ⟨[], ⟨none, 0, rfl, by simp, rfl, by simp, fun h => absurd h (by simp)⟩, by simp, fun x hx => by simp at hx⟩
  · have hlm : len ≤ m := by rw [hmm]; split <;> omega
    obtain ⟨l, hll, hp⟩ := exists_list (n := len) (p := fun i y => Q y ∧ ∃ c, c.length = d.sz ∧ d.K w y c ∧ ∀ j u, c[j]? = some u → w.cell? (a.add (i * d.sz + j)) = some u) (fun i hlt => by
      obtain ⟨cs', hc, hd⟩ := hi i (by omega)
      obtain ⟨y, hy, hQ⟩ := he H enc base spare held n cs' _ hd
      rw [hC] at hc
      obtain ⟨_, hlen, hat⟩ := World.cells?_some hc
      refine ⟨y, hQ, cs', hlen, hy, fun j u hu => ?_⟩
      have hj : j < d.sz := by rw [← hlen]; exact (List.getElem?_eq_some_iff.1 hu).1
      have h2 := hat j hj
      rw [hu] at h2
      rw [← Go.Deep.add_add]
      exact h2)
    subst hll
    refine ⟨l, ⟨some a, cap, rfl, hl, rfl, by unfold maxLen at hm; omega, fun _ => ⟨a, rfl, fun j p hj => ?_⟩⟩, by omega, fun x hx => ?_⟩
    · obtain ⟨_, c, h1, h2, h3⟩ := hp j p hj
      exact ⟨c, h1, h2, h3⟩
    · obtain ⟨i, hi⟩ := List.getElem?_of_mem hx
      exact (hp i x hi).1

theorem split4 {α : Type} (a b c : Nat) (l : List α) : l = l.take a ++ ((l.drop a).take b ++ ((l.drop (a + b)).take c ++ l.drop (a + b + c))) := by
  have h1 := List.take_append_drop c (l.drop (a + b))
  rw [List.drop_drop] at h1
  have h2 := List.take_append_drop b (l.drop a)
  rw [List.drop_drop] at h2
  rw [h1, h2, List.take_append_drop]
section
variable {α β γ δ : Type} {d0 : Kd α} {d1 : Kd β} {d2 : Kd γ} {d3 : Kd δ} {Q0 : α → Prop} {Q1 : β → Prop} {Q2 : γ → Prop} {Q3 : δ → Prop} {f0 f1 f2 f3 : Field}
theorem opens_struct2 (ht : P.underlying t = some (.struct #[f0, f1])) (o0 : f0.offset = 0) (o1 : f1.offset = d0.sz) (s0 : P.cellsOf f0.type = d0.sz) (s1 : P.cellsOf f1.type = d1.sz) (hC : P.cellsOf t = d0.sz + d1.sz)
    (h0 : Opens P w f0.type d0 Q0) (h1 : Opens P w f1.type d1 Q1) : Opens P w t (Kd.pair d0 d1) (fun y => Q0 y.1 ∧ Q1 y.2) := by
  intro H enc base spare held fuel cs x h
  obtain ⟨xs, n, _, _, hl, hxs, hf⟩ := DataW.trod_struct ht h
  match xs, hxs with
  | [y0, y1], _ =>
    have e0 := hf 0 f0 rfl
    have e1 := hf 1 f1 rfl
    rw [o0, s0] at e0
    rw [o1, s1] at e1
    obtain ⟨z0, k0, q0⟩ := h0 H enc base spare held n _ _ e0
    obtain ⟨z1, k1, q1⟩ := h1 H enc base spare held n _ _ e1
    refine ⟨(z0, z1), ⟨_, _, ?_, k0, k1⟩, q0, q1⟩
    rw [List.drop_zero, List.take_of_length_le (l := cs.drop d0.sz) (by rw [List.length_drop]; omega), List.take_append_drop]
theorem opens_struct3 (ht : P.underlying t = some (.struct #[f0, f1, f2])) (o0 : f0.offset = 0) (o1 : f1.offset = d0.sz) (o2 : f2.offset = d0.sz + d1.sz) (s0 : P.cellsOf f0.type = d0.sz) (s1 : P.cellsOf f1.type = d1.sz) (s2 : P.cellsOf f2.type = d2.sz)
    (hC : P.cellsOf t = d0.sz + (d1.sz + d2.sz)) (h0 : Opens P w f0.type d0 Q0) (h1 : Opens P w f1.type d1 Q1) (h2 : Opens P w f2.type d2 Q2) : Opens P w t (Kd.pair d0 (Kd.pair d1 d2)) (fun y => Q0 y.1 ∧ Q1 y.2.1 ∧ Q2 y.2.2) := by
  intro H enc base spare held fuel cs x h
  obtain ⟨xs, n, _, _, hl, hxs, hf⟩ := DataW.trod_struct ht h
  match xs, hxs with
  | [y0, y1, y2], _ =>
    have e0 := hf 0 f0 rfl
    have e1 := hf 1 f1 rfl
    have e2 := hf 2 f2 rfl
    rw [o0, s0] at e0
    rw [o1, s1] at e1
    rw [o2, s2] at e2
    obtain ⟨z0, k0, q0⟩ := h0 H enc base spare held n _ _ e0
    obtain ⟨z1, k1, q1⟩ := h1 H enc base spare held n _ _ e1
    obtain ⟨z2, k2, q2⟩ := h2 H enc base spare held n _ _ e2
    refine ⟨(z0, z1, z2), ⟨_, _, ?_, k0, _, _, rfl, k1, k2⟩, q0, q1, q2⟩
    rw [List.drop_zero, List.take_of_length_le (l := cs.drop (d0.sz + d1.sz)) (by rw [List.length_drop]; omega), ← List.drop_drop, List.take_append_drop, List.take_append_drop]
theorem opens_struct4 (ht : P.underlying t = some (.struct #[f0, f1, f2, f3])) (o0 : f0.offset = 0) (o1 : f1.offset = d0.sz) (o2 : f2.offset = d0.sz + d1.sz) (o3 : f3.offset = d0.sz + d1.sz + d2.sz)
    (s0 : P.cellsOf f0.type = d0.sz) (s1 : P.cellsOf f1.type = d1.sz) (s2 : P.cellsOf f2.type = d2.sz) (s3 : P.cellsOf f3.type = d3.sz)
    (hC : P.cellsOf t = d0.sz + (d1.sz + (d2.sz + d3.sz))) (h0 : Opens P w f0.type d0 Q0) (h1 : Opens P w f1.type d1 Q1) (h2 : Opens P w f2.type d2 Q2) (h3 : Opens P w f3.type d3 Q3) :
    Opens P w t (Kd.pair d0 (Kd.pair d1 (Kd.pair d2 d3))) (fun y => Q0 y.1 ∧ Q1 y.2.1 ∧ Q2 y.2.2.1 ∧ Q3 y.2.2.2) := by
  intro H enc base spare held fuel cs x h
  obtain ⟨xs, n, _, _, hl, hxs, hf⟩ := DataW.trod_struct ht h
  match xs, hxs with
  | [y0, y1, y2, y3], _ =>
    have e0 := hf 0 f0 rfl
    have e1 := hf 1 f1 rfl
    have e2 := hf 2 f2 rfl
    have e3 := hf 3 f3 rfl
    rw [o0, s0] at e0
    rw [o1, s1] at e1
    rw [o2, s2] at e2
    rw [o3, s3] at e3
    obtain ⟨z0, k0, q0⟩ := h0 H enc base spare held n _ _ e0
    obtain ⟨z1, k1, q1⟩ := h1 H enc base spare held n _ _ e1
    obtain ⟨z2, k2, q2⟩ := h2 H enc base spare held n _ _ e2
    obtain ⟨z3, k3, q3⟩ := h3 H enc base spare held n _ _ e3
    refine ⟨(z0, z1, z2, z3), ⟨_, _, ?_, k0, _, _, rfl, k1, _, _, rfl, k2, k3⟩, q0, q1, q2, q3⟩
    rw [List.drop_zero, List.take_of_length_le (l := cs.drop (d0.sz + d1.sz + d2.sz)) (by rw [List.length_drop]; omega)]
    exact split4 _ _ _ _
/-- An array of two. -/
theorem opens_arr2 {e : TypeId} (ht : P.underlying t = some (.array 2 e)) (hs : P.cellsOf e = d0.sz) (hC : P.cellsOf t = d0.sz + d0.sz) (he : Opens P w e d0 Q0) : Opens P w t (Kd.pair d0 d0) (fun y => Q0 y.1 ∧ Q0 y.2) := by
  intro H enc base spare held fuel cs x h
  obtain ⟨xs, n, _, _, hl, hxs, hf⟩ := DataW.trod_array ht h
  match xs, hxs with
  | [y0, y1], _ =>
    have e0 := hf 0 (by omega)
    have e1 := hf 1 (by omega)
    rw [hs] at e0 e1
    simp only [Nat.zero_mul, Nat.one_mul] at e0 e1
    obtain ⟨z0, k0, q0⟩ := he H enc base spare held n _ _ e0
    obtain ⟨z1, k1, q1⟩ := he H enc base spare held n _ _ e1
    refine ⟨(z0, z1), ⟨_, _, ?_, k0, k1⟩, q0, q1⟩
    rw [List.drop_zero, List.take_of_length_le (l := cs.drop d0.sz) (by rw [List.length_drop]; omega), List.take_append_drop]
/-- An array of four of one cell each. -/
theorem opens_arr4 {e : TypeId} (ht : P.underlying t = some (.array 4 e)) (hs : P.cellsOf e = d0.sz) (h1 : d0.sz = 1) (hC : P.cellsOf t = 4) (he : Opens P w e d0 Q0) : Opens P w t (Kd.pair d0 (Kd.pair d0 (Kd.pair d0 d0))) (fun y => Q0 y.1 ∧ Q0 y.2.1 ∧ Q0 y.2.2.1 ∧ Q0 y.2.2.2) := by
  intro H enc base spare held fuel cs x h
  obtain ⟨xs, n, _, _, hl, hxs, hf⟩ := DataW.trod_array ht h
  match xs, hxs with
  | [y0, y1, y2, y3], _ =>
    have e0 := hf 0 (by omega)
    have e1 := hf 1 (by omega)
    have e2 := hf 2 (by omega)
    have e3 := hf 3 (by omega)
    rw [hs, h1] at e0 e1 e2 e3
    simp only [Nat.mul_one] at e0 e1 e2 e3
    obtain ⟨z0, k0, q0⟩ := he H enc base spare held n _ _ e0
    obtain ⟨z1, k1, q1⟩ := he H enc base spare held n _ _ e1
    obtain ⟨z2, k2, q2⟩ := he H enc base spare held n _ _ e2
    obtain ⟨z3, k3, q3⟩ := he H enc base spare held n _ _ e3
    refine ⟨(z0, z1, z2, z3), ⟨_, _, ?_, k0, _, _, rfl, k1, _, _, rfl, k2, k3⟩, q0, q1, q2, q3⟩
    rw [hC] at hl
    match cs, hl with
    | [u0, u1, u2, u3], _ => rfl
end

/-- An argument that reads as such a type, opened. -/
theorem Opens.arg {α : Type} {d : Kd α} {Q : α → Prop} (ho : Opens P w t d Q) {H : Type} {enc : TypeId × Value → H} {base : Nat} {spare : Nat → Bool} {held : Bool} {v : Value} {x : DataW H} {ps : List MemPlace} (h : DataW.Trod enc P w base spare held t v x ps) : ∃ y, d.K w y v.cells.toList ∧ Q y := by
  obtain ⟨fuel, hf⟩ := h
  exact ho H enc base spare held fuel _ _ hf
theorem slice_arg {α : Type} {e : TypeId} {d : Kd α} {Q : α → Prop} (ht : P.underlying t = some (.slice e)) (ho : Opens P w t (Kd.slice e d) (SlQ Q)) {r : Reach} {b0 : Nat} {H : Type} {enc : TypeId × Value → H} {base : Nat} {spare : Nat → Bool} {held : Bool} {v : Value} {x : DataW H} {ps : List MemPlace}
    (hv : Value.okWide P w r b0 t v) (h : DataW.Trod enc P w base spare held t v x ps) : ∃ (A : Option Addr) (c : Nat) (l : List α), v = .slice A l.length c ∧ l.length ≤ c ∧ d.C w A l.length l ∧ SlQ Q l := by
  obtain ⟨A, len, cap, rfl⟩ := okWide_slice ht hv
  obtain ⟨l, ⟨A', c', he, hl, hC⟩, hQ⟩ := ho.arg h
  simp [Value.cells] at he
  obtain ⟨rfl, rfl, rfl⟩ := he
  exact ⟨_, _, l, rfl, hl, hC, hQ⟩
theorem struct_arg {α : Type} {d : Kd α} {Q : α → Prop} {fs : Array Field} (ht : P.underlying t = some (.struct fs)) (ho : Opens P w t d Q) {r : Reach} {b0 : Nat} {H : Type} {enc : TypeId × Value → H} {base : Nat} {spare : Nat → Bool} {held : Bool} {v : Value} {x : DataW H} {ps : List MemPlace}
    (hv : Value.okWide P w r b0 t v) (h : DataW.Trod enc P w base spare held t v x ps) : ∃ (cs : List Value) (y : α), v = .agg cs.toArray ∧ d.K w y cs ∧ Q y := by
  obtain ⟨cs, rfl, _⟩ := okWide_struct ht hv
  obtain ⟨y, hk, hq⟩ := ho.arg h
  exact ⟨cs.toList, y, rfl, hk, hq⟩
theorem okWide_array {n : Nat} {e : TypeId} {r : Reach} {b0 : Nat} {v : Value} (ht : P.underlying t = some (.array n e)) (h : Value.okWide P w r b0 t v) : ∃ cs, v = .agg cs := by
  simp only [Value.okWide, ht] at h
  cases v <;> simp_all
theorem array_arg {α : Type} {d : Kd α} {Q : α → Prop} {n : Nat} {e : TypeId} (ht : P.underlying t = some (.array n e)) (ho : Opens P w t d Q) {r : Reach} {b0 : Nat} {H : Type} {enc : TypeId × Value → H} {base : Nat} {spare : Nat → Bool} {held : Bool} {v : Value} {x : DataW H} {ps : List MemPlace}
    (hv : Value.okWide P w r b0 t v) (h : DataW.Trod enc P w base spare held t v x ps) : ∃ (cs : List Value) (y : α), v = .agg cs.toArray ∧ d.K w y cs ∧ Q y := by
  obtain ⟨cs, rfl⟩ := okWide_array ht hv
  obtain ⟨y, hk, hq⟩ := ho.arg h
  exact ⟨cs.toList, y, rfl, hk, hq⟩
theorem bool_arg (ht : P.underlying t = some .bool) {r : Reach} {b0 : Nat} {H : Type} {enc : TypeId × Value → H} {base : Nat} {spare : Nat → Bool} {held : Bool} {v : Value} {x : DataW H} {ps : List MemPlace}
    (hv : Value.okWide P w r b0 t v) (_h : DataW.Trod enc P w base spare held t v x ps) : ∃ b, v = .bool b := okWide_bool ht hv
theorem int_arg {k : IntKind} (ht : P.underlying t = some (.int k)) {r : Reach} {b0 : Nat} {H : Type} {enc : TypeId × Value → H} {base : Nat} {spare : Nat → Bool} {held : Bool} {v : Value} {x : DataW H} {ps : List MemPlace}
    (_hv : Value.okWide P w r b0 t v) (h : DataW.Trod enc P w base spare held t v x ps) : ∃ n, v = .int k n ∧ (Lit.int k n).wf = true := by
  obtain ⟨n, rfl⟩ := okWide_int ht _hv
  obtain ⟨y, hk, hq⟩ := (opens_int ht).arg h
  have : y = n := by
    have h1 : [Value.int k n] = [Value.int k y] := hk
    injection h1 with h1
    injection h1 with _ h1
    exact h1.symm
  subst this
  exact ⟨_, rfl, hq⟩
theorem string_arg (ht : P.underlying t = some .string) {r : Reach} {b0 : Nat} {H : Type} {enc : TypeId × Value → H} {base : Nat} {spare : Nat → Bool} {held : Bool} {v : Value} {x : DataW H} {ps : List MemPlace}
    (_hv : Value.okWide P w r b0 t v) (h : DataW.Trod enc P w base spare held t v x ps) : ∃ s, v = .string s ∧ s.size ≤ maxLen := by
  obtain ⟨n, rfl⟩ := okWide_string ht _hv
  obtain ⟨y, hk, hq⟩ := (opens_string ht).arg h
  have : y = n := by
    have h1 : [Value.string n] = [Value.string y] := hk
    injection h1 with h1
    injection h1 with h1
    exact h1.symm
  subst this
  exact ⟨_, rfl, hq⟩
end
end Go.Proofs.Ytmacdknicgfglaa.Open
end
section
/- Arguments opened with their sizes: each string that is met is no longer than the statement's reach. -/
namespace Go.Proofs.Ytmacdknicgfglaa.Open
open Go.RowKit Go.Proofs.YtmacdknicgfglaaW.PrintWords Go.ChangeShapes Go.WideShapes Go.Deep
set_option linter.unusedVariables false
def OpensZ {α : Type} (P : Program) (w : World) (t : TypeId) (d : Kd α) (Q : α → Prop) : Prop :=
  ∀ (H : Type) (enc : TypeId × Value → H) (base : Nat) (spare : Nat → Bool) (held : Bool) (fuel : Nat) (cs : List Value) (x : DataW H × List MemPlace),
    DataW.trod enc P w base spare held fuel t cs = some x → (∀ n ∈ x.1.weights P t, n ≤ reachBytes) → ∃ y, d.K w y cs ∧ Q y
section
variable {P : Program} {w : World} {t : TypeId}
theorem Opens.z {α : Type} {d : Kd α} {Q : α → Prop} (h : Opens P w t d Q) : OpensZ P w t d Q := fun H enc base spare held fuel cs x hx _ => h H enc base spare held fuel cs x hx
theorem opensZ_string (ht : P.underlying t = some .string) : OpensZ P w t Kd.string (fun s => s.size ≤ reachBytes) := by
  intro H enc base spare held fuel cs x h hz
  obtain ⟨b, rfl, rfl, hw⟩ := DataW.trod_string ht h
  refine ⟨b, rfl, ?_⟩
  have h1 := hz b.data.toList.length (by simp [DataW.weights])
  exact h1
theorem OpensZ.iso_ {α β : Type} {d : Kd α} {Q : α → Prop} (h : OpensZ P w t d Q) (f : β → α) (g : α → β) (hfg : ∀ y, f (g y) = y) : OpensZ P w t (Kd.iso d f) (fun y => Q (f y)) := by
  intro H enc base spare held fuel cs x hx hz
  obtain ⟨y, hy, hQ⟩ := h H enc base spare held fuel cs x hx hz
  refine ⟨g y, ?_, by show Q (f (g y)); rw [hfg]; exact hQ⟩
  show d.K w (f (g y)) cs
  rw [hfg]
  exact hy
theorem weightsAll_mem {H : Type} {e : TypeId} : ∀ {l : List (DataW H)} {d : DataW H}, d ∈ l → ∀ n ∈ d.weights P e, n ∈ DataW.weightsAll P e l
  | x :: l, d, hd, n, hn => by
    simp only [DataW.weightsAll, List.mem_append]
    rcases List.mem_cons.1 hd with rfl | hd
    · exact .inl hn
    · exact .inr (weightsAll_mem hd n hn)
theorem opensZ_slice {α : Type} {e : TypeId} {d : Kd α} {Q : α → Prop} (ht : P.underlying t = some (.slice e)) (hC : P.cellsOf e = d.sz) (he : OpensZ P w e d Q) : OpensZ P w t (Kd.slice e d) (SlQ Q) := by
  intro H enc base spare held fuel cs x h hz
  rcases open_slice ht h with ⟨rfl, _⟩ | ⟨a, len, cap, m, n, D, Pl, rfl, _, hl, hm, hmm, rfl, hi⟩
  · exact ⟨[], ⟨none, 0, rfl, by simp, rfl, by simp, fun h => absurd h (by simp)⟩, by simp, fun x hx => by simp at hx⟩
  · have hlm : len ≤ m := by rw [hmm]; split <;> omega
    have hzD : ∀ i, i < len → ∀ n ∈ (D i).weights P e, n ≤ reachBytes := by
      intro i hi n hn
      refine hz n ?_
      simp only [DataW.weights, ht, List.mem_cons, List.mem_append]
      exact .inr (.inl (weightsAll_mem (List.mem_map.2 ⟨i, List.mem_range.2 hi, rfl⟩) n hn))
    obtain ⟨l, hll, hp⟩ := exists_list (n := len) (p := fun i y => Q y ∧ ∃ c, c.length = d.sz ∧ d.K w y c ∧ ∀ j u, c[j]? = some u → w.cell? (a.add (i * d.sz + j)) = some u) (fun i hlt => by
      obtain ⟨cs', hc, hd⟩ := hi i (by omega)
      obtain ⟨y, hy, hQ⟩ := he H enc base spare held n cs' _ hd (hzD i hlt)
      rw [hC] at hc
      obtain ⟨_, hlen, hat⟩ := World.cells?_some hc
      refine ⟨y, hQ, cs', hlen, hy, fun j u hu => ?_⟩
      have hj : j < d.sz := by rw [← hlen]; exact (List.getElem?_eq_some_iff.1 hu).1
      have h2 := hat j hj
      rw [hu] at h2
      rw [← Go.Deep.add_add]
      exact h2)
    subst hll
    refine ⟨l, ⟨some a, cap, rfl, hl, rfl, by unfold maxLen at hm; omega, fun _ => ⟨a, rfl, fun j p hj => ?_⟩⟩, by omega, fun x hx => ?_⟩
    · obtain ⟨_, c, h1, h2, h3⟩ := hp j p hj
      exact ⟨c, h1, h2, h3⟩
    · obtain ⟨i, hi⟩ := List.getElem?_of_mem hx
      exact (hp i x hi).1
variable {α β γ δ : Type} {d0 : Kd α} {d1 : Kd β} {d2 : Kd γ} {d3 : Kd δ} {Q0 : α → Prop} {Q1 : β → Prop} {Q2 : γ → Prop} {Q3 : δ → Prop} {f0 f1 f2 f3 : Field}
theorem opensZ_struct4 (ht : P.underlying t = some (.struct #[f0, f1, f2, f3])) (o0 : f0.offset = 0) (o1 : f1.offset = d0.sz) (o2 : f2.offset = d0.sz + d1.sz) (o3 : f3.offset = d0.sz + d1.sz + d2.sz)
    (s0 : P.cellsOf f0.type = d0.sz) (s1 : P.cellsOf f1.type = d1.sz) (s2 : P.cellsOf f2.type = d2.sz) (s3 : P.cellsOf f3.type = d3.sz)
    (hC : P.cellsOf t = d0.sz + (d1.sz + (d2.sz + d3.sz))) (h0 : OpensZ P w f0.type d0 Q0) (h1 : OpensZ P w f1.type d1 Q1) (h2 : OpensZ P w f2.type d2 Q2) (h3 : OpensZ P w f3.type d3 Q3) :
    OpensZ P w t (Kd.pair d0 (Kd.pair d1 (Kd.pair d2 d3))) (fun y => Q0 y.1 ∧ Q1 y.2.1 ∧ Q2 y.2.2.1 ∧ Q3 y.2.2.2) := by
  intro H enc base spare held fuel cs x h hz
  obtain ⟨xs, n, _, rfl, hl, hxs, hf⟩ := DataW.trod_struct ht h
  match xs, hxs with
  | [y0, y1, y2, y3], _ =>
    have e0 := hf 0 f0 rfl
    have e1 := hf 1 f1 rfl
    have e2 := hf 2 f2 rfl
    have e3 := hf 3 f3 rfl
    rw [o0, s0] at e0
    rw [o1, s1] at e1
    rw [o2, s2] at e2
    rw [o3, s3] at e3
    have hz' : ∀ n, n ∈ y0.1.weights P f0.type ∨ n ∈ y1.1.weights P f1.type ∨ n ∈ y2.1.weights P f2.type ∨ n ∈ y3.1.weights P f3.type → n ≤ reachBytes := by
      intro n hn
      refine hz n ?_
      simp only [List.map_cons, List.map_nil, DataW.weights, ht, DataW.weightsEach, List.mem_append, List.append_nil]
      exact hn
    obtain ⟨z0, k0, q0⟩ := h0 H enc base spare held n _ _ e0 (fun n hn => hz' n (.inl hn))
    obtain ⟨z1, k1, q1⟩ := h1 H enc base spare held n _ _ e1 (fun n hn => hz' n (.inr (.inl hn)))
    obtain ⟨z2, k2, q2⟩ := h2 H enc base spare held n _ _ e2 (fun n hn => hz' n (.inr (.inr (.inl hn))))
    obtain ⟨z3, k3, q3⟩ := h3 H enc base spare held n _ _ e3 (fun n hn => hz' n (.inr (.inr (.inr hn))))
    refine ⟨(z0, z1, z2, z3), ⟨_, _, ?_, k0, _, _, rfl, k1, _, _, rfl, k2, k3⟩, q0, q1, q2, q3⟩
    rw [List.drop_zero, List.take_of_length_le (l := cs.drop (d0.sz + d1.sz + d2.sz)) (by rw [List.length_drop]; omega)]
    exact split4 _ _ _ _
/-- An array of two. -/
theorem opensZ_arr2 {e : TypeId} (ht : P.underlying t = some (.array 2 e)) (hs : P.cellsOf e = d0.sz) (hC : P.cellsOf t = d0.sz + d0.sz) (he : OpensZ P w e d0 Q0) : OpensZ P w t (Kd.pair d0 d0) (fun y => Q0 y.1 ∧ Q0 y.2) := by
  intro H enc base spare held fuel cs x h hz
  obtain ⟨xs, n, _, rfl, hl, hxs, hf⟩ := DataW.trod_array ht h
  match xs, hxs with
  | [y0, y1], _ =>
    have e0 := hf 0 (by omega)
    have e1 := hf 1 (by omega)
    rw [hs, Nat.zero_mul, List.drop_zero] at e0
    rw [hs, Nat.one_mul, List.take_of_length_le (by rw [List.length_drop]; omega)] at e1
    have hz' : ∀ n, n ∈ y0.1.weights P e ∨ n ∈ y1.1.weights P e → n ≤ reachBytes := by
      intro n hn
      refine hz n ?_
      simp only [List.map_cons, List.map_nil, DataW.weights, ht, DataW.weightsAll, List.mem_append, List.append_nil]
      exact hn
    obtain ⟨z0, k0, q0⟩ := he H enc base spare held n _ _ e0 (fun n hn => hz' n (.inl hn))
    obtain ⟨z1, k1, q1⟩ := he H enc base spare held n _ _ e1 (fun n hn => hz' n (.inr hn))
    exact ⟨(z0, z1), ⟨_, _, (List.take_append_drop _ cs).symm, k0, k1⟩, q0, q1⟩
theorem OpensZ.arg {α : Type} {d : Kd α} {Q : α → Prop} (ho : OpensZ P w t d Q) {H : Type} {enc : TypeId × Value → H} {base : Nat} {spare : Nat → Bool} {held : Bool} {v : Value} {x : DataW H} {ps : List MemPlace} (h : DataW.Trod enc P w base spare held t v x ps) (hz : ∀ n ∈ x.weights P t, n ≤ reachBytes) : ∃ y, d.K w y v.cells.toList ∧ Q y := by
  obtain ⟨fuel, hf⟩ := h
  exact ho H enc base spare held fuel _ _ hf hz
theorem struct_argZ {α : Type} {d : Kd α} {Q : α → Prop} {fs : Array Field} (ht : P.underlying t = some (.struct fs)) (ho : OpensZ P w t d Q) {r : Reach} {b0 : Nat} {H : Type} {enc : TypeId × Value → H} {base : Nat} {spare : Nat → Bool} {held : Bool} {v : Value} {x : DataW H} {ps : List MemPlace}
    (hv : Value.okWide P w r b0 t v) (h : DataW.Trod enc P w base spare held t v x ps) (hz : ∀ n ∈ x.weights P t, n ≤ reachBytes) : ∃ (cs : List Value) (y : α), v = .agg cs.toArray ∧ d.K w y cs ∧ Q y := by
  obtain ⟨cs, rfl, _⟩ := okWide_struct ht hv
  obtain ⟨y, hk, hq⟩ := ho.arg h hz
  exact ⟨cs.toList, y, rfl, hk, hq⟩
theorem array_argZ {α : Type} {d : Kd α} {Q : α → Prop} {n : Nat} {e : TypeId} (ht : P.underlying t = some (.array n e)) (ho : OpensZ P w t d Q) {r : Reach} {b0 : Nat} {H : Type} {enc : TypeId × Value → H} {base : Nat} {spare : Nat → Bool} {held : Bool} {v : Value} {x : DataW H} {ps : List MemPlace}
    (hv : Value.okWide P w r b0 t v) (h : DataW.Trod enc P w base spare held t v x ps) (hz : ∀ n ∈ x.weights P t, n ≤ reachBytes) : ∃ (cs : List Value) (y : α), v = .agg cs.toArray ∧ d.K w y cs ∧ Q y := by
  obtain ⟨cs, rfl⟩ := okWide_array ht hv
  obtain ⟨y, hk, hq⟩ := ho.arg h hz
  exact ⟨cs.toList, y, rfl, hk, hq⟩
theorem sized_at {H : Type} {ts : List TypeId} {ds : List (DataW H)} (h : (DataW.weightsEach P ts ds).all (· ≤ reachBytes) = true) {j : Nat} {d : DataW H} (ht : ts[j]? = some t) (hd : ds[j]? = some d) : ∀ n ∈ d.weights P t, n ≤ reachBytes := by
  intro n hn
  have := List.all_eq_true.1 h n (DataW.weights_mem_each ht hd n hn)
  simpa using this
end
end Go.Proofs.Ytmacdknicgfglaa.Open
end
section
/- A rung as an argument. -/
namespace Go.Proofs.Ytmacdknicgfglaa.Gw
open Go.RowKit Go.Proofs.YtmacdknicgfglaaW.PrintWords Go.Proofs.YtmacdknicgfglaaW.PrintMore Go.Proofs.Ytmacdknicgfglaa.Evt Go.Proofs.Ytmacdknicgfglaa.Impl Go.Proofs.Ytmacdknicgfglaa.Gp Go.Proofs.Ytmacdknicgfglaa.Open
set_option linter.unusedVariables false
abbrev KRung : Kd (ByteArray × List S41 × List S101 × ByteArray) := Kd.pair Kd.string (Kd.pair (Kd.slice 41 k41) (Kd.pair (Kd.slice 101 k101) Kd.string))
/-- The strings of a rung's contacts are no longer than the statement's reach. -/
def SzR (l : List S41) : Prop := ∀ c ∈ l, c.f2.size ≤ reachBytes ∧ c.f3.size ≤ reachBytes
theorem opens_i (w : World) : OpensZ Try.prog w 3 (Kd.int .i64) (fun _ => True) := ((opens_int Try.underlying3).imp_ (fun _ _ => trivial)).z
theorem opens_A (w : World) : OpensZ Try.prog w 39 k39 (fun _ => True) :=
  (((opens_struct2 Try.underlying39 rfl rfl (by kernel_rfl) (by kernel_rfl) (by kernel_rfl) (opens_int Try.underlying3) (opens_int Try.underlying3)).iso_ (fun x : S39 => (x.f0, x.f1)) (fun y => ⟨y.1, y.2⟩) (fun _ => rfl)).imp_ (fun _ _ => trivial)).z
theorem opens_C (w : World) : OpensZ Try.prog w 41 k41 (fun y => True ∧ True ∧ y.f2.size ≤ reachBytes ∧ y.f3.size ≤ reachBytes) :=
  (opensZ_struct4 Try.underlying41 rfl rfl rfl rfl (by kernel_rfl) (by kernel_rfl) (by kernel_rfl) (by kernel_rfl) (by kernel_rfl) (opens_i w) (opens_A w) (opensZ_string Try.underlying9) (opensZ_string Try.underlying9)).iso_ (fun x : S41 => (x.f0, x.f1, x.f2, x.f3)) (fun y => ⟨y.1, y.2.1, y.2.2.1, y.2.2.2⟩) (fun _ => rfl)
theorem opens_O (w : World) : OpensZ Try.prog w 101 k101 (fun _ => True) :=
  (((opens_struct2 Try.underlying101 rfl rfl (by kernel_rfl) (by kernel_rfl) (by kernel_rfl) (opens_int Try.underlying3) ((opens_struct2 Try.underlying39 rfl rfl (by kernel_rfl) (by kernel_rfl) (by kernel_rfl) (opens_int Try.underlying3) (opens_int Try.underlying3)).iso_ (fun x : S39 => (x.f0, x.f1)) (fun y => ⟨y.1, y.2⟩) (fun _ => rfl))).iso_ (fun x : S101 => (x.f0, x.f1)) (fun y => ⟨y.1, y.2⟩) (fun _ => rfl)).imp_ (fun _ _ => trivial)).z
abbrev QRung (y : ByteArray × List S41 × List S101 × ByteArray) : Prop := y.1.size ≤ reachBytes ∧ SlQ (fun c : S41 => True ∧ True ∧ c.f2.size ≤ reachBytes ∧ c.f3.size ≤ reachBytes) y.2.1 ∧ SlQ (fun _ => True) y.2.2.1 ∧ y.2.2.2.size ≤ reachBytes
theorem opens_Rung (w : World) : OpensZ Try.prog w 25 KRung QRung :=
  opensZ_struct4 Try.underlying25 rfl rfl rfl rfl (by kernel_rfl) (by kernel_rfl) (by kernel_rfl) (by kernel_rfl) (by kernel_rfl) (opensZ_string Try.underlying9)
    (opensZ_slice Try.underlying22 (by kernel_rfl) (opens_C w)) (opensZ_slice Try.underlying23 (by kernel_rfl) (opens_O w)) (opensZ_string Try.underlying9)
/-- A rung's cells, its rows at hand. -/
theorem rung_form {w : World} {y : ByteArray × List S41 × List S101 × ByteArray} {cs : List Value} (h : KRung.K w y cs) (hq : QRung y) : ∃ A1 c1 A2 c2, cs = [.string y.1, .slice A1 y.2.1.length c1, .slice A2 y.2.2.1.length c2, .string y.2.2.2] ∧ Rg w A1 c1 y.2.1 A2 c2 y.2.2.1 ∧ SzR y.2.1 := by
  obtain ⟨u0, u1, rfl, h0, v1, v2, rfl, ⟨A1, c1, rfl, l1, r1⟩, z1, z2, rfl, ⟨A2, c2, rfl, l2, r2⟩, h3⟩ := h
  obtain rfl : u0 = [.string y.1] := h0
  obtain rfl : z2 = [.string y.2.2.2] := h3
  exact ⟨A1, c1, A2, c2, rfl, ⟨r1, l1, r2, l2⟩, fun c hc => (hq.2.1.2 c hc).2.2⟩
end Go.Proofs.Ytmacdknicgfglaa.Gw
end
section
/- TooLarge, in plain words. -/
namespace Go.Proofs.Ytmacdknicgfglaa.Pe
open Go.RowKit Go.Proofs.YtmacdknicgfglaaW.PrintWords Go.Proofs.YtmacdknicgfglaaW.PrintMore Go.Proofs.Ytmacdknicgfglaa.Impl Go.Proofs.Ytmacdknicgfglaa.Gp Go.Proofs.Ytmacdknicgfglaa.Gw Go.Proofs.Ytmacdknicgfglaa.Evt
set_option linter.unusedVariables false
set_option linter.unusedSimpArgs false
/-- A rung's size. -/
def sumG (l : List Ed) : Nat := (l.map fun c => 1 + c.1.size + c.2.size).sum
def tl (l : List Ed) : Int := if 60 < l.length ∨ 2000 < sumG l then 1 else 0
theorem sumG_take {l : List Ed} {j : Nat} (h : j < l.length) : sumG (l.take (j + 1)) = sumG (l.take j) + (1 + l[j].1.size + l[j].2.size) := by
  unfold sumG
  rw [List.take_succ_eq_append_getElem h, List.map_append, List.sum_append]
  simp
theorem sumG_le {l : List Ed} (h : ∀ c ∈ l, c.1.size ≤ reachBytes ∧ c.2.size ≤ reachBytes) : sumG l ≤ l.length * (1 + 2 * reachBytes) := by
  unfold sumG
  induction l with
  | nil => simp
  | cons c l ih =>
    have h1 := h c List.mem_cons_self
    have h2 := ih (fun d hd => h d (List.mem_cons_of_mem _ hd))
    simp only [List.map_cons, List.sum_cons, List.length_cons]
    rw [Nat.add_mul]
    omega
theorem sumG_mem {l : List Ed} {c : Ed} (h : c ∈ l) : c.1.size + c.2.size ≤ sumG l := by
  unfold sumG
  induction l with
  | nil => cases h
  | cons d l ih =>
    simp only [List.map_cons, List.sum_cons]
    rcases List.mem_cons.1 h with rfl | h
    · omega
    · have := ih h; omega
theorem tl_ok {l : List Ed} (h : tl l ≤ 0) : okG l = true ∧ l.length ≤ 60 := by
  unfold tl at h
  by_cases hb : 60 < l.length ∨ 2000 < sumG l
  · rw [if_pos hb] at h; omega
  · rw [not_or] at hb
    refine ⟨?_, by omega⟩
    unfold okG
    rw [Bool.and_eq_true]
    refine ⟨decide_eq_true (by omega), List.all_eq_true.2 fun c hc => ?_⟩
    have := sumG_mem hc
    rw [Bool.and_eq_true]
    exact ⟨decide_eq_true (by omega), decide_eq_true (by omega)⟩
theorem tl_big (a0 a3 : ByteArray) (l1 : List S41) (l2 : List S101) (hn : l1.length ≤ 9223372036854775807) (hb : 60 < l1.length) : ∀ (d j : Nat) (x : Int), l1.length = j + d →
    Ev (fun k => busbarlaw12_TooLarge.l0 k x l1 (l1.length : Int) (j : Int) a0 l1 l2 a3) 1
  | 0, j, x, h => by
    refine Ev.step (f := fun _ => some 1) (fun k => ?_) (Ev.now _)
    simp only [busbarlaw12_TooLarge.l0]
    rw [if_neg (by omega)]
    by_cases hx : x > 2000
    · rw [if_pos hx]
    · rw [if_neg hx, if_pos (by omega)]
  | d + 1, j, x, h => by
    have hj : j < l1.length := by omega
    refine Ev.step (f := fun k => busbarlaw12_TooLarge.l0 k (wrap64 (x + (wrap64 ((wrap64 (1 + (((rd_T41 l1 j).f2).size : Int))) + (((rd_T41 l1 j).f3).size : Int))))) l1 (l1.length : Int) ((j + 1 : Nat) : Int) a0 l1 l2 a3) (fun k => ?_) (tl_big a0 a3 l1 l2 hn hb d (j + 1) _ (by omega))
    simp only [busbarlaw12_TooLarge.l0]
    rw [if_pos (by omega), if_pos (by omega), if_pos (by omega), w64 hj hn]
theorem tl_arith0 {S a b R : Nat} (hR : R ≤ 140737488355328) (hS : S ≤ 60 * (1 + 2 * R)) (ha : a ≤ R) (hb : b ≤ R) : wrap64 ((S : Int) + wrap64 (wrap64 (1 + (a : Int)) + (b : Int))) = ((S + (1 + a + b) : Nat) : Int) := by
  have e1 : wrap64 (1 + (a : Int)) = 1 + (a : Int) := by unfold wrap64; omega
  have e2 : wrap64 (1 + (a : Int) + (b : Int)) = 1 + (a : Int) + (b : Int) := by unfold wrap64; omega
  rw [e1, e2]
  unfold wrap64
  omega
theorem tl_arith {S a b : Nat} (hS : S ≤ 60 * (1 + 2 * reachBytes)) (ha : a ≤ reachBytes) (hb : b ≤ reachBytes) : wrap64 ((S : Int) + wrap64 (wrap64 (1 + (a : Int)) + (b : Int))) = ((S + (1 + a + b) : Nat) : Int) := tl_arith0 (R := reachBytes) (Nat.le_of_lt reachBytes_lt) hS ha hb
theorem sumG_bound {l1 : List S41} (hz : SzR l1) (hb : l1.length ≤ 60) (j : Nat) : sumG ((es l1).take j) ≤ 60 * (1 + 2 * reachBytes) := by
  refine Nat.le_trans (sumG_le (l := (es l1).take j) (fun c hc => by
      have hc2 := List.mem_of_mem_take hc
      unfold es at hc2
      obtain ⟨s, hs, rfl⟩ := List.mem_map.1 hc2
      exact hz s hs)) (Nat.mul_le_mul_right _ ?_)
  rw [List.length_take, es_len]
  exact Nat.le_trans (Nat.min_le_right _ _) hb
theorem tl_small (a0 a3 : ByteArray) (l1 : List S41) (l2 : List S101) (hz : SzR l1) (hb : l1.length ≤ 60) : ∀ (d j : Nat), l1.length = j + d →
    Ev (fun k => busbarlaw12_TooLarge.l0 k (sumG ((es l1).take j) : Int) l1 (l1.length : Int) (j : Int) a0 l1 l2 a3) (tl (es l1))
  | 0, j, h => by
    refine Ev.step (f := fun _ => some (tl (es l1))) (fun k => ?_) (Ev.now _)
    simp only [busbarlaw12_TooLarge.l0]
    rw [if_neg (by omega), List.take_of_length_le (by rw [es_len]; omega)]
    unfold tl
    rw [es_len]
    by_cases hx : 2000 < sumG (es l1)
    · rw [if_pos (show ((sumG (es l1) : Nat) : Int) > 2000 by omega), if_pos (.inr hx)]
    · rw [if_neg (show ¬ ((sumG (es l1) : Nat) : Int) > 2000 by omega), if_neg (show ¬ ((l1.length : Nat) : Int) > 60 by omega), if_neg (show ¬ (60 < l1.length ∨ 2000 < sumG (es l1)) by omega)]
  | d + 1, j, h => by
    have hj : j < l1.length := by omega
    have ih := tl_small a0 a3 l1 l2 hz hb d (j + 1) (by omega)
    rw [sumG_take (by rw [es_len]; exact hj), es_get hj] at ih
    refine Ev.step (fun k => ?_) ih
    simp only [busbarlaw12_TooLarge.l0]
    rw [if_pos (by omega), if_pos (by omega), if_pos (by omega), w64 hj (by omega), rd41_lt _ _ hj, tl_arith (sumG_bound hz hb j) (hz l1[j] (List.getElem_mem hj)).1 (hz l1[j] (List.getElem_mem hj)).2]
theorem tl_ev (a0 a3 : ByteArray) (l1 : List S41) (l2 : List S101) (hz : SzR l1) (hn : l1.length ≤ 9223372036854775807) : Ev (fun k => busbarlaw12_TooLarge.f k a0 l1 l2 a3) (tl (es l1)) := by
  by_cases hb : 60 < l1.length
  · have := tl_big a0 a3 l1 l2 hn hb l1.length 0 0 (by omega)
    rw [show tl (es l1) = 1 by unfold tl; rw [if_pos (.inl (by rw [es_len]; exact hb))]]
    exact this
  · exact tl_small a0 a3 l1 l2 hz (by omega) l1.length 0 (by omega)
section
variable {A1 A2 : Option Addr} {c1 c2 : Nat} {l1 : List S41} {l2 : List S101} {a0 a3 s : ByteArray}
theorem tl_any (w : World) (h : Rg w A1 c1 l1 A2 c2 l2) (hz : SzR l1) {r : Int} (hr : tl (es l1) = r) : Calls Try.prog 15 #[.agg #[.string a0, .slice A1 l1.length c1, .slice A2 l2.length c2, .string a3]] w fun e w' => e = .returned (.int .i64 r) ∧ Below w.heap.size w w' := by
  subst hr
  obtain ⟨k, hk⟩ := (tl_ev a0 a3 l1 l2 hz (Kd.C_max h.r1)).rounds
  exact busbarlaw12_TooLarge.calls k a0 A1 c1 l1 A2 c2 l2 a3 _ w h.r1 h.h1 h.r2 h.h2 hk
/-- What a printed contract says of a row, as a row of one's own. -/
theorem refnodes_any (w : World) (h : Rg w A1 c1 l1 A2 c2 l2) (hn : l1.length ≤ 1000) : Calls Try.prog 19 #[.agg #[.string a0, .slice A1 l1.length c1, .slice A2 l2.length c2, .string a3]] w fun e w' => ∃ v, e = .returned v ∧ Ro Kd.string 9 w w' v (nodesL (es l1)) ∧ Below w.heap.size w w' := by
  obtain ⟨k, hk⟩ := (nodes_ev a0 a3 l1 l2 hn).rounds
  exact (busbarref12_Nodes.calls k a0 A1 c1 l1 A2 c2 l2 a3 _ w h.r1 h.h1 h.r2 h.h2 hk).mono (by rintro e w' ⟨v, rfl, ho, hb⟩; exact ⟨v, rfl, ⟨ho⟩, hb⟩)
theorem refout_any (w : World) (h : Rg w A1 c1 l1 A2 c2 l2) (hn : l1.length ≤ 1000) : Calls Try.prog 22 #[.agg #[.string a0, .slice A1 l1.length c1, .slice A2 l2.length c2, .string a3], .string s] w fun e w' => ∃ v, e = .returned v ∧ Ro (Kd.int .i64) 3 w w' v (outL (es l1) s) ∧ Below w.heap.size w w' := by
  obtain ⟨k, hk⟩ := (out_ev a0 a3 s l1 l2 hn).rounds
  exact (busbarref12_Outgoing.calls k a0 A1 c1 l1 A2 c2 l2 a3 s _ w h.r1 h.h1 h.r2 h.h2 hk).mono (by rintro e w' ⟨v, rfl, ho, hb⟩; exact ⟨v, rfl, ⟨ho⟩, hb⟩)
theorem refin_any (w : World) (h : Rg w A1 c1 l1 A2 c2 l2) (hn : l1.length ≤ 1000) : Calls Try.prog 24 #[.agg #[.string a0, .slice A1 l1.length c1, .slice A2 l2.length c2, .string a3], .string s] w fun e w' => ∃ v, e = .returned v ∧ Ro (Kd.int .i64) 3 w w' v (inL (es l1) s) ∧ Below w.heap.size w w' := by
  obtain ⟨k, hk⟩ := (in_ev a0 a3 s l1 l2 hn).rounds
  exact (busbarref12_Incoming.calls k a0 A1 c1 l1 A2 c2 l2 a3 s _ w h.r1 h.h1 h.r2 h.h2 hk).mono (by rintro e w' ⟨v, rfl, ho, hb⟩; exact ⟨v, rfl, ⟨ho⟩, hb⟩)
end
end Go.Proofs.Ytmacdknicgfglaa.Pe
end
