/- Printed by a program of this session (a copy of the kit's print.py, one text for all functions of the seat), with some contracts typed by hand among them: for each Go function a Lean function and a proof that the code comes to its answers. -/
import Derived.Test.YtmacdknicgfglaaIm0
import Derived.Test.YtmacdknicgfglaaIm1
namespace Go.Proofs.Ytmacdknicgfglaa.Impl
open Go.RowKit Go.Proofs.YtmacdknicgfglaaW.PrintWords Go.Proofs.YtmacdknicgfglaaW.PrintLast Go.Proofs.YtmacdknicgfglaaW.PrintMore
attribute [local go_sem] max2_int min2_int max_two min_two
set_option linter.unusedVariables false
set_option linter.unusedSimpArgs false

/-! ### busbarref13_CountPaths: function 38 -/
mutual
def busbarref13_CountPaths.l0 : Nat → List ByteArray → List Int → Int → ByteArray → List (S41) → List (S101) → ByteArray → Option (Int × Int)
  | 0, _, _, _, _, _, _, _ => none
  | k + 1, x4, x6, x7, x253000, x253001, x253002, x253003 => if x7 < (x4.length : Int) then (if 0 ≤ x7 then (if (rdOf ByteArray.empty x4 x7).toList = ([76] : List UInt8) then (if x7 < (x6.length : Int) then (busbarref13_CountPaths.j1 k x4 (x6.set (x7 : Int).toNat 1) x7 x253000 x253001 x253002 x253003) else (none)) else (busbarref13_CountPaths.j1 k x4 x6 x7 x253000 x253001 x253002 x253003)) else (none)) else (some (0, 0))
def busbarref13_CountPaths.j1 : Nat → List ByteArray → List Int → Int → ByteArray → List (S41) → List (S101) → ByteArray → Option (Int × Int)
  | 0, _, _, _, _, _, _, _ => none
  | k + 1, x4, x6, x7, x253000, x253001, x253002, x253003 => busbarref13_CountPaths.l1 k x4 x6 x7 0 x253000 x253001 x253002 x253003
def busbarref13_CountPaths.l1 : Nat → List ByteArray → List Int → Int → Int → ByteArray → List (S41) → List (S101) → ByteArray → Option (Int × Int)
  | 0, _, _, _, _, _, _, _, _ => none
  | k + 1, x4, x6, x7, x8, x253000, x253001, x253002, x253003 => if x8 < (x253001.length : Int) then (if 0 ≤ x8 then (if 0 ≤ x7 then (if x7 < (x4.length : Int) then (if ((rd_T41 x253001 x8).f3).toList = (rdOf ByteArray.empty x4 x7).toList then (busbarref13_CountPaths.l2 k x4 x6 x7 x8 0 x253000 x253001 x253002 x253003) else (busbarref13_CountPaths.l1 k x4 x6 x7 (wrap64 (x8 + 1)) x253000 x253001 x253002 x253003)) else (none)) else (none)) else (none)) else (if 0 ≤ x7 then (if x7 < (x6.length : Int) then (if (rd x6 x7) > 1073741824 then ((some (x6.set (x7 : Int).toNat 1073741824 : List Int)).bind fun y270 => (if x7 < (x4.length : Int) then (if (rdOf ByteArray.empty x4 x7).toList = ([82] : List UInt8) then (some (rd y270 x7, 0)) else (busbarref13_CountPaths.l0 k x4 y270 (wrap64 (x7 + 1)) x253000 x253001 x253002 x253003)) else (none))) else (if x7 < (x4.length : Int) then (if (rdOf ByteArray.empty x4 x7).toList = ([82] : List UInt8) then (some (rd x6 x7, 0)) else (busbarref13_CountPaths.l0 k x4 x6 (wrap64 (x7 + 1)) x253000 x253001 x253002 x253003)) else (none))) else (none)) else (none))
def busbarref13_CountPaths.l2 : Nat → List ByteArray → List Int → Int → Int → Int → ByteArray → List (S41) → List (S101) → ByteArray → Option (Int × Int)
  | 0, _, _, _, _, _, _, _, _, _ => none
  | k + 1, x4, x6, x7, x8, x9, x253000, x253001, x253002, x253003 => if x9 < x7 then (if 0 ≤ x9 then (if x9 < (x4.length : Int) then (if 0 ≤ x8 then (if x8 < (x253001.length : Int) then (if (rdOf ByteArray.empty x4 x9).toList = ((rd_T41 x253001 x8).f2).toList then (if 0 ≤ x7 then (if x7 < (x6.length : Int) then (if x9 < (x6.length : Int) then (busbarref13_CountPaths.l2 k x4 (x6.set (x7 : Int).toNat (wrap64 ((rd x6 x7) + (rd x6 x9)))) x7 x8 (wrap64 (x9 + 1)) x253000 x253001 x253002 x253003) else (none)) else (none)) else (none)) else (busbarref13_CountPaths.l2 k x4 x6 x7 x8 (wrap64 (x9 + 1)) x253000 x253001 x253002 x253003)) else (none)) else (none)) else (none)) else (none)) else (busbarref13_CountPaths.l1 k x4 x6 x7 (wrap64 (x8 + 1)) x253000 x253001 x253002 x253003)
end
def busbarref13_CountPaths.f (k : Nat) (a0_0 : ByteArray) (l0_1 : List (S41)) (l0_2 : List (S101)) (a0_3 : ByteArray) : Option (Int × Int) := (busbarref12_TopoSort.f k a0_0 l0_1 l0_2 a0_3).bind fun bt253 => (if bt253.2 = 0 then (if 0 ≤ (bt253.1.length : Int) then (if ((bt253.1.length : Int) : Int).toNat ≤ 35184372088832 then (busbarref13_CountPaths.l0 k bt253.1 (List.replicate ((bt253.1.length : Int) : Int).toNat 0) 0 a0_0 l0_1 l0_2 a0_3) else (none)) else (none)) else (some (0, bt253.2)))
theorem busbarref13_CountPaths.mono_l : ∀ k, (∀ y0 y1 y2 y3 y4 y5 y6, LeO (busbarref13_CountPaths.l0 k y0 y1 y2 y3 y4 y5 y6) (busbarref13_CountPaths.l0 (k + 1) y0 y1 y2 y3 y4 y5 y6)) ∧ (∀ y0 y1 y2 y3 y4 y5 y6, LeO (busbarref13_CountPaths.j1 k y0 y1 y2 y3 y4 y5 y6) (busbarref13_CountPaths.j1 (k + 1) y0 y1 y2 y3 y4 y5 y6)) ∧ (∀ y0 y1 y2 y3 y4 y5 y6 y7, LeO (busbarref13_CountPaths.l1 k y0 y1 y2 y3 y4 y5 y6 y7) (busbarref13_CountPaths.l1 (k + 1) y0 y1 y2 y3 y4 y5 y6 y7)) ∧ (∀ y0 y1 y2 y3 y4 y5 y6 y7 y8, LeO (busbarref13_CountPaths.l2 k y0 y1 y2 y3 y4 y5 y6 y7 y8) (busbarref13_CountPaths.l2 (k + 1) y0 y1 y2 y3 y4 y5 y6 y7 y8))
  | 0 => ⟨fun _ _ _ _ _ _ _ r h => by simp [busbarref13_CountPaths.l0] at h, fun _ _ _ _ _ _ _ r h => by simp [busbarref13_CountPaths.j1] at h, fun _ _ _ _ _ _ _ _ r h => by simp [busbarref13_CountPaths.l1] at h, fun _ _ _ _ _ _ _ _ _ r h => by simp [busbarref13_CountPaths.l2] at h⟩
  | k + 1 => by
    obtain ⟨ih0, ih1, ih2, ih3⟩ := busbarref13_CountPaths.mono_l k
    refine ⟨?_, ?_, ?_, ?_⟩
    · intro y0 y1 y2 y3 y4 y5 y6
      unfold busbarref13_CountPaths.l0
      repeat' first
      | (with_reducible exact ih0 _ _ _ _ _ _ _)
      | (with_reducible exact ih1 _ _ _ _ _ _ _)
      | (with_reducible exact ih2 _ _ _ _ _ _ _ _)
      | (with_reducible exact ih3 _ _ _ _ _ _ _ _ _)
      | (with_reducible exact busbarref12_TopoSort.mono _ _ _ _ _)
      | (with_reducible exact LeO.refl _)
      | (with_reducible exact LeO.none _)
      | (with_reducible refine LeO.ite ?_ ?_)
      | (with_reducible refine LeO.bind ?_ (fun _ => ?_))
      | exact ih0 _ _ _ _ _ _ _
      | exact ih1 _ _ _ _ _ _ _
      | exact ih2 _ _ _ _ _ _ _ _
      | exact ih3 _ _ _ _ _ _ _ _ _
      | exact busbarref12_TopoSort.mono _ _ _ _ _
      | exact LeO.none _
      | refine LeO.ite ?_ ?_
      | refine LeO.bind ?_ (fun _ => ?_)
    · intro y0 y1 y2 y3 y4 y5 y6
      unfold busbarref13_CountPaths.j1
      repeat' first
      | (with_reducible exact ih0 _ _ _ _ _ _ _)
      | (with_reducible exact ih1 _ _ _ _ _ _ _)
      | (with_reducible exact ih2 _ _ _ _ _ _ _ _)
      | (with_reducible exact ih3 _ _ _ _ _ _ _ _ _)
      | (with_reducible exact busbarref12_TopoSort.mono _ _ _ _ _)
      | (with_reducible exact LeO.refl _)
      | (with_reducible exact LeO.none _)
      | (with_reducible refine LeO.ite ?_ ?_)
      | (with_reducible refine LeO.bind ?_ (fun _ => ?_))
      | exact ih0 _ _ _ _ _ _ _
      | exact ih1 _ _ _ _ _ _ _
      | exact ih2 _ _ _ _ _ _ _ _
      | exact ih3 _ _ _ _ _ _ _ _ _
      | exact busbarref12_TopoSort.mono _ _ _ _ _
      | exact LeO.none _
      | refine LeO.ite ?_ ?_
      | refine LeO.bind ?_ (fun _ => ?_)
    · intro y0 y1 y2 y3 y4 y5 y6 y7
      unfold busbarref13_CountPaths.l1
      repeat' first
      | (with_reducible exact ih0 _ _ _ _ _ _ _)
      | (with_reducible exact ih1 _ _ _ _ _ _ _)
      | (with_reducible exact ih2 _ _ _ _ _ _ _ _)
      | (with_reducible exact ih3 _ _ _ _ _ _ _ _ _)
      | (with_reducible exact busbarref12_TopoSort.mono _ _ _ _ _)
      | (with_reducible exact LeO.refl _)
      | (with_reducible exact LeO.none _)
      | (with_reducible refine LeO.ite ?_ ?_)
      | (with_reducible refine LeO.bind ?_ (fun _ => ?_))
      | exact ih0 _ _ _ _ _ _ _
      | exact ih1 _ _ _ _ _ _ _
      | exact ih2 _ _ _ _ _ _ _ _
      | exact ih3 _ _ _ _ _ _ _ _ _
      | exact busbarref12_TopoSort.mono _ _ _ _ _
      | exact LeO.none _
      | refine LeO.ite ?_ ?_
      | refine LeO.bind ?_ (fun _ => ?_)
    · intro y0 y1 y2 y3 y4 y5 y6 y7 y8
      unfold busbarref13_CountPaths.l2
      repeat' first
      | (with_reducible exact ih0 _ _ _ _ _ _ _)
      | (with_reducible exact ih1 _ _ _ _ _ _ _)
      | (with_reducible exact ih2 _ _ _ _ _ _ _ _)
      | (with_reducible exact ih3 _ _ _ _ _ _ _ _ _)
      | (with_reducible exact busbarref12_TopoSort.mono _ _ _ _ _)
      | (with_reducible exact LeO.refl _)
      | (with_reducible exact LeO.none _)
      | (with_reducible refine LeO.ite ?_ ?_)
      | (with_reducible refine LeO.bind ?_ (fun _ => ?_))
      | exact ih0 _ _ _ _ _ _ _
      | exact ih1 _ _ _ _ _ _ _
      | exact ih2 _ _ _ _ _ _ _ _
      | exact ih3 _ _ _ _ _ _ _ _ _
      | exact busbarref12_TopoSort.mono _ _ _ _ _
      | exact LeO.none _
      | refine LeO.ite ?_ ?_
      | refine LeO.bind ?_ (fun _ => ?_)
theorem busbarref13_CountPaths.mono : ∀ a0 a1 a2 a3 k, LeO (busbarref13_CountPaths.f k a0 a1 a2 a3) (busbarref13_CountPaths.f (k + 1) a0 a1 a2 a3) := by
  intro a0 a1 a2 a3 k
  obtain ⟨ih0, ih1, ih2, ih3⟩ := busbarref13_CountPaths.mono_l k
  unfold busbarref13_CountPaths.f
  repeat' first
      | (with_reducible exact ih0 _ _ _ _ _ _ _)
      | (with_reducible exact ih1 _ _ _ _ _ _ _)
      | (with_reducible exact ih2 _ _ _ _ _ _ _ _)
      | (with_reducible exact ih3 _ _ _ _ _ _ _ _ _)
      | (with_reducible exact busbarref12_TopoSort.mono _ _ _ _ _)
      | (with_reducible exact LeO.refl _)
      | (with_reducible exact LeO.none _)
      | (with_reducible refine LeO.ite ?_ ?_)
      | (with_reducible refine LeO.bind ?_ (fun _ => ?_))
      | exact ih0 _ _ _ _ _ _ _
      | exact ih1 _ _ _ _ _ _ _
      | exact ih2 _ _ _ _ _ _ _ _
      | exact ih3 _ _ _ _ _ _ _ _ _
      | exact busbarref12_TopoSort.mono _ _ _ _ _
      | exact LeO.none _
      | refine LeO.ite ?_ ?_
      | refine LeO.bind ?_ (fun _ => ?_)
def busbarref13_CountPaths.T13 : Bool × List (List Nat × List Nat) := (true, [([], []), ([0], [0]), ([], []), ([1, 2], [1, 2]), ([3], [3]), ([4], [4]), ([], []), ([], []), ([6, 7], [6, 7]), ([8], [8]), ([5, 9], [5, 9])])
def busbarref13_CountPaths.B13 : List Nat := [0, 1, 0, 7, 15, 31, 0, 0, 192, 448, 1023]
theorem busbarref13_CountPaths.tab13 : rtab .any (opsOf Try.f38 13) = busbarref13_CountPaths.T13 := by kernel_rfl
theorem busbarref13_CountPaths.bits13 : waitsOk busbarref13_CountPaths.T13.2 busbarref13_CountPaths.B13 = true := by kernel_rfl
def busbarref13_CountPaths.T17 : Bool × List (List Nat × List Nat) := (true, [([], []), ([], []), ([0, 1], [0, 1]), ([2], [2]), ([], []), ([4], [4]), ([], []), ([5, 6], [5, 6]), ([7], [7]), ([8], [8]), ([3, 9], [3, 9])])
def busbarref13_CountPaths.B17 : List Nat := [0, 0, 3, 7, 0, 16, 0, 112, 240, 496, 1023]
theorem busbarref13_CountPaths.tab17 : rtab .any (opsOf Try.f38 17) = busbarref13_CountPaths.T17 := by kernel_rfl
theorem busbarref13_CountPaths.bits17 : waitsOk busbarref13_CountPaths.T17.2 busbarref13_CountPaths.B17 = true := by kernel_rfl
def busbarref13_CountPaths.T18 : Bool × List (List Nat × List Nat) := (true, [([], []), ([], []), ([0, 1], [0, 1]), ([2], [2]), ([], []), ([], []), ([4, 5], [4, 5]), ([6], [6]), ([3, 7], [3, 7]), ([0, 1, 0, 1, 2, 3, 4, 5, 6, 7, 8], [0, 1]), ([9, 8, 0, 1, 2, 3, 4, 5, 6, 7, 8], [8, 9])])
def busbarref13_CountPaths.B18 : List Nat := [0, 0, 3, 7, 0, 0, 48, 112, 255, 511, 1023]
theorem busbarref13_CountPaths.tab18 : rtab .any (opsOf Try.f38 18) = busbarref13_CountPaths.T18 := by kernel_rfl
theorem busbarref13_CountPaths.bits18 : waitsOk busbarref13_CountPaths.T18.2 busbarref13_CountPaths.B18 = true := by kernel_rfl

end Go.Proofs.Ytmacdknicgfglaa.Impl
namespace Go.Proofs.Ytmacdknicgfglaa.Impl
open Go.RowKit Go.Proofs.YtmacdknicgfglaaW.PrintWords Go.Proofs.YtmacdknicgfglaaW.PrintLast Go.Proofs.YtmacdknicgfglaaW.PrintMore
attribute [local go_sem] max2_int min2_int max_two min_two
set_option linter.unusedVariables false
set_option linter.unusedSimpArgs false

/- The facts of a world, carried over draws. -/
theorem drewN_self (w : World) (n : Nat) : w.drewN n = w.drewN n := rfl
theorem below_at {B m : Nat} {u w w' : World} (hq : w.drewN m = w') (h : Below B u w) : Below B u w' := by subst hq; exact pw_below_drewN h m
theorem blk_at {g m : Nat} {o : Obj} {w w' : World} (hq : w.drewN m = w') (h : w.heap[g]? = some o) : w'.heap[g]? = some o := by subst hq; exact h
theorem Kd.R_at {α : Type} {d : Kd α} {e m base : Nat} {ok : Nat → Prop} {v : Value} {xs : List α} {w w' : World} (hq : w.drewN m = w') (h : Kd.R d e w base ok v xs) : Kd.R d e w' base ok v xs := by subst hq; exact Kd.R_drewN h m

/-! ### busbarref13_ShortestPath: function 40 -/
mutual
def busbarref13_ShortestPath.l0 : Nat → List ByteArray → List Int → Int → ByteArray → List (S41) → List (S101) → ByteArray → Option (List Int × Int)
  | 0, _, _, _, _, _, _, _ => none
  | k + 1, x4, x5, x6, x277000, x277001, x277002, x277003 => if x6 < (x4.length : Int) then (if 0 ≤ x6 then (if x6 < (x5.length : Int) then ((some (x5.set (x6 : Int).toNat (wrap64 ((x4.length : Int) + 1)) : List Int)).bind fun y283 => (if (rdOf ByteArray.empty x4 x6).toList = ([82] : List UInt8) then (busbarref13_ShortestPath.l0 k x4 (y283.set (x6 : Int).toNat 0) (wrap64 (x6 + 1)) x277000 x277001 x277002 x277003) else (busbarref13_ShortestPath.l0 k x4 y283 (wrap64 (x6 + 1)) x277000 x277001 x277002 x277003))) else (none)) else (none)) else (busbarref13_ShortestPath.l1 k x4 x5 0 x277000 x277001 x277002 x277003)
def busbarref13_ShortestPath.l1 : Nat → List ByteArray → List Int → Int → ByteArray → List (S41) → List (S101) → ByteArray → Option (List Int × Int)
  | 0, _, _, _, _, _, _, _ => none
  | k + 1, x4, x5, x7, x277000, x277001, x277002, x277003 => if x7 < (x4.length : Int) then (busbarref13_ShortestPath.l2 k x4 x5 x7 0 x277000 x277001 x277002 x277003) else (if 0 < (x5.length : Int) then (if (rd x5 0) > (x4.length : Int) then (some (([] : List Int), 13)) else (busbarref13_ShortestPath.l3 k x4 x5 ([] : List Int) (⟨#[76]⟩ : ByteArray) x277000 x277001 x277002 x277003)) else (none))
def busbarref13_ShortestPath.l2 : Nat → List ByteArray → List Int → Int → Int → ByteArray → List (S41) → List (S101) → ByteArray → Option (List Int × Int)
  | 0, _, _, _, _, _, _, _, _ => none
  | k + 1, x4, x5, x7, x8, x277000, x277001, x277002, x277003 => if x8 < (x277001.length : Int) then (if 0 ≤ x8 then ((busbarref13_place.f k x4 ((rd_T41 x277001 x8).f2)).bind fun t287 => ((busbarref13_place.f k x4 ((rd_T41 x277001 x8).f3)).bind fun t289 => (if 0 ≤ t289 then (if t289 < (x5.length : Int) then (if 0 ≤ t287 then (if t287 < (x5.length : Int) then (if (wrap64 ((rd x5 t289) + 1)) < (rd x5 t287) then (busbarref13_ShortestPath.l2 k x4 (x5.set (t287 : Int).toNat (wrap64 ((rd x5 t289) + 1))) x7 (wrap64 (x8 + 1)) x277000 x277001 x277002 x277003) else (busbarref13_ShortestPath.l2 k x4 x5 x7 (wrap64 (x8 + 1)) x277000 x277001 x277002 x277003)) else (none)) else (none)) else (none)) else (none)))) else (none)) else (busbarref13_ShortestPath.l1 k x4 x5 (wrap64 (x7 + 1)) x277000 x277001 x277002 x277003)
def busbarref13_ShortestPath.l3 : Nat → List ByteArray → List Int → List Int → ByteArray → ByteArray → List (S41) → List (S101) → ByteArray → Option (List Int × Int)
  | 0, _, _, _, _, _, _, _, _ => none
  | k + 1, x4, x5, x11, x12, x277000, x277001, x277002, x277003 => if x12.toList = ([82] : List UInt8) then (some (x11, 0)) else (busbarref13_ShortestPath.l4 k x4 x5 x11 x12 0 x277000 x277001 x277002 x277003)
def busbarref13_ShortestPath.l4 : Nat → List ByteArray → List Int → List Int → ByteArray → Int → ByteArray → List (S41) → List (S101) → ByteArray → Option (List Int × Int)
  | 0, _, _, _, _, _, _, _, _, _ => none
  | k + 1, x4, x5, x11, x12, x13, x277000, x277001, x277002, x277003 => if 0 ≤ x13 then (if x13 < (x277001.length : Int) then (if ((rd_T41 x277001 x13).f2).toList = x12.toList then ((busbarref13_place.f k x4 ((rd_T41 x277001 x13).f3)).bind fun t297 => (if 0 ≤ t297 then (if t297 < (x5.length : Int) then ((busbarref13_place.f k x4 x12).bind fun t299 => (if 0 ≤ t299 then (if t299 < (x5.length : Int) then (if (rd x5 t297) = (wrap64 ((rd x5 t299) - 1)) then (if x11.length < 17592186044416 then (busbarref13_ShortestPath.l3 k x4 x5 (x11 ++ [x13]) ((rd_T41 x277001 x13).f3) x277000 x277001 x277002 x277003) else (none)) else (busbarref13_ShortestPath.l4 k x4 x5 x11 x12 (wrap64 (x13 + 1)) x277000 x277001 x277002 x277003)) else (none)) else (none))) else (none)) else (none))) else (busbarref13_ShortestPath.l4 k x4 x5 x11 x12 (wrap64 (x13 + 1)) x277000 x277001 x277002 x277003)) else (none)) else (none)
end
def busbarref13_ShortestPath.f (k : Nat) (a0_0 : ByteArray) (l0_1 : List (S41)) (l0_2 : List (S101)) (a0_3 : ByteArray) : Option (List Int × Int) := (busbarref12_Nodes.f k a0_0 l0_1 l0_2 a0_3).bind fun t277 => (if 0 ≤ (t277.length : Int) then (if ((t277.length : Int) : Int).toNat ≤ 35184372088832 then (busbarref13_ShortestPath.l0 k t277 (List.replicate ((t277.length : Int) : Int).toNat 0) 0 a0_0 l0_1 l0_2 a0_3) else (none)) else (none))
theorem busbarref13_ShortestPath.mono_l : ∀ k, (∀ y0 y1 y2 y3 y4 y5 y6, LeO (busbarref13_ShortestPath.l0 k y0 y1 y2 y3 y4 y5 y6) (busbarref13_ShortestPath.l0 (k + 1) y0 y1 y2 y3 y4 y5 y6)) ∧ (∀ y0 y1 y2 y3 y4 y5 y6, LeO (busbarref13_ShortestPath.l1 k y0 y1 y2 y3 y4 y5 y6) (busbarref13_ShortestPath.l1 (k + 1) y0 y1 y2 y3 y4 y5 y6)) ∧ (∀ y0 y1 y2 y3 y4 y5 y6 y7, LeO (busbarref13_ShortestPath.l2 k y0 y1 y2 y3 y4 y5 y6 y7) (busbarref13_ShortestPath.l2 (k + 1) y0 y1 y2 y3 y4 y5 y6 y7)) ∧ (∀ y0 y1 y2 y3 y4 y5 y6 y7, LeO (busbarref13_ShortestPath.l3 k y0 y1 y2 y3 y4 y5 y6 y7) (busbarref13_ShortestPath.l3 (k + 1) y0 y1 y2 y3 y4 y5 y6 y7)) ∧ (∀ y0 y1 y2 y3 y4 y5 y6 y7 y8, LeO (busbarref13_ShortestPath.l4 k y0 y1 y2 y3 y4 y5 y6 y7 y8) (busbarref13_ShortestPath.l4 (k + 1) y0 y1 y2 y3 y4 y5 y6 y7 y8))
  | 0 => ⟨fun _ _ _ _ _ _ _ r h => by simp [busbarref13_ShortestPath.l0] at h, fun _ _ _ _ _ _ _ r h => by simp [busbarref13_ShortestPath.l1] at h, fun _ _ _ _ _ _ _ _ r h => by simp [busbarref13_ShortestPath.l2] at h, fun _ _ _ _ _ _ _ _ r h => by simp [busbarref13_ShortestPath.l3] at h, fun _ _ _ _ _ _ _ _ _ r h => by simp [busbarref13_ShortestPath.l4] at h⟩
  | k + 1 => by
    obtain ⟨ih0, ih1, ih2, ih3, ih4⟩ := busbarref13_ShortestPath.mono_l k
    refine ⟨?_, ?_, ?_, ?_, ?_⟩
    · intro y0 y1 y2 y3 y4 y5 y6
      unfold busbarref13_ShortestPath.l0
      repeat' first
      | (with_reducible exact ih0 _ _ _ _ _ _ _)
      | (with_reducible exact ih1 _ _ _ _ _ _ _)
      | (with_reducible exact ih2 _ _ _ _ _ _ _ _)
      | (with_reducible exact ih3 _ _ _ _ _ _ _ _)
      | (with_reducible exact ih4 _ _ _ _ _ _ _ _ _)
      | (with_reducible exact busbarref12_Nodes.mono _ _ _ _ _)
      | (with_reducible exact busbarref13_place.mono _ _ _)
      | (with_reducible exact LeO.refl _)
      | (with_reducible exact LeO.none _)
      | (with_reducible refine LeO.ite ?_ ?_)
      | (with_reducible refine LeO.bind ?_ (fun _ => ?_))
      | exact ih0 _ _ _ _ _ _ _
      | exact ih1 _ _ _ _ _ _ _
      | exact ih2 _ _ _ _ _ _ _ _
      | exact ih3 _ _ _ _ _ _ _ _
      | exact ih4 _ _ _ _ _ _ _ _ _
      | exact busbarref12_Nodes.mono _ _ _ _ _
      | exact busbarref13_place.mono _ _ _
      | exact LeO.none _
      | refine LeO.ite ?_ ?_
      | refine LeO.bind ?_ (fun _ => ?_)
    · intro y0 y1 y2 y3 y4 y5 y6
      unfold busbarref13_ShortestPath.l1
      repeat' first
      | (with_reducible exact ih0 _ _ _ _ _ _ _)
      | (with_reducible exact ih1 _ _ _ _ _ _ _)
      | (with_reducible exact ih2 _ _ _ _ _ _ _ _)
      | (with_reducible exact ih3 _ _ _ _ _ _ _ _)
      | (with_reducible exact ih4 _ _ _ _ _ _ _ _ _)
      | (with_reducible exact busbarref12_Nodes.mono _ _ _ _ _)
      | (with_reducible exact busbarref13_place.mono _ _ _)
      | (with_reducible exact LeO.refl _)
      | (with_reducible exact LeO.none _)
      | (with_reducible refine LeO.ite ?_ ?_)
      | (with_reducible refine LeO.bind ?_ (fun _ => ?_))
      | exact ih0 _ _ _ _ _ _ _
      | exact ih1 _ _ _ _ _ _ _
      | exact ih2 _ _ _ _ _ _ _ _
      | exact ih3 _ _ _ _ _ _ _ _
      | exact ih4 _ _ _ _ _ _ _ _ _
      | exact busbarref12_Nodes.mono _ _ _ _ _
      | exact busbarref13_place.mono _ _ _
      | exact LeO.none _
      | refine LeO.ite ?_ ?_
      | refine LeO.bind ?_ (fun _ => ?_)
    · intro y0 y1 y2 y3 y4 y5 y6 y7
      unfold busbarref13_ShortestPath.l2
      repeat' first
      | (with_reducible exact ih0 _ _ _ _ _ _ _)
      | (with_reducible exact ih1 _ _ _ _ _ _ _)
      | (with_reducible exact ih2 _ _ _ _ _ _ _ _)
      | (with_reducible exact ih3 _ _ _ _ _ _ _ _)
      | (with_reducible exact ih4 _ _ _ _ _ _ _ _ _)
      | (with_reducible exact busbarref12_Nodes.mono _ _ _ _ _)
      | (with_reducible exact busbarref13_place.mono _ _ _)
      | (with_reducible exact LeO.refl _)
      | (with_reducible exact LeO.none _)
      | (with_reducible refine LeO.ite ?_ ?_)
      | (with_reducible refine LeO.bind ?_ (fun _ => ?_))
      | exact ih0 _ _ _ _ _ _ _
      | exact ih1 _ _ _ _ _ _ _
      | exact ih2 _ _ _ _ _ _ _ _
      | exact ih3 _ _ _ _ _ _ _ _
      | exact ih4 _ _ _ _ _ _ _ _ _
      | exact busbarref12_Nodes.mono _ _ _ _ _
      | exact busbarref13_place.mono _ _ _
      | exact LeO.none _
      | refine LeO.ite ?_ ?_
      | refine LeO.bind ?_ (fun _ => ?_)
    · intro y0 y1 y2 y3 y4 y5 y6 y7
      unfold busbarref13_ShortestPath.l3
      repeat' first
      | (with_reducible exact ih0 _ _ _ _ _ _ _)
      | (with_reducible exact ih1 _ _ _ _ _ _ _)
      | (with_reducible exact ih2 _ _ _ _ _ _ _ _)
      | (with_reducible exact ih3 _ _ _ _ _ _ _ _)
      | (with_reducible exact ih4 _ _ _ _ _ _ _ _ _)
      | (with_reducible exact busbarref12_Nodes.mono _ _ _ _ _)
      | (with_reducible exact busbarref13_place.mono _ _ _)
      | (with_reducible exact LeO.refl _)
      | (with_reducible exact LeO.none _)
      | (with_reducible refine LeO.ite ?_ ?_)
      | (with_reducible refine LeO.bind ?_ (fun _ => ?_))
      | exact ih0 _ _ _ _ _ _ _
      | exact ih1 _ _ _ _ _ _ _
      | exact ih2 _ _ _ _ _ _ _ _
      | exact ih3 _ _ _ _ _ _ _ _
      | exact ih4 _ _ _ _ _ _ _ _ _
      | exact busbarref12_Nodes.mono _ _ _ _ _
      | exact busbarref13_place.mono _ _ _
      | exact LeO.none _
      | refine LeO.ite ?_ ?_
      | refine LeO.bind ?_ (fun _ => ?_)
    · intro y0 y1 y2 y3 y4 y5 y6 y7 y8
      unfold busbarref13_ShortestPath.l4
      repeat' first
      | (with_reducible exact ih0 _ _ _ _ _ _ _)
      | (with_reducible exact ih1 _ _ _ _ _ _ _)
      | (with_reducible exact ih2 _ _ _ _ _ _ _ _)
      | (with_reducible exact ih3 _ _ _ _ _ _ _ _)
      | (with_reducible exact ih4 _ _ _ _ _ _ _ _ _)
      | (with_reducible exact busbarref12_Nodes.mono _ _ _ _ _)
      | (with_reducible exact busbarref13_place.mono _ _ _)
      | (with_reducible exact LeO.refl _)
      | (with_reducible exact LeO.none _)
      | (with_reducible refine LeO.ite ?_ ?_)
      | (with_reducible refine LeO.bind ?_ (fun _ => ?_))
      | exact ih0 _ _ _ _ _ _ _
      | exact ih1 _ _ _ _ _ _ _
      | exact ih2 _ _ _ _ _ _ _ _
      | exact ih3 _ _ _ _ _ _ _ _
      | exact ih4 _ _ _ _ _ _ _ _ _
      | exact busbarref12_Nodes.mono _ _ _ _ _
      | exact busbarref13_place.mono _ _ _
      | exact LeO.none _
      | refine LeO.ite ?_ ?_
      | refine LeO.bind ?_ (fun _ => ?_)
theorem busbarref13_ShortestPath.mono : ∀ a0 a1 a2 a3 k, LeO (busbarref13_ShortestPath.f k a0 a1 a2 a3) (busbarref13_ShortestPath.f (k + 1) a0 a1 a2 a3) := by
  intro a0 a1 a2 a3 k
  obtain ⟨ih0, ih1, ih2, ih3, ih4⟩ := busbarref13_ShortestPath.mono_l k
  unfold busbarref13_ShortestPath.f
  repeat' first
      | (with_reducible exact ih0 _ _ _ _ _ _ _)
      | (with_reducible exact ih1 _ _ _ _ _ _ _)
      | (with_reducible exact ih2 _ _ _ _ _ _ _ _)
      | (with_reducible exact ih3 _ _ _ _ _ _ _ _)
      | (with_reducible exact ih4 _ _ _ _ _ _ _ _ _)
      | (with_reducible exact busbarref12_Nodes.mono _ _ _ _ _)
      | (with_reducible exact busbarref13_place.mono _ _ _)
      | (with_reducible exact LeO.refl _)
      | (with_reducible exact LeO.none _)
      | (with_reducible refine LeO.ite ?_ ?_)
      | (with_reducible refine LeO.bind ?_ (fun _ => ?_))
      | exact ih0 _ _ _ _ _ _ _
      | exact ih1 _ _ _ _ _ _ _
      | exact ih2 _ _ _ _ _ _ _ _
      | exact ih3 _ _ _ _ _ _ _ _
      | exact ih4 _ _ _ _ _ _ _ _ _
      | exact busbarref12_Nodes.mono _ _ _ _ _
      | exact busbarref13_place.mono _ _ _
      | exact LeO.none _
      | refine LeO.ite ?_ ?_
      | refine LeO.bind ?_ (fun _ => ?_)

end Go.Proofs.Ytmacdknicgfglaa.Impl
