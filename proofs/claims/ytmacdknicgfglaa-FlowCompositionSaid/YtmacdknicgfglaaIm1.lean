/- Printed by a program of this session (a copy of the kit's print.py, one text for all functions of the seat), with some contracts typed by hand among them: for each Go function a Lean function and a proof that the code comes to its answers. -/
import Derived.Test.YtmacdknicgfglaaWRepsOne
import Derived.Test.YtmacdknicgfglaaIm0
namespace Go.Proofs.Ytmacdknicgfglaa.Impl
open Go.RowKit Go.Proofs.YtmacdknicgfglaaW.PrintWords Go.Proofs.YtmacdknicgfglaaW.PrintLast Go.Proofs.YtmacdknicgfglaaW.PrintMore
attribute [local go_sem] max2_int min2_int max_two min_two
set_option linter.unusedVariables false
set_option linter.unusedSimpArgs false

/-! ### busbarref12_spread: function 54 -/
mutual
def busbarref12_spread.l0 : Nat → Bool → List ByteArray → List ByteArray → Int → ByteArray → List (S41) → List (S101) → ByteArray → Option (List ByteArray)
  | 0, _, _, _, _, _, _, _, _ => none
  | k + 1, x2, x7, x8, x9, x174000, x174001, x174002, x174003 => if x9 < (x7.length : Int) then (busbarref12_spread.l1 k x2 x7 x8 x9 0 x174000 x174001 x174002 x174003) else (busbarref12_spread.l2 k x7 x8 ([] : List ByteArray) 0)
def busbarref12_spread.l1 : Nat → Bool → List ByteArray → List ByteArray → Int → Int → ByteArray → List (S41) → List (S101) → ByteArray → Option (List ByteArray)
  | 0, _, _, _, _, _, _, _, _, _ => none
  | k + 1, x2, x7, x8, x9, x10, x174000, x174001, x174002, x174003 => if x10 < (x174001.length : Int) then (if 0 ≤ x10 then (if x2 = true then (busbarref12_spread.j2 k x2 x7 x8 x9 x10 ((rd_T41 x174001 x10).f3) ((rd_T41 x174001 x10).f2) x174000 x174001 x174002 x174003) else (busbarref12_spread.j2 k x2 x7 x8 x9 x10 ((rd_T41 x174001 x10).f2) ((rd_T41 x174001 x10).f3) x174000 x174001 x174002 x174003)) else (none)) else (busbarref12_spread.l0 k x2 x7 x8 (wrap64 (x9 + 1)) x174000 x174001 x174002 x174003)
def busbarref12_spread.j2 : Nat → Bool → List ByteArray → List ByteArray → Int → Int → ByteArray → ByteArray → ByteArray → List (S41) → List (S101) → ByteArray → Option (List ByteArray)
  | 0, _, _, _, _, _, _, _, _, _, _, _ => none
  | k + 1, x2, x7, x8, x9, x10, x11, x12, x174000, x174001, x174002, x174003 => (busbarref12_has.f k x8 x11).bind fun t185 => (if t185 = true then ((busbarref12_has.f k x8 x12).bind fun t186 => (if t186 = true then (busbarref12_spread.l1 k x2 x7 x8 x9 (wrap64 (x10 + 1)) x174000 x174001 x174002 x174003) else (if x8.length < 8796093022208 then (busbarref12_spread.l1 k x2 x7 (x8 ++ [x12]) x9 (wrap64 (x10 + 1)) x174000 x174001 x174002 x174003) else (none)))) else (busbarref12_spread.l1 k x2 x7 x8 x9 (wrap64 (x10 + 1)) x174000 x174001 x174002 x174003))
def busbarref12_spread.l2 : Nat → List ByteArray → List ByteArray → List ByteArray → Int → Option (List ByteArray)
  | 0, _, _, _, _ => none
  | k + 1, x7, x8, x13, x14 => if x14 < (x7.length : Int) then (if 0 ≤ x14 then ((busbarref12_has.f k x8 (rdOf ByteArray.empty x7 x14)).bind fun t191 => (if t191 = true then (if x13.length < 8796093022208 then (busbarref12_spread.l2 k x7 x8 (x13 ++ [rdOf ByteArray.empty x7 x14]) (wrap64 (x14 + 1))) else (none)) else (busbarref12_spread.l2 k x7 x8 x13 (wrap64 (x14 + 1))))) else (none)) else (some x13)
end
def busbarref12_spread.f (k : Nat) (a0_0 : ByteArray) (l0_1 : List (S41)) (l0_2 : List (S101)) (a0_3 : ByteArray) (a1 : ByteArray) (a2 : Bool) : Option (List ByteArray) := (busbarref12_Nodes.f k a0_0 l0_1 l0_2 a0_3).bind fun t174 => ((busbarref12_has.f k t174 a1).bind fun t177 => (if t177 = true then (busbarref12_spread.l0 k a2 t174 (([a1] : List ByteArray)) 0 a0_0 l0_1 l0_2 a0_3) else (some ([] : List ByteArray))))
theorem busbarref12_spread.mono_l : ∀ k, (∀ y0 y1 y2 y3 y4 y5 y6 y7, LeO (busbarref12_spread.l0 k y0 y1 y2 y3 y4 y5 y6 y7) (busbarref12_spread.l0 (k + 1) y0 y1 y2 y3 y4 y5 y6 y7)) ∧ (∀ y0 y1 y2 y3 y4 y5 y6 y7 y8, LeO (busbarref12_spread.l1 k y0 y1 y2 y3 y4 y5 y6 y7 y8) (busbarref12_spread.l1 (k + 1) y0 y1 y2 y3 y4 y5 y6 y7 y8)) ∧ (∀ y0 y1 y2 y3 y4 y5 y6 y7 y8 y9 y10, LeO (busbarref12_spread.j2 k y0 y1 y2 y3 y4 y5 y6 y7 y8 y9 y10) (busbarref12_spread.j2 (k + 1) y0 y1 y2 y3 y4 y5 y6 y7 y8 y9 y10)) ∧ (∀ y0 y1 y2 y3, LeO (busbarref12_spread.l2 k y0 y1 y2 y3) (busbarref12_spread.l2 (k + 1) y0 y1 y2 y3))
  | 0 => ⟨fun _ _ _ _ _ _ _ _ r h => by simp [busbarref12_spread.l0] at h, fun _ _ _ _ _ _ _ _ _ r h => by simp [busbarref12_spread.l1] at h, fun _ _ _ _ _ _ _ _ _ _ _ r h => by simp [busbarref12_spread.j2] at h, fun _ _ _ _ r h => by simp [busbarref12_spread.l2] at h⟩
  | k + 1 => by
    obtain ⟨ih0, ih1, ih2, ih3⟩ := busbarref12_spread.mono_l k
    refine ⟨?_, ?_, ?_, ?_⟩
    · intro y0 y1 y2 y3 y4 y5 y6 y7
      unfold busbarref12_spread.l0
      repeat' first
      | (with_reducible exact ih0 _ _ _ _ _ _ _ _)
      | (with_reducible exact ih1 _ _ _ _ _ _ _ _ _)
      | (with_reducible exact ih2 _ _ _ _ _ _ _ _ _ _ _)
      | (with_reducible exact ih3 _ _ _ _)
      | (with_reducible exact busbarref12_Nodes.mono _ _ _ _ _)
      | (with_reducible exact busbarref12_has.mono _ _ _)
      | (with_reducible exact LeO.refl _)
      | (with_reducible exact LeO.none _)
      | (with_reducible refine LeO.ite ?_ ?_)
      | (with_reducible refine LeO.bind ?_ (fun _ => ?_))
      | exact ih0 _ _ _ _ _ _ _ _
      | exact ih1 _ _ _ _ _ _ _ _ _
      | exact ih2 _ _ _ _ _ _ _ _ _ _ _
      | exact ih3 _ _ _ _
      | exact busbarref12_Nodes.mono _ _ _ _ _
      | exact busbarref12_has.mono _ _ _
      | exact LeO.none _
      | refine LeO.ite ?_ ?_
      | refine LeO.bind ?_ (fun _ => ?_)
    · intro y0 y1 y2 y3 y4 y5 y6 y7 y8
      unfold busbarref12_spread.l1
      repeat' first
      | (with_reducible exact ih0 _ _ _ _ _ _ _ _)
      | (with_reducible exact ih1 _ _ _ _ _ _ _ _ _)
      | (with_reducible exact ih2 _ _ _ _ _ _ _ _ _ _ _)
      | (with_reducible exact ih3 _ _ _ _)
      | (with_reducible exact busbarref12_Nodes.mono _ _ _ _ _)
      | (with_reducible exact busbarref12_has.mono _ _ _)
      | (with_reducible exact LeO.refl _)
      | (with_reducible exact LeO.none _)
      | (with_reducible refine LeO.ite ?_ ?_)
      | (with_reducible refine LeO.bind ?_ (fun _ => ?_))
      | exact ih0 _ _ _ _ _ _ _ _
      | exact ih1 _ _ _ _ _ _ _ _ _
      | exact ih2 _ _ _ _ _ _ _ _ _ _ _
      | exact ih3 _ _ _ _
      | exact busbarref12_Nodes.mono _ _ _ _ _
      | exact busbarref12_has.mono _ _ _
      | exact LeO.none _
      | refine LeO.ite ?_ ?_
      | refine LeO.bind ?_ (fun _ => ?_)
    · intro y0 y1 y2 y3 y4 y5 y6 y7 y8 y9 y10
      unfold busbarref12_spread.j2
      repeat' first
      | (with_reducible exact ih0 _ _ _ _ _ _ _ _)
      | (with_reducible exact ih1 _ _ _ _ _ _ _ _ _)
      | (with_reducible exact ih2 _ _ _ _ _ _ _ _ _ _ _)
      | (with_reducible exact ih3 _ _ _ _)
      | (with_reducible exact busbarref12_Nodes.mono _ _ _ _ _)
      | (with_reducible exact busbarref12_has.mono _ _ _)
      | (with_reducible exact LeO.refl _)
      | (with_reducible exact LeO.none _)
      | (with_reducible refine LeO.ite ?_ ?_)
      | (with_reducible refine LeO.bind ?_ (fun _ => ?_))
      | exact ih0 _ _ _ _ _ _ _ _
      | exact ih1 _ _ _ _ _ _ _ _ _
      | exact ih2 _ _ _ _ _ _ _ _ _ _ _
      | exact ih3 _ _ _ _
      | exact busbarref12_Nodes.mono _ _ _ _ _
      | exact busbarref12_has.mono _ _ _
      | exact LeO.none _
      | refine LeO.ite ?_ ?_
      | refine LeO.bind ?_ (fun _ => ?_)
    · intro y0 y1 y2 y3
      unfold busbarref12_spread.l2
      repeat' first
      | (with_reducible exact ih0 _ _ _ _ _ _ _ _)
      | (with_reducible exact ih1 _ _ _ _ _ _ _ _ _)
      | (with_reducible exact ih2 _ _ _ _ _ _ _ _ _ _ _)
      | (with_reducible exact ih3 _ _ _ _)
      | (with_reducible exact busbarref12_Nodes.mono _ _ _ _ _)
      | (with_reducible exact busbarref12_has.mono _ _ _)
      | (with_reducible exact LeO.refl _)
      | (with_reducible exact LeO.none _)
      | (with_reducible refine LeO.ite ?_ ?_)
      | (with_reducible refine LeO.bind ?_ (fun _ => ?_))
      | exact ih0 _ _ _ _ _ _ _ _
      | exact ih1 _ _ _ _ _ _ _ _ _
      | exact ih2 _ _ _ _ _ _ _ _ _ _ _
      | exact ih3 _ _ _ _
      | exact busbarref12_Nodes.mono _ _ _ _ _
      | exact busbarref12_has.mono _ _ _
      | exact LeO.none _
      | refine LeO.ite ?_ ?_
      | refine LeO.bind ?_ (fun _ => ?_)
theorem busbarref12_spread.mono : ∀ a0 a1 a2 a3 a4 a5 k, LeO (busbarref12_spread.f k a0 a1 a2 a3 a4 a5) (busbarref12_spread.f (k + 1) a0 a1 a2 a3 a4 a5) := by
  intro a0 a1 a2 a3 a4 a5 k
  obtain ⟨ih0, ih1, ih2, ih3⟩ := busbarref12_spread.mono_l k
  unfold busbarref12_spread.f
  repeat' first
      | (with_reducible exact ih0 _ _ _ _ _ _ _ _)
      | (with_reducible exact ih1 _ _ _ _ _ _ _ _ _)
      | (with_reducible exact ih2 _ _ _ _ _ _ _ _ _ _ _)
      | (with_reducible exact ih3 _ _ _ _)
      | (with_reducible exact busbarref12_Nodes.mono _ _ _ _ _)
      | (with_reducible exact busbarref12_has.mono _ _ _)
      | (with_reducible exact LeO.refl _)
      | (with_reducible exact LeO.none _)
      | (with_reducible refine LeO.ite ?_ ?_)
      | (with_reducible refine LeO.bind ?_ (fun _ => ?_))
      | exact ih0 _ _ _ _ _ _ _ _
      | exact ih1 _ _ _ _ _ _ _ _ _
      | exact ih2 _ _ _ _ _ _ _ _ _ _ _
      | exact ih3 _ _ _ _
      | exact busbarref12_Nodes.mono _ _ _ _ _
      | exact busbarref12_has.mono _ _ _
      | exact LeO.none _
      | refine LeO.ite ?_ ?_
      | refine LeO.bind ?_ (fun _ => ?_)

end Go.Proofs.Ytmacdknicgfglaa.Impl
namespace Go.Proofs.Ytmacdknicgfglaa.Impl
open Go.RowKit Go.Proofs.YtmacdknicgfglaaW.PrintWords Go.Proofs.YtmacdknicgfglaaW.PrintLast Go.Proofs.YtmacdknicgfglaaW.PrintMore
attribute [local go_sem] max2_int min2_int max_two min_two
set_option linter.unusedVariables false
set_option linter.unusedSimpArgs false

/-! ### busbarref12_Reachable: function 29 -/
def busbarref12_Reachable.f (k : Nat) (a0_0 : ByteArray) (l0_1 : List (S41)) (l0_2 : List (S101)) (a0_3 : ByteArray) (a1 : ByteArray) : Option (List ByteArray) := (busbarref12_spread.f k a0_0 l0_1 l0_2 a0_3 a1 false).bind fun t197 => (some t197)
theorem busbarref12_Reachable.mono : ∀ a0 a1 a2 a3 a4 k, LeO (busbarref12_Reachable.f k a0 a1 a2 a3 a4) (busbarref12_Reachable.f (k + 1) a0 a1 a2 a3 a4) := by
  intro a0 a1 a2 a3 a4 k
  unfold busbarref12_Reachable.f
  repeat' first
      | (with_reducible exact busbarref12_spread.mono _ _ _ _ _ _ _)
      | (with_reducible exact LeO.refl _)
      | (with_reducible exact LeO.none _)
      | (with_reducible refine LeO.ite ?_ ?_)
      | (with_reducible refine LeO.bind ?_ (fun _ => ?_))
      | exact busbarref12_spread.mono _ _ _ _ _ _ _
      | exact LeO.none _
      | refine LeO.ite ?_ ?_
      | refine LeO.bind ?_ (fun _ => ?_)

/-! ### busbarref12_Ancestors: function 31 -/
def busbarref12_Ancestors.f (k : Nat) (a0_0 : ByteArray) (l0_1 : List (S41)) (l0_2 : List (S101)) (a0_3 : ByteArray) (a1 : ByteArray) : Option (List ByteArray) := (busbarref12_spread.f k a0_0 l0_1 l0_2 a0_3 a1 true).bind fun t202 => (some t202)
theorem busbarref12_Ancestors.mono : ∀ a0 a1 a2 a3 a4 k, LeO (busbarref12_Ancestors.f k a0 a1 a2 a3 a4) (busbarref12_Ancestors.f (k + 1) a0 a1 a2 a3 a4) := by
  intro a0 a1 a2 a3 a4 k
  unfold busbarref12_Ancestors.f
  repeat' first
      | (with_reducible exact busbarref12_spread.mono _ _ _ _ _ _ _)
      | (with_reducible exact LeO.refl _)
      | (with_reducible exact LeO.none _)
      | (with_reducible refine LeO.ite ?_ ?_)
      | (with_reducible refine LeO.bind ?_ (fun _ => ?_))
      | exact busbarref12_spread.mono _ _ _ _ _ _ _
      | exact LeO.none _
      | refine LeO.ite ?_ ?_
      | refine LeO.bind ?_ (fun _ => ?_)

/-! ### busbarref13_has: function 58 -/
def busbarref13_has.l0 : Nat → List ByteArray → ByteArray → Int → Option (Bool)
  | 0, _, _, _ => none
  | k + 1, x0, x1, x5 => if x5 < (x0.length : Int) then (if 0 ≤ x5 then (if (rdOf ByteArray.empty x0 x5).toList = x1.toList then (some true) else (busbarref13_has.l0 k x0 x1 (wrap64 (x5 + 1)))) else (none)) else (some false)
def busbarref13_has.f (k : Nat) (l0 : List ByteArray) (a1 : ByteArray) : Option (Bool) := busbarref13_has.l0 k l0 a1 0
theorem busbarref13_has.mono_l : ∀ k, (∀ y0 y1 y2, LeO (busbarref13_has.l0 k y0 y1 y2) (busbarref13_has.l0 (k + 1) y0 y1 y2))
  | 0 => fun _ _ _ r h => by simp [busbarref13_has.l0] at h
  | k + 1 => by
    have ih0 := busbarref13_has.mono_l k
    · intro y0 y1 y2
      unfold busbarref13_has.l0
      repeat' first
      | (with_reducible exact ih0 _ _ _)
      | (with_reducible exact LeO.refl _)
      | (with_reducible exact LeO.none _)
      | (with_reducible refine LeO.ite ?_ ?_)
      | (with_reducible refine LeO.bind ?_ (fun _ => ?_))
      | exact ih0 _ _ _
      | exact LeO.none _
      | refine LeO.ite ?_ ?_
      | refine LeO.bind ?_ (fun _ => ?_)
theorem busbarref13_has.mono : ∀ a0 a1 k, LeO (busbarref13_has.f k a0 a1) (busbarref13_has.f (k + 1) a0 a1) := by
  intro a0 a1 k
  have ih0 := busbarref13_has.mono_l k
  unfold busbarref13_has.f
  repeat' first
      | (with_reducible exact ih0 _ _ _)
      | (with_reducible exact LeO.refl _)
      | (with_reducible exact LeO.none _)
      | (with_reducible refine LeO.ite ?_ ?_)
      | (with_reducible refine LeO.bind ?_ (fun _ => ?_))
      | exact ih0 _ _ _
      | exact LeO.none _
      | refine LeO.ite ?_ ?_
      | refine LeO.bind ?_ (fun _ => ?_)

end Go.Proofs.Ytmacdknicgfglaa.Impl
namespace Go.Proofs.Ytmacdknicgfglaa.Impl
open Go.RowKit Go.Proofs.YtmacdknicgfglaaW.PrintWords Go.Proofs.YtmacdknicgfglaaW.PrintLast Go.Proofs.YtmacdknicgfglaaW.PrintMore
attribute [local go_sem] max2_int min2_int max_two min_two
set_option linter.unusedVariables false
set_option linter.unusedSimpArgs false

/-! ### busbarref13_DeadNodes: function 36 -/
def busbarref13_DeadNodes.l0 : Nat → List ByteArray → List ByteArray → List ByteArray → List ByteArray → Int → Option (List ByteArray)
  | 0, _, _, _, _, _ => none
  | k + 1, x3, x4, x5, x6, x7 => if x7 < (x3.length : Int) then (if 0 ≤ x7 then ((busbarref13_has.f k x4 (rdOf ByteArray.empty x3 x7)).bind fun t231 => (if t231 = true then ((busbarref13_has.f k x5 (rdOf ByteArray.empty x3 x7)).bind fun t233 => (if t233 = true then (busbarref13_DeadNodes.l0 k x3 x4 x5 x6 (wrap64 (x7 + 1))) else (if x6.length < 8796093022208 then (busbarref13_DeadNodes.l0 k x3 x4 x5 (x6 ++ [rdOf ByteArray.empty x3 x7]) (wrap64 (x7 + 1))) else (none)))) else (if x6.length < 8796093022208 then (busbarref13_DeadNodes.l0 k x3 x4 x5 (x6 ++ [rdOf ByteArray.empty x3 x7]) (wrap64 (x7 + 1))) else (none)))) else (none)) else (some x6)
def busbarref13_DeadNodes.f (k : Nat) (a0_0 : ByteArray) (l0_1 : List (S41)) (l0_2 : List (S101)) (a0_3 : ByteArray) : Option (List ByteArray) := (busbarref12_Nodes.f k a0_0 l0_1 l0_2 a0_3).bind fun t221 => ((busbarref12_Reachable.f k a0_0 l0_1 l0_2 a0_3 (⟨#[76]⟩ : ByteArray)).bind fun t224 => ((busbarref12_Ancestors.f k a0_0 l0_1 l0_2 a0_3 (⟨#[82]⟩ : ByteArray)).bind fun t227 => (busbarref13_DeadNodes.l0 k t221 t224 t227 ([] : List ByteArray) 0)))
theorem busbarref13_DeadNodes.mono_l : ∀ k, (∀ y0 y1 y2 y3 y4, LeO (busbarref13_DeadNodes.l0 k y0 y1 y2 y3 y4) (busbarref13_DeadNodes.l0 (k + 1) y0 y1 y2 y3 y4))
  | 0 => fun _ _ _ _ _ r h => by simp [busbarref13_DeadNodes.l0] at h
  | k + 1 => by
    have ih0 := busbarref13_DeadNodes.mono_l k
    · intro y0 y1 y2 y3 y4
      unfold busbarref13_DeadNodes.l0
      repeat' first
      | (with_reducible exact ih0 _ _ _ _ _)
      | (with_reducible exact busbarref12_Ancestors.mono _ _ _ _ _ _)
      | (with_reducible exact busbarref12_Nodes.mono _ _ _ _ _)
      | (with_reducible exact busbarref12_Reachable.mono _ _ _ _ _ _)
      | (with_reducible exact busbarref13_has.mono _ _ _)
      | (with_reducible exact LeO.refl _)
      | (with_reducible exact LeO.none _)
      | (with_reducible refine LeO.ite ?_ ?_)
      | (with_reducible refine LeO.bind ?_ (fun _ => ?_))
      | exact ih0 _ _ _ _ _
      | exact busbarref12_Ancestors.mono _ _ _ _ _ _
      | exact busbarref12_Nodes.mono _ _ _ _ _
      | exact busbarref12_Reachable.mono _ _ _ _ _ _
      | exact busbarref13_has.mono _ _ _
      | exact LeO.none _
      | refine LeO.ite ?_ ?_
      | refine LeO.bind ?_ (fun _ => ?_)
theorem busbarref13_DeadNodes.mono : ∀ a0 a1 a2 a3 k, LeO (busbarref13_DeadNodes.f k a0 a1 a2 a3) (busbarref13_DeadNodes.f (k + 1) a0 a1 a2 a3) := by
  intro a0 a1 a2 a3 k
  have ih0 := busbarref13_DeadNodes.mono_l k
  unfold busbarref13_DeadNodes.f
  repeat' first
      | (with_reducible exact ih0 _ _ _ _ _)
      | (with_reducible exact busbarref12_Ancestors.mono _ _ _ _ _ _)
      | (with_reducible exact busbarref12_Nodes.mono _ _ _ _ _)
      | (with_reducible exact busbarref12_Reachable.mono _ _ _ _ _ _)
      | (with_reducible exact busbarref13_has.mono _ _ _)
      | (with_reducible exact LeO.refl _)
      | (with_reducible exact LeO.none _)
      | (with_reducible refine LeO.ite ?_ ?_)
      | (with_reducible refine LeO.bind ?_ (fun _ => ?_))
      | exact ih0 _ _ _ _ _
      | exact busbarref12_Ancestors.mono _ _ _ _ _ _
      | exact busbarref12_Nodes.mono _ _ _ _ _
      | exact busbarref12_Reachable.mono _ _ _ _ _ _
      | exact busbarref13_has.mono _ _ _
      | exact LeO.none _
      | refine LeO.ite ?_ ?_
      | refine LeO.bind ?_ (fun _ => ?_)

end Go.Proofs.Ytmacdknicgfglaa.Impl
namespace Go.Proofs.Ytmacdknicgfglaa.Impl
open Go.RowKit Go.Proofs.YtmacdknicgfglaaW.PrintWords Go.Proofs.YtmacdknicgfglaaW.PrintLast Go.Proofs.YtmacdknicgfglaaW.PrintMore
attribute [local go_sem] max2_int min2_int max_two min_two
set_option linter.unusedVariables false
set_option linter.unusedSimpArgs false

/-! ### busbarref13_Check: function 34 -/
def busbarref13_Check.f (k : Nat) (a0_0 : ByteArray) (l0_1 : List (S41)) (l0_2 : List (S101)) (a0_3 : ByteArray) : Option (Int) := if (l0_1.length : Int) = 0 then (some 4) else ((busbarref12_TopoSort.f k a0_0 l0_1 l0_2 a0_3).bind fun bt243 => (if bt243.2 = 0 then ((busbarref13_DeadNodes.f k a0_0 l0_1 l0_2 a0_3).bind fun t247 => (if (t247.length : Int) > 0 then (some 13) else (some 0))) else (some bt243.2)))
theorem busbarref13_Check.mono : ∀ a0 a1 a2 a3 k, LeO (busbarref13_Check.f k a0 a1 a2 a3) (busbarref13_Check.f (k + 1) a0 a1 a2 a3) := by
  intro a0 a1 a2 a3 k
  unfold busbarref13_Check.f
  repeat' first
      | (with_reducible exact busbarref12_TopoSort.mono _ _ _ _ _)
      | (with_reducible exact busbarref13_DeadNodes.mono _ _ _ _ _)
      | (with_reducible exact LeO.refl _)
      | (with_reducible exact LeO.none _)
      | (with_reducible refine LeO.ite ?_ ?_)
      | (with_reducible refine LeO.bind ?_ (fun _ => ?_))
      | exact busbarref12_TopoSort.mono _ _ _ _ _
      | exact busbarref13_DeadNodes.mono _ _ _ _ _
      | exact LeO.none _
      | refine LeO.ite ?_ ?_
      | refine LeO.bind ?_ (fun _ => ?_)

end Go.Proofs.Ytmacdknicgfglaa.Impl
namespace Go.Proofs.Ytmacdknicgfglaa.Impl
open Go.RowKit Go.Proofs.YtmacdknicgfglaaW.PrintWords Go.Proofs.YtmacdknicgfglaaW.PrintLast Go.Proofs.YtmacdknicgfglaaW.PrintMore
attribute [local go_sem] max2_int min2_int max_two min_two
set_option linter.unusedVariables false
set_option linter.unusedSimpArgs false

/-! ### busbarref13_place: function 62 -/
def busbarref13_place.l0 : Nat → List ByteArray → ByteArray → Int → Option (Int)
  | 0, _, _, _ => none
  | k + 1, x0, x1, x5 => if x5 < (x0.length : Int) then (if 0 ≤ x5 then (if (rdOf ByteArray.empty x0 x5).toList = x1.toList then (some x5) else (busbarref13_place.l0 k x0 x1 (wrap64 (x5 + 1)))) else (none)) else (some 0)
def busbarref13_place.f (k : Nat) (l0 : List ByteArray) (a1 : ByteArray) : Option (Int) := busbarref13_place.l0 k l0 a1 0
theorem busbarref13_place.mono_l : ∀ k, (∀ y0 y1 y2, LeO (busbarref13_place.l0 k y0 y1 y2) (busbarref13_place.l0 (k + 1) y0 y1 y2))
  | 0 => fun _ _ _ r h => by simp [busbarref13_place.l0] at h
  | k + 1 => by
    have ih0 := busbarref13_place.mono_l k
    · intro y0 y1 y2
      unfold busbarref13_place.l0
      repeat' first
      | (with_reducible exact ih0 _ _ _)
      | (with_reducible exact LeO.refl _)
      | (with_reducible exact LeO.none _)
      | (with_reducible refine LeO.ite ?_ ?_)
      | (with_reducible refine LeO.bind ?_ (fun _ => ?_))
      | exact ih0 _ _ _
      | exact LeO.none _
      | refine LeO.ite ?_ ?_
      | refine LeO.bind ?_ (fun _ => ?_)
theorem busbarref13_place.mono : ∀ a0 a1 k, LeO (busbarref13_place.f k a0 a1) (busbarref13_place.f (k + 1) a0 a1) := by
  intro a0 a1 k
  have ih0 := busbarref13_place.mono_l k
  unfold busbarref13_place.f
  repeat' first
      | (with_reducible exact ih0 _ _ _)
      | (with_reducible exact LeO.refl _)
      | (with_reducible exact LeO.none _)
      | (with_reducible refine LeO.ite ?_ ?_)
      | (with_reducible refine LeO.bind ?_ (fun _ => ?_))
      | exact ih0 _ _ _
      | exact LeO.none _
      | refine LeO.ite ?_ ?_
      | refine LeO.bind ?_ (fun _ => ?_)

end Go.Proofs.Ytmacdknicgfglaa.Impl
namespace Go.Proofs.Ytmacdknicgfglaa.Impl
open Go.RowKit Go.Proofs.YtmacdknicgfglaaW.PrintWords Go.Proofs.YtmacdknicgfglaaW.PrintLast Go.Proofs.YtmacdknicgfglaaW.PrintMore
attribute [local go_sem] max2_int min2_int max_two min_two
set_option linter.unusedVariables false
set_option linter.unusedSimpArgs false

-- NOT PRINTED: function 10 (busbarlaw13_FlowPathsMatchReference)

-- NOT PRINTED: function 11 (busbarlaw13_FlowShortestPathIsPath)

-- NOT PRINTED: function 12 (busbarlaw13_FlowEveryContactOnPath)

-- NOT PRINTED: function 13 (busbarlaw13_FlowComposition)

-- NOT PRINTED: function 14 (busbarlaw13_FlowDeadNodes)

end Go.Proofs.Ytmacdknicgfglaa.Impl
