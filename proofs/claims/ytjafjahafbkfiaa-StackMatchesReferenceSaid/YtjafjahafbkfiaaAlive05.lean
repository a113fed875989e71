/- The example of chapter 5 holds. -/
import Derived.Test.YtjafjahafbkfiaaStkInt
namespace Go.Proofs.Ytjafjahafbkfiaa.Alive05
open Go.RowKit Go.Proofs.YtjafjahafbkfiaaW.PrintWords Go.Proofs.YtjafjahafbkfiaaW.PrintMore Go.Proofs.YtjafjahafbkfiaaW.PrintLast Go.Proofs.Ytjafjahafbkfiaa.Chg Go.Proofs.Ytjafjahafbkfiaa.StkInt
set_option linter.unusedVariables false
set_option linter.unusedSimpArgs false
set_option maxHeartbeats 1000000 in
set_option maxRecDepth 100000 in
theorem alive (w : World) : Calls Try.prog 9 #[] w fun e w' => e = .returned (.bool true) ∧ Below w.heap.size w w' := by
  go_enter Try.func9, Try.ntmps9
  go_wp2_with fail
  refine (Now.new (Below.refl _ w) (Nat.le_refl _) 2 (by omega) (by omega)).mono ?_
  rintro e w1 ⟨rfl, h⟩
  have H := Aside0.mk h
  clear h
  go_wp2_with fail
  refine (H.out.push 1 (by decide)).mono ?_
  rintro e w2 ⟨rfl, h⟩
  clear H
  have H := Aside0.mk h
  clear h
  go_wp2_with fail
  refine (H.out.push 2 (by decide)).mono ?_
  rintro e w3 ⟨rfl, h⟩
  clear H
  have H := Aside0.mk h
  clear h
  go_wp2_with fail
  refine (H.out.push_full 3 (by decide)).mono ?_
  rintro e w4 ⟨rfl, h⟩
  clear H
  have H := Aside0.mk h
  clear h
  go_wp2_with fail
  refine (Now.pop (xs := [1]) (y := 2) H.out).mono ?_
  rintro e w5 ⟨rfl, h⟩
  clear H
  have H := Aside0.mk h
  clear h
  go_wp2_with fail
  refine (Now.pop (xs := []) (y := 1) H.out).mono ?_
  rintro e w6 ⟨rfl, h⟩
  clear H
  have H := Aside0.mk h
  clear h
  go_wp2_with fail
  refine (Now.pop_empty H.out).mono ?_
  rintro e w7 ⟨rfl, h⟩
  clear H
  have H := Aside0.mk h
  clear h
  go_wp2_with fail
  refine (Now.maxDepth H.out).mono ?_
  rintro e w8 ⟨rfl, rfl⟩
  go_wp2_with fail
  go_ret
  exact ⟨rfl, H.out.below⟩
end Go.Proofs.Ytjafjahafbkfiaa.Alive05
