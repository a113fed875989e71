/- StackNilAndCapacity, walked. -/
import Derived.Test.YtjafjahafbkfiaaAlive05
import Derived.Test.YtjafjahafbkfiaaStkString
import Derived.Test.YtjafjahafbkfiaaStkInts
import Derived.Test.YtjafjahafbkfiaaOpen
namespace Go.Proofs.Ytjafjahafbkfiaa.Nil05
open Go.RowKit Go.Proofs.YtjafjahafbkfiaaW.PrintWords Go.Proofs.YtjafjahafbkfiaaW.PrintMore Go.Proofs.YtjafjahafbkfiaaW.PrintLast Go.Proofs.Ytjafjahafbkfiaa.Chg
set_option linter.unusedVariables false
set_option linter.unusedSimpArgs false
theorem after_push {w w2 w3 : World} {o : Obj} {S : Nat → Prop} (hb : Below w.heap.size w w2) (hc : Chg S (w2.alloc o) w3) (hS : ∀ k, S k → w.heap.size ≤ k) : Below w.heap.size w w3 :=
  hc.below (hb.alloc hb.size o) hS (by have := hb.size; simp; omega)
set_option maxHeartbeats 1000000 in
set_option maxRecDepth 100000 in
theorem walk (w : World) (n : Int) (hn : (Lit.int .i64 n).wf = true) (x : ByteArray) (hx : x.size ≤ maxLen) :
    Calls Try.prog 6 #[.int .i64 n, .string x] w fun e w' => e = .returned (.bool true) ∧ Below w.heap.size w w' := by
  clear hn hx
  go_enter Try.func6, Try.ntmps6
  go_wp2_with fail
  refine (StkString.clear_nil w).mono ?_
  rintro e w' ⟨rfl, rfl⟩
  go_wp2_with fail
  refine (StkString.pop_nil w).mono ?_
  rintro e w' ⟨rfl, rfl⟩
  go_wp2_with fail
  refine (StkString.push_nil w _).mono ?_
  rintro e w' ⟨rfl, rfl⟩
  go_wp2_with fail
  refine (StkString.depth_nil w).mono ?_
  rintro e w' ⟨rfl, rfl⟩
  go_wp2_with fail
  refine (StkString.maxDepth_nil w).mono ?_
  rintro e w' ⟨rfl, rfl⟩
  go_wp2_with fail
  refine (StkString.all_nil w).mono ?_
  rintro e w' ⟨rfl, rfl⟩
  by_cases h1 : n < 1
  · have t0 : decide (n < 1) = true := by simp; omega
    go_wp2_with fail
    refine (StkInts.new_out w n (.inl h1)).mono ?_
    rintro e w' ⟨rfl, rfl⟩
    go_wp2_with fail
    refine (Alive05.alive w).mono ?_
    rintro e w' ⟨rfl, hb⟩
    have HB := Aside0.mk hb
    clear hb
    go_wp2_with fail
    go_ret
    exact ⟨rfl, HB.out⟩
  by_cases h2 : 4096 < n
  · have t0 : decide (n < 1) = false := by simp; omega
    have t1 : decide (n > 4096) = true := by simp; omega
    go_wp2_with fail
    refine (StkInts.new_out w n (.inr h2)).mono ?_
    rintro e w' ⟨rfl, rfl⟩
    go_wp2_with fail
    refine (Alive05.alive w).mono ?_
    rintro e w' ⟨rfl, hb⟩
    have HB := Aside0.mk hb
    clear hb
    go_wp2_with fail
    go_ret
    exact ⟨rfl, HB.out⟩
  have t0 : decide (n < 1) = false := by simp; omega
  have t1 : decide (n > 4096) = false := by simp; omega
  go_wp2_with fail
  refine (StkInts.new w n (by omega) (by omega) w.heap.size (Nat.le_refl _)).mono ?_
  rintro e w1 ⟨rfl, hs, hb, hz⟩
  have HS := Aside0.mk hs
  have HB := Aside0.mk hb
  clear hs hb hz
  go_wp2_with fail
  refine (Alive05.alive w1).mono ?_
  rintro e w2 ⟨rfl, hb⟩
  have HS2 := Aside0.mk (HS.out.below hb)
  have HB2 := Aside0.mk (HB.out.trans (hb.mono HB.out.size))
  clear hb
  go_wp2_with fail
  refine (StkInts.depth w2 _ _ _ _ _ _ HS2.out).mono ?_
  rintro e w3 ⟨rfl, rfl⟩
  go_wp2_with fail
  refine (StkInts.push _ w.heap.size w.heap.size (.slice none 0 0) [] n.toNat 0 (⟨w2.heap.size, 0, none⟩, 1, 1) (HS2.out.below ((Below.refl _ _).alloc (Nat.le_refl _) _)) (by simp; omega)).mono ?_
  rintro e w3 ⟨rfl, v', h3, hc, _⟩
  have hb3 := after_push HB2.out hc HS2.out.foot_base
  have HB3 := Aside0.mk hb3
  clear hb3 h3 hc
  go_wp2_with fail
  go_ret
  exact ⟨rfl, HB3.out⟩
end Go.Proofs.Ytjafjahafbkfiaa.Nil05
