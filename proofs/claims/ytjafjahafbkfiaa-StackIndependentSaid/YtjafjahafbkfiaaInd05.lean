/- StackIndependent, walked. -/
import Derived.Test.YtjafjahafbkfiaaAlive05
import Derived.Test.YtjafjahafbkfiaaOpen
import Derived.Deep.LoopGhost
namespace Go.Proofs.Ytjafjahafbkfiaa.Ind05
open Go.RowKit Go.Proofs.YtjafjahafbkfiaaW.PrintWords Go.Proofs.YtjafjahafbkfiaaW.PrintMore Go.Proofs.YtjafjahafbkfiaaW.PrintLast Go.Proofs.Ytjafjahafbkfiaa.Chg Go.Proofs.Ytjafjahafbkfiaa.StkInt
set_option linter.unusedVariables false
set_option linter.unusedSimpArgs false
/-- Seen from w0: two stacks; the second has been left alone. -/
structure Two (w0 w : World) (g g' : Nat) (xs : List Int) (mx most : Nat) : Prop where
  a : ∃ v, St w w0.heap.size g v xs mx most
  b : St w w0.heap.size g' (.slice none 0 0) [] mx 0
  ne : g' ≠ g
  below : Below w0.heap.size w0 w
section
variable {w0 w w' : World} {g g' mx most : Nat} {xs : List Int}
theorem Two.next {most' : Nat} {xs' : List Int} {v v' : Value} (h : Two w0 w g g' xs mx most) (hv : St w w0.heap.size g v xs mx most) (h' : St w' w0.heap.size g v' xs' mx most') (hc : Chg (foot g v) w w') : Two w0 w' g g' xs' mx most' :=
  ⟨⟨_, h'⟩, h.b.chg hc (by
    rintro (e | e)
    · exact h.ne e
    · exact row_ne hv.row h.b.blk (by decide) e) (fun k hk => absurd hk (by simp [own, Value.ownBlock])), h.ne, hc.below h.below hv.foot_base hv.hbase⟩
theorem Two.later (h : Two w0 w g g' xs mx most) (hb : Below w.heap.size w w') : Two w0 w' g g' xs mx most := by
  obtain ⟨v, h1⟩ := h.a
  exact ⟨⟨v, h1.below hb⟩, h.b.below hb, h.ne, h.below.trans (hb.mono h1.hbase)⟩
theorem Two.push (h : Two w0 w g g' xs mx most) (x : Int) (hlt : xs.length < mx) :
    Calls Try.prog 10 #[.pointer (some ⟨g, 0, none⟩), .int .i64 x] w fun e w' => e = .returned (.int .i64 0) ∧ Two w0 w' g g' (xs ++ [x]) mx (max most (xs.length + 1)) := by
  obtain ⟨v, h1⟩ := h.a
  exact (StkInt.push w _ g v xs mx most x h1 hlt).mono fun e w' ⟨he, v', h2, hc, _⟩ => ⟨he, h.next h1 h2 hc⟩
theorem Two.push_full (h : Two w0 w g g' xs mx most) (x : Int) (hlt : xs.length = mx) :
    Calls Try.prog 10 #[.pointer (some ⟨g, 0, none⟩), .int .i64 x] w fun e w' => e = .returned (.int .i64 10) ∧ Two w0 w' g g' xs mx most := by
  obtain ⟨v, h1⟩ := h.a
  exact (StkInt.push_full w _ g v xs mx most x h1 hlt).mono fun e w' ⟨he, hd⟩ => by
    obtain ⟨n, rfl⟩ := hd.out
    exact ⟨he, h.later (pw_below_drewN (Below.refl _ _) _)⟩
theorem Two.pop {y : Int} (h : Two w0 w g g' (xs ++ [y]) mx most) :
    Calls Try.prog 12 #[.pointer (some ⟨g, 0, none⟩)] w fun e w' => e = .returned (.tuple #[.int .i64 y, .int .i64 0]) ∧ Two w0 w' g g' xs mx most := by
  obtain ⟨v, h1⟩ := h.a
  exact (StkInt.pop w _ g v xs y mx most h1).mono fun e w' ⟨he, v', h2, hc, _⟩ => ⟨he, h.next h1 h2 hc⟩
theorem Two.depth (h : Two w0 w g g' xs mx most) : Calls Try.prog 11 #[.pointer (some ⟨g, 0, none⟩)] w fun e w' => e = .returned (.int .i64 (xs.length : Int)) ∧ w = w' := by
  obtain ⟨v, h1⟩ := h.a
  exact StkInt.depth w _ g v xs mx most h1
theorem Two.maxDepth (h : Two w0 w g g' xs mx most) : Calls Try.prog 13 #[.pointer (some ⟨g, 0, none⟩)] w fun e w' => e = .returned (.int .i64 (most : Int)) ∧ w = w' := by
  obtain ⟨v, h1⟩ := h.a
  exact StkInt.maxDepth w _ g v xs mx most h1
end
set_option maxHeartbeats 1000000 in
set_option maxRecDepth 100000 in
theorem walk (w : World) (n : Int) (hn : (Lit.int .u8 n).wf = true) (x : Int) (hx : (Lit.int .i64 x).wf = true) (y : Int) (hy : (Lit.int .i64 y).wf = true) :
    Calls Try.prog 3 #[.int .u8 n, .int .i64 x, .int .i64 y] w fun e w' => e = .returned (.bool true) ∧ Below w.heap.size w w' := by
  have hb : 0 ≤ n ∧ n ≤ 255 := by
    simp [Lit.wf, IntKind.min, IntKind.max, IntKind.signed, IntKind.bits] at hn
    omega
  obtain ⟨m, rfl⟩ := Int.eq_ofNat_of_zero_le hb.1
  have hm0 := hb.1
  have hm := hb.2
  clear hn hx hy hb
  go_enter Try.func3, Try.ntmps3
  go_wp2_with fail
  obtain ⟨k, hk, hk1, hk40⟩ : ∃ k : Nat, 1 + (m : Int) % 40 = (k : Int) ∧ 1 ≤ k ∧ k ≤ 40 := ⟨m % 40 + 1, by omega, by omega, by omega⟩
  rw [hk]
  clear hk hm0 hm
  refine (Now.new (Below.refl _ w) (Nat.le_refl _) (k : Int) (by omega) (by omega)).mono ?_
  rintro e w1 ⟨rfl, h⟩
  rw [Int.toNat_natCast] at h
  have H := Aside0.mk h
  clear h
  go_wp2_with fail
  have hs1 : w.heap.size ≤ w1.heap.size := H.out.below.size
  refine (StkInt.new w1 (k : Int) (by omega) (by omega) w.heap.size hs1).mono ?_
  rintro e w2 ⟨rfl, hst, hb2, hz2⟩
  rw [Int.toNat_natCast] at hst
  have HT : Aside0 (Two w w2 w.heap.size w1.heap.size [] k 0) := by
    obtain ⟨⟨v, h1⟩, hb1⟩ := H.out
    exact ⟨⟨v, h1.below hb2⟩, hst, fun e => by have := h1.blk.lt; omega, hb1.trans (hb2.mono h1.hbase)⟩
  clear H hst hb2 hz2
  obtain ⟨g', hg'⟩ : ∃ g' : Nat, g' = w1.heap.size := ⟨_, rfl⟩
  rw [← hg'] at HT
  rw [← hg']
  clear hg' hs1
  go_wp2_with fail
  refine (Alive05.alive w2).mono ?_
  rintro e w3 ⟨rfl, hb⟩
  have H := Aside0.mk (HT.out.later hb)
  clear HT hb
  go_wp2_with fail
  go_loopw [49] (fun v w' => ∃ j : Nat, j ≤ k ∧ v = .int .i64 j ∧ Aside0 (Two w w' w.heap.size g' (List.replicate j x) k j)) (fun v _ => k - (intOf v).toNat)
  case atStart => exact ⟨0, Nat.zero_le _, rfl, H⟩
  case round =>
    obtain ⟨j, hj, rfl, HJ⟩ := hrel
    clear H
    by_cases hlt : j < k
    · have hl : (List.replicate j x).length < k := by rw [List.length_replicate]; exact hlt
      have HL := Aside0.mk hl
      clear hl
      go_wp2_with fail
      refine (HJ.out.push x HL.out).mono ?_
      rintro e w4 ⟨rfl, h⟩
      rw [List.length_replicate, Nat.max_eq_right (Nat.le_succ j), ← List.replicate_succ'] at h
      have H := Aside0.mk h
      clear h
      go_wp2_with fail
      go_roundw
      case rel => exact ⟨j + 1, hlt, by go_num, H⟩
      case measure => simp [intOf]; omega
    · obtain rfl : j = k := by omega
      go_wp2_with fail
      have hl : (List.replicate j x).length = j := List.length_replicate
      refine (HJ.out.push_full y hl).mono ?_
      rintro e w4 ⟨rfl, h⟩
      have H := Aside0.mk h
      clear h
      go_wp2_with fail
      refine (StkInt.depth w4 _ g' _ [] j 0 H.out.b).mono ?_
      rintro e w5 ⟨rfl, rfl⟩
      go_wp2_with fail
      obtain ⟨i, rfl⟩ : ∃ i, j = i + 1 := ⟨j - 1, by omega⟩
      rw [List.replicate_succ'] at H
      refine (H.out.pop).mono ?_
      rintro e w5 ⟨rfl, h⟩
      have H5 := Aside0.mk h
      clear h
      go_wp2_with fail
      refine (H5.out.push y (by rw [List.length_replicate]; omega)).mono ?_
      rintro e w6 ⟨rfl, h⟩
      have H6 := Aside0.mk h
      clear h
      go_wp2_with fail
      refine (H6.out.pop).mono ?_
      rintro e w7 ⟨rfl, h⟩
      have H7 := Aside0.mk h
      clear h
      go_wp2_with fail
      refine (H7.out.depth).mono ?_
      rintro e w8 ⟨rfl, rfl⟩
      go_wp2_with fail
      refine (H7.out.maxDepth).mono ?_
      rintro e w8 ⟨rfl, rfl⟩
      rw [List.length_replicate, Nat.max_eq_left (Nat.le_refl _)]
      go_wp2_with fail
      refine (StkInt.maxDepth w7 _ g' _ [] _ 0 H7.out.b).mono ?_
      rintro e w8 ⟨rfl, rfl⟩
      go_wp2_with fail
      go_ret
      exact ⟨rfl, H7.out.below⟩
end Go.Proofs.Ytjafjahafbkfiaa.Ind05
