/- StackClear, walked. -/
import Derived.Test.YtjafjahafbkfiaaAlive05
import Derived.Test.YtjafjahafbkfiaaStkInt16
import Derived.Test.YtjafjahafbkfiaaOpen
import Derived.Deep.LoopGhost
namespace Go.Proofs.Ytjafjahafbkfiaa.Clr05
open Go.RowKit Go.Proofs.YtjafjahafbkfiaaW.PrintWords Go.Proofs.YtjafjahafbkfiaaW.PrintMore Go.Proofs.YtjafjahafbkfiaaW.PrintLast Go.Proofs.Ytjafjahafbkfiaa.Chg Go.Proofs.Ytjafjahafbkfiaa.StkInt16 Go.Proofs.Ytjafjahafbkfiaa.Open
attribute [local go_sem] max2_int min2_int max_two min_two max_three min_three max_four min_four
set_option linter.unusedVariables false
set_option linter.unusedSimpArgs false
/-- An element of a slice that came in, at every later world. -/
theorem elem {w : World} {A : Option Addr} {l : List Int} (hC : Kd.C (Kd.int .i16) w A l.length l) (j : Nat) (hj : j < l.length) : ∃ ad, A = some ad ∧ ∀ W, Below w.heap.size w W → W.cell? (ad.add j) = some (.int .i16 l[j]) := by
  obtain ⟨ad, rfl, hx⟩ := Kd.at_int hC (j : Int) (by omega) (by omega)
  have e : rd l (j : Int) = l[j] := by simp [rd, List.getD_eq_getElem?_getD, List.getElem?_eq_getElem hj]
  rw [e, Int.toNat_natCast] at hx
  exact ⟨ad, rfl, fun W hb => (hb.cell (World.block_lt_of_cell? w _ hx)).trans hx⟩
set_option maxHeartbeats 2000000 in
set_option maxRecDepth 100000 in
theorem walk (w : World) (A0 : Option Addr) (c0 : Nat) (l : List Int) (hl : l.length ≤ c0) (hC : Kd.C (Kd.int .i16) w A0 l.length l) (hQ : SlQ (fun n => (Lit.int .i16 n).wf = true) l)
    (A1 : Option Addr) (c1 : Nat) (m : List Int) (hl1 : m.length ≤ c1) (hC1 : Kd.C (Kd.int .i16) w A1 m.length m) (hQ1 : SlQ (fun n => (Lit.int .i16 n).wf = true) m) :
    Calls Try.prog 7 #[.slice A0 l.length c0, .slice A1 m.length c1] w fun e w' => e = .returned (.bool true) ∧ Below w.heap.size w w' := by
  have hlen := Kd.C_max hC
  have hlen1 := Kd.C_max hC1
  have HC := Aside0.mk hC
  have HC1 := Aside0.mk hC1
  clear hC hl hQ hC1 hl1 hQ1
  go_enter Try.func7, Try.ntmps7
  go_wp2_with fail
  refine (Now.new (Below.refl _ w) (Nat.le_refl _) 4096 (by omega) (by omega)).mono ?_
  rintro e w1 ⟨rfl, h⟩
  have H1 := Aside0.mk h
  clear h
  go_wp2_with fail
  refine (Alive05.alive w1).mono ?_
  rintro e w2 ⟨rfl, hb⟩
  have H := Aside0.mk (H1.out.later hb)
  clear H1 hb
  by_cases hle : 200 < l.length
  · have t0 : decide ((l.length : Int) > 200) = true := by simp; omega
    go_wp2_with fail
    refine (Alive05.alive w2).mono ?_
    rintro e w3 ⟨rfl, hb⟩
    have H3 := Aside0.mk (H.out.later hb)
    clear hb
    go_wp2_with fail
    go_ret
    exact ⟨rfl, H3.out.below⟩
  have t0 : decide ((l.length : Int) > 200) = false := by simp; omega
  by_cases hle1 : 200 < m.length
  · have t1 : decide ((m.length : Int) > 200) = true := by simp; omega
    go_wp2_with fail
    refine (Alive05.alive w2).mono ?_
    rintro e w3 ⟨rfl, hb⟩
    have H3 := Aside0.mk (H.out.later hb)
    clear hb
    go_wp2_with fail
    go_ret
    exact ⟨rfl, H3.out.below⟩
  have t1 : decide ((m.length : Int) > 200) = false := by simp; omega
  go_wp2_with fail
  go_loopw [42] (fun v w' => ∃ j : Nat, j ≤ l.length ∧ v = .int .i64 j ∧ Aside0 (Now w w' w.heap.size (l.take j) 4096 j)) (fun v _ => l.length - (intOf v).toNat)
  case atStart => exact ⟨0, Nat.zero_le _, rfl, H⟩
  case round =>
    obtain ⟨j, hj, rfl, HJ⟩ := hrel
    clear H
    by_cases hlt : j < l.length
    · obtain ⟨ad, rfl, hxx⟩ := elem HC.out j hlt
      have hx := hxx wr HJ.out.below
      obtain ⟨x, hxe⟩ : ∃ x, x = l[j] := ⟨_, rfl⟩
      rw [← hxe] at hx
      have HX := Aside0.mk hxe
      clear hxe hxx
      have hl : (l.take j).length = j := by rw [List.length_take]; omega
      have HL := Aside0.mk hl
      clear hl
      go_wp2_with fail
      refine (HJ.out.push x (by rw [HL.out]; omega)).mono ?_
      rintro e w4 ⟨rfl, h⟩
      have e1 : l.take j ++ [x] = l.take (j + 1) := by rw [List.take_succ_eq_append_getElem hlt, HX.out]
      rw [HL.out, Nat.max_eq_right (Nat.le_succ j), e1] at h
      have H := Aside0.mk h
      clear h e1
      go_wp2_with fail
      go_roundw
      case rel => exact ⟨j + 1, hlt, by go_num, H⟩
      case measure => simp [intOf]; omega
    · obtain rfl : j = l.length := by omega
      go_wp2_with fail
      refine (HJ.out.clear).mono ?_
      rintro e w4 ⟨rfl, h⟩
      clear HJ
      have H := Aside0.mk h
      clear h
      go_wp2_with fail
      refine (H.out.pop_empty).mono ?_
      rintro e w5 ⟨rfl, h⟩
      clear H
      have H := Aside0.mk h
      clear h
      go_wp2_with fail
      refine (H.out.depth).mono ?_
      rintro e w6 ⟨rfl, rfl⟩
      go_wp2_with fail
      obtain ⟨wo, rfl⟩ : ∃ wo : World, wo = wr := ⟨_, rfl⟩
      go_loopw [66] (fun v w' => ∃ j : Nat, j ≤ m.length ∧ v = .int .i64 j ∧ Aside0 (Now w w' w.heap.size (m.take j) 4096 (max l.length j))) (fun v _ => m.length - (intOf v).toNat)
      case atStart => exact ⟨0, Nat.zero_le _, rfl, ⟨by rw [Nat.max_eq_left (Nat.zero_le _)]; exact H.out⟩⟩
      case round =>
        obtain ⟨j, hj, rfl, HJ⟩ := hrel
        clear H
        by_cases hlt : j < m.length
        · obtain ⟨ad, rfl, hxx⟩ := elem HC1.out j hlt
          have hx := hxx wr HJ.out.below
          obtain ⟨x, hxe⟩ : ∃ x, x = m[j] := ⟨_, rfl⟩
          rw [← hxe] at hx
          have HX := Aside0.mk hxe
          clear hxe hxx
          have hl : (m.take j).length = j := by rw [List.length_take]; omega
          have HL := Aside0.mk hl
          clear hl
          go_wp2_with fail
          refine (HJ.out.push x (by rw [HL.out]; omega)).mono ?_
          rintro e w4 ⟨rfl, h⟩
          have e1 : m.take j ++ [x] = m.take (j + 1) := by rw [List.take_succ_eq_append_getElem hlt, HX.out]
          have e2 : max (max l.length j) (j + 1) = max l.length (j + 1) := by omega
          rw [HL.out, e2, e1] at h
          have H := Aside0.mk h
          clear h e1 e2
          go_wp2_with fail
          go_roundw
          case rel => exact ⟨j + 1, hlt, by go_num, H⟩
          case measure => simp [intOf]; omega
        · obtain rfl : j = m.length := by omega
          rw [List.take_length] at HJ
          go_wp2_with fail
          refine (HJ.out.all).mono ?_
          rintro e w5 ⟨v1, rfl, hr, h, hb⟩
          obtain ⟨A2, c2, rfl, _, hC2⟩ := Kd.R_reads hr
          have H := Aside0.mk h
          have HC2 := Aside0.mk hC2
          clear h hr hb hC2
          have t2 : ((m.length : Int) != (m.length : Int)) = false := bne_self_eq_false _
          by_cases hlm : l.length < m.length
          all_goals
            first
            | (have hM : max l.length m.length = m.length := by omega
               rw [hM] at H)
            | (have hM : max l.length m.length = l.length := by omega
               rw [hM] at H)
            clear hM
            have t3 : ((l.length : Int) != (l.length : Int)) = false := bne_self_eq_false _
            go_wp2_with fail
            refine (H.out.maxDepth).mono ?_
            rintro e w6 ⟨rfl, rfl⟩
            go_wp2_with fail
            go_loopw [93] (fun v w' => ∃ j : Nat, j ≤ m.length ∧ v = .int .i64 j ∧ Aside0 (Below w5.heap.size w5 w')) (fun v _ => m.length - (intOf v).toNat)
            case atStart => exact ⟨0, Nat.zero_le _, rfl, ⟨Below.refl _ _⟩⟩
            case round =>
              obtain ⟨j, hj, rfl, HB⟩ := hrel
              by_cases hlt : j < m.length
              · obtain ⟨ad, rfl, hxx⟩ := elem HC1.out j hlt
                have hx := hxx wr (H.out.later HB.out).below
                obtain ⟨ad2, rfl, hxx2⟩ := elem HC2.out j hlt
                have hx2 := hxx2 wr HB.out
                obtain ⟨x, hxe⟩ : ∃ x, x = m[j] := ⟨_, rfl⟩
                rw [← hxe] at hx hx2
                have t4 : (x != x) = false := bne_self_eq_false _
                clear hxe hxx hxx2
                go_wp2_with fail
                go_quiet (fail)
                go_wp2_with fail
                go_roundw
                case rel => exact ⟨j + 1, hlt, by go_num, ⟨pw_below_drewN HB.out _⟩⟩
                case measure => simp [intOf]; omega
              · obtain rfl : j = m.length := by omega
                go_wp2_with fail
                go_ret
                exact ⟨rfl, (H.out.later HB.out).below⟩
end Go.Proofs.Ytjafjahafbkfiaa.Clr05
