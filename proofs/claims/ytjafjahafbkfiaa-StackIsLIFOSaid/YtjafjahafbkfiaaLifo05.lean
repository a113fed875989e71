/- StackIsLIFO, walked. -/
import Derived.Test.YtjafjahafbkfiaaAlive05
import Derived.Test.YtjafjahafbkfiaaStkUint16
import Derived.Test.YtjafjahafbkfiaaOpen
import Derived.Deep.LoopGhost
namespace Go.Proofs.Ytjafjahafbkfiaa.Lifo05
open Go.RowKit Go.Proofs.YtjafjahafbkfiaaW.PrintWords Go.Proofs.YtjafjahafbkfiaaW.PrintMore Go.Proofs.YtjafjahafbkfiaaW.PrintLast Go.Proofs.Ytjafjahafbkfiaa.Chg Go.Proofs.Ytjafjahafbkfiaa.StkUint16 Go.Proofs.Ytjafjahafbkfiaa.Open
set_option linter.unusedVariables false
set_option linter.unusedSimpArgs false
set_option maxHeartbeats 1000000 in
set_option maxRecDepth 100000 in
theorem walk (w : World) (A0 : Option Addr) (c0 : Nat) (l : List Int) (hl : l.length ≤ c0) (hC : Kd.C (Kd.int .u16) w A0 l.length l) (hQ : SlQ (fun n => (Lit.int .u16 n).wf = true) l) :
    Calls Try.prog 4 #[.slice A0 l.length c0] w fun e w' => e = .returned (.bool true) ∧ Below w.heap.size w w' := by
  have hlen := Kd.C_max hC
  have HC := Aside0.mk hC
  clear hC hl hQ
  go_enter Try.func4, Try.ntmps4
  go_wp2_with fail
  refine (Now.new (Below.refl _ w) (Nat.le_refl _) 4096 (by omega) (by omega)).mono ?_
  rintro e w1 ⟨rfl, h⟩
  have H1 := Aside0.mk h
  clear h
  go_wp2_with fail
  refine (Alive05.alive w1).mono ?_
  rintro e w2 ⟨rfl, hb⟩
  have H := Aside0.mk (H1.out.later hb)
  clear H1 hb
  by_cases hle : 300 < l.length
  · have t0 : decide ((l.length : Int) > 300) = true := by simp; omega
    go_wp2_with fail
    refine (Alive05.alive w2).mono ?_
    rintro e w3 ⟨rfl, hb⟩
    have H3 := Aside0.mk (H.out.later hb)
    clear hb
    go_wp2_with fail
    go_ret
    exact ⟨rfl, H3.out.below⟩
  have t0 : decide ((l.length : Int) > 300) = false := by simp; omega
  go_wp2_with fail
  go_loopw [34] (fun v w' => ∃ j : Nat, j ≤ l.length ∧ v = .int .i64 j ∧ Aside0 (Now w w' w.heap.size (l.take j) 4096 j)) (fun v _ => l.length - (intOf v).toNat)
  case atStart => exact ⟨0, Nat.zero_le _, rfl, H⟩
  case round =>
    obtain ⟨j, hj, rfl, HJ⟩ := hrel
    clear H
    by_cases hlt : j < l.length
    · obtain ⟨ad, rfl, hx⟩ := Kd.at_int (Kd.C_below HC.out HJ.out.below) (j : Int) (by omega) (by omega)
      rw [Int.toNat_natCast] at hx
      obtain ⟨x, hxe⟩ : ∃ x, x = rd l (j : Int) := ⟨_, rfl⟩
      rw [← hxe] at hx
      have HX := Aside0.mk hxe
      clear hxe
      have hl : (l.take j).length = j := by rw [List.length_take]; omega
      have HL := Aside0.mk hl
      clear hl
      go_wp2_with fail
      refine (HJ.out.push x (by rw [HL.out]; omega)).mono ?_
      rintro e w4 ⟨rfl, h⟩
      have e1 : l.take j ++ [x] = l.take (j + 1) := by
        rw [List.take_succ_eq_append_getElem hlt, HX.out]
        simp [rd, List.getD_eq_getElem?_getD, List.getElem?_eq_getElem hlt]
      rw [HL.out, Nat.max_eq_right (Nat.le_succ j), e1] at h
      have H := Aside0.mk h
      clear h e1
      go_wp2_with fail
      refine (H.out.depth).mono ?_
      rintro e w5 ⟨rfl, rfl⟩
      have e2 : ((l.take (j + 1)).length : Int) = (j : Int) + 1 := by rw [List.length_take]; omega
      rw [e2]
      clear e2 hx
      go_wp2_with fail
      refine (H.out.all).mono ?_
      rintro e w5 ⟨v1, rfl, hr, h, hb⟩
      obtain ⟨A1, c1, rfl, _, _⟩ := Kd.R_reads hr
      have e2 : (l.take (j + 1)).length = j + 1 := by rw [List.length_take]; omega
      rw [e2] at hr
      rw [e2]
      have HR := Aside0.mk hr
      have HB := Aside0.mk hb
      clear h hr hb e2
      go_wp2_with fail
      obtain ⟨wo, rfl⟩ : ∃ wo : World, wo = wr := ⟨_, rfl⟩
      go_loopw [54] (fun v w' => ∃ (i : Nat) (ys : List Int), i ≤ j + 1 ∧ v = .int .i64 i ∧ Aside0 (ys.length = j + 1) ∧ Aside0 (Kd.R (Kd.int .u16) 36 w' w4.heap.size (fun _ => True) (.slice A1 (j + 1) c1) ys) ∧ Aside0 (Below w4.heap.size w4 w')) (fun v _ => j + 1 - (intOf v).toNat)
      case atStart => exact ⟨0, _, Nat.zero_le _, rfl, ⟨by rw [List.length_take]; omega⟩, HR, HB⟩
      case round =>
        clear HR HB
        obtain ⟨i, ys, hi, rfl, HY, HR, HB⟩ := hrel
        by_cases hlt2 : i < j + 1
        · obtain ⟨g1, c1', e1, gb, gl, cells, HG⟩ := Kd.R_form HR.out (by rw [HY.out]; omega)
          injection e1 with ea en ec
          subst ea ec
          obtain ⟨hx, hf⟩ := Kd.R_celln (0 : Int) HR.out (i : Int) (by omega) (by omega)
          rw [Int.toNat_natCast] at hx hf
          obtain ⟨y, hy⟩ : ∃ y, y = rdOf (0 : Int) ys (i : Int) := ⟨_, rfl⟩
          rw [← hy] at hx
          have GB := Aside0.mk gb
          clear hy en gb gl HG
          go_wp2_with fail
          have hp := (Kd.R_putg HR.out (i : Int) (IntKind.u16.wrap (y + 1))).1
          rw [Int.toNat_natCast] at hp
          go_roundw
          case rel => exact ⟨i + 1, ys.set i (IntKind.u16.wrap (y + 1)), hlt2, by go_num, ⟨by rw [List.length_set]; exact HY.out⟩, ⟨hp⟩, ⟨below_set HB.out GB.out⟩⟩
          case measure => simp [intOf]; omega
        · obtain rfl : i = j + 1 := by omega
          go_wp2_with fail
          go_roundw
          case rel => exact ⟨j + 1, hlt, by go_num, ⟨H.out.later HB.out⟩⟩
          case measure => simp [intOf]; omega
    · obtain rfl : j = l.length := by omega
      go_wp2_with fail
      rw [List.take_length] at HJ
      obtain ⟨wo, rfl⟩ : ∃ wo : World, wo = wr := ⟨_, rfl⟩
      go_loopw [67] (fun v w' => ∃ j : Nat, j ≤ l.length ∧ v = .int .i64 j ∧ Aside0 (Now w w' w.heap.size (l.take (l.length - j)) 4096 l.length)) (fun v _ => l.length - (intOf v).toNat)
      case atStart => exact ⟨0, Nat.zero_le _, rfl, ⟨by rw [Nat.sub_zero, List.take_length]; exact HJ.out⟩⟩
      case round =>
        clear HJ
        obtain ⟨j, hj, rfl, HJ⟩ := hrel
        by_cases hlt3 : j < l.length
        · have h1 : l.length - 1 - j < l.length := by omega
          have ei : ((l.length : Int) - 1 - (j : Int)) = ((l.length - 1 - j : Nat) : Int) := by omega
          obtain ⟨ad, rfl, hx⟩ := Kd.at_int HC.out ((l.length - 1 - j : Nat) : Int) (by omega) (by omega)
          obtain ⟨x, hxe⟩ : ∃ x, x = rd l ((l.length - 1 - j : Nat) : Int) := ⟨_, rfl⟩
          rw [← hxe, Int.toNat_natCast] at hx
          have HX : Aside0 (∀ W, Below w.heap.size w W → W.cell? (ad.add (l.length - 1 - j)) = some (.int .u16 x)) := ⟨fun W hb => (hb.cell (World.block_lt_of_cell? w _ hx)).trans hx⟩
          have e1 : l.take (l.length - j) = l.take (l.length - (j + 1)) ++ [x] := by
            have h2 : l.length - j = l.length - 1 - j + 1 := by omega
            have h3 : l.length - (j + 1) = l.length - 1 - j := by omega
            rw [h2, h3, List.take_succ_eq_append_getElem h1, hxe]
            simp [rd, List.getD_eq_getElem?_getD, List.getElem?_eq_getElem h1]
          have HJ2 : Aside0 (Now w wr w.heap.size (l.take (l.length - (j + 1)) ++ [x]) 4096 l.length) := ⟨by rw [← e1]; exact HJ.out⟩
          clear ei hxe e1 HJ hx h1
          go_wp2_with fail
          refine (HJ2.out.pop).mono ?_
          rintro e w4 ⟨rfl, h⟩
          have H := Aside0.mk h
          have hx4 := HX.out w4 h.below
          clear h
          go_wp2_with fail
          go_roundw
          case rel => exact ⟨j + 1, hlt3, by go_num, H⟩
          case measure => simp [intOf]; omega
        · obtain rfl : j = l.length := by omega
          rw [Nat.sub_self, List.take_zero] at HJ
          go_wp2_with fail
          refine (HJ.out.depth).mono ?_
          rintro e w4 ⟨rfl, rfl⟩
          go_wp2_with fail
          refine (HJ.out.maxDepth).mono ?_
          rintro e w4 ⟨rfl, rfl⟩
          go_wp2_with fail
          go_ret
          exact ⟨rfl, HJ.out.below⟩
end Go.Proofs.Ytjafjahafbkfiaa.Lifo05
