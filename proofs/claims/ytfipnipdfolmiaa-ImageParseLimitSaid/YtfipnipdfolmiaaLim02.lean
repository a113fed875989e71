/- ImageParseLimit, walked. -/
import Derived.Test.YtfipnipdfolmiaaRt02
import Derived.Test.YtfipnipdfolmiaaShelf
namespace Go.Proofs.Ytfipnipdfolmiaa.Lim02
open Go.RowKit Go.Proofs.YtfipnipdfolmiaaW.PrintWords Go.Proofs.YtfipnipdfolmiaaW.PrintMore Go.Proofs.Ytfipnipdfolmiaa.Open Go.Proofs.Ytfipnipdfolmiaa.Impl Go.Proofs.Ytfipnipdfolmiaa.Pimg Go.Proofs.Ytfipnipdfolmiaa.Plaw Go.Proofs.Ytfipnipdfolmiaa.Rt02
set_option linter.unusedVariables false
set_option linter.unusedSimpArgs false
theorem count (w : World) (A : Option Addr) (c : Nat) (l : List Bool) (hC : Kd.C Kd.bool w A l.length l) (hc : l.length ≤ c) :
    Calls Try.prog 11 #[.slice A l.length c] w fun e w' => e = .returned (.int .i64 (cnt l : Int)) ∧ Drawn0 w w' := by
  obtain ⟨k, h⟩ := (count_ev l (Kd.C_max hC)).rounds
  exact image_Count.calls k A c l _ w hC hc h
def ones (n : Nat) : List UInt8 := Lib.repeatL [49] n
theorem ones_eq (n : Nat) : ones n = List.replicate n 49 := by
  unfold ones
  induction n with
  | zero => rfl
  | succ n ih => rw [Lib.repeatL, ih, List.replicate_succ]; rfl
theorem parsed_ones (n : Nat) (h : n ≤ 16384) (h2 : 2 ≤ n) : parsed (ones n) = (List.replicate n true, 0) := by
  rw [ones_eq]
  unfold parsed
  rw [List.length_replicate, if_neg (by omega), if_neg ?_, if_neg ?_]
  · have hb : isBits (List.replicate n 49) = true := by
      unfold isBits
      rw [List.all_eq_true]
      intro c hc
      rw [(List.mem_replicate.1 hc).2]
      rfl
    rw [if_pos hb]
    unfold bitsOf
    rw [List.map_replicate]
    rfl
  · intro e
    have := congrArg List.length e
    simp at this
    omega
  · intro e
    have := congrArg List.length e
    simp at this
    omega
theorem parsed_long (n : Nat) (h : 16384 < n) : parsed (ones n) = ([], 7) := by
  rw [ones_eq]
  unfold parsed
  rw [List.length_replicate, if_pos h]
theorem cnt_ones (n : Nat) : cnt (List.replicate n true) = n := by
  unfold cnt
  rw [List.countP_replicate]
  rfl
set_option maxHeartbeats 2000000 in
set_option maxRecDepth 100000 in
theorem walk (w : World) (m : Int) (hm : (Lit.int .u8 m).wf = true) :
    Calls Try.prog 9 #[.int .u8 m] w fun e w' => e = .returned (.bool true) ∧ Below w.heap.size w w' := by
  have hb : 0 ≤ m ∧ m ≤ 255 := by
    simp [Lit.wf, IntKind.min, IntKind.max, IntKind.signed, IntKind.bits] at hm
    omega
  obtain ⟨m, rfl⟩ := Int.eq_ofNat_of_zero_le hb.1
  have hm1 := hb.2
  clear hm hb
  go_enter Try.func9, Try.ntmps9
  go_wp2_with fail
  obtain ⟨N, hN, hN1, hN2⟩ : ∃ N : Nat, 16383 + (m : Int) % 3 = (N : Int) ∧ 16383 ≤ N ∧ N ≤ 16385 := ⟨16383 + m % 3, by omega, by omega, by omega⟩
  rw [hN]
  clear hN hm1
  refine (Try.strings_Repeat ⟨#[49]⟩ N w (by omega) (by show 1 * N ≤ _; omega)).mono ?_
  rintro e w1 ⟨rfl, hb⟩
  have HB1 := Aside0.mk hb
  clear hb
  show _
  go_wp2_with fail
  refine (parse w1 ⟨(ones N).toArray⟩).mono ?_
  rw [show (⟨(ones N).toArray⟩ : ByteArray).data.toList = ones N from rfl]
  by_cases hbig : 16384 < N
  · rw [parsed_long N hbig]
    rintro e w2 ⟨v, rfl, hr, hb⟩
    have HB2 := Aside0.mk (HB1.out.trans (hb.mono HB1.out.size))
    obtain ⟨A2, c2, rfl, hc2, hC2⟩ := Kd.R_reads hr
    have t0 : decide ((N : Int) > 16384) = true := by simp; omega
    clear hr hb hc2 hC2
    go_wp2_with fail
    refine (alive w2).mono ?_
    rintro e w3 ⟨rfl, hb⟩
    have HB3 := Aside0.mk (HB2.out.trans (hb.mono HB2.out.size))
    clear hb
    go_wp2_with fail
    go_ret
    exact ⟨rfl, HB3.out⟩
  · rw [parsed_ones N (by omega) (by omega)]
    rintro e w2 ⟨v, rfl, hr, hb⟩
    have HB2 := Aside0.mk (HB1.out.trans (hb.mono HB1.out.size))
    obtain ⟨A2, c2, rfl, hc2, hC2⟩ := Kd.R_reads hr
    obtain ⟨L, hL⟩ : ∃ L, L = List.replicate N true := ⟨_, rfl⟩
    have hLl : L.length = N := by rw [hL, List.length_replicate]
    have hLc : cnt L = N := by rw [hL, cnt_ones]
    rw [← hL] at hc2 hC2
    rw [← hL]
    have t0 : decide ((N : Int) > 16384) = false := by simp; omega
    have HCL := Aside0.mk hC2
    have HLL := Aside0.mk hLl
    have HLC := Aside0.mk hLc
    have HCC := Aside0.mk hc2
    rw [hLl] at hc2
    rw [hLl]
    clear hr hb hL hLl hLc hC2
    go_wp2_with fail
    refine (alive w2).mono ?_
    rintro e w3 ⟨rfl, hb⟩
    have HB3 := Aside0.mk (HB2.out.trans (hb.mono HB2.out.size))
    have hk := count w3 A2 c2 L (Kd.C_below HCL.out hb) HCC.out
    rw [HLL.out, HLC.out] at hk
    have HK := Aside0.mk hk
    clear hb hk
    go_wp2_with fail
    refine HK.out.mono ?_
    rintro e w4 ⟨rfl, hd⟩
    obtain ⟨n4, rfl⟩ := hd.out
    go_wp2_with fail
    go_ret
    exact ⟨rfl, pw_below_drewN HB3.out _⟩
end Go.Proofs.Ytfipnipdfolmiaa.Lim02
