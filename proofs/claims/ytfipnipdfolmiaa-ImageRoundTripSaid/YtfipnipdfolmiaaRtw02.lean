/- ImageRoundTrip, walked. -/
import Derived.Test.YtfipnipdfolmiaaRt02
import Derived.Deep.DeepCutAuto
import Derived.Deep.CutBlock
import Derived.Deep.LoopGhost
namespace Go.Proofs.Ytfipnipdfolmiaa.Rtw02
open Go.RowKit Go.Proofs.YtfipnipdfolmiaaW.PrintWords Go.Proofs.YtfipnipdfolmiaaW.PrintMore Go.Proofs.Ytfipnipdfolmiaa.Open Go.Proofs.Ytfipnipdfolmiaa.Impl Go.Proofs.Ytfipnipdfolmiaa.Pimg Go.Proofs.Ytfipnipdfolmiaa.Plaw Go.Proofs.Ytfipnipdfolmiaa.Rt02
set_option linter.unusedVariables false
set_option linter.unusedSimpArgs false
set_option maxHeartbeats 2000000 in
set_option maxRecDepth 100000 in
theorem walk (w : World) (A0 : Option Addr) (c0 : Nat) (a : List Bool) (w0 : a.length ≤ c0) (y0 : Kd.bool.C w A0 a.length a) (z0 : SlQ (fun _ => True) a)
    (A1 : Option Addr) (c1 : Nat) (b : List Bool) (w1 : b.length ≤ c1) (y1 : Kd.bool.C w A1 b.length b) (z1 : SlQ (fun _ => True) b) (t : ByteArray) (ht : t.size ≤ maxLen) :
    Calls Try.prog 8 #[.slice A0 a.length c0, .slice A1 b.length c1, .string t] w fun e w' => e = .returned (.bool true) ∧ Below w.heap.size w w' := by
  have HC0 := Aside0.mk y0
  have HC1 := Aside0.mk y1
  have HL0 := Aside0.mk w0
  have HL1 := Aside0.mk w1
  have hm0 := Kd.C_max y0
  have hm1 := Kd.C_max y1
  unfold maxLen at ht
  clear y0 y1 w0 w1 z0 z1
  by_cases ha : 2000 < a.length
  · have t0 : decide ((a.length : Int) > 2000) = true := by simp; omega
    go_enter Try.func8, Try.ntmps8
    go_wp2_with fail
    refine (alive w).mono ?_
    rintro e w2 ⟨rfl, hb⟩
    have HB := Aside0.mk hb
    clear hb
    go_wp2_with fail
    go_ret
    exact ⟨rfl, HB.out⟩
  have t0 : decide ((a.length : Int) > 2000) = false := by simp; omega
  by_cases hb : 2000 < b.length
  · have t1 : decide ((b.length : Int) > 2000) = true := by simp; omega
    go_enter Try.func8, Try.ntmps8
    go_wp2_with fail
    refine (alive w).mono ?_
    rintro e w2 ⟨rfl, hb⟩
    have HB := Aside0.mk hb
    clear hb
    go_wp2_with fail
    go_ret
    exact ⟨rfl, HB.out⟩
  have t1 : decide ((b.length : Int) > 2000) = false := by simp; omega
  by_cases hts : 2000 < t.size
  · have t2 : decide ((t.size : Int) > 2000) = true := by simp; omega
    go_enter Try.func8, Try.ntmps8
    go_wp2_with fail
    refine (alive w).mono ?_
    rintro e w2 ⟨rfl, hb⟩
    have HB := Aside0.mk hb
    clear hb
    go_wp2_with fail
    go_ret
    exact ⟨rfl, HB.out⟩
  have t2 : decide ((t.size : Int) > 2000) = false := by simp; omega
  have htl : t.data.toList.length ≤ 2000 := by rw [data_length]; omega
  go_enter Try.func8, Try.ntmps8
  go_wp2_with fail
  refine (format w A0 c0 a HC0.out HL0.out (by omega)).mono ?_
  rintro e w2 ⟨rfl, hb2⟩
  have HB2 := Aside0.mk hb2
  clear hb2
  go_wp2_with fail
  refine (parse w2 (fmtB a)).mono ?_
  rw [parsed_fmt a (by omega)]
  rintro e w3 ⟨v, rfl, hr, hb3⟩
  obtain ⟨A2, c2, rfl, hc2, hC2⟩ := Kd.R_reads hr
  have HB3 := Aside0.mk (HB2.out.trans (hb3.mono HB2.out.size))
  have HC2 := Aside0.mk hC2
  have HL2 := Aside0.mk hc2
  clear hr hb3 hC2 hc2 HB2
  go_wp2_with fail
  refine (equal w3 A2 c2 a HC2.out HL2.out A0 c0 a (Kd.C_below HC0.out HB3.out) HL0.out).mono ?_
  rintro e w4 ⟨rfl, hd⟩
  obtain ⟨n4, rfl⟩ := hd.out
  rw [decide_eq_true rfl]
  have HB4 := Aside0.mk (pw_below_drewN HB3.out n4)
  clear hd HC2 HL2 HB3
  go_wp2_with fail
  refine (parse (w3.drewN n4) t).mono ?_
  rintro e w5 ⟨v, rfl, hr, hb5⟩
  have HB5 := Aside0.mk (HB4.out.trans (hb5.mono HB4.out.size))
  obtain ⟨A3, c3, rfl, hc3, hC3⟩ := Kd.R_reads hr
  have HC3 := Aside0.mk hC3
  have HL3 := Aside0.mk hc3
  have hps := parsed_snd t.data.toList htl
  have hpl := parsed_len t.data.toList
  have hpf := fmt_parsed t.data.toList
  obtain ⟨p1, hp1⟩ : ∃ p1, p1 = (parsed t.data.toList).1 := ⟨_, rfl⟩
  obtain ⟨p2, hp2⟩ : ∃ p2, p2 = (parsed t.data.toList).2 := ⟨_, rfl⟩
  rw [← hp1] at HC3 HL3 hpl hpf
  rw [← hp2] at hps hpf
  rw [← hp1, ← hp2]
  have HPF := Aside0.mk hpf
  clear hr hb5 hC3 hc3 HB4 hp1 hp2 hpf
  go_upto_region 7 with (fail)
  go_cut [60] (fun v60 wc => v60 = .bool false ∧ Aside0 (Below w.heap.size w wc))
  case first =>
    rcases hps with rfl | rfl
    · go_wp2_with fail
      refine (format w5 A3 c3 p1 HC3.out HL3.out (by omega)).mono ?_
      rintro e w6 ⟨rfl, hb6⟩
      have HB6 := Aside0.mk (HB5.out.trans (hb6.mono HB5.out.size))
      have hq : (fmtB p1).toList = t.toList := by rw [fmtB_list, HPF.out (by first | rfl | trivial), ByteArray.toList_eq]
      have q0 : (!((fmtB p1).toList == t.toList)) = false := by rw [hq]; simp
      clear hq hb6
      go_wp2_with fail
      go_meet
      exact ⟨rfl, HB6⟩
    · go_wp2_with fail
      go_meet
      exact ⟨rfl, HB5⟩
  case rest =>
    obtain ⟨rfl, HB⟩ := hcut
    clear HPF HC3 HL3 hps hpl HB5
    by_cases he : a.length = b.length
    · have HE := Aside0.mk he
      clear he
      go_wp2_with fail
      refine (diff wc A0 c0 a (Kd.C_below HC0.out HB.out) HL0.out A1 c1 b (Kd.C_below HC1.out HB.out) HL1.out (by omega) HE.out).mono ?_
      rintro e w6 ⟨v, rfl, hr, hb6⟩
      have HB6 := Aside0.mk (HB.out.trans (hb6.mono HB.out.size))
      obtain ⟨A4, c4, rfl, hc4, hC4⟩ := Kd.R_reads hr
      have HC4 := Aside0.mk hC4
      clear hr hb6 hC4 HB
      obtain ⟨ns, hns⟩ : ∃ ns, ns = dif 0 a b := ⟨_, rfl⟩
      rw [← hns] at HC4 hc4
      rw [← hns]
      have HNS := Aside0.mk hns
      have hdl : (difI ns).length = ns.length := by simp [difI]
      rw [hdl] at HC4 hc4
      rw [hdl]
      have hdl2 : ns.length ≤ 2000 := by have := dif_length 0 a b; rw [hns]; omega
      clear hns hdl
      go_wp2_with fail
      go_loopw [13, 80] (fun v13 v80 w' => ∃ (j : Nat) (Z : Option Addr) (cz : Nat), j ≤ ns.length ∧ v80 = .int .i64 j ∧ v13 = .slice Z a.length cz ∧ Aside0 (a.length ≤ cz) ∧ Aside0 (Kd.bool.C w' Z a.length (flips a (ns.take j))) ∧ Aside0 (Below w6.heap.size w6 w')) (fun _ v _ => ns.length - (intOf v).toNat)
      case atStart => exact ⟨0, A0, c0, Nat.zero_le _, rfl, rfl, HL0, ⟨Kd.C_below HC0.out HB6.out⟩, ⟨Below.refl _ _⟩⟩
      case round =>
        obtain ⟨j, Z, cz, hj, rfl, rfl, HLZ, HCZ, HBZ⟩ := hrel
        by_cases hlt : j < ns.length
        · have hCn : Kd.C (Kd.int .i64) wr A4 ns.length (difI ns) := Kd.C_below HC4.out HBZ.out
          obtain ⟨ad, rfl, hx⟩ := Kd.at_int hCn (j : Int) (by omega) (by omega)
          obtain ⟨n, hn⟩ : ∃ n, n = ns[j] := ⟨_, rfl⟩
          have hrd : rd (difI ns) (j : Int) = (n : Int) := by rw [hn]; simp [rd, difI, List.getD_eq_getElem?_getD, List.getElem?_eq_getElem hlt]
          have hna : n < a.length := by
            have h1 : n ∈ dif 0 a b := by rw [← HNS.out, hn]; exact List.getElem_mem hlt
            have := dif_lt a b 0 n h1
            omega
          have hsn := flips_snoc a ns j hlt
          rw [← hn] at hsn
          obtain ⟨zs, hzs⟩ : ∃ zs, zs = flips a (ns.take j) := ⟨_, rfl⟩
          have hzl : zs.length = a.length := by rw [hzs, flips_length]
          rw [hrd, Int.toNat_natCast] at hx
          rw [← hzs] at HCZ hsn
          have HSN := Aside0.mk hsn
          have HZL := Aside0.mk hzl
          have HCZ' : Aside0 (Kd.bool.C wr Z zs.length zs) := ⟨by rw [HZL.out]; exact HCZ.out⟩
          clear hCn hn hrd hsn hzs hzl
          go_wp2_with fail
          have hg := get wr Z cz zs HCZ'.out (by rw [HZL.out]; exact HLZ.out) n (by rw [HZL.out]; exact hna)
          rw [HZL.out] at hg
          refine hg.mono ?_
          clear hg
          rintro e w7 ⟨rfl, hd⟩
          obtain ⟨n7, rfl⟩ := hd.out
          obtain ⟨bit, hbit⟩ : ∃ bit, bit = zs.getD n false := ⟨_, rfl⟩
          rw [← hbit]
          have HBIT := Aside0.mk hbit
          clear hd hbit
          go_wp2_with fail
          have hg := Rt02.set (wr.drewN n7) Z cz zs (Kd.C_drewN HCZ'.out n7) (by rw [HZL.out]; exact HLZ.out) n (!bit) (by rw [HZL.out]; exact hna) (by rw [HZL.out]; omega)
          rw [HZL.out] at hg
          refine hg.mono ?_
          clear hg
          rintro e w8 ⟨v, rfl, hr, hb8⟩
          obtain ⟨A5, c5, rfl, hc5, hC5⟩ := Kd.R_reads hr
          have e5 : (zs.set n (!bit)).length = a.length := by rw [List.length_set, HZL.out]
          rw [e5] at hc5 hC5
          rw [e5]
          have HC5 := Aside0.mk hC5
          have HL5 := Aside0.mk hc5
          have HB8 := Aside0.mk ((pw_below_drewN HBZ.out n7).trans (hb8.mono HBZ.out.size))
          clear hr hb8 hC5 hc5 e5
          go_wp2_with fail
          go_roundw
          case rel =>
            refine ⟨j + 1, A5, c5, hlt, by go_num, rfl, HL5, ⟨?_⟩, HB8⟩
            rw [HSN.out]
            unfold flip1
            rw [← HBIT.out]
            exact HC5.out
          case measure => simp [intOf]; omega
        · obtain rfl : j = ns.length := by omega
          go_wp2_with fail
          refine (alive wr).mono ?_
          rintro e w7 ⟨rfl, hb7⟩
          have HB7 := Aside0.mk (HB6.out.trans ((HBZ.out.trans (hb7.mono HBZ.out.size)).mono HB6.out.size))
          have hfl : flips a (ns.take ns.length) = b := by
            rw [List.take_length, HNS.out]
            exact flips_dif a b [] HE.out
          rw [hfl] at HCZ
          have HCZ2 := Aside0.mk (Kd.C_below HCZ.out hb7)
          clear hb7 hfl
          go_wp2_with fail
          have hg := equal w7 Z cz b (by rw [← HE.out]; exact HCZ2.out) (by rw [← HE.out]; exact HLZ.out) A1 c1 b (Kd.C_below HC1.out HB7.out) HL1.out
          have hg2 : Calls Try.prog 22 #[.slice Z a.length cz, .slice A1 b.length c1] w7 fun e w' => e = .returned (.bool (decide (b = b))) ∧ Drawn0 w7 w' := by rw [HE.out]; exact hg
          refine hg2.mono ?_
          clear hg hg2
          rintro e w8 ⟨rfl, hd⟩
          obtain ⟨n8, rfl⟩ := hd.out
          rw [decide_eq_true rfl]
          go_wp2_with fail
          go_ret
          exact ⟨rfl, pw_below_drewN HB7.out _⟩
    · have HE := Aside0.mk he
      clear he
      go_wp2_with fail
      refine (diff_ne wc A0 c0 a (Kd.C_below HC0.out HB.out) HL0.out A1 c1 b (Kd.C_below HC1.out HB.out) HL1.out (by omega) HE.out).mono ?_
      rintro e w6 ⟨v, rfl, hr, hb6⟩
      have HB6 := Aside0.mk (HB.out.trans (hb6.mono HB.out.size))
      clear hr hb6
      go_wp2_with fail
      refine (alive w6).mono ?_
      rintro e w7 ⟨rfl, hb7⟩
      have HB7 := Aside0.mk (HB6.out.trans (hb7.mono HB6.out.size))
      have q1 : ((a.length : Int) != (b.length : Int)) = true := by have := HE.out; rw [bne_iff_ne]; omega
      clear hb7
      go_wp2_with fail
      go_ret
      exact ⟨rfl, HB7.out⟩
end Go.Proofs.Ytfipnipdfolmiaa.Rtw02
