/- VmTerminates, walked. Written by gen/l4.py. -/
import Derived.Test.YtjohdkbciafpfaaOp06
import Derived.Test.YtjohdkbciafpfaaVg
namespace Go.Proofs.Ytjohdkbciafpfaa.Vm6
open Go.RowKit Go.Proofs.YtjohdkbciafpfaaW.PrintWords Go.Proofs.YtjohdkbciafpfaaW.PrintMore Go.Proofs.YtjohdkbciafpfaaW.PrintLast Go.Proofs.Ytjohdkbciafpfaa.Chg Go.Proofs.Ytjohdkbciafpfaa.Evt Go.Proofs.Ytjohdkbciafpfaa.Impl Go.Proofs.Ytjohdkbciafpfaa.St03 Go.Proofs.Ytjohdkbciafpfaa.Open
set_option linter.unusedVariables false
set_option linter.unusedSimpArgs false
set_option maxRecDepth 100000
section
variable {w wr wN w' : World} {base gm kq j n nF : Nat} {a : Int} {U : Nat → Prop} {l : List S66} {li q m e : List Bool} {s sF : MS}
theorem VmP.fit (h : VmP w base U gm l li s) : Fit l li s := by
  obtain ⟨gt, vC, vI, vQ, vM, vE, vL, mo, h⟩ := h
  exact h.fit
theorem stepV_ended (h : s.ended = true) : stepV l li s = ((false, s.fault), s) := if_pos h
/-- The state asked for, at hand. -/
theorem state_c (h : VmP w base U gm l li s) : Calls Try.prog 39 #[.pointer (some ⟨gm, 0, none⟩)] w fun x w' => ∃ X0 x0 X1 x1 X2 x2, x = .returned (.agg #[.slice X0 s.q.length x0, .slice X1 s.m.length x1, .slice X2 s.e.length x2]) ∧ Sb w' X0 x0 X1 x1 X2 x2 s.q s.m s.e ∧ Below w.heap.size w w' :=
  (state_any h).mono fun x w' ⟨X0, x0, X1, x1, X2, x2, hx, ho, hb⟩ => ⟨X0, x0, X1, x1, X2, x2, hx, ⟨ho.sr, h.fit.q, h.fit.m, h.fit.e⟩, hb⟩
/-- A machine that has come to its end, asked for another step. -/
theorem step_e (h : VmP w base U gm l li s) (hw : WfC l) (h0 : 0 ≤ s.pc) (he : s.ended = true) : Calls Try.prog 38 #[.pointer (some ⟨gm, 0, none⟩)] w fun x w' => x = .returned (.tuple #[.bool false, .int .i64 s.fault]) ∧ Stp w base U gm l li s w' := by
  have e := stepV_ended (l := l) (li := li) he
  have h1 := step_c (gv := false) (er := s.fault) h hw h0 (by rw [e]) (by rw [e])
  rw [e] at h1
  exact h1
/-- At the head of a round. -/
structure TeI (wN wr : World) (gm : Nat) (l : List S66) (li : List Bool) (kq j n : Nat) (a : Int) (s sF : MS) (nF : Nat) : Prop where
  hb : Below wN.heap.size wN wr
  vm : ∃ U, VmP wr wN.heap.size U gm l li s
  ok : Ok l s
  go : s.ended = false
  jk : j + kq = l.length + 2
  pk : (l.length : Int) + 1 ≤ s.pc + kq
  al : a < s.pc
  a0 : -1 ≤ a
  nj : n ≤ j
  run : runV l li kq s n = (sF, nF)
theorem vm_next {s' : MS} (hb : Below wN.heap.size wN wr) (hU : VmP wr wN.heap.size U gm l li s) (hs : Stp wr wN.heap.size U gm l li s' w') : Below wN.heap.size wN w' ∧ ∃ U', VmP w' wN.heap.size U' gm l li s' := by
  obtain ⟨U', h1, h2, h3⟩ := hs.out
  obtain ⟨gt, vC, vI, vQ, vM, vE, vL, mo, V⟩ := hU
  exact ⟨h2.below hb (fun i hi => (V.ub i hi).1) hb.size, ⟨U', h1⟩⟩
theorem TeI.more (h : TeI wN wr gm l li (kq + 1) j n a s sF nF) (hg : (stepV l li s).1.1 = true) (hb : Below wN.heap.size wN w') (hv : ∃ U, VmP w' wN.heap.size U gm l li (stepV l li s).2) : TeI wN w' gm l li kq (j + 1) (n + 1) s.pc (stepV l li s).2 sF nF := by
  have hs := (h.ok.sf (li := li)).go hg
  have hr := h.run
  unfold runV at hr
  rw [if_pos hg, if_pos hs.2.1] at hr
  have := h.jk; have := h.pk; have := h.ok.p0; have := h.nj
  exact ⟨hb, hv, h.ok.step, hs.2.2.1, by omega, by omega, hs.1, by omega, by omega, hr⟩
theorem TeI.last (h : TeI wN wr gm l li (kq + 1) j n a s sF nF) (hg : (stepV l li s).1.1 = false) : (stepV l li s).2 = sF ∧ sF.ended = true ∧ (stepV l li s).1.2 = sF.fault ∧ 0 ≤ sF.pc ∧ nF = (if (stepV l li s).1.2 = 0 then n + 1 else n) := by
  have hs := h.ok.sf (li := li)
  have hr := h.run
  unfold runV at hr
  rw [if_neg (by simp [hg])] at hr
  injection hr with h1 h2
  subst h1
  exact ⟨rfl, hs.st hg, hs.fl hg, h.ok.step.p0, h2.symm⟩
end
section
variable {AC AI AQ AM AE : Option Addr} {cC cI cQ cM cE : Nat} {l : List S66} {li q m e : List Bool}
set_option maxHeartbeats 32000000 in
theorem te_go (w : World) (hC : Kd.C k66 w AC l.length l) (hI : Rw Kd.bool w AI cI li) (hS : Sb w AQ cQ AM cM AE cE q m e) (hwf : WfC l) (hsm : Small l li q m e) (TL : ∀ w', Below w.heap.size w w' → Calls Try.prog 32 #[.slice AC l.length cC, .slice AI li.length cI, .agg #[.slice AQ q.length cQ, .slice AM m.length cM, .slice AE e.length cE]] w' fun x w2 => x = .returned (.bool false) ∧ Below w'.heap.size w' w2) :
    Calls Try.prog 13 #[.slice AC l.length cC, .slice AI li.length cI, .agg #[.slice AQ q.length cQ, .slice AM m.length cM, .slice AE e.length cE]] w fun x w' => x = .returned (.bool true) ∧ Below w.heap.size w w' := by
  obtain ⟨sF, nF, hr⟩ : ∃ sF nF, runV l li (l.length + 2) (ini q m e) 0 = (sF, nF) := ⟨_, _, rfl⟩
  have HF : Aside0 (Rf l li (ini q m e) 0 (sF, nF)) := ⟨by rw [← hr]; exact runV_facts _ 0 (Ok.ini q m e) rfl (by show (l.length : Int) + 1 ≤ 0 + _; omega)⟩
  have L300 : l.length ≤ 300 := hsm.l
  have few := HF.out.few
  have p1 := HF.out.ok.p1
  have p0 := HF.out.ok.p0
  have hl := HF.out.lens
  simp only [lens, ini, Prod.mk.injEq] at hl few p1 p0
  have d0 : decide ((nF : Int) < 0) = false := decide_eq_false (by omega)
  have d1 : decide ((l.length : Int) < (nF : Int)) = false := decide_eq_false (by omega)
  have d1' : decide (l.length < nF) = false := decide_eq_false (by omega)
  have d2 : decide (sF.pc < 0) = false := decide_eq_false (by omega)
  have d3 : decide ((l.length : Int) < sF.pc) = false := decide_eq_false (by omega)
  have d4 : ((sF.q.length : Int) != (q.length : Int)) = false := by rw [hl.1]; simp
  have d5 : ((sF.m.length : Int) != (m.length : Int)) = false := by rw [hl.2.1]; simp
  have d6 : ((sF.e.length : Int) != (e.length : Int)) = false := by rw [hl.2.2]; simp
  have n5 : nF ≤ 300 := by omega
  have HC := Aside0.mk hC
  have HR := Aside0.mk hr
  have HW := Aside0.mk hwf
  have HT := Aside0.mk TL
  have HB := Aside0.mk (Below.refl w.heap.size w)
  have SB := Aside0.mk (hS)
  have RI := Aside0.mk (hI)
  have LI : li.length ≤ 20000 := by have := hsm.i; omega
  clear hC hI hS hr hwf TL hsm hl few
  go_enter Try.func13, Try.ntmps13
  go_wp2_with (first | ((with_reducible refine gate_dst (N := 5) rfl ?_); refine box_event ?hg (N := 5) ?hd (cs := #[.slice AQ q.length cQ, .slice AM m.length cM, .slice AE e.length cE]) (t := 24) ?hr ?_; (case hd => rfl); (case hg => rfl); (case hr => first | (go_simp; done) | (go_simp; rfl)); intro g5 hg w1 hbox hb; have hbx : Below w.heap.size w w1 := below_step (by repeat (first | (with_reducible first | exact Below.refl _ _ | apply below_alloc | apply pw_below_drewN | apply below_drew1) | exact Below.refl _ _)) hb; replace SB := Aside0.mk (SB.out.below hbx); replace RI := Aside0.mk (RI.out.below hbx); replace HB := Aside0.mk (below_step HB.out hbx); clear hbx; have BK5 := Aside0.mk (Bk.mk (hbox : Blk w1 g5 24 #[.slice AQ q.length cQ, .slice AM m.length cM, .slice AE e.length cE])); clear hbox hg hb; obtain ⟨zBK5_0, zBK5_1, zBK5_2⟩ := BK5.out.c3) | (go_at_call 32; (with_reducible refine (HT.out _ (below_step HB.out (by repeat (first | (with_reducible first | exact Below.refl _ _ | apply below_alloc | apply pw_below_drewN | apply below_drew1) | exact Below.refl _ _)))).mono ?_); rintro e w2 ⟨rfl, hb⟩; have hbx : Below w1.heap.size w1 w2 := below_step (by repeat (first | (with_reducible first | exact Below.refl _ _ | apply below_alloc | apply pw_below_drewN | apply below_drew1) | exact Below.refl _ _)) hb; clear zBK5_0 zBK5_1 zBK5_2; replace SB := Aside0.mk (SB.out.below hbx); replace RI := Aside0.mk (RI.out.below hbx); replace BK5 := Aside0.mk (BK5.out.below hbx); replace HB := Aside0.mk (below_step HB.out hbx); clear hbx; clear hb; obtain ⟨zBK5_0, zBK5_1, zBK5_2⟩ := BK5.out.c3) | ((with_reducible refine gate_callee (f := 34) rfl ?_); refine goesL_ (some 23) rfl rfl Try.func34 (by kernel_rfl) rfl #[.slice AC l.length cC, .slice AI li.length cI, .agg #[.slice AQ q.length cQ, .slice AM m.length cM, .slice AE e.length cE]] rfl (by (try simp only [List.map_toArray, List.map_cons, List.map_nil]); first | done | rfl | (simp only [List.length_drop, List.length_take]; rfl)) ?_; (with_reducible refine (run_any _ (Kd.C_below HC.out (below_step HB.out (by repeat (first | (with_reducible first | exact Below.refl _ _ | apply below_alloc | apply pw_below_drewN | apply below_drew1) | exact Below.refl _ _)))) (RI.out.below (by repeat (first | (with_reducible first | exact Below.refl _ _ | apply below_alloc | apply pw_below_drewN | apply below_drew1) | exact Below.refl _ _))) (SB.out.below (by repeat (first | (with_reducible first | exact Below.refl _ _ | apply below_alloc | apply pw_below_drewN | apply below_drew1) | exact Below.refl _ _))) (by omega) LI HW.out HR.out).mono ?_); rintro e w3 ⟨X0, x0, X1, x1, X2, x2, rfl, hs_, _, hb⟩; have hbx : Below w2.heap.size w2 w3 := below_step (by repeat (first | (with_reducible first | exact Below.refl _ _ | apply below_alloc | apply pw_below_drewN | apply below_drew1) | exact Below.refl _ _)) hb; clear zBK5_0 zBK5_1 zBK5_2; replace SB := Aside0.mk (SB.out.below hbx); replace RI := Aside0.mk (RI.out.below hbx); replace BK5 := Aside0.mk (BK5.out.below hbx); replace HB := Aside0.mk (below_step HB.out hbx); clear hbx; have SS := Aside0.mk (hs_); clear hb; clear hs_; obtain ⟨zBK5_0, zBK5_1, zBK5_2⟩ := BK5.out.c3; refine ⟨_, rfl, ?_⟩) | ((with_reducible refine gate_dst (N := 7) rfl ?_); refine Evt.box2 ?hg (N := 7) ?hd (z := #[.slice none 0 0, .slice none 0 0, .slice none 0 0, .int .i64 0, .int .i64 0, .int .i64 0]) (cs := #[.slice X0 sF.q.length x0, .slice X1 sF.m.length x1, .slice X2 sF.e.length x2, .int .i64 nF, .int .i64 sF.pc, .int .i64 sF.fault]) (T := 60) ?hr ?hg2 (.tmp 23) ?ho2 ?hd2 ?hy ?hx ?hi ?hz ?h1 ?_; (case hd => rfl); (case hg => rfl); (case hr => first | (go_simp; done) | (go_simp; rfl)); (case hg2 => rfl); (case ho2 => rfl); (case hd2 => rfl); (case hy => first | rfl | (go_simp; done)); (case hx => first | rfl | (go_simp; done)); (case hi => kernel_rfl); (case hz => rfl); (case h1 => first | rfl | (simp [Value.oneCell'])); intro g7 hg w4 hbox hb; have hbx : Below w3.heap.size w3 w4 := below_step (by repeat (first | (with_reducible first | exact Below.refl _ _ | apply below_alloc | apply pw_below_drewN | apply below_drew1) | exact Below.refl _ _)) hb; clear zBK5_0 zBK5_1 zBK5_2; replace SB := Aside0.mk (SB.out.below hbx); replace RI := Aside0.mk (RI.out.below hbx); replace BK5 := Aside0.mk (BK5.out.below hbx); replace SS := Aside0.mk (SS.out.below hbx); replace HB := Aside0.mk (below_step HB.out hbx); clear hbx; have BK7 := Aside0.mk (Bk.mk (hbox : Blk w4 g7 60 #[.slice X0 sF.q.length x0, .slice X1 sF.m.length x1, .slice X2 sF.e.length x2, .int .i64 nF, .int .i64 sF.pc, .int .i64 sF.fault])); clear hbox hg hb; obtain ⟨zBK5_0, zBK5_1, zBK5_2⟩ := BK5.out.c3; obtain ⟨zBK7_0, zBK7_1, zBK7_2, zBK7_3, zBK7_4, zBK7_5⟩ := BK7.out.c6) | ((with_reducible refine gate_callee (f := 36) rfl ?_); refine goesL_ (some 27) rfl rfl Try.func36 (by kernel_rfl) rfl #[.slice AC l.length cC, .slice AI li.length cI, .agg #[.slice AQ q.length cQ, .slice AM m.length cM, .slice AE e.length cE]] rfl (by (try simp only [List.map_toArray, List.map_cons, List.map_nil]); first | done | rfl | (simp only [List.length_drop, List.length_take]; rfl)) ?_; (with_reducible refine (new_c _ (B := w4.heap.size) (show w4.heap.size ≤ _ from (below_size (by repeat (first | (with_reducible first | exact Below.refl _ _ | apply below_alloc | apply pw_below_drewN | apply below_drew1) | exact Below.refl _ _)))) (Kd.C_below HC.out (below_step HB.out (by repeat (first | (with_reducible first | exact Below.refl _ _ | apply below_alloc | apply pw_below_drewN | apply below_drew1) | exact Below.refl _ _)))) (RI.out.below (by repeat (first | (with_reducible first | exact Below.refl _ _ | apply below_alloc | apply pw_below_drewN | apply below_drew1) | exact Below.refl _ _))) (SB.out.below (by repeat (first | (with_reducible first | exact Below.refl _ _ | apply below_alloc | apply pw_below_drewN | apply below_drew1) | exact Below.refl _ _))) (by omega) LI).mono ?_); rintro e w5 ⟨gm, UM, rfl, hv_, hu_, hb⟩; have hbx : Below w4.heap.size w4 w5 := below_step (by repeat (first | (with_reducible first | exact Below.refl _ _ | apply below_alloc | apply pw_below_drewN | apply below_drew1) | exact Below.refl _ _)) hb; clear hu_; have WN := Aside0.mk hbx; have HB0 := HB; have K7 := BK7; have SN := SS; clear zBK5_0 zBK5_1 zBK5_2 zBK7_0 zBK7_1 zBK7_2 zBK7_3 zBK7_4 zBK7_5; replace SB := Aside0.mk (SB.out.below hbx); replace RI := Aside0.mk (RI.out.below hbx); replace BK5 := Aside0.mk (BK5.out.below hbx); replace SS := Aside0.mk (SS.out.below hbx); replace BK7 := Aside0.mk (BK7.out.below hbx); replace HB := Aside0.mk (below_step HB.out hbx); clear hbx; have VP := Aside0.mk (hv_); clear hb; clear hv_; obtain ⟨zBK5_0, zBK5_1, zBK5_2⟩ := BK5.out.c3; obtain ⟨zBK7_0, zBK7_1, zBK7_2, zBK7_3, zBK7_4, zBK7_5⟩ := BK7.out.c6; refine ⟨_, rfl, ?_⟩))
  have INV : Aside0 (TeI w4 w5 gm l li (l.length + 2) 0 0 (-1) (ini q m e) sF nF) := ⟨⟨WN.out, ⟨_, VP.out⟩, Ok.ini q m e, rfl, by omega, by show (l.length : Int) + 1 ≤ 0 + _; omega, by show (-1 : Int) < 0; decide, by decide, Nat.le_refl _, HR.out⟩⟩
  clear zBK5_0 zBK5_1 zBK5_2 zBK7_0 zBK7_1 zBK7_2 zBK7_3 zBK7_4 zBK7_5
  clear SB RI BK5 SS BK7 HB VP WN HT HC HF HR d0 d1 d1' d2 d3 d4 d5 d6
  go_loopg [9, 10, 87] (l.length + 2) (fun kq v9 v10 v87 wr => ∃ (j n : Nat) (a : Int) (s : MS), v9 = .int .i64 a ∧ v10 = .int .i64 n ∧ v87 = .int .i64 j ∧ Aside0 (TeI w4 wr gm l li kq j n a s sF nF))
  case atStart => exact ⟨0, 0, -1, _, rfl, rfl, rfl, INV⟩
  case round =>
    clear INV
    obtain ⟨j, n, a, s, rfl, rfl, rfl, TI⟩ := hrel
    cases gk with
    | zero => have h1_ := TI.out.pk; have h2_ := TI.out.ok.p1; omega
    | succ k1 =>
      have q0 : decide (j < l.length + 2) = true := decide_eq_true (by have := TI.out.jk; omega)
      have q1 : decide ((j : Int) < (l.length : Int) + 2) = true := decide_eq_true (by have := TI.out.jk; omega)
      have q2 : decide (s.pc ≤ a) = false := decide_eq_false (by have := TI.out.al; omega)
      have q3 : (j : Int) ≤ 302 := by have := TI.out.jk; omega
      have q4 : (n : Int) ≤ 302 := by have := TI.out.jk; have := TI.out.nj; omega
      obtain ⟨U, hv⟩ := TI.out.vm
      have VP := Aside0.mk hv
      clear hv
      cases hg : (stepV l li s).1.1 with
      | true =>
        have GV := Aside0.mk hg
        have ER := Aside0.mk ((TI.out.ok.sf (li := li)).go hg).2.1
        clear hg
        skip
        have HB := Aside0.mk (Below.refl w4.heap.size w4)
        clear HB
        have HB := Aside0.mk TI.out.hb
        skip
        go_wp2_with (first | ((with_reducible refine gate_callee (f := 37) rfl ?_); refine goesL_ (some 90) rfl rfl Try.func37 (by kernel_rfl) rfl #[.pointer (some ⟨gm, 0, none⟩)] rfl (by (try simp only [List.map_toArray, List.map_cons, List.map_nil]); first | done | rfl | (simp only [List.length_drop, List.length_take]; rfl)) ?_; (with_reducible refine (at_any (VP.out.below (by repeat (first | (with_reducible first | exact Below.refl _ _ | apply below_alloc | apply pw_below_drewN | apply below_drew1) | exact Below.refl _ _)))).mono ?_); rintro e w1 ⟨rfl, hb⟩; have hbx : Below wr.heap.size wr w1 := below_step (by repeat (first | (with_reducible first | exact Below.refl _ _ | apply below_alloc | apply pw_below_drewN | apply below_drew1) | exact Below.refl _ _)) hb; replace VP := Aside0.mk (VP.out.below hbx); replace HB := Aside0.mk (below_step HB.out hbx); clear hbx; clear hb; refine ⟨_, rfl, ?_⟩) | ((with_reducible refine gate_callee (f := 37) rfl ?_); refine goesL_ (some 94) rfl rfl Try.func37 (by kernel_rfl) rfl #[.pointer (some ⟨gm, 0, none⟩)] rfl (by (try simp only [List.map_toArray, List.map_cons, List.map_nil]); first | done | rfl | (simp only [List.length_drop, List.length_take]; rfl)) ?_; (with_reducible refine (at_any (VP.out.below (by repeat (first | (with_reducible first | exact Below.refl _ _ | apply below_alloc | apply pw_below_drewN | apply below_drew1) | exact Below.refl _ _)))).mono ?_); rintro e w2 ⟨rfl, hb⟩; have hbx : Below w1.heap.size w1 w2 := below_step (by repeat (first | (with_reducible first | exact Below.refl _ _ | apply below_alloc | apply pw_below_drewN | apply below_drew1) | exact Below.refl _ _)) hb; replace VP := Aside0.mk (VP.out.below hbx); replace HB := Aside0.mk (below_step HB.out hbx); clear hbx; clear hb; refine ⟨_, rfl, ?_⟩) | ((with_reducible refine gate_callee (f := 38) rfl ?_); refine goesL_ (some 97) rfl rfl Try.func38 (by kernel_rfl) rfl #[.pointer (some ⟨gm, 0, none⟩)] rfl (by (try simp only [List.map_toArray, List.map_cons, List.map_nil]); first | done | rfl | (simp only [List.length_drop, List.length_take]; rfl)) ?_; (with_reducible refine (step_c (VP.out.below (by repeat (first | (with_reducible first | exact Below.refl _ _ | apply below_alloc | apply pw_below_drewN | apply below_drew1) | exact Below.refl _ _))) HW.out TI.out.ok.p0 GV.out ER.out).mono ?_); rintro e_ w8 ⟨rfl, hs_⟩; have NX := Aside0.mk (vm_next HB.out VP.out hs_); clear hs_ VP HB; refine ⟨_, rfl, ?_⟩))
        have TN : Aside0 (TeI w4 w8 gm l li k1 (j + 1) (n + 1) s.pc (stepV l li s).2 sF nF) := ⟨TI.out.more GV.out NX.out.1 NX.out.2⟩
        clear TI NX GV ER
        go_roundg k1
        case measure => omega
        case rel => exact ⟨j + 1, n + 1, s.pc, _, rfl, by go_num, by go_num, TN⟩
        skip
      | false =>
        have GV := Aside0.mk hg
        clear hg
        obtain ⟨t1, t2, t3, t4, t5⟩ := TI.out.last GV.out
        have T1 := Aside0.mk t1
        have T2 := Aside0.mk t2
        have T3 := Aside0.mk t3
        have T4 := Aside0.mk t4
        have e1 : (sF.fault == sF.fault) = true := beq_self_eq_true _
        have e2 : (sF.pc == sF.pc) = true := beq_self_eq_true _
        by_cases he : sF.fault = 0
        · rw [if_pos (t3.trans he)] at t5
          have f0 : decide (sF.fault = 0) = true := decide_eq_true he
          have f1 : (sF.fault == 0) = true := beq_iff_eq.mpr he
          have f2 : ((n : Int) + 1 == (nF : Int)) = true := by rw [t5]; simp
          have f3 : decide ((n : Int) + 1 = (nF : Int)) = true := decide_eq_true (by omega)
          clear he t1 t2 t3 t4 t5
          skip
          have HB := Aside0.mk (Below.refl w4.heap.size w4)
          clear HB
          have HB := Aside0.mk TI.out.hb
          skip
          go_wp2_with (first | ((with_reducible refine gate_callee (f := 37) rfl ?_); refine goesL_ (some 90) rfl rfl Try.func37 (by kernel_rfl) rfl #[.pointer (some ⟨gm, 0, none⟩)] rfl (by (try simp only [List.map_toArray, List.map_cons, List.map_nil]); first | done | rfl | (simp only [List.length_drop, List.length_take]; rfl)) ?_; (with_reducible refine (at_any (VP.out.below (by repeat (first | (with_reducible first | exact Below.refl _ _ | apply below_alloc | apply pw_below_drewN | apply below_drew1) | exact Below.refl _ _)))).mono ?_); rintro e w1 ⟨rfl, hb⟩; have hbx : Below wr.heap.size wr w1 := below_step (by repeat (first | (with_reducible first | exact Below.refl _ _ | apply below_alloc | apply pw_below_drewN | apply below_drew1) | exact Below.refl _ _)) hb; replace VP := Aside0.mk (VP.out.below hbx); replace HB := Aside0.mk (below_step HB.out hbx); clear hbx; clear hb; refine ⟨_, rfl, ?_⟩) | ((with_reducible refine gate_callee (f := 37) rfl ?_); refine goesL_ (some 94) rfl rfl Try.func37 (by kernel_rfl) rfl #[.pointer (some ⟨gm, 0, none⟩)] rfl (by (try simp only [List.map_toArray, List.map_cons, List.map_nil]); first | done | rfl | (simp only [List.length_drop, List.length_take]; rfl)) ?_; (with_reducible refine (at_any (VP.out.below (by repeat (first | (with_reducible first | exact Below.refl _ _ | apply below_alloc | apply pw_below_drewN | apply below_drew1) | exact Below.refl _ _)))).mono ?_); rintro e w2 ⟨rfl, hb⟩; have hbx : Below w1.heap.size w1 w2 := below_step (by repeat (first | (with_reducible first | exact Below.refl _ _ | apply below_alloc | apply pw_below_drewN | apply below_drew1) | exact Below.refl _ _)) hb; replace VP := Aside0.mk (VP.out.below hbx); replace HB := Aside0.mk (below_step HB.out hbx); clear hbx; clear hb; refine ⟨_, rfl, ?_⟩) | ((with_reducible refine gate_callee (f := 38) rfl ?_); refine goesL_ (some 97) rfl rfl Try.func38 (by kernel_rfl) rfl #[.pointer (some ⟨gm, 0, none⟩)] rfl (by (try simp only [List.map_toArray, List.map_cons, List.map_nil]); first | done | rfl | (simp only [List.length_drop, List.length_take]; rfl)) ?_; (with_reducible refine (step_c (VP.out.below (by repeat (first | (with_reducible first | exact Below.refl _ _ | apply below_alloc | apply pw_below_drewN | apply below_drew1) | exact Below.refl _ _))) HW.out TI.out.ok.p0 GV.out T3.out).mono ?_); rintro e_ w8 ⟨rfl, hs_⟩; rw [T1.out] at hs_; have NX := Aside0.mk (vm_next HB.out VP.out hs_); clear hs_ VP HB; obtain ⟨U8, hv_⟩ := NX.out.2; have VP := Aside0.mk hv_; have HB := Aside0.mk NX.out.1; clear hv_ NX; skip; refine ⟨_, rfl, ?_⟩) | ((with_reducible refine gate_callee (f := 38) rfl ?_); refine goesL_ (some 108) rfl rfl Try.func38 (by kernel_rfl) rfl #[.pointer (some ⟨gm, 0, none⟩)] rfl (by (try simp only [List.map_toArray, List.map_cons, List.map_nil]); first | done | rfl | (simp only [List.length_drop, List.length_take]; rfl)) ?_; (with_reducible refine (step_e (VP.out.below (by repeat (first | (with_reducible first | exact Below.refl _ _ | apply below_alloc | apply pw_below_drewN | apply below_drew1) | exact Below.refl _ _))) HW.out T4.out T2.out).mono ?_); rintro e_ w9 ⟨rfl, hs_⟩; have NX := Aside0.mk (vm_next HB.out VP.out hs_); clear hs_ VP HB; refine ⟨_, rfl, ?_⟩))
          obtain ⟨U9, hv_⟩ := NX.out.2
          have HB := Aside0.mk NX.out.1
          have VP := Aside0.mk hv_
          have SS := Aside0.mk (SN.out.below NX.out.1)
          have BK7 := Aside0.mk (K7.out.below NX.out.1)
          clear hv_ NX
          skip
          have BK7 : Aside0 (Bk w9 g7 60 #[.slice X0 sF.q.length x0, .slice X1 sF.m.length x1, .slice X2 sF.e.length x2, .int .i64 nF, .int .i64 sF.pc, .int .i64 sF.fault]) := Aside0.mk (BK7.out)
          have KP := Aside0.mk (fun w' (hb : Below w9.heap.size w9 w') => (BK7.out.below hb).c6)
          refine Evt.ow_start (w0 := w9) (T := (true, [([], []), ([0, 0], [0]), ([1], [1]), ([2, 1], [1, 2]), ([1, 3], [1, 3]), ([4, 1], [4]), ([5], [5]), ([5], [5]), ([6, 7, 5], [5, 6, 7]), ([5, 8], [5, 8]), ([9, 5], [9]), ([10], [10]), ([10], [10]), ([12, 10], [10, 12]), ([11, 13, 10], [10, 11, 13]), ([10, 14], [10, 14]), ([15, 10], [15]), ([16], [16]), ([16], [16]), ([18, 16], [16, 18]), ([17, 19, 16], [16, 17, 19]), ([16, 20], [16, 20]), ([21, 16], [21]), ([22], [22]), ([23, 22, 22], [22, 23]), ([22], [22]), ([25, 22], [22, 25]), ([24, 26, 22], [22, 24, 26]), ([22, 27], [22, 27]), ([28, 24], [28]), ([29], [29]), ([30, 29, 29], [29, 30]), ([29], [29]), ([32, 29], [29, 32]), ([31, 33, 31, 29], [29, 31, 33]), ([29, 34], [29, 34]), ([35, 34, 0, 1, 2, 3, 4, 5, 6, 7, 8, 9, 10, 11, 12, 13, 14, 15, 16, 17, 18, 19, 20, 21, 22, 23, 24, 25, 26, 27, 28, 29, 30, 31, 32, 33, 34, 35], [35])])) (B := [0, 1, 3, 7, 15, 31, 63, 63, 255, 511, 1023, 2047, 2047, 6143, 16383, 32767, 65535, 131071, 131071, 393215, 1048575, 2097151, 4194303, 8388607, 16777215, 8388607, 41943039, 134217727, 268435455, 536870911, 1073741823, 2147483647, 1073741823, 5368709119, 17179869183, 34359738367, 68719476735]) 37 [(0, some 111), (1, some 112), (2, some 113), (3, some 114), (4, some 115), (5, some 116), (6, some 117), (7, some 118), (8, some 119), (9, some 120), (10, some 121), (11, some 122), (12, some 123), (13, some 124), (14, some 125), (15, some 126), (16, some 127), (17, some 128), (18, some 129), (19, some 130), (20, some 131), (21, some 132), (22, some 133), (23, some 134), (25, some 136), (26, some 137), (24, some 135), (27, some 138), (28, some 139), (29, some 140), (30, some 141), (32, some 143), (33, some 144), (31, some 142), (34, some 145), (35, some 146), (36, some 6)] (by kernel_rfl) rfl (by kernel_rfl) (by kernel_rfl) (by kernel_rfl) (by repeat (first | (with_reducible first | exact Below.refl _ _ | apply below_alloc | apply pw_below_drewN | apply below_drew1) | exact Below.refl _ _)) ?_
          intro HT_ HW_ w_ hHeld
          refine Evt.ow_call HT_ hHeld rfl rfl rfl (by kernel_rfl) Try.func33 (by kernel_rfl) rfl #[] (by rfl) (by (try simp only [List.map_toArray, List.map_cons, List.map_nil]); first | done | rfl | (simp only [List.length_drop, List.length_take]; rfl)) ?_
          (with_reducible refine (alive_any _).mono ?_)
          rintro e w_ ⟨rfl, hb⟩
          refine ⟨_, rfl, hb, fun hHeld_ => ?_⟩
          clear hHeld hb
          have hHeld := hHeld_
          clear hHeld_
          refine Evt.ow_norm (a' := ?_) ?_ ?_
          rotate_left
          · simp only [Act.put, List.setIfInBounds_toArray, List.set_cons_zero, List.set_cons_succ, i64_w, i32_w]; rfl
          iterate 25 (first | (refine Evt.ow_off (a' := ?_) HT_ rfl rfl (by rfl) (by kernel_rfl) (fun _ _ _ h => h) ?_ ?_; rotate_left; (· (try simp only [Act.put, List.setIfInBounds_toArray, List.set_cons_zero, List.set_cons_succ, i64_w, i32_w]); rfl)) | (refine Evt.ow_pure (a' := ?_) (v := ?_) HT_ rfl rfl rfl (by rfl) (by kernel_rfl) (fun _ _ _ h => h) ?_ ?_ ?_; rotate_left 2; (· intro w'; go_simp; with_reducible rfl); (· (try simp only [Act.put, List.setIfInBounds_toArray, List.set_cons_zero, List.set_cons_succ, i64_w, i32_w]); rfl)) | (refine Evt.ow_load (a' := ?_) (v := ?_) HT_ HW_ hHeld rfl rfl rfl (by rfl) (by kernel_rfl) (fun _ _ _ h => h) ?_ ?_ ?_; rotate_left 2; (· intro w' hS_; obtain ⟨s0, s1, s2, s3, s4, s5⟩ := KP.out w' hS_.out; go_simp; with_reducible rfl); (· (try simp only [Act.put, List.setIfInBounds_toArray, List.set_cons_zero, List.set_cons_succ, i64_w, i32_w]); rfl)))
          refine Evt.ow_call HT_ hHeld rfl rfl rfl (by kernel_rfl) Try.func37 (by kernel_rfl) rfl #[.pointer (some ⟨gm, 0, none⟩)] (by rfl) (by (try simp only [List.map_toArray, List.map_cons, List.map_nil]); first | done | rfl | (simp only [List.length_drop, List.length_take]; rfl)) ?_
          (with_reducible refine (at_any (VP.out.below hHeld.out)).mono ?_)
          rintro e w_ ⟨rfl, hb⟩
          refine ⟨_, rfl, hb, fun hHeld_ => ?_⟩
          clear hHeld hb
          have hHeld := hHeld_
          clear hHeld_
          refine Evt.ow_norm (a' := ?_) ?_ ?_
          rotate_left
          · simp only [Act.put, List.setIfInBounds_toArray, List.set_cons_zero, List.set_cons_succ, i64_w, i32_w]; rfl
          iterate 6 (first | (refine Evt.ow_off (a' := ?_) HT_ rfl rfl (by rfl) (by kernel_rfl) (fun _ _ _ h => h) ?_ ?_; rotate_left; (· (try simp only [Act.put, List.setIfInBounds_toArray, List.set_cons_zero, List.set_cons_succ, i64_w, i32_w]); rfl)) | (refine Evt.ow_pure (a' := ?_) (v := ?_) HT_ rfl rfl rfl (by rfl) (by kernel_rfl) (fun _ _ _ h => h) ?_ ?_ ?_; rotate_left 2; (· intro w'; go_simp; with_reducible rfl); (· (try simp only [Act.put, List.setIfInBounds_toArray, List.set_cons_zero, List.set_cons_succ, i64_w, i32_w]); rfl)) | (refine Evt.ow_load (a' := ?_) (v := ?_) HT_ HW_ hHeld rfl rfl rfl (by rfl) (by kernel_rfl) (fun _ _ _ h => h) ?_ ?_ ?_; rotate_left 2; (· intro w' hS_; obtain ⟨s0, s1, s2, s3, s4, s5⟩ := KP.out w' hS_.out; go_simp; with_reducible rfl); (· (try simp only [Act.put, List.setIfInBounds_toArray, List.set_cons_zero, List.set_cons_succ, i64_w, i32_w]); rfl)))
          refine Evt.ow_call HT_ hHeld rfl rfl rfl (by kernel_rfl) Try.func39 (by kernel_rfl) rfl #[.pointer (some ⟨gm, 0, none⟩)] (by rfl) (by (try simp only [List.map_toArray, List.map_cons, List.map_nil]); first | done | rfl | (simp only [List.length_drop, List.length_take]; rfl)) ?_
          (with_reducible refine (state_c (VP.out.below hHeld.out)).mono ?_)
          rintro e w_ ⟨Y0, y0, Y1, y1, Y2, y2, rfl, hs_, hb⟩
          have SY := Aside0.mk hs_; clear hs_
          refine ⟨_, rfl, hb, fun hHeld_ => ?_⟩
          clear hHeld hb
          have hHeld := hHeld_
          clear hHeld_
          refine Evt.ow_norm (a' := ?_) ?_ ?_
          rotate_left
          · simp only [Act.put, List.setIfInBounds_toArray, List.set_cons_zero, List.set_cons_succ, i64_w, i32_w]; rfl
          refine Evt.ow_call HT_ hHeld rfl rfl rfl (by kernel_rfl) Try.func22 (by kernel_rfl) rfl #[.agg #[.slice Y0 sF.q.length y0, .slice Y1 sF.m.length y1, .slice Y2 sF.e.length y2], .agg #[.slice X0 sF.q.length x0, .slice X1 sF.m.length x1, .slice X2 sF.e.length x2]] (by rfl) (by (try simp only [List.map_toArray, List.map_cons, List.map_nil]); first | done | rfl | (simp only [List.length_drop, List.length_take]; rfl)) ?_
          (with_reducible refine (equalS SY.out (SS.out.below hHeld.out)).mono ?_)
          rintro e w_ ⟨rfl, hb⟩
          refine ⟨_, rfl, hb, fun hHeld_ => ?_⟩
          clear hHeld hb
          have hHeld := hHeld_
          clear hHeld_
          refine Evt.ow_norm (a' := ?_) ?_ ?_
          rotate_left
          · simp only [Act.put, List.setIfInBounds_toArray, List.set_cons_zero, List.set_cons_succ, i64_w, i32_w]; rfl
          iterate 2 (first | (refine Evt.ow_off (a' := ?_) HT_ rfl rfl (by rfl) (by kernel_rfl) (fun _ _ _ h => h) ?_ ?_; rotate_left; (· (try simp only [Act.put, List.setIfInBounds_toArray, List.set_cons_zero, List.set_cons_succ, i64_w, i32_w]); rfl)) | (refine Evt.ow_pure (a' := ?_) (v := ?_) HT_ rfl rfl rfl (by rfl) (by kernel_rfl) (fun _ _ _ h => h) ?_ ?_ ?_; rotate_left 2; (· intro w'; go_simp; with_reducible rfl); (· (try simp only [Act.put, List.setIfInBounds_toArray, List.set_cons_zero, List.set_cons_succ, i64_w, i32_w]); rfl)) | (refine Evt.ow_load (a' := ?_) (v := ?_) HT_ HW_ hHeld rfl rfl rfl (by rfl) (by kernel_rfl) (fun _ _ _ h => h) ?_ ?_ ?_; rotate_left 2; (· intro w' hS_; obtain ⟨s0, s1, s2, s3, s4, s5⟩ := KP.out w' hS_.out; go_simp; with_reducible rfl); (· (try simp only [Act.put, List.setIfInBounds_toArray, List.set_cons_zero, List.set_cons_succ, i64_w, i32_w]); rfl)))
          refine Evt.ow_done HT_ (by kernel_rfl) ?_
          refine Evt.gen_any (w0 := w9) hHeld.out ?_
          intro w3 hbx
          clear hHeld HT_ HW_ KP
          replace VP := Aside0.mk (VP.out.below hbx)
          replace SS := Aside0.mk (SS.out.below hbx)
          replace BK7 := Aside0.mk (BK7.out.below hbx)
          replace HB := Aside0.mk (below_step HB.out hbx)
          clear hbx
          obtain ⟨zBK7_0, zBK7_1, zBK7_2, zBK7_3, zBK7_4, zBK7_5⟩ := BK7.out.c6
          go_wp2
          go_ret
          exact ⟨rfl, below_step HB0.out HB.out⟩
          skip
        · rw [if_neg (fun h_ => he (t3.symm.trans h_))] at t5
          have f0 : decide (sF.fault = 0) = false := decide_eq_false he
          have f1 : (sF.fault == 0) = false := beq_eq_false_iff_ne.mpr he
          have f2 : ((n : Int) == (nF : Int)) = true := by rw [t5]; simp
          have f3 : decide ((n : Int) = (nF : Int)) = true := decide_eq_true (by omega)
          clear he t1 t2 t3 t4 t5
          skip
          have HB := Aside0.mk (Below.refl w4.heap.size w4)
          clear HB
          have HB := Aside0.mk TI.out.hb
          skip
          go_wp2_with (first | ((with_reducible refine gate_callee (f := 37) rfl ?_); refine goesL_ (some 90) rfl rfl Try.func37 (by kernel_rfl) rfl #[.pointer (some ⟨gm, 0, none⟩)] rfl (by (try simp only [List.map_toArray, List.map_cons, List.map_nil]); first | done | rfl | (simp only [List.length_drop, List.length_take]; rfl)) ?_; (with_reducible refine (at_any (VP.out.below (by repeat (first | (with_reducible first | exact Below.refl _ _ | apply below_alloc | apply pw_below_drewN | apply below_drew1) | exact Below.refl _ _)))).mono ?_); rintro e w1 ⟨rfl, hb⟩; have hbx : Below wr.heap.size wr w1 := below_step (by repeat (first | (with_reducible first | exact Below.refl _ _ | apply below_alloc | apply pw_below_drewN | apply below_drew1) | exact Below.refl _ _)) hb; replace VP := Aside0.mk (VP.out.below hbx); replace HB := Aside0.mk (below_step HB.out hbx); clear hbx; clear hb; refine ⟨_, rfl, ?_⟩) | ((with_reducible refine gate_callee (f := 37) rfl ?_); refine goesL_ (some 94) rfl rfl Try.func37 (by kernel_rfl) rfl #[.pointer (some ⟨gm, 0, none⟩)] rfl (by (try simp only [List.map_toArray, List.map_cons, List.map_nil]); first | done | rfl | (simp only [List.length_drop, List.length_take]; rfl)) ?_; (with_reducible refine (at_any (VP.out.below (by repeat (first | (with_reducible first | exact Below.refl _ _ | apply below_alloc | apply pw_below_drewN | apply below_drew1) | exact Below.refl _ _)))).mono ?_); rintro e w2 ⟨rfl, hb⟩; have hbx : Below w1.heap.size w1 w2 := below_step (by repeat (first | (with_reducible first | exact Below.refl _ _ | apply below_alloc | apply pw_below_drewN | apply below_drew1) | exact Below.refl _ _)) hb; replace VP := Aside0.mk (VP.out.below hbx); replace HB := Aside0.mk (below_step HB.out hbx); clear hbx; clear hb; refine ⟨_, rfl, ?_⟩) | ((with_reducible refine gate_callee (f := 38) rfl ?_); refine goesL_ (some 97) rfl rfl Try.func38 (by kernel_rfl) rfl #[.pointer (some ⟨gm, 0, none⟩)] rfl (by (try simp only [List.map_toArray, List.map_cons, List.map_nil]); first | done | rfl | (simp only [List.length_drop, List.length_take]; rfl)) ?_; (with_reducible refine (step_c (VP.out.below (by repeat (first | (with_reducible first | exact Below.refl _ _ | apply below_alloc | apply pw_below_drewN | apply below_drew1) | exact Below.refl _ _))) HW.out TI.out.ok.p0 GV.out T3.out).mono ?_); rintro e_ w8 ⟨rfl, hs_⟩; rw [T1.out] at hs_; have NX := Aside0.mk (vm_next HB.out VP.out hs_); clear hs_ VP HB; obtain ⟨U8, hv_⟩ := NX.out.2; have VP := Aside0.mk hv_; have HB := Aside0.mk NX.out.1; clear hv_ NX; skip; refine ⟨_, rfl, ?_⟩) | ((with_reducible refine gate_callee (f := 38) rfl ?_); refine goesL_ (some 108) rfl rfl Try.func38 (by kernel_rfl) rfl #[.pointer (some ⟨gm, 0, none⟩)] rfl (by (try simp only [List.map_toArray, List.map_cons, List.map_nil]); first | done | rfl | (simp only [List.length_drop, List.length_take]; rfl)) ?_; (with_reducible refine (step_e (VP.out.below (by repeat (first | (with_reducible first | exact Below.refl _ _ | apply below_alloc | apply pw_below_drewN | apply below_drew1) | exact Below.refl _ _))) HW.out T4.out T2.out).mono ?_); rintro e_ w9 ⟨rfl, hs_⟩; have NX := Aside0.mk (vm_next HB.out VP.out hs_); clear hs_ VP HB; refine ⟨_, rfl, ?_⟩))
          obtain ⟨U9, hv_⟩ := NX.out.2
          have HB := Aside0.mk NX.out.1
          have VP := Aside0.mk hv_
          have SS := Aside0.mk (SN.out.below NX.out.1)
          have BK7 := Aside0.mk (K7.out.below NX.out.1)
          clear hv_ NX
          skip
          have BK7 : Aside0 (Bk w9 g7 60 #[.slice X0 sF.q.length x0, .slice X1 sF.m.length x1, .slice X2 sF.e.length x2, .int .i64 nF, .int .i64 sF.pc, .int .i64 sF.fault]) := Aside0.mk (BK7.out)
          have KP := Aside0.mk (fun w' (hb : Below w9.heap.size w9 w') => (BK7.out.below hb).c6)
          refine Evt.ow_start (w0 := w9) (T := (true, [([], []), ([0, 0], [0]), ([1], [1]), ([2, 1], [1, 2]), ([1, 3], [1, 3]), ([4, 1], [4]), ([5], [5]), ([5], [5]), ([6, 7, 5], [5, 6, 7]), ([5, 8], [5, 8]), ([9, 5], [9]), ([10], [10]), ([10], [10]), ([12, 10], [10, 12]), ([11, 13, 10], [10, 11, 13]), ([10, 14], [10, 14]), ([15, 10], [15]), ([16], [16]), ([16], [16]), ([18, 16], [16, 18]), ([17, 19, 16], [16, 17, 19]), ([16, 20], [16, 20]), ([21, 16], [21]), ([22], [22]), ([23, 22, 22], [22, 23]), ([22], [22]), ([25, 22], [22, 25]), ([24, 26, 22], [22, 24, 26]), ([22, 27], [22, 27]), ([28, 24], [28]), ([29], [29]), ([30, 29, 29], [29, 30]), ([29], [29]), ([32, 29], [29, 32]), ([31, 33, 31, 29], [29, 31, 33]), ([29, 34], [29, 34]), ([35, 34, 0, 1, 2, 3, 4, 5, 6, 7, 8, 9, 10, 11, 12, 13, 14, 15, 16, 17, 18, 19, 20, 21, 22, 23, 24, 25, 26, 27, 28, 29, 30, 31, 32, 33, 34, 35], [35])])) (B := [0, 1, 3, 7, 15, 31, 63, 63, 255, 511, 1023, 2047, 2047, 6143, 16383, 32767, 65535, 131071, 131071, 393215, 1048575, 2097151, 4194303, 8388607, 16777215, 8388607, 41943039, 134217727, 268435455, 536870911, 1073741823, 2147483647, 1073741823, 5368709119, 17179869183, 34359738367, 68719476735]) 37 [(0, some 111), (1, some 112), (2, some 113), (3, some 114), (4, some 115), (5, some 116), (6, some 117), (7, some 118), (8, some 119), (9, some 120), (10, some 121), (11, some 122), (12, some 123), (13, some 124), (14, some 125), (15, some 126), (16, some 127), (17, some 128), (18, some 129), (19, some 130), (20, some 131), (21, some 132), (22, some 133), (23, some 134), (25, some 136), (26, some 137), (24, some 135), (27, some 138), (28, some 139), (29, some 140), (30, some 141), (32, some 143), (33, some 144), (31, some 142), (34, some 145), (35, some 146), (36, some 6)] (by kernel_rfl) rfl (by kernel_rfl) (by kernel_rfl) (by kernel_rfl) (by repeat (first | (with_reducible first | exact Below.refl _ _ | apply below_alloc | apply pw_below_drewN | apply below_drew1) | exact Below.refl _ _)) ?_
          intro HT_ HW_ w_ hHeld
          refine Evt.ow_call HT_ hHeld rfl rfl rfl (by kernel_rfl) Try.func33 (by kernel_rfl) rfl #[] (by rfl) (by (try simp only [List.map_toArray, List.map_cons, List.map_nil]); first | done | rfl | (simp only [List.length_drop, List.length_take]; rfl)) ?_
          (with_reducible refine (alive_any _).mono ?_)
          rintro e w_ ⟨rfl, hb⟩
          refine ⟨_, rfl, hb, fun hHeld_ => ?_⟩
          clear hHeld hb
          have hHeld := hHeld_
          clear hHeld_
          refine Evt.ow_norm (a' := ?_) ?_ ?_
          rotate_left
          · simp only [Act.put, List.setIfInBounds_toArray, List.set_cons_zero, List.set_cons_succ, i64_w, i32_w]; rfl
          iterate 25 (first | (refine Evt.ow_off (a' := ?_) HT_ rfl rfl (by rfl) (by kernel_rfl) (fun _ _ _ h => h) ?_ ?_; rotate_left; (· (try simp only [Act.put, List.setIfInBounds_toArray, List.set_cons_zero, List.set_cons_succ, i64_w, i32_w]); rfl)) | (refine Evt.ow_pure (a' := ?_) (v := ?_) HT_ rfl rfl rfl (by rfl) (by kernel_rfl) (fun _ _ _ h => h) ?_ ?_ ?_; rotate_left 2; (· intro w'; go_simp; with_reducible rfl); (· (try simp only [Act.put, List.setIfInBounds_toArray, List.set_cons_zero, List.set_cons_succ, i64_w, i32_w]); rfl)) | (refine Evt.ow_load (a' := ?_) (v := ?_) HT_ HW_ hHeld rfl rfl rfl (by rfl) (by kernel_rfl) (fun _ _ _ h => h) ?_ ?_ ?_; rotate_left 2; (· intro w' hS_; obtain ⟨s0, s1, s2, s3, s4, s5⟩ := KP.out w' hS_.out; go_simp; with_reducible rfl); (· (try simp only [Act.put, List.setIfInBounds_toArray, List.set_cons_zero, List.set_cons_succ, i64_w, i32_w]); rfl)))
          refine Evt.ow_call HT_ hHeld rfl rfl rfl (by kernel_rfl) Try.func37 (by kernel_rfl) rfl #[.pointer (some ⟨gm, 0, none⟩)] (by rfl) (by (try simp only [List.map_toArray, List.map_cons, List.map_nil]); first | done | rfl | (simp only [List.length_drop, List.length_take]; rfl)) ?_
          (with_reducible refine (at_any (VP.out.below hHeld.out)).mono ?_)
          rintro e w_ ⟨rfl, hb⟩
          refine ⟨_, rfl, hb, fun hHeld_ => ?_⟩
          clear hHeld hb
          have hHeld := hHeld_
          clear hHeld_
          refine Evt.ow_norm (a' := ?_) ?_ ?_
          rotate_left
          · simp only [Act.put, List.setIfInBounds_toArray, List.set_cons_zero, List.set_cons_succ, i64_w, i32_w]; rfl
          iterate 6 (first | (refine Evt.ow_off (a' := ?_) HT_ rfl rfl (by rfl) (by kernel_rfl) (fun _ _ _ h => h) ?_ ?_; rotate_left; (· (try simp only [Act.put, List.setIfInBounds_toArray, List.set_cons_zero, List.set_cons_succ, i64_w, i32_w]); rfl)) | (refine Evt.ow_pure (a' := ?_) (v := ?_) HT_ rfl rfl rfl (by rfl) (by kernel_rfl) (fun _ _ _ h => h) ?_ ?_ ?_; rotate_left 2; (· intro w'; go_simp; with_reducible rfl); (· (try simp only [Act.put, List.setIfInBounds_toArray, List.set_cons_zero, List.set_cons_succ, i64_w, i32_w]); rfl)) | (refine Evt.ow_load (a' := ?_) (v := ?_) HT_ HW_ hHeld rfl rfl rfl (by rfl) (by kernel_rfl) (fun _ _ _ h => h) ?_ ?_ ?_; rotate_left 2; (· intro w' hS_; obtain ⟨s0, s1, s2, s3, s4, s5⟩ := KP.out w' hS_.out; go_simp; with_reducible rfl); (· (try simp only [Act.put, List.setIfInBounds_toArray, List.set_cons_zero, List.set_cons_succ, i64_w, i32_w]); rfl)))
          refine Evt.ow_call HT_ hHeld rfl rfl rfl (by kernel_rfl) Try.func39 (by kernel_rfl) rfl #[.pointer (some ⟨gm, 0, none⟩)] (by rfl) (by (try simp only [List.map_toArray, List.map_cons, List.map_nil]); first | done | rfl | (simp only [List.length_drop, List.length_take]; rfl)) ?_
          (with_reducible refine (state_c (VP.out.below hHeld.out)).mono ?_)
          rintro e w_ ⟨Y0, y0, Y1, y1, Y2, y2, rfl, hs_, hb⟩
          have SY := Aside0.mk hs_; clear hs_
          refine ⟨_, rfl, hb, fun hHeld_ => ?_⟩
          clear hHeld hb
          have hHeld := hHeld_
          clear hHeld_
          refine Evt.ow_norm (a' := ?_) ?_ ?_
          rotate_left
          · simp only [Act.put, List.setIfInBounds_toArray, List.set_cons_zero, List.set_cons_succ, i64_w, i32_w]; rfl
          refine Evt.ow_call HT_ hHeld rfl rfl rfl (by kernel_rfl) Try.func22 (by kernel_rfl) rfl #[.agg #[.slice Y0 sF.q.length y0, .slice Y1 sF.m.length y1, .slice Y2 sF.e.length y2], .agg #[.slice X0 sF.q.length x0, .slice X1 sF.m.length x1, .slice X2 sF.e.length x2]] (by rfl) (by (try simp only [List.map_toArray, List.map_cons, List.map_nil]); first | done | rfl | (simp only [List.length_drop, List.length_take]; rfl)) ?_
          (with_reducible refine (equalS SY.out (SS.out.below hHeld.out)).mono ?_)
          rintro e w_ ⟨rfl, hb⟩
          refine ⟨_, rfl, hb, fun hHeld_ => ?_⟩
          clear hHeld hb
          have hHeld := hHeld_
          clear hHeld_
          refine Evt.ow_norm (a' := ?_) ?_ ?_
          rotate_left
          · simp only [Act.put, List.setIfInBounds_toArray, List.set_cons_zero, List.set_cons_succ, i64_w, i32_w]; rfl
          iterate 2 (first | (refine Evt.ow_off (a' := ?_) HT_ rfl rfl (by rfl) (by kernel_rfl) (fun _ _ _ h => h) ?_ ?_; rotate_left; (· (try simp only [Act.put, List.setIfInBounds_toArray, List.set_cons_zero, List.set_cons_succ, i64_w, i32_w]); rfl)) | (refine Evt.ow_pure (a' := ?_) (v := ?_) HT_ rfl rfl rfl (by rfl) (by kernel_rfl) (fun _ _ _ h => h) ?_ ?_ ?_; rotate_left 2; (· intro w'; go_simp; with_reducible rfl); (· (try simp only [Act.put, List.setIfInBounds_toArray, List.set_cons_zero, List.set_cons_succ, i64_w, i32_w]); rfl)) | (refine Evt.ow_load (a' := ?_) (v := ?_) HT_ HW_ hHeld rfl rfl rfl (by rfl) (by kernel_rfl) (fun _ _ _ h => h) ?_ ?_ ?_; rotate_left 2; (· intro w' hS_; obtain ⟨s0, s1, s2, s3, s4, s5⟩ := KP.out w' hS_.out; go_simp; with_reducible rfl); (· (try simp only [Act.put, List.setIfInBounds_toArray, List.set_cons_zero, List.set_cons_succ, i64_w, i32_w]); rfl)))
          refine Evt.ow_done HT_ (by kernel_rfl) ?_
          refine Evt.gen_any (w0 := w9) hHeld.out ?_
          intro w3 hbx
          clear hHeld HT_ HW_ KP
          replace VP := Aside0.mk (VP.out.below hbx)
          replace SS := Aside0.mk (SS.out.below hbx)
          replace BK7 := Aside0.mk (BK7.out.below hbx)
          replace HB := Aside0.mk (below_step HB.out hbx)
          clear hbx
          obtain ⟨zBK7_0, zBK7_1, zBK7_2, zBK7_3, zBK7_4, zBK7_5⟩ := BK7.out.c6
          go_wp2
          go_ret
          exact ⟨rfl, below_step HB0.out HB.out⟩
          skip
set_option maxHeartbeats 4000000 in
theorem te_big (w : World) (hS : Sr Kd.bool w AQ cQ AM cM AE cE q m e) (TL : ∀ w', Below w.heap.size w w' → Calls Try.prog 32 #[.slice AC l.length cC, .slice AI li.length cI, .agg #[.slice AQ q.length cQ, .slice AM m.length cM, .slice AE e.length cE]] w' fun x w2 => x = .returned (.bool true) ∧ Below w'.heap.size w' w2) :
    Calls Try.prog 13 #[.slice AC l.length cC, .slice AI li.length cI, .agg #[.slice AQ q.length cQ, .slice AM m.length cM, .slice AE e.length cE]] w fun x w' => x = .returned (.bool true) ∧ Below w.heap.size w w' := by
  have HT := Aside0.mk TL
  have HB := Aside0.mk (Below.refl w.heap.size w)
  clear hS TL
  go_enter Try.func13, Try.ntmps13
  go_wp2_with (first | ((with_reducible refine gate_dst (N := 5) rfl ?_); refine box_event ?hg (N := 5) ?hd (cs := #[.slice AQ q.length cQ, .slice AM m.length cM, .slice AE e.length cE]) (t := 24) ?hr ?_; (case hd => rfl); (case hg => rfl); (case hr => first | (go_simp; done) | (go_simp; rfl)); intro g5 hg w1 hbox hb; have hbx : Below w.heap.size w w1 := below_step (by repeat (first | (with_reducible first | exact Below.refl _ _ | apply below_alloc | apply pw_below_drewN | apply below_drew1) | exact Below.refl _ _)) hb; replace HB := Aside0.mk (below_step HB.out hbx); clear hbx; have BK5 := Aside0.mk (Bk.mk (hbox : Blk w1 g5 24 #[.slice AQ q.length cQ, .slice AM m.length cM, .slice AE e.length cE])); clear hbox hg hb; obtain ⟨zBK5_0, zBK5_1, zBK5_2⟩ := BK5.out.c3) | (go_at_call 32; (with_reducible refine (HT.out _ (below_step HB.out (by repeat (first | (with_reducible first | exact Below.refl _ _ | apply below_alloc | apply pw_below_drewN | apply below_drew1) | exact Below.refl _ _)))).mono ?_); rintro e w2 ⟨rfl, hb⟩; have hbx : Below w1.heap.size w1 w2 := below_step (by repeat (first | (with_reducible first | exact Below.refl _ _ | apply below_alloc | apply pw_below_drewN | apply below_drew1) | exact Below.refl _ _)) hb; clear zBK5_0 zBK5_1 zBK5_2; replace BK5 := Aside0.mk (BK5.out.below hbx); replace HB := Aside0.mk (below_step HB.out hbx); clear hbx; clear hb; obtain ⟨zBK5_0, zBK5_1, zBK5_2⟩ := BK5.out.c3) | (go_at_call 33; (with_reducible refine (alive_any _).mono ?_); rintro e w3 ⟨rfl, hb⟩; have hbx : Below w2.heap.size w2 w3 := below_step (by repeat (first | (with_reducible first | exact Below.refl _ _ | apply below_alloc | apply pw_below_drewN | apply below_drew1) | exact Below.refl _ _)) hb; clear zBK5_0 zBK5_1 zBK5_2; replace BK5 := Aside0.mk (BK5.out.below hbx); replace HB := Aside0.mk (below_step HB.out hbx); clear hbx; clear hb; obtain ⟨zBK5_0, zBK5_1, zBK5_2⟩ := BK5.out.c3))
  go_ret
  exact ⟨rfl, HB.out⟩
end
theorem te_walk (w : World) (A0 : Option Addr) (c0 : Nat) (l : List S66) (w0 : l.length ≤ c0) (y0 : Kd.C k66 w A0 l.length l) (z0 : SlQ (fun y : S66 => I64 y.f0 ∧ (I64 y.f1.f0 ∧ I64 y.f1.f1) ∧ I64 y.f2) l) (A1 : Option Addr) (c1 : Nat) (li : List Bool) (w1 : li.length ≤ c1) (y1 : Kd.C Kd.bool w A1 li.length li) (z1 : SlQ (fun _ : Bool => True) li) (cs : List Value) (y : List Bool × List Bool × List Bool) (y2 : KSt.K w y cs) (z2 : SlQ (fun _ : Bool => True) y.1 ∧ SlQ (fun _ : Bool => True) y.2.1 ∧ SlQ (fun _ : Bool => True) y.2.2) :
    Calls Try.prog 13 #[.slice A0 l.length c0, .slice A1 li.length c1, .agg cs.toArray] w fun x w' => x = .returned (.bool true) ∧ Below w.heap.size w w' := by
  obtain ⟨AQ, cQ, AM, cM, AE, cE, rfl, r1⟩ := st_form y2
  obtain ⟨b, hb, ht⟩ := too_any l li y.1 y.2.1 y.2.2
  cases b with
  | true => exact te_big w r1 (fun w' h => ht w' (r1.below h))
  | false =>
    have hs := hb rfl
    have := hs.q; have := hs.m; have := hs.e
    exact te_go w y0 ⟨w1, y1⟩ ⟨r1, by omega, by omega, by omega⟩ (WfC.sl z0) hs (fun w' h => ht w' (r1.below h))
end Go.Proofs.Ytjohdkbciafpfaa.Vm6
