/- Chapter 06: load and combine instructions, walked. -/
import Derived.Test.YtjohdkbciafpfaaVm
import Derived.Test.YtjohdkbciafpfaaOr
import Derived.Outline
namespace Go.Proofs.Ytjohdkbciafpfaa.Vm6
open Go.RowKit Go.Proofs.YtjohdkbciafpfaaW.PrintWords Go.Proofs.YtjohdkbciafpfaaW.PrintMore Go.Proofs.YtjohdkbciafpfaaW.PrintLast Go.Proofs.Ytjohdkbciafpfaa.Chg Go.Proofs.Ytjohdkbciafpfaa.Evt Go.Proofs.Ytjohdkbciafpfaa.Impl
set_option linter.unusedVariables false
set_option linter.unusedSimpArgs false
set_option maxRecDepth 100000
section
variable {w w' : World} {base : Nat} {U : Nat → Prop} {gm gt mo : Nat} {vC vI vQ vM vE vL : Value} {l : List S66} {li : List Bool} {s : MS} {k a b j : Int}
theorem readC' {A A0 A1 A2 : Option Addr} {c c0 c1 c2 : Nat} {l l0 l1 l2 : List Bool} {w : World} (a b : Int) (h : Rw Kd.bool w A c l) (h' : Sb w A0 c0 A1 c1 A2 c2 l0 l1 l2) {v : Bool} {e : Int} (hr : rdv l l0 l1 a b = (v, e)) :
    Calls Try.prog 18 #[.slice A l.length c, .agg #[.slice A0 l0.length c0, .slice A1 l1.length c1, .slice A2 l2.length c2], .agg #[.int .i64 a, .int .i64 b]] w fun x w' => x = .returned (.tuple #[.bool v, .int .i64 e]) ∧ Below w.heap.size w w' :=
  (readC a b h h').mono fun x w' ⟨he, hb⟩ => ⟨by rw [hr] at he; exact he, hb⟩
/-- The machine's rows, written out. -/
theorem Vm.forms (h : Vm w base U gm gt vC vI vQ vM vE vL mo l li s) : ∃ AC cC AI cI AQ cQ AM cM AE cE, vC = .slice AC l.length cC ∧ vI = .slice AI li.length cI ∧ vQ = .slice AQ s.q.length cQ ∧ vM = .slice AM s.m.length cM ∧ vE = .slice AE s.e.length cE := by
  obtain ⟨AC, cC, h0⟩ := Kd.R_slice h.rc
  obtain ⟨AI, cI, h1⟩ := Kd.R_slice h.ri
  obtain ⟨AQ, cQ, h2⟩ := Kd.R_slice h.rq
  obtain ⟨AM, cM, h3⟩ := Kd.R_slice h.rm
  obtain ⟨AE, cE, h4⟩ := Kd.R_slice h.re
  exact ⟨AC, cC, AI, cI, AQ, cQ, AM, cM, AE, cE, h0, h1, h2, h3, h4⟩
theorem Vm.sb {AQ AM AE : Option Addr} {cQ cM cE : Nat} (h : Vm w base U gm gt vC vI (.slice AQ s.q.length cQ) (.slice AM s.m.length cM) (.slice AE s.e.length cE) vL mo l li s) : Sb w AQ cQ AM cM AE cE s.q s.m s.e :=
  ⟨⟨Rw.of_R h.rq, Rw.of_R h.rm, Rw.of_R h.re⟩, h.fit.q, h.fit.m, h.fit.e⟩
/-- The accumulator is written. -/
theorem stp_acc (h : Vm w base U gm gt vC vI vQ vM vE vL mo l li s) {c c' : Bool} (hc : c' = c) : Stp w base U gm l li { s with acc := c' } (w.setCell ⟨gm, 6, none⟩ (.bool c)) := by
  subst hc
  exact h.stp 6 _ rfl rfl rfl rfl rfl h.fit.p0 h.fit.p1
section
variable {q m e st : List Bool} {pc fault : Int} {acc ended : Bool}
set_option maxHeartbeats 4000000 in
theorem logic_err (h : Vm w base U gm gt vC vI vQ vM vE vL mo l li ⟨q, m, e, pc, acc, st, ended, fault⟩) {v : Bool} {er : Int} (hr : rdv li q m a b = (v, er)) (he : er ≠ 0) :
    Calls Try.prog 62 #[.pointer (some ⟨gm, 0, none⟩), .agg #[.int .i64 k, .int .i64 a, .int .i64 b, .int .i64 j]] w fun x w' => x = .returned (.int .i64 er) ∧ Stp w base U gm l li ⟨q, m, e, pc, acc, st, ended, fault⟩ w' := by
  obtain ⟨AC, cC, AI, cI, AQ, cQ, AM, cM, AE, cE, rfl, rfl, rfl, rfl, rfl⟩ := h.forms
  have HR := Aside0.mk hr
  have t0 : decide (er = 0) = false := decide_eq_false he
  have t1 : (er == 0) = false := beq_eq_false_iff_ne.mpr he
  have t2 : (er != 0) = true := bne_iff_ne.mpr he
  have HB := Aside0.mk (Below.refl w.heap.size w)
  have V := Aside0.mk (h)
  have RI := Aside0.mk (Rw.of_R h.ri)
  have SB := Aside0.mk (h.sb)
  have BM : Aside0 (Bk w gm 98 #[.slice AC l.length cC, .slice AI li.length cI, .slice AQ q.length cQ, .slice AM m.length cM, .slice AE e.length cE, .int .i64 pc, .bool acc, .pointer (some ⟨gt, 0, none⟩), .bool ended, .int .i64 fault]) := Aside0.mk (h.bm)
  clear h hr he
  obtain ⟨zBM_0, zBM_1, zBM_2, zBM_3, zBM_4, zBM_5, zBM_6, zBM_7, zBM_8, zBM_9⟩ := BM.out.c10
  go_enter Try.func62, Try.ntmps62
  go_wp2_with (((with_reducible refine gate_dst (N := 3) rfl ?_); refine box_event ?hg (N := 3) ?hd (cs := #[.int .i64 k, .int .i64 a, .int .i64 b, .int .i64 j]) (t := 66) ?hr ?_; (case hd => rfl); (case hg => rfl); (case hr => first | (go_simp; done) | (go_simp; rfl)); intro g3 hg w1 hbox hb; have hbx : Below w.heap.size w w1 := below_step (by repeat (first | (with_reducible first | exact Below.refl _ _ | apply below_alloc | apply pw_below_drewN | apply below_drew1) | exact Below.refl _ _)) hb; clear zBM_0 zBM_1 zBM_2 zBM_3 zBM_4 zBM_5 zBM_6 zBM_7 zBM_8 zBM_9; replace V := Aside0.mk (V.out.below hbx); replace RI := Aside0.mk (RI.out.below hbx); replace SB := Aside0.mk (SB.out.below hbx); replace BM := Aside0.mk (BM.out.below hbx); replace HB := Aside0.mk (below_step HB.out hbx); clear hbx; have BK3 := Aside0.mk (Bk.mk (hbox : Blk w1 g3 66 #[.int .i64 k, .int .i64 a, .int .i64 b, .int .i64 j])); clear hbox hg hb; obtain ⟨zBM_0, zBM_1, zBM_2, zBM_3, zBM_4, zBM_5, zBM_6, zBM_7, zBM_8, zBM_9⟩ := BM.out.c10; obtain ⟨zBK3_0, zBK3_1, zBK3_2, zBK3_3⟩ := BK3.out.c4))
  have KP := Aside0.mk (fun w' (hb : Below w1.heap.size w1 w') => And.intro ((BM.out.below hb).c10) ((BK3.out.below hb).c4))
  clear zBM_0 zBM_1 zBM_2 zBM_3 zBM_4 zBM_5 zBM_6 zBM_7 zBM_8 zBM_9 zBK3_0 zBK3_1 zBK3_2 zBK3_3
  refine Evt.ow_start (w0 := w1) (T := (true, [([], []), ([0], [0]), ([1], [1]), ([2], [2]), ([], []), ([4], [4]), ([5], [5]), ([6], [6]), ([], []), ([8], [8]), ([3, 7, 9], [3, 7, 9]), ([10], [10]), ([11], [11]), ([11], [11]), ([12, 10, 0, 1, 2, 3, 4, 5, 6, 7, 8, 9, 10, 11, 12], [12]), ([13, 14, 0, 1, 2, 3, 4, 5, 6, 7, 8, 9, 10, 11, 12, 13, 14], [13])])) (B := [0, 1, 3, 7, 0, 16, 48, 112, 0, 256, 1023, 2047, 4095, 4095, 8191, 32767]) 16 [(0, some 8), (1, some 9), (2, some 10), (4, some 12), (5, some 13), (6, some 14), (8, some 16), (3, some 11), (7, some 15), (9, some 17), (10, some 18), (11, some 7), (12, some 19), (13, some 20), (14, some 5), (15, some 6)] (by kernel_rfl) rfl (by kernel_rfl) (by kernel_rfl) (by kernel_rfl) (by repeat (first | (with_reducible first | exact Below.refl _ _ | apply below_alloc | apply pw_below_drewN | apply below_drew1) | exact Below.refl _ _)) ?_
  intro HT_ HW_ w_ hHeld
  iterate 10 (first | (refine Evt.ow_off (a' := ?_) HT_ rfl rfl (by rfl) (by kernel_rfl) (fun _ _ _ h => h) ?_ ?_; rotate_left; (· (try simp only [Act.put, List.setIfInBounds_toArray, List.set_cons_zero, List.set_cons_succ, i64_w, i32_w]); rfl)) | (refine Evt.ow_pure (a' := ?_) (v := ?_) HT_ rfl rfl rfl (by rfl) (by kernel_rfl) (fun _ _ _ h => h) ?_ ?_ ?_; rotate_left 2; (· intro w'; go_simp; with_reducible rfl); (· (try simp only [Act.put, List.setIfInBounds_toArray, List.set_cons_zero, List.set_cons_succ, i64_w, i32_w]); rfl)) | (refine Evt.ow_load (a' := ?_) (v := ?_) HT_ HW_ hHeld rfl rfl rfl (by rfl) (by kernel_rfl) (fun _ _ _ h => h) ?_ ?_ ?_; rotate_left 2; (· intro w' hS_; obtain ⟨⟨s0, s1, s2, s3, s4, s5, s6, s7, s8, s9⟩, ⟨s10, s11, s12, s13⟩⟩ := KP.out w' hS_.out; go_simp; with_reducible rfl); (· (try simp only [Act.put, List.setIfInBounds_toArray, List.set_cons_zero, List.set_cons_succ, i64_w, i32_w]); rfl)))
  refine Evt.ow_call HT_ hHeld rfl rfl rfl (by kernel_rfl) Try.func18 (by kernel_rfl) rfl #[.slice AI li.length cI, .agg #[.slice AQ q.length cQ, .slice AM m.length cM, .slice AE e.length cE], .agg #[.int .i64 a, .int .i64 b]] (by rfl) (by (try simp only [List.map_toArray, List.map_cons, List.map_nil]); first | done | rfl | (simp only [List.length_drop, List.length_take]; rfl)) ?_
  (with_reducible refine (readC' a b (RI.out.below hHeld.out) (SB.out.below hHeld.out) HR.out).mono ?_)
  rintro e w_ ⟨rfl, hb⟩
  refine ⟨_, rfl, hb, fun hHeld_ => ?_⟩
  clear hHeld hb
  have hHeld := hHeld_
  clear hHeld_
  refine Evt.ow_norm (a' := ?_) ?_ ?_
  rotate_left
  · simp only [Act.put, List.setIfInBounds_toArray, List.set_cons_zero, List.set_cons_succ, i64_w, i32_w]; rfl
  iterate 5 (first | (refine Evt.ow_off (a' := ?_) HT_ rfl rfl (by rfl) (by kernel_rfl) (fun _ _ _ h => h) ?_ ?_; rotate_left; (· (try simp only [Act.put, List.setIfInBounds_toArray, List.set_cons_zero, List.set_cons_succ, i64_w, i32_w]); rfl)) | (refine Evt.ow_pure (a' := ?_) (v := ?_) HT_ rfl rfl rfl (by rfl) (by kernel_rfl) (fun _ _ _ h => h) ?_ ?_ ?_; rotate_left 2; (· intro w'; go_simp; with_reducible rfl); (· (try simp only [Act.put, List.setIfInBounds_toArray, List.set_cons_zero, List.set_cons_succ, i64_w, i32_w]); rfl)) | (refine Evt.ow_load (a' := ?_) (v := ?_) HT_ HW_ hHeld rfl rfl rfl (by rfl) (by kernel_rfl) (fun _ _ _ h => h) ?_ ?_ ?_; rotate_left 2; (· intro w' hS_; obtain ⟨⟨s0, s1, s2, s3, s4, s5, s6, s7, s8, s9⟩, ⟨s10, s11, s12, s13⟩⟩ := KP.out w' hS_.out; go_simp; with_reducible rfl); (· (try simp only [Act.put, List.setIfInBounds_toArray, List.set_cons_zero, List.set_cons_succ, i64_w, i32_w]); rfl)))
  refine Evt.ow_done HT_ (by kernel_rfl) ?_
  refine Evt.gen_any (w0 := w1) hHeld.out ?_
  intro w2 hbx
  clear hHeld HT_ HW_ KP
  replace V := Aside0.mk (V.out.below hbx)
  replace RI := Aside0.mk (RI.out.below hbx)
  replace SB := Aside0.mk (SB.out.below hbx)
  replace BM := Aside0.mk (BM.out.below hbx)
  replace BK3 := Aside0.mk (BK3.out.below hbx)
  replace HB := Aside0.mk (below_step HB.out hbx)
  clear hbx
  obtain ⟨zBM_0, zBM_1, zBM_2, zBM_3, zBM_4, zBM_5, zBM_6, zBM_7, zBM_8, zBM_9⟩ := BM.out.c10
  obtain ⟨zBK3_0, zBK3_1, zBK3_2, zBK3_3⟩ := BK3.out.c4
  go_wp2
  go_ret
  exact ⟨rfl, (Stp.here ⟨_, _, _, _, _, _, _, _, V.out⟩).from HB.out⟩
theorem logic_kinds (h : 0 ≤ k ∧ k ≤ 5) : (k = 0 ∧ (k == 0) = true ∧ decide (k = 0) = true ∧ (k == 1) = false ∧ decide (k = 1) = false ∧ (k == 2) = false ∧ decide (k = 2) = false ∧ (k == 3) = false ∧ decide (k = 3) = false ∧ (k == 5) = false ∧ decide (k = 5) = false) ∨ (k = 1 ∧ (k == 0) = false ∧ decide (k = 0) = false ∧ (k == 1) = true ∧ decide (k = 1) = true ∧ (k == 2) = false ∧ decide (k = 2) = false ∧ (k == 3) = false ∧ decide (k = 3) = false ∧ (k == 5) = false ∧ decide (k = 5) = false) ∨ (k = 2 ∧ (k == 0) = false ∧ decide (k = 0) = false ∧ (k == 1) = false ∧ decide (k = 1) = false ∧ (k == 2) = true ∧ decide (k = 2) = true ∧ (k == 3) = false ∧ decide (k = 3) = false ∧ (k == 5) = false ∧ decide (k = 5) = false) ∨ (k = 3 ∧ (k == 0) = false ∧ decide (k = 0) = false ∧ (k == 1) = false ∧ decide (k = 1) = false ∧ (k == 2) = false ∧ decide (k = 2) = false ∧ (k == 3) = true ∧ decide (k = 3) = true ∧ (k == 5) = false ∧ decide (k = 5) = false) ∨ (k = 4 ∧ (k == 0) = false ∧ decide (k = 0) = false ∧ (k == 1) = false ∧ decide (k = 1) = false ∧ (k == 2) = false ∧ decide (k = 2) = false ∧ (k == 3) = false ∧ decide (k = 3) = false ∧ (k == 5) = false ∧ decide (k = 5) = false) ∨ (k = 5 ∧ (k == 0) = false ∧ decide (k = 0) = false ∧ (k == 1) = false ∧ decide (k = 1) = false ∧ (k == 2) = false ∧ decide (k = 2) = false ∧ (k == 3) = false ∧ decide (k = 3) = false ∧ (k == 5) = true ∧ decide (k = 5) = true) := by
  obtain rfl | rfl | rfl | rfl | rfl | rfl : k = 0 ∨ k = 1 ∨ k = 2 ∨ k = 3 ∨ k = 4 ∨ k = 5 := by omega
  all_goals simp
set_option maxHeartbeats 32000000 in
theorem logic_ok (h : Vm w base U gm gt vC vI vQ vM vE vL mo l li ⟨q, m, e, pc, acc, st, ended, fault⟩) (hk : 0 ≤ k ∧ k ≤ 5) {v : Bool} (hr : rdv li q m a b = (v, 0)) :
    Calls Try.prog 62 #[.pointer (some ⟨gm, 0, none⟩), .agg #[.int .i64 k, .int .i64 a, .int .i64 b, .int .i64 j]] w fun x w' => x = .returned (.int .i64 0) ∧ Stp w base U gm l li ⟨q, m, e, pc, comb k acc v, st, ended, fault⟩ w' := by
  obtain ⟨AC, cC, AI, cI, AQ, cQ, AM, cM, AE, cE, rfl, rfl, rfl, rfl, rfl⟩ := h.forms
  have HR := Aside0.mk hr
  rcases logic_kinds hk with ⟨e_, a0, b0, a1, b1, a2, b2, a3, b3, a5, b5⟩ | ⟨e_, a0, b0, a1, b1, a2, b2, a3, b3, a5, b5⟩ | ⟨e_, a0, b0, a1, b1, a2, b2, a3, b3, a5, b5⟩ | ⟨e_, a0, b0, a1, b1, a2, b2, a3, b3, a5, b5⟩ | ⟨e_, a0, b0, a1, b1, a2, b2, a3, b3, a5, b5⟩ | ⟨e_, a0, b0, a1, b1, a2, b2, a3, b3, a5, b5⟩
  all_goals
    have K := Aside0.mk e_
    clear e_
    have HB := Aside0.mk (Below.refl w.heap.size w)
    have V := Aside0.mk (h)
    have RI := Aside0.mk (Rw.of_R h.ri)
    have SB := Aside0.mk (h.sb)
    have BM : Aside0 (Bk w gm 98 #[.slice AC l.length cC, .slice AI li.length cI, .slice AQ q.length cQ, .slice AM m.length cM, .slice AE e.length cE, .int .i64 pc, .bool acc, .pointer (some ⟨gt, 0, none⟩), .bool ended, .int .i64 fault]) := Aside0.mk (h.bm)
    clear h hr hk
    obtain ⟨zBM_0, zBM_1, zBM_2, zBM_3, zBM_4, zBM_5, zBM_6, zBM_7, zBM_8, zBM_9⟩ := BM.out.c10
    go_enter Try.func62, Try.ntmps62
    go_wp2_with (((with_reducible refine gate_dst (N := 3) rfl ?_); refine box_event ?hg (N := 3) ?hd (cs := #[.int .i64 k, .int .i64 a, .int .i64 b, .int .i64 j]) (t := 66) ?hr ?_; (case hd => rfl); (case hg => rfl); (case hr => first | (go_simp; done) | (go_simp; rfl)); intro g3 hg w1 hbox hb; have hbx : Below w.heap.size w w1 := below_step (by repeat (first | (with_reducible first | exact Below.refl _ _ | apply below_alloc | apply pw_below_drewN | apply below_drew1) | exact Below.refl _ _)) hb; clear zBM_0 zBM_1 zBM_2 zBM_3 zBM_4 zBM_5 zBM_6 zBM_7 zBM_8 zBM_9; replace V := Aside0.mk (V.out.below hbx); replace RI := Aside0.mk (RI.out.below hbx); replace SB := Aside0.mk (SB.out.below hbx); replace BM := Aside0.mk (BM.out.below hbx); replace HB := Aside0.mk (below_step HB.out hbx); clear hbx; have BK3 := Aside0.mk (Bk.mk (hbox : Blk w1 g3 66 #[.int .i64 k, .int .i64 a, .int .i64 b, .int .i64 j])); clear hbox hg hb; obtain ⟨zBM_0, zBM_1, zBM_2, zBM_3, zBM_4, zBM_5, zBM_6, zBM_7, zBM_8, zBM_9⟩ := BM.out.c10; obtain ⟨zBK3_0, zBK3_1, zBK3_2, zBK3_3⟩ := BK3.out.c4))
    have KP := Aside0.mk (fun w' (hb : Below w1.heap.size w1 w') => And.intro ((BM.out.below hb).c10) ((BK3.out.below hb).c4))
    clear zBM_0 zBM_1 zBM_2 zBM_3 zBM_4 zBM_5 zBM_6 zBM_7 zBM_8 zBM_9 zBK3_0 zBK3_1 zBK3_2 zBK3_3
    refine Evt.ow_start (w0 := w1) (T := (true, [([], []), ([0], [0]), ([1], [1]), ([2], [2]), ([], []), ([4], [4]), ([5], [5]), ([6], [6]), ([], []), ([8], [8]), ([3, 7, 9], [3, 7, 9]), ([10], [10]), ([11], [11]), ([11], [11]), ([12, 10, 0, 1, 2, 3, 4, 5, 6, 7, 8, 9, 10, 11, 12], [12]), ([13, 14, 0, 1, 2, 3, 4, 5, 6, 7, 8, 9, 10, 11, 12, 13, 14], [13])])) (B := [0, 1, 3, 7, 0, 16, 48, 112, 0, 256, 1023, 2047, 4095, 4095, 8191, 32767]) 16 [(0, some 8), (1, some 9), (2, some 10), (4, some 12), (5, some 13), (6, some 14), (8, some 16), (3, some 11), (7, some 15), (9, some 17), (10, some 18), (11, some 7), (12, some 19), (13, some 20), (14, some 5), (15, some 6)] (by kernel_rfl) rfl (by kernel_rfl) (by kernel_rfl) (by kernel_rfl) (by repeat (first | (with_reducible first | exact Below.refl _ _ | apply below_alloc | apply pw_below_drewN | apply below_drew1) | exact Below.refl _ _)) ?_
    intro HT_ HW_ w_ hHeld
    iterate 10 (first | (refine Evt.ow_off (a' := ?_) HT_ rfl rfl (by rfl) (by kernel_rfl) (fun _ _ _ h => h) ?_ ?_; rotate_left; (· (try simp only [Act.put, List.setIfInBounds_toArray, List.set_cons_zero, List.set_cons_succ, i64_w, i32_w]); rfl)) | (refine Evt.ow_pure (a' := ?_) (v := ?_) HT_ rfl rfl rfl (by rfl) (by kernel_rfl) (fun _ _ _ h => h) ?_ ?_ ?_; rotate_left 2; (· intro w'; go_simp; with_reducible rfl); (· (try simp only [Act.put, List.setIfInBounds_toArray, List.set_cons_zero, List.set_cons_succ, i64_w, i32_w]); rfl)) | (refine Evt.ow_load (a' := ?_) (v := ?_) HT_ HW_ hHeld rfl rfl rfl (by rfl) (by kernel_rfl) (fun _ _ _ h => h) ?_ ?_ ?_; rotate_left 2; (· intro w' hS_; obtain ⟨⟨s0, s1, s2, s3, s4, s5, s6, s7, s8, s9⟩, ⟨s10, s11, s12, s13⟩⟩ := KP.out w' hS_.out; go_simp; with_reducible rfl); (· (try simp only [Act.put, List.setIfInBounds_toArray, List.set_cons_zero, List.set_cons_succ, i64_w, i32_w]); rfl)))
    refine Evt.ow_call HT_ hHeld rfl rfl rfl (by kernel_rfl) Try.func18 (by kernel_rfl) rfl #[.slice AI li.length cI, .agg #[.slice AQ q.length cQ, .slice AM m.length cM, .slice AE e.length cE], .agg #[.int .i64 a, .int .i64 b]] (by rfl) (by (try simp only [List.map_toArray, List.map_cons, List.map_nil]); first | done | rfl | (simp only [List.length_drop, List.length_take]; rfl)) ?_
    (with_reducible refine (readC' a b (RI.out.below hHeld.out) (SB.out.below hHeld.out) HR.out).mono ?_)
    rintro e w_ ⟨rfl, hb⟩
    refine ⟨_, rfl, hb, fun hHeld_ => ?_⟩
    clear hHeld hb
    have hHeld := hHeld_
    clear hHeld_
    refine Evt.ow_norm (a' := ?_) ?_ ?_
    rotate_left
    · simp only [Act.put, List.setIfInBounds_toArray, List.set_cons_zero, List.set_cons_succ, i64_w, i32_w]; rfl
    iterate 5 (first | (refine Evt.ow_off (a' := ?_) HT_ rfl rfl (by rfl) (by kernel_rfl) (fun _ _ _ h => h) ?_ ?_; rotate_left; (· (try simp only [Act.put, List.setIfInBounds_toArray, List.set_cons_zero, List.set_cons_succ, i64_w, i32_w]); rfl)) | (refine Evt.ow_pure (a' := ?_) (v := ?_) HT_ rfl rfl rfl (by rfl) (by kernel_rfl) (fun _ _ _ h => h) ?_ ?_ ?_; rotate_left 2; (· intro w'; go_simp; with_reducible rfl); (· (try simp only [Act.put, List.setIfInBounds_toArray, List.set_cons_zero, List.set_cons_succ, i64_w, i32_w]); rfl)) | (refine Evt.ow_load (a' := ?_) (v := ?_) HT_ HW_ hHeld rfl rfl rfl (by rfl) (by kernel_rfl) (fun _ _ _ h => h) ?_ ?_ ?_; rotate_left 2; (· intro w' hS_; obtain ⟨⟨s0, s1, s2, s3, s4, s5, s6, s7, s8, s9⟩, ⟨s10, s11, s12, s13⟩⟩ := KP.out w' hS_.out; go_simp; with_reducible rfl); (· (try simp only [Act.put, List.setIfInBounds_toArray, List.set_cons_zero, List.set_cons_succ, i64_w, i32_w]); rfl)))
    refine Evt.ow_done HT_ (by kernel_rfl) ?_
    refine Evt.gen_any (w0 := w1) hHeld.out ?_
    intro w2 hbx
    clear hHeld HT_ HW_ KP
    replace V := Aside0.mk (V.out.below hbx)
    replace RI := Aside0.mk (RI.out.below hbx)
    replace SB := Aside0.mk (SB.out.below hbx)
    replace BM := Aside0.mk (BM.out.below hbx)
    replace BK3 := Aside0.mk (BK3.out.below hbx)
    replace HB := Aside0.mk (below_step HB.out hbx)
    clear hbx
    obtain ⟨zBM_0, zBM_1, zBM_2, zBM_3, zBM_4, zBM_5, zBM_6, zBM_7, zBM_8, zBM_9⟩ := BM.out.c10
    obtain ⟨zBK3_0, zBK3_1, zBK3_2, zBK3_3⟩ := BK3.out.c4
    have fBM_6 : w2.frozen? ⟨gm, 6, none⟩ = false := blk_frozen BM.out.blk 6
    go_wp2
  all_goals
    go_ret
    refine ⟨rfl, Stp.from HB.out (stp_acc V.out ?_)⟩
    rw [K.out]
    first | rfl | simp [comb, *]
end
end
end Go.Proofs.Ytjohdkbciafpfaa.Vm6
