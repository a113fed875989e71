/- Several texts of this session in one (join.py): Rp, Rc. -/
import Derived.Test.YtjohdkbciafpfaaRl
section
/- Chapter 06: the reference machine's pop, walked. Written by gen/rp.py. -/
namespace Go.Proofs.Ytjohdkbciafpfaa.Vm6
open Go.RowKit Go.Proofs.YtjohdkbciafpfaaW.PrintWords Go.Proofs.YtjohdkbciafpfaaW.PrintMore Go.Proofs.YtjohdkbciafpfaaW.PrintLast Go.Proofs.Ytjohdkbciafpfaa.Chg Go.Proofs.Ytjohdkbciafpfaa.Evt Go.Proofs.Ytjohdkbciafpfaa.Impl
set_option linter.unusedVariables false
set_option linter.unusedSimpArgs false
set_option maxRecDepth 100000
section
variable {w w' : World} {base : Nat} {V : Nat → Prop} {gm : Nat} {vC vI vQ vM vE vL : Value} {l : List S66} {li : List Bool} {s : MS} {k a b j : Int}
variable {q m e st : List Bool} {pc fault : Int} {acc ended : Bool}
set_option maxHeartbeats 4000000 in
theorem rpop_nil (h : Rm w base V gm vC vI vQ vM vE vL l li ⟨q, m, e, pc, acc, [], ended, fault⟩)  :
    Calls Try.prog 71 #[.pointer (some ⟨gm, 0, none⟩), .agg #[.int .i64 k, .int .i64 a, .int .i64 b, .int .i64 j]] w fun x w' => x = .returned (.int .i64 18) ∧ Srp w base V gm l li ⟨q, m, e, pc, acc, [], ended, fault⟩ w' := by
  obtain ⟨AC, cC, AI, cI, AQ, cQ, AM, cM, AE, cE, AL, cL, rfl, rfl, rfl, rfl, rfl, rfl⟩ := h.forms
  have HB := Aside0.mk (Below.refl w.heap.size w)
  have V := Aside0.mk (h)
  have RI := Aside0.mk (Rw.of_R h.ri)
  have SB := Aside0.mk (h.sb)
  have BM : Aside0 (Bk w gm 83 #[.slice AC l.length cC, .slice AI li.length cI, .slice AQ q.length cQ, .slice AM m.length cM, .slice AE e.length cE, .int .i64 pc, .bool acc, .slice AL 0 cL, .bool ended, .int .i64 fault]) := Aside0.mk (h.bm)
  clear h
  obtain ⟨zBM_0, zBM_1, zBM_2, zBM_3, zBM_4, zBM_5, zBM_6, zBM_7, zBM_8, zBM_9⟩ := BM.out.c10
  go_enter Try.func71, Try.ntmps71
  go_wp2_with (((with_reducible refine gate_dst (N := 3) rfl ?_); refine box_event ?hg (N := 3) ?hd (cs := #[.int .i64 k, .int .i64 a, .int .i64 b, .int .i64 j]) (t := 66) ?hr ?_; (case hd => rfl); (case hg => rfl); (case hr => first | (go_simp; done) | (go_simp; rfl)); intro g3 hg w1 hbox hb; have hbx : Below w.heap.size w w1 := below_step (by repeat (first | (with_reducible first | exact Below.refl _ _ | apply below_alloc | apply pw_below_drewN | apply below_drew1) | exact Below.refl _ _)) hb; clear zBM_0 zBM_1 zBM_2 zBM_3 zBM_4 zBM_5 zBM_6 zBM_7 zBM_8 zBM_9; replace V := Aside0.mk (V.out.below hbx); replace RI := Aside0.mk (RI.out.below hbx); replace SB := Aside0.mk (SB.out.below hbx); replace BM := Aside0.mk (BM.out.below hbx); replace HB := Aside0.mk (below_step HB.out hbx); clear hbx; have BK3 := Aside0.mk (Bk.mk (hbox : Blk w1 g3 66 #[.int .i64 k, .int .i64 a, .int .i64 b, .int .i64 j])); clear hbox hg hb; obtain ⟨zBM_0, zBM_1, zBM_2, zBM_3, zBM_4, zBM_5, zBM_6, zBM_7, zBM_8, zBM_9⟩ := BM.out.c10; obtain ⟨zBK3_0, zBK3_1, zBK3_2, zBK3_3⟩ := BK3.out.c4))
  go_ret
  exact ⟨rfl, (Srp.here ⟨_, _, _, _, _, _, V.out⟩).from HB.out⟩
set_option maxHeartbeats 16000000 in
theorem rpop_ok {y : Bool} (h : Rm w base V gm vC vI vQ vM vE vL l li ⟨q, m, e, pc, acc, st ++ [y], ended, fault⟩) (hk : k = 9 ∨ k = 10) :
    Calls Try.prog 71 #[.pointer (some ⟨gm, 0, none⟩), .agg #[.int .i64 k, .int .i64 a, .int .i64 b, .int .i64 j]] w fun x w' => x = .returned (.int .i64 0) ∧ Srp w base V gm l li ⟨q, m, e, pc, if k = 9 then y && acc else y || acc, st, ended, fault⟩ w' := by
  obtain ⟨AC, cC, AI, cI, AQ, cQ, AM, cM, AE, cE, AL, cL, rfl, rfl, rfl, rfl, rfl, rfl⟩ := h.forms
  obtain ⟨gL, rfl⟩ := own_some h.rl (by show 0 < (st ++ [y]).length; simp)
  have eN : (st ++ [y]).length = st.length + 1 := by simp
  have cap := (Rw.of_R h.rl).cap
  have cap : st.length + 1 ≤ cL := by rw [← eN]; exact cap
  have sl := h.sl
  have sl : st.length + 1 ≤ 64 := by rw [← eN]; exact sl
  have sl2 : (st.length : Int) ≤ 63 := by omega
  have hw1 : wrap64 (st.length : Int) = (st.length : Int) := by unfold wrap64; omega
  have hw3 : (st.length : Int) < (st.length : Int) + 1 := by omega
  have hw4 : (st.length : Int) ≤ (cL : Int) := by omega
  have hw5 : st.length ≤ cL := by omega
  have hw6 : st.length < st.length + 1 := by omega
  have hw2 : IntKind.i64.wrap (st.length : Int) = (st.length : Int) := by rw [IntKind.wrap_i64]; omega
  have BM0 : Aside0 (Bk w gm 83 #[.slice AC l.length cC, .slice AI li.length cI, .slice AQ q.length cQ, .slice AM m.length cM, .slice AE e.length cE, .int .i64 pc, .bool acc, .slice (some ⟨gL, 0, none⟩) (st.length + 1) cL, .bool ended, .int .i64 fault]) := ⟨eN ▸ h.bm⟩
  clear eN
  rcases hk with e_ | e_
  have m1 : (k == 9) = true := by rw [e_]; rfl
  have m2 : decide (k = 9) = true := decide_eq_true e_
  have KI : Aside0 ((if k = 9 then y && acc else y || acc) = (y && acc)) := ⟨if_pos e_⟩
  rotate_left
  have m1 : (k == 9) = false := by rw [e_]; rfl
  have m2 : decide (k = 9) = false := by rw [e_]; rfl
  have KI : Aside0 ((if k = 9 then y && acc else y || acc) = (y || acc)) := ⟨if_neg (by omega)⟩
  rotate_left
  all_goals
    rw [KI.out]
    clear e_ KI
    have HB := Aside0.mk (Below.refl w.heap.size w)
    have VV := Aside0.mk (h)
    have BM : Aside0 (Bk w gm 83 #[.slice AC l.length cC, .slice AI li.length cI, .slice AQ q.length cQ, .slice AM m.length cM, .slice AE e.length cE, .int .i64 pc, .bool acc, .slice (some ⟨gL, 0, none⟩) (st.length + 1) cL, .bool ended, .int .i64 fault]) := Aside0.mk (BM0.out)
    clear h BM0
    obtain ⟨zBM_0, zBM_1, zBM_2, zBM_3, zBM_4, zBM_5, zBM_6, zBM_7, zBM_8, zBM_9⟩ := BM.out.c10
    go_enter Try.func71, Try.ntmps71
    go_wp2_with (((with_reducible refine gate_dst (N := 3) rfl ?_); refine box_event ?hg (N := 3) ?hd (cs := #[.int .i64 k, .int .i64 a, .int .i64 b, .int .i64 j]) (t := 66) ?hr ?_; (case hd => rfl); (case hg => rfl); (case hr => first | (go_simp; done) | (go_simp; rfl)); intro g3 hg w1 hbox hb; have hbx : Below w.heap.size w w1 := below_step (by repeat (first | (with_reducible first | exact Below.refl _ _ | apply below_alloc | apply pw_below_drewN | apply below_drew1) | exact Below.refl _ _)) hb; clear zBM_0 zBM_1 zBM_2 zBM_3 zBM_4 zBM_5 zBM_6 zBM_7 zBM_8 zBM_9; replace VV := Aside0.mk (VV.out.below hbx); replace BM := Aside0.mk (BM.out.below hbx); replace HB := Aside0.mk (below_step HB.out hbx); clear hbx; have BK3 := Aside0.mk (Bk.mk (hbox : Blk w1 g3 66 #[.int .i64 k, .int .i64 a, .int .i64 b, .int .i64 j])); clear hbox hg hb; obtain ⟨zBM_0, zBM_1, zBM_2, zBM_3, zBM_4, zBM_5, zBM_6, zBM_7, zBM_8, zBM_9⟩ := BM.out.c10; obtain ⟨zBK3_0, zBK3_1, zBK3_2, zBK3_3⟩ := BK3.out.c4))
    skip
    have KP := Aside0.mk (fun w' (hb : Below w1.heap.size w1 w') => And.intro ((BM.out.below hb).c10) (And.intro ((BK3.out.below hb).c4) ((show w'.cell? ⟨gL, st.length, none⟩ = some (.bool y) from (by have h_ := (own_at (VV.out.below hb).rl (i := st.length) (by simp)).1; simpa using h_)))))
    clear zBM_0 zBM_1 zBM_2 zBM_3 zBM_4 zBM_5 zBM_6 zBM_7 zBM_8 zBM_9 zBK3_0 zBK3_1 zBK3_2 zBK3_3
    refine Evt.ow_start (w0 := w1) (T := (true, [([], []), ([0], [0]), ([1], [1]), ([2], [2]), ([], []), ([4], [4]), ([5], [5]), ([6], [6]), ([7], [7]), ([8], [8]), ([3, 9], [3, 9]), ([10], [10]), ([11, 0, 1, 2, 3, 4, 5, 6, 7, 8, 9, 10, 11], [11])])) (B := [0, 1, 3, 7, 0, 16, 48, 112, 240, 496, 1023, 2047, 4095]) 13 [(0, some 12), (1, some 13), (2, some 14), (4, some 16), (5, some 17), (6, some 18), (3, some 15), (7, some 19), (8, some 20), (9, some 21), (10, some 22), (11, some 23), (12, some 5)] (by kernel_rfl) rfl (by kernel_rfl) (by kernel_rfl) (by kernel_rfl) (by repeat (first | (with_reducible first | exact Below.refl _ _ | apply below_alloc | apply pw_below_drewN | apply below_drew1) | exact Below.refl _ _)) ?_
    intro HT_ HW_ w_ hHeld
    iterate 13 (first | (refine Evt.ow_off (a' := ?_) HT_ rfl rfl (by rfl) (by kernel_rfl) (fun _ _ _ h => h) ?_ ?_; rotate_left; (· (try simp only [Act.put, List.setIfInBounds_toArray, List.set_cons_zero, List.set_cons_succ, i64_w, i32_w]); rfl)) | (refine Evt.ow_pure (a' := ?_) (v := ?_) HT_ rfl rfl rfl (by rfl) (by kernel_rfl) (fun _ _ _ h => h) ?_ ?_ ?_; rotate_left 2; (· intro w'; go_simp; with_reducible rfl); (· (try simp only [Act.put, List.setIfInBounds_toArray, List.set_cons_zero, List.set_cons_succ, i64_w, i32_w]); rfl)) | (refine Evt.ow_load (a' := ?_) (v := ?_) HT_ HW_ hHeld rfl rfl rfl (by rfl) (by kernel_rfl) (fun _ _ _ h => h) ?_ ?_ ?_; rotate_left 2; (· intro w' hS_; obtain ⟨⟨s0, s1, s2, s3, s4, s5, s6, s7, s8, s9⟩, ⟨s10, s11, s12, s13⟩, s14⟩ := KP.out w' hS_.out; go_simp; with_reducible rfl); (· (try simp only [Act.put, List.setIfInBounds_toArray, List.set_cons_zero, List.set_cons_succ, i64_w, i32_w]); rfl)))
    refine Evt.ow_done HT_ (by kernel_rfl) ?_
    refine Evt.gen_any (w0 := w1) hHeld.out ?_
    intro w2 hbx
    clear hHeld HT_ HW_ KP
    replace VV := Aside0.mk (VV.out.below hbx)
    replace BM := Aside0.mk (BM.out.below hbx)
    replace BK3 := Aside0.mk (BK3.out.below hbx)
    replace HB := Aside0.mk (below_step HB.out hbx)
    clear hbx
    obtain ⟨zBM_0, zBM_1, zBM_2, zBM_3, zBM_4, zBM_5, zBM_6, zBM_7, zBM_8, zBM_9⟩ := BM.out.c10
    obtain ⟨zBK3_0, zBK3_1, zBK3_2, zBK3_3⟩ := BK3.out.c4
    go_wp2
    have KP := Aside0.mk (fun w' (hb : Below w2.heap.size w2 w') => And.intro ((BM.out.below hb).c10) ((BK3.out.below hb).c4))
    clear zBM_0 zBM_1 zBM_2 zBM_3 zBM_4 zBM_5 zBM_6 zBM_7 zBM_8 zBM_9 zBK3_0 zBK3_1 zBK3_2 zBK3_3
    refine Evt.ol_start (ds := [14]) (w0 := w2) (T := (true, [([], []), ([], []), ([1], [1]), ([2], [2]), ([3], [3]), ([], []), ([5], [5]), ([6], [6]), ([7], [7]), ([8], [8]), ([9], [9]), ([4, 10], [4, 10]), ([0, 0, 1, 2, 3, 4, 5, 6, 7, 8, 9, 10, 11], [0]), ([12, 0, 1, 2, 3, 4, 5, 6, 7, 8, 9, 10, 11], [12]), ([13, 11, 0, 1, 2, 3, 4, 5, 6, 7, 8, 9, 10, 11], [11, 13])])) (B := [0, 0, 2, 6, 14, 0, 32, 96, 224, 480, 992, 2046, 4095, 8191, 16383]) 15 [(0, some 24), (1, some 25), (2, some 26), (3, some 27), (4, some 28), (5, some 29), (6, some 30), (7, some 31), (8, some 32), (9, some 33), (10, some 34), (11, some 35), (12, some 36), (13, some 37), (14, none)] (by kernel_rfl) rfl (by kernel_rfl) (by kernel_rfl) (by kernel_rfl) (by repeat (first | (with_reducible first | exact Below.refl _ _ | apply below_alloc | apply pw_below_drewN | apply below_drew1) | exact Below.refl _ _)) ?_
    intro HT_ HW_ w_ hHeld
    iterate 14 (first | (refine Evt.ol_off (a' := ?_) HT_ rfl rfl (by rfl) (by kernel_rfl) (fun _ _ _ h => h) ?_ ?_; rotate_left; (· (try simp only [Act.put, List.setIfInBounds_toArray, List.set_cons_zero, List.set_cons_succ, i64_w, i32_w]); rfl)) | (refine Evt.ol_pure (a' := ?_) (v := ?_) HT_ rfl rfl rfl (by rfl) (by kernel_rfl) (fun _ _ _ h => h) ?_ ?_ ?_; rotate_left 2; (· intro w'; go_simp; with_reducible rfl); (· (try simp only [Act.put, List.setIfInBounds_toArray, List.set_cons_zero, List.set_cons_succ, i64_w, i32_w]); rfl)) | (refine Evt.ol_load (a' := ?_) (v := ?_) HT_ HW_ hHeld rfl rfl rfl (by rfl) (by kernel_rfl) (fun _ _ _ h => h) ?_ ?_ ?_; rotate_left 2; (· intro w' hS_; obtain ⟨⟨s0, s1, s2, s3, s4, s5, s6, s7, s8, s9⟩, ⟨s10, s11, s12, s13⟩⟩ := KP.out w' hS_.out; go_simp; with_reducible rfl); (· (try simp only [Act.put, List.setIfInBounds_toArray, List.set_cons_zero, List.set_cons_succ, i64_w, i32_w]); rfl)))
    have BMn := BM.out.below hHeld.out
    have zf : w_.frozen? ⟨gm, 7, none⟩ = false := blk_frozen BMn.blk 7
    have zc : w_.cell? ⟨gm, 7, none⟩ = some (.slice (some ⟨gL, 0, none⟩) (st.length + 1) cL) := BMn.blk.cell 7 rfl
    refine Evt.ol_rancell HT_ rfl rfl (by simp) (by kernel_rfl) (by rfl) BMn 7 (.slice (some ⟨gL, 0, none⟩) st.length cL) ?hrun ?_
    case hrun => (first | (go_simp; done) | (go_simp; rfl))
    intro w9 bz_ hg_
    have hw_ := hHeld.out
    have SR : Aside0 (Srp w2 base V gm l li ⟨q, m, e, pc, acc, st, ended, fault⟩ w9) := ⟨VV.out.turn (s' := ⟨q, m, e, pc, acc, st, ended, fault⟩) hw_ hg_ bz_ (RowOk.old VV.out.rq hw_) (RowOk.old VV.out.rm hw_) (RowOk.old VV.out.re hw_) (RowOk.old (own_pre VV.out.rl) hw_) ⟨VV.out.fit.q, VV.out.fit.m, VV.out.fit.e, VV.out.fit.i, VV.out.fit.c, VV.out.fit.p0, VV.out.fit.p1⟩ (by show st.length ≤ 64; omega)⟩
    have BMz := Aside0.mk (show Bk w9 gm 83 #[.slice AC l.length cC, .slice AI li.length cI, .slice AQ q.length cQ, .slice AM m.length cM, .slice AE e.length cE, .int .i64 pc, .bool acc, .slice (some ⟨gL, 0, none⟩) st.length cL, .bool ended, .int .i64 fault] from bz_)
    have B3 := Aside0.mk (Evt.Bk.oth (BK3.out.below hHeld.out) hg_ (Blk.ne_ (BK3.out.below hHeld.out).blk BMn.blk (by decide)))
    have HB0 := HB
    clear bz_ hg_ zf zc BMn hw_ hHeld VV BM BK3 HB
    refine Evt.ol_done HT_ (by kernel_rfl) ?_
    clear HT_ HW_ KP
    have HB := Aside0.mk (Below.refl w9.heap.size w9)
    have BM : Aside0 (Bk w9 gm 83 #[.slice AC l.length cC, .slice AI li.length cI, .slice AQ q.length cQ, .slice AM m.length cM, .slice AE e.length cE, .int .i64 pc, .bool acc, .slice (some ⟨gL, 0, none⟩) st.length cL, .bool ended, .int .i64 fault]) := Aside0.mk (BMz.out)
    have BK3 : Aside0 (Bk w9 g3 66 #[.int .i64 k, .int .i64 a, .int .i64 b, .int .i64 j]) := Aside0.mk (B3.out)
    clear BMz B3
    obtain ⟨zBM_0, zBM_1, zBM_2, zBM_3, zBM_4, zBM_5, zBM_6, zBM_7, zBM_8, zBM_9⟩ := BM.out.c10
    obtain ⟨zBK3_0, zBK3_1, zBK3_2, zBK3_3⟩ := BK3.out.c4
    have fBM_6 : w9.frozen? ⟨gm, 6, none⟩ = false := blk_frozen BM.out.blk 6
    go_wp2
  all_goals
    go_ret
    refine ⟨rfl, Srp.from HB0.out (SR.out.then (fun V' hR => ?_))⟩
    obtain ⟨_, _, _, _, _, _, hR⟩ := hR
    refine Rm.wAcc hR ?_
    first | rfl | simp [*]
end
end Go.Proofs.Ytjohdkbciafpfaa.Vm6
end
section
/- Chapter 06: the reference machine's coil, walked. Written by gen/rc.py. -/
namespace Go.Proofs.Ytjohdkbciafpfaa.Vm6
open Go.RowKit Go.Proofs.YtjohdkbciafpfaaW.PrintWords Go.Proofs.YtjohdkbciafpfaaW.PrintMore Go.Proofs.YtjohdkbciafpfaaW.PrintLast Go.Proofs.Ytjohdkbciafpfaa.Chg Go.Proofs.Ytjohdkbciafpfaa.Evt Go.Proofs.Ytjohdkbciafpfaa.Impl
set_option linter.unusedVariables false
set_option linter.unusedSimpArgs false
set_option maxRecDepth 100000
section
variable {w w' w1 : World} {base : Nat} {V : Nat → Prop} {gm : Nat} {vC vI vQ vM vE vL : Value} {l : List S66} {li : List Bool} {s : MS} {k a b j : Int}
/-- The state has been replaced by rows made since w. -/
theorem Rm.wState {v0 v1 v2 : Value} {r0 r1 r2 : List Bool} (h : Rm w base V gm vC vI vQ vM vE vL l li s) (hb : Below w.heap.size w w1) (ho : Own3 w1 w.heap.size v0 v1 v2 r0 r1 r2) (f0 : r0.length ≤ 20000) (f1 : r1.length ≤ 20000) (f2 : r2.length ≤ 20000) :
    Srp w base V gm l li { s with q := r0, m := r1, e := r2 } (((w1.setCell ⟨gm, 2, none⟩ v0).setCell ⟨gm, 3, none⟩ v1).setCell ⟨gm, 4, none⟩ v2) :=
  h.turn hb (grown_trans (grown_trans (gset _ _ _ _) (gset _ _ _ _)) (gset _ _ _ _)) ⟨(((h.bm.below hb).blk.set_ 2 v0).set_ 3 v1).set_ 4 v2⟩ (RowOk.new ho.q0 h.hbase) (RowOk.new ho.q1 h.hbase) (RowOk.new ho.q2 h.hbase) (RowOk.old h.rl hb) ⟨f0, f1, f2, h.fit.i, h.fit.c, h.fit.p0, h.fit.p1⟩ h.sl
variable {q m e st : List Bool} {pc fault : Int} {acc ended : Bool}
set_option maxHeartbeats 64000000 in
theorem rcoil_any (h : Rm w base V gm vC vI vQ vM vE vL l li ⟨q, m, e, pc, acc, st, ended, fault⟩) (hk : 11 ≤ k ∧ k ≤ 14) {er : Int} {r0 r1 r2 : List Bool} (hr : wrv q m e a b (cv k acc) = (r0, r1, r2, er)) :
    Calls Try.prog 72 #[.pointer (some ⟨gm, 0, none⟩), .agg #[.int .i64 k, .int .i64 a, .int .i64 b, .int .i64 j]] w fun x w' => x = .returned (.int .i64 er) ∧ ((er = 0 ∧ cw k acc = true) → Srp w base V gm l li ⟨r0, r1, r2, pc, acc, st, ended, fault⟩ w') ∧ (¬ (er = 0 ∧ cw k acc = true) → Srp w base V gm l li ⟨q, m, e, pc, acc, st, ended, fault⟩ w') := by
  obtain ⟨AC, cC, AI, cI, AQ, cQ, AM, cM, AE, cE, AL, cL, rfl, rfl, rfl, rfl, rfl, rfl⟩ := h.forms
  have H0 := Aside0.mk h
  have LR : Aside0 (r0.length ≤ 20000 ∧ r1.length ≤ 20000 ∧ r2.length ≤ 20000) := ⟨by have h_ := wrv_len (a := a) (b := b) (v := cv k acc) h.fit.q h.fit.m h.fit.e; rw [hr] at h_; exact h_⟩
  rcases (show k = 11 ∨ k = 12 ∨ k = 13 ∨ k = 14 by omega) with e_ | e_ | e_ | e_
  have a12 : (k == 12) = false := by rw [e_]; rfl
  have b12 : decide (k = 12) = false := by rw [e_]; rfl
  have a13 : (k == 13) = false := by rw [e_]; rfl
  have b13 : decide (k = 13) = false := by rw [e_]; rfl
  have a14 : (k == 14) = false := by rw [e_]; rfl
  have b14 : decide (k = 14) = false := by rw [e_]; rfl
  have HR : Aside0 (wrv q m e a b (acc) = (r0, r1, r2, er)) := ⟨by rw [e_] at hr; exact hr⟩
  have KW : Aside0 (cw k acc = true) := ⟨by rw [e_]; rfl⟩
  rotate_left
  have a12 : (k == 12) = true := by rw [e_]; rfl
  have b12 : decide (k = 12) = true := by rw [e_]; rfl
  have a13 : (k == 13) = false := by rw [e_]; rfl
  have b13 : decide (k = 13) = false := by rw [e_]; rfl
  have a14 : (k == 14) = false := by rw [e_]; rfl
  have b14 : decide (k = 14) = false := by rw [e_]; rfl
  have HR : Aside0 (wrv q m e a b (!acc) = (r0, r1, r2, er)) := ⟨by rw [e_] at hr; exact hr⟩
  have KW : Aside0 (cw k acc = true) := ⟨by rw [e_]; rfl⟩
  rotate_left
  have a12 : (k == 12) = false := by rw [e_]; rfl
  have b12 : decide (k = 12) = false := by rw [e_]; rfl
  have a13 : (k == 13) = true := by rw [e_]; rfl
  have b13 : decide (k = 13) = true := by rw [e_]; rfl
  have a14 : (k == 14) = false := by rw [e_]; rfl
  have b14 : decide (k = 14) = false := by rw [e_]; rfl
  have HR : Aside0 (wrv q m e a b (acc) = (r0, r1, r2, er)) := ⟨by rw [e_] at hr; exact hr⟩
  have KW : Aside0 (cw k acc = acc) := ⟨by rw [e_]; rfl⟩
  rotate_left
  have a12 : (k == 12) = false := by rw [e_]; rfl
  have b12 : decide (k = 12) = false := by rw [e_]; rfl
  have a13 : (k == 13) = false := by rw [e_]; rfl
  have b13 : decide (k = 13) = false := by rw [e_]; rfl
  have a14 : (k == 14) = true := by rw [e_]; rfl
  have b14 : decide (k = 14) = true := by rw [e_]; rfl
  have HR : Aside0 (wrv q m e a b (false) = (r0, r1, r2, er)) := ⟨by rw [e_] at hr; exact hr⟩
  have KW : Aside0 (cw k acc = acc) := ⟨by rw [e_]; rfl⟩
  rotate_left
  all_goals
    clear e_ hk hr
    rcases (show (er = 0 ∧ decide (er = 0) = true ∧ (er == 0) = true ∧ (er != 0) = false) ∨ (¬ er = 0 ∧ decide (er = 0) = false ∧ (er == 0) = false ∧ (er != 0) = true) by by_cases h_ : er = 0 <;> simp [h_]) with ⟨he, t0, t1, t2⟩ | ⟨he, t0, t1, t2⟩
  all_goals
    have HE := Aside0.mk he
    clear he
    have HB := Aside0.mk (Below.refl w.heap.size w)
    have VV := Aside0.mk (h)
    have SB := Aside0.mk (h.sb)
    have BM : Aside0 (Bk w gm 83 #[.slice AC l.length cC, .slice AI li.length cI, .slice AQ q.length cQ, .slice AM m.length cM, .slice AE e.length cE, .int .i64 pc, .bool acc, .slice AL st.length cL, .bool ended, .int .i64 fault]) := Aside0.mk (h.bm)
    clear h
    obtain ⟨zBM_0, zBM_1, zBM_2, zBM_3, zBM_4, zBM_5, zBM_6, zBM_7, zBM_8, zBM_9⟩ := BM.out.c10
    go_enter Try.func72, Try.ntmps72
    go_wp2_with (((with_reducible refine gate_dst (N := 3) rfl ?_); refine box_event ?hg (N := 3) ?hd (cs := #[.int .i64 k, .int .i64 a, .int .i64 b, .int .i64 j]) (t := 66) ?hr ?_; (case hd => rfl); (case hg => rfl); (case hr => first | (go_simp; done) | (go_simp; rfl)); intro g3 hg w1 hbox hb; have hbx : Below w.heap.size w w1 := below_step (by repeat (first | (with_reducible first | exact Below.refl _ _ | apply below_alloc | apply pw_below_drewN | apply below_drew1) | exact Below.refl _ _)) hb; clear zBM_0 zBM_1 zBM_2 zBM_3 zBM_4 zBM_5 zBM_6 zBM_7 zBM_8 zBM_9; replace VV := Aside0.mk (VV.out.below hbx); replace SB := Aside0.mk (SB.out.below hbx); replace BM := Aside0.mk (BM.out.below hbx); replace HB := Aside0.mk (below_step HB.out hbx); clear hbx; have BK3 := Aside0.mk (Bk.mk (hbox : Blk w1 g3 66 #[.int .i64 k, .int .i64 a, .int .i64 b, .int .i64 j])); clear hbox hg hb; obtain ⟨zBM_0, zBM_1, zBM_2, zBM_3, zBM_4, zBM_5, zBM_6, zBM_7, zBM_8, zBM_9⟩ := BM.out.c10; obtain ⟨zBK3_0, zBK3_1, zBK3_2, zBK3_3⟩ := BK3.out.c4))
    have KP := Aside0.mk (fun w' (hb : Below w1.heap.size w1 w') => And.intro ((BM.out.below hb).c10) ((BK3.out.below hb).c4))
    clear zBM_0 zBM_1 zBM_2 zBM_3 zBM_4 zBM_5 zBM_6 zBM_7 zBM_8 zBM_9 zBK3_0 zBK3_1 zBK3_2 zBK3_3
    refine Evt.ol_start (ds := []) (w0 := w1) (T := (true, [([], []), ([0], [0]), ([1], [1]), ([2], [2]), ([], []), ([4], [4]), ([], []), ([3, 5, 6], [3, 5, 6]), ([7], [7]), ([8], [8]), ([8], [8]), ([], []), ([11, 9, 7, 0, 1, 2, 3, 4, 5, 6, 7, 8, 9, 11], [9, 11]), ([10, 12, 0, 1, 2, 3, 4, 5, 6, 7, 8, 9, 10, 11, 12], [10])])) (B := [0, 1, 3, 7, 0, 16, 0, 127, 255, 511, 511, 0, 3071, 8191]) 14 [(0, some 35), (1, some 36), (2, some 37), (3, some 38), (4, some 39), (5, some 40), (6, some 41), (7, some 42), (8, some 34), (9, some 43), (10, some 44), (11, some 7), (12, none), (13, some 8)] (by kernel_rfl) rfl (by kernel_rfl) (by kernel_rfl) (by kernel_rfl) (by repeat (first | (with_reducible first | exact Below.refl _ _ | apply below_alloc | apply pw_below_drewN | apply below_drew1) | exact Below.refl _ _)) ?_
    intro HT_ HW_ w_ hHeld
    iterate 7 (first | (refine Evt.ol_off (a' := ?_) HT_ rfl rfl (by rfl) (by kernel_rfl) (fun _ _ _ h => h) ?_ ?_; rotate_left; (· (try simp only [Act.put, List.setIfInBounds_toArray, List.set_cons_zero, List.set_cons_succ, i64_w, i32_w]); rfl)) | (refine Evt.ol_pure (a' := ?_) (v := ?_) HT_ rfl rfl rfl (by rfl) (by kernel_rfl) (fun _ _ _ h => h) ?_ ?_ ?_; rotate_left 2; (· intro w'; go_simp; with_reducible rfl); (· (try simp only [Act.put, List.setIfInBounds_toArray, List.set_cons_zero, List.set_cons_succ, i64_w, i32_w]); rfl)) | (refine Evt.ol_load (a' := ?_) (v := ?_) HT_ HW_ hHeld rfl rfl rfl (by rfl) (by kernel_rfl) (fun _ _ _ h => h) ?_ ?_ ?_; rotate_left 2; (· intro w' hS_; obtain ⟨⟨s0, s1, s2, s3, s4, s5, s6, s7, s8, s9⟩, ⟨s10, s11, s12, s13⟩⟩ := KP.out w' hS_.out; go_simp; with_reducible rfl); (· (try simp only [Act.put, List.setIfInBounds_toArray, List.set_cons_zero, List.set_cons_succ, i64_w, i32_w]); rfl)))
    refine Evt.ol_join (σ := (Option Addr) × (Nat) × (Option Addr) × (Nat) × (Option Addr) × (Nat) × (Nat)) 2 [(12, none), (13, some 8)] (fun s => match s with | (X0, x0, X1, x1, X2, x2, gT11) => [(42, .tuple #[.agg #[.slice X0 r0.length x0, .slice X1 r1.length x1, .slice X2 r2.length x2], .int .i64 er]), (34, .tuple #[.agg #[.slice X0 r0.length x0, .slice X1 r1.length x1, .slice X2 r2.length x2], .int .i64 er]), (43, .agg #[.slice X0 r0.length x0, .slice X1 r1.length x1, .slice X2 r2.length x2]), (44, .int .i64 er), (7, .pointer (some ⟨gT11, 0, none⟩))]) (fun s W_ => match s with | (X0, x0, X1, x1, X2, x2, gT11) => (Own3 W_ w.heap.size (.slice X0 r0.length x0) (.slice X1 r1.length x1) (.slice X2 r2.length x2) r0 r1 r2) ∧ (Bk W_ gT11 24 #[.slice none 0 0, .slice none 0 0, .slice none 0 0]) ∧ (w1.heap.size ≤ gT11)) ?_ ?_
    · intro JN
      refine Evt.ol_two (i := 7) (j := 11) [(8, some 34), (9, some 43), (10, some 44), (11, some 7), (12, none), (13, some 8)] [(7, some 42), (8, some 34), (9, some 43), (10, some 44), (12, none), (13, some 8)] HT_ rfl rfl rfl rfl (by kernel_rfl) (fun K_ hK_ => ?_) (fun K_ hK_ => ?_)
      · refine Evt.k_call hK_ hHeld rfl Try.func21 (by kernel_rfl) rfl #[.agg #[.slice AQ q.length cQ, .slice AM m.length cM, .slice AE e.length cE], .agg #[.int .i64 a, .int .i64 b], .bool _] (by rfl) rfl (by (try simp only [List.map_toArray, List.map_cons, List.map_nil]); first | done | rfl | (simp only [List.length_drop, List.length_take]; rfl)) ?_
        (with_reducible refine (writeR a b _ (SB.out.below hHeld.out) HR.out).mono ?_)
        rintro e w_ ⟨X0, x0, X1, x1, X2, x2, rfl, ho_, hb_⟩
        have ho2_ := ho_.lower (show w.heap.size ≤ _ from (below_step HB.out hHeld.out).size); clear ho_
        refine ⟨_, rfl, hb_, fun hH_ => ?_⟩
        have F7 := Aside0.mk (ho2_)
        clear hHeld hb_
        have hHeld := hH_
        clear hH_ hK_
        refine Evt.ol_norm (a' := ?_) ?_ ?_
        rotate_left
        · simp only [Act.put, List.setIfInBounds_toArray, List.set_cons_zero, List.set_cons_succ, i64_w, i32_w]; rfl
        iterate 3 (first | (refine Evt.ol_off (a' := ?_) HT_ rfl rfl (by rfl) (by kernel_rfl) (fun _ _ _ h => h) ?_ ?_; rotate_left; (· (try simp only [Act.put, List.setIfInBounds_toArray, List.set_cons_zero, List.set_cons_succ, i64_w, i32_w]); rfl)) | (refine Evt.ol_pure (a' := ?_) (v := ?_) HT_ rfl rfl rfl (by rfl) (by kernel_rfl) (fun _ _ _ h => h) ?_ ?_ ?_; rotate_left 2; (· intro w'; go_simp; with_reducible rfl); (· (try simp only [Act.put, List.setIfInBounds_toArray, List.set_cons_zero, List.set_cons_succ, i64_w, i32_w]); rfl)) | (refine Evt.ol_load (a' := ?_) (v := ?_) HT_ HW_ hHeld rfl rfl rfl (by rfl) (by kernel_rfl) (fun _ _ _ h => h) ?_ ?_ ?_; rotate_left 2; (· intro w' hS_; obtain ⟨⟨s0, s1, s2, s3, s4, s5, s6, s7, s8, s9⟩, ⟨s10, s11, s12, s13⟩⟩ := KP.out w' hS_.out; go_simp; with_reducible rfl); (· (try simp only [Act.put, List.setIfInBounds_toArray, List.set_cons_zero, List.set_cons_succ, i64_w, i32_w]); rfl)))
        refine Evt.ol_one (i := 11) [(12, none), (13, some 8)] HT_ rfl rfl (by kernel_rfl) (fun K_ hK_ => ?_)
        · refine Evt.k_alloc hK_ hHeld rfl rfl (cs := #[.slice none 0 0, .slice none 0 0, .slice none 0 0]) (t := 24) ?_ ?_
          · first | (go_simp; done) | (go_simp; rfl) | (go_simp; refine ⟨?_, ?_⟩ <;> rfl)
          intro gT11 w_ hg_ hB_ hb_ hH_
          have GE11 := Aside0.mk (show w1.heap.size ≤ gT11 from (by rw [hg_]; exact hHeld.out.size))
          clear hg_
          have n_F7 := Aside0.mk (F7.out.below hb_)
          clear F7
          have F7 := n_F7
          clear n_F7
          have F11 := Aside0.mk hB_
          clear hHeld hb_ hB_
          have hHeld := hH_
          clear hH_ hK_
          refine Evt.ol_norm (a' := ?_) ?_ ?_
          rotate_left
          · simp only [Act.put, List.setIfInBounds_toArray, List.set_cons_zero, List.set_cons_succ, i64_w, i32_w]; rfl
          exact Evt.ol_norm (by simp only [putAll, Act.put, List.setIfInBounds_toArray, List.set_cons_zero, List.set_cons_succ, i64_w, i32_w]; rfl) (JN (X0, x0, X1, x1, X2, x2, gT11) _ hHeld ⟨F7.out, F11.out, GE11.out⟩)
      · refine Evt.k_alloc hK_ hHeld rfl rfl (cs := #[.slice none 0 0, .slice none 0 0, .slice none 0 0]) (t := 24) ?_ ?_
        · first | (go_simp; done) | (go_simp; rfl) | (go_simp; refine ⟨?_, ?_⟩ <;> rfl)
        intro gT11 w_ hg_ hB_ hb_ hH_
        have GE11 := Aside0.mk (show w1.heap.size ≤ gT11 from (by rw [hg_]; exact hHeld.out.size))
        clear hg_
        have F11 := Aside0.mk hB_
        clear hHeld hb_ hB_
        have hHeld := hH_
        clear hH_ hK_
        refine Evt.ol_norm (a' := ?_) ?_ ?_
        rotate_left
        · simp only [Act.put, List.setIfInBounds_toArray, List.set_cons_zero, List.set_cons_succ, i64_w, i32_w]; rfl
        refine Evt.ol_one (i := 7) [(8, some 34), (9, some 43), (10, some 44), (12, none), (13, some 8)] HT_ rfl rfl (by kernel_rfl) (fun K_ hK_ => ?_)
        · refine Evt.k_call hK_ hHeld rfl Try.func21 (by kernel_rfl) rfl #[.agg #[.slice AQ q.length cQ, .slice AM m.length cM, .slice AE e.length cE], .agg #[.int .i64 a, .int .i64 b], .bool _] (by rfl) rfl (by (try simp only [List.map_toArray, List.map_cons, List.map_nil]); first | done | rfl | (simp only [List.length_drop, List.length_take]; rfl)) ?_
          (with_reducible refine (writeR a b _ (SB.out.below hHeld.out) HR.out).mono ?_)
          rintro e w_ ⟨X0, x0, X1, x1, X2, x2, rfl, ho_, hb_⟩
          have ho2_ := ho_.lower (show w.heap.size ≤ _ from (below_step HB.out hHeld.out).size); clear ho_
          refine ⟨_, rfl, hb_, fun hH_ => ?_⟩
          have F7 := Aside0.mk (ho2_)
          have n_F11 := Aside0.mk (F11.out.below hb_)
          clear F11
          have F11 := n_F11
          clear n_F11
          clear hHeld hb_
          have hHeld := hH_
          clear hH_ hK_
          refine Evt.ol_norm (a' := ?_) ?_ ?_
          rotate_left
          · simp only [Act.put, List.setIfInBounds_toArray, List.set_cons_zero, List.set_cons_succ, i64_w, i32_w]; rfl
          iterate 3 (first | (refine Evt.ol_off (a' := ?_) HT_ rfl rfl (by rfl) (by kernel_rfl) (fun _ _ _ h => h) ?_ ?_; rotate_left; (· (try simp only [Act.put, List.setIfInBounds_toArray, List.set_cons_zero, List.set_cons_succ, i64_w, i32_w]); rfl)) | (refine Evt.ol_pure (a' := ?_) (v := ?_) HT_ rfl rfl rfl (by rfl) (by kernel_rfl) (fun _ _ _ h => h) ?_ ?_ ?_; rotate_left 2; (· intro w'; go_simp; with_reducible rfl); (· (try simp only [Act.put, List.setIfInBounds_toArray, List.set_cons_zero, List.set_cons_succ, i64_w, i32_w]); rfl)) | (refine Evt.ol_load (a' := ?_) (v := ?_) HT_ HW_ hHeld rfl rfl rfl (by rfl) (by kernel_rfl) (fun _ _ _ h => h) ?_ ?_ ?_; rotate_left 2; (· intro w' hS_; obtain ⟨⟨s0, s1, s2, s3, s4, s5, s6, s7, s8, s9⟩, ⟨s10, s11, s12, s13⟩⟩ := KP.out w' hS_.out; go_simp; with_reducible rfl); (· (try simp only [Act.put, List.setIfInBounds_toArray, List.set_cons_zero, List.set_cons_succ, i64_w, i32_w]); rfl)))
          exact Evt.ol_norm (by simp only [putAll, Act.put, List.setIfInBounds_toArray, List.set_cons_zero, List.set_cons_succ, i64_w, i32_w]; rfl) (JN (X0, x0, X1, x1, X2, x2, gT11) _ hHeld ⟨F7.out, F11.out, GE11.out⟩)
    rintro ⟨X0, x0, X1, x1, X2, x2, gT11⟩ w_ hHeld ⟨f_F7, f_F11, f_GE11⟩
    have F7 := Aside0.mk f_F7
    have F11 := Aside0.mk f_F11
    have GE11 := Aside0.mk f_GE11
    clear f_F7 f_F11 f_GE11
    refine Evt.ol_norm (a' := ?_) ?_ ?_
    rotate_left
    · simp only [putAll, Act.put, List.setIfInBounds_toArray, List.set_cons_zero, List.set_cons_succ, i64_w, i32_w]; rfl
    refine Evt.ol_setrow (i := 12) [(13, some 8)] HT_ hHeld rfl rfl (by kernel_rfl) (by rfl) F11.out GE11.out 24 (.tmp 7) (.tmp 43) rfl rfl rfl (by kernel_rfl) rfl (by simp [Value.oneCell']) ?_
    intro wa B5_ hg_ hH_
    have O19 := Aside0.mk (Own3.chg F7.out hg_ F11.out)
    have B5 := Aside0.mk B5_
    have HBn := Aside0.mk (below_step HB.out hH_.out)
    have V0 := Aside0.mk VV.out
    have BMn := Aside0.mk (BM.out.below hH_.out)
    have HX := Aside0.mk hH_.out
    have HB0 := HB
    clear F7 F11 GE11 hHeld B5_ hg_ SB BM BK3 HB KP VV
    have hHeld := hH_
    clear hH_
    (first | (refine Evt.ol_off (a' := ?_) HT_ rfl rfl (by rfl) (by kernel_rfl) (fun _ _ _ h => h) ?_ ?_; rotate_left; (· (try simp only [Act.put, List.setIfInBounds_toArray, List.set_cons_zero, List.set_cons_succ, i64_w, i32_w]); rfl)) | (refine Evt.ol_pure (a' := ?_) (v := ?_) HT_ rfl rfl rfl (by rfl) (by kernel_rfl) (fun _ _ _ h => h) ?_ ?_ ?_; rotate_left 2; (· intro w'; go_simp; with_reducible rfl); (· (try simp only [Act.put, List.setIfInBounds_toArray, List.set_cons_zero, List.set_cons_succ, i64_w, i32_w]); rfl)) | (refine Evt.ol_load (a' := ?_) (v := ?_) HT_ HW_ hHeld rfl rfl rfl (by rfl) (by kernel_rfl) (fun _ _ _ h => h) ?_ ?_ ?_; rotate_left 2; (· intro w' hS_; obtain ⟨⟨s0, s1, s2, s3, s4, s5, s6, s7, s8, s9⟩, ⟨s10, s11, s12, s13⟩⟩ := KP.out w' hS_.out; go_simp; with_reducible rfl); (· (try simp only [Act.put, List.setIfInBounds_toArray, List.set_cons_zero, List.set_cons_succ, i64_w, i32_w]); rfl)))
    refine Evt.ol_done HT_ (by kernel_rfl) ?_
    clear HT_ HW_ hHeld
    have HB := Aside0.mk (Below.refl wa.heap.size wa)
    have B5 : Aside0 (Bk wa gT11 24 #[.slice X0 r0.length x0, .slice X1 r1.length x1, .slice X2 r2.length x2]) := Aside0.mk (B5.out)
    have BM : Aside0 (Bk wa gm 83 #[.slice AC l.length cC, .slice AI li.length cI, .slice AQ q.length cQ, .slice AM m.length cM, .slice AE e.length cE, .int .i64 pc, .bool acc, .slice AL st.length cL, .bool ended, .int .i64 fault]) := Aside0.mk (BMn.out)
    clear BMn
    obtain ⟨zB5_0, zB5_1, zB5_2⟩ := B5.out.c3
    obtain ⟨zBM_0, zBM_1, zBM_2, zBM_3, zBM_4, zBM_5, zBM_6, zBM_7, zBM_8, zBM_9⟩ := BM.out.c10
    have fBM_2 : wa.frozen? ⟨gm, 2, none⟩ = false := blk_frozen BM.out.blk 2
    have fBM_3 : wa.frozen? ⟨gm, 3, none⟩ = false := blk_frozen BM.out.blk 3
    have fBM_4 : wa.frozen? ⟨gm, 4, none⟩ = false := blk_frozen BM.out.blk 4
    go_wp2
  all_goals
    go_ret
    have he := HE.out
    refine ⟨by first | rfl | (rw [he]; rfl), fun hc => ?_, fun hc => ?_⟩
    · first | exact H0.out.wState (below_step HB0.out HX.out) O19.out LR.out.1 LR.out.2.1 LR.out.2.2 | (exfalso; rw [KW.out] at hc; revert hc; simp [*])
    · first | exact (Srp.here ⟨_, _, _, _, _, _, H0.out⟩).below (below_step HB0.out HX.out) | (exfalso; apply hc; rw [KW.out]; simp [*])
end
end Go.Proofs.Ytjohdkbciafpfaa.Vm6
end
