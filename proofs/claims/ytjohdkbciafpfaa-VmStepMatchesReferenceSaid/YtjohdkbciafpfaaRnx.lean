/- Several texts of this session in one (join.py): Rt, Rn, Rr. -/
import Derived.Test.YtjohdkbciafpfaaRdx
section
/- Chapter 06: the reference machine's Step, walked. Written by gen/rt.py. -/
namespace Go.Proofs.Ytjohdkbciafpfaa.Vm6
open Go.RowKit Go.Proofs.YtjohdkbciafpfaaW.PrintWords Go.Proofs.YtjohdkbciafpfaaW.PrintMore Go.Proofs.YtjohdkbciafpfaaW.PrintLast Go.Proofs.Ytjohdkbciafpfaa.Chg Go.Proofs.Ytjohdkbciafpfaa.Evt Go.Proofs.Ytjohdkbciafpfaa.Impl
set_option linter.unusedVariables false
set_option linter.unusedSimpArgs false
set_option maxRecDepth 100000
section
variable {w w' w1 : World} {base : Nat} {V : Nat → Prop} {gm : Nat} {vC vI vQ vM vE vL : Value} {l : List S66} {li : List Bool} {s : MS} {k a b j : Int}
variable {q m e st : List Bool} {pc fault : Int} {acc ended : Bool}
theorem core_err {n : Nat} (h : (core n li k a b j s).1 ≠ 0) : (core n li k a b j s).2.2 = s := by
  revert h
  unfold core
  repeat' split
  all_goals (intro h; first | rfl | exact absurd rfl h)
set_option maxHeartbeats 4000000 in
theorem rstep_end (h : Rm w base V gm vC vI vQ vM vE vL l li ⟨q, m, e, pc, acc, st, true, fault⟩)  :
    Calls Try.prog 43 #[.pointer (some ⟨gm, 0, none⟩)] w fun x w' => x = .returned (.tuple #[.bool false, .int .i64 fault]) ∧ Srp w base V gm l li ⟨q, m, e, pc, acc, st, true, fault⟩ w' := by
  obtain ⟨AC, cC, AI, cI, AQ, cQ, AM, cM, AE, cE, AL, cL, rfl, rfl, rfl, rfl, rfl, rfl⟩ := h.forms
  have HB := Aside0.mk (Below.refl w.heap.size w)
  have VV := Aside0.mk (h)
  have BM : Aside0 (Bk w gm 83 #[.slice AC l.length cC, .slice AI li.length cI, .slice AQ q.length cQ, .slice AM m.length cM, .slice AE e.length cE, .int .i64 pc, .bool acc, .slice AL st.length cL, .bool true, .int .i64 fault]) := Aside0.mk (h.bm)
  clear h
  obtain ⟨zBM_0, zBM_1, zBM_2, zBM_3, zBM_4, zBM_5, zBM_6, zBM_7, zBM_8, zBM_9⟩ := BM.out.c10
  go_enter Try.func43, Try.ntmps43
  go_wp2
  have KP := Aside0.mk (fun w' (hb : Below w.heap.size w w') => (BM.out.below hb).c10)
  clear zBM_0 zBM_1 zBM_2 zBM_3 zBM_4 zBM_5 zBM_6 zBM_7 zBM_8 zBM_9
  refine Evt.ow_start (w0 := w) (T := (true, [([], []), ([0], [0]), ([1], [1]), ([2], [2]), ([], []), ([3, 4, 0, 1, 2, 3, 4], [3])])) (B := [0, 1, 3, 7, 0, 31]) 6 [(0, some 10), (1, some 11), (2, some 12), (4, some 2), (3, some 13), (5, some 3)] (by kernel_rfl) rfl (by kernel_rfl) (by kernel_rfl) (by kernel_rfl) (by repeat (first | (with_reducible first | exact Below.refl _ _ | apply below_alloc | apply pw_below_drewN | apply below_drew1) | exact Below.refl _ _)) ?_
  intro HT_ HW_ w_ hHeld
  iterate 6 (first | (refine Evt.ow_off (a' := ?_) HT_ rfl rfl (by rfl) (by kernel_rfl) (fun _ _ _ h => h) ?_ ?_; rotate_left; (· (try simp only [Act.put, List.setIfInBounds_toArray, List.set_cons_zero, List.set_cons_succ, i64_w, i32_w]); rfl)) | (refine Evt.ow_pure (a' := ?_) (v := ?_) HT_ rfl rfl rfl (by rfl) (by kernel_rfl) (fun _ _ _ h => h) ?_ ?_ ?_; rotate_left 2; (· intro w'; go_simp; with_reducible rfl); (· (try simp only [Act.put, List.setIfInBounds_toArray, List.set_cons_zero, List.set_cons_succ, i64_w, i32_w]); rfl)) | (refine Evt.ow_load (a' := ?_) (v := ?_) HT_ HW_ hHeld rfl rfl rfl (by rfl) (by kernel_rfl) (fun _ _ _ h => h) ?_ ?_ ?_; rotate_left 2; (· intro w' hS_; obtain ⟨s0, s1, s2, s3, s4, s5, s6, s7, s8, s9⟩ := KP.out w' hS_.out; go_simp; with_reducible rfl); (· (try simp only [Act.put, List.setIfInBounds_toArray, List.set_cons_zero, List.set_cons_succ, i64_w, i32_w]); rfl)))
  refine Evt.ow_done HT_ (by kernel_rfl) ?_
  refine Evt.gen_any (w0 := w) hHeld.out ?_
  intro w1 hbx
  clear hHeld HT_ HW_ KP
  replace VV := Aside0.mk (VV.out.below hbx)
  replace BM := Aside0.mk (BM.out.below hbx)
  replace HB := Aside0.mk (below_step HB.out hbx)
  clear hbx
  obtain ⟨zBM_0, zBM_1, zBM_2, zBM_3, zBM_4, zBM_5, zBM_6, zBM_7, zBM_8, zBM_9⟩ := BM.out.c10
  go_wp2
  go_ret2
  exact ⟨rfl, (Srp.here ⟨_, _, _, _, _, _, VV.out⟩).from HB.out⟩
set_option maxHeartbeats 8000000 in
theorem rstep_short (h : Rm w base V gm vC vI vQ vM vE vL l li ⟨q, m, e, pc, acc, st, false, fault⟩) (hp : (l.length : Int) ≤ pc) :
    Calls Try.prog 43 #[.pointer (some ⟨gm, 0, none⟩)] w fun x w' => x = .returned (.tuple #[.bool false, .int .i64 5]) ∧ Srp w base V gm l li ⟨q, m, e, pc, acc, st, true, 5⟩ w' := by
  obtain ⟨AC, cC, AI, cI, AQ, cQ, AM, cM, AE, cE, AL, cL, rfl, rfl, rfl, rfl, rfl, rfl⟩ := h.forms
  have p1 : decide ((l.length : Int) ≤ pc) = true := decide_eq_true hp
  clear hp
  have HB := Aside0.mk (Below.refl w.heap.size w)
  have VV := Aside0.mk (h)
  have BM : Aside0 (Bk w gm 83 #[.slice AC l.length cC, .slice AI li.length cI, .slice AQ q.length cQ, .slice AM m.length cM, .slice AE e.length cE, .int .i64 pc, .bool acc, .slice AL st.length cL, .bool false, .int .i64 fault]) := Aside0.mk (h.bm)
  clear h
  obtain ⟨zBM_0, zBM_1, zBM_2, zBM_3, zBM_4, zBM_5, zBM_6, zBM_7, zBM_8, zBM_9⟩ := BM.out.c10
  go_enter Try.func43, Try.ntmps43
  go_wp2
  have KP := Aside0.mk (fun w' (hb : Below w.heap.size w w') => (BM.out.below hb).c10)
  clear zBM_0 zBM_1 zBM_2 zBM_3 zBM_4 zBM_5 zBM_6 zBM_7 zBM_8 zBM_9
  refine Evt.ow_start (w0 := w) (T := (true, [([], []), ([0], [0]), ([1], [1]), ([2], [2]), ([], []), ([4], [4]), ([5], [5]), ([6], [6]), ([7], [7]), ([3, 8], [3, 8])])) (B := [0, 1, 3, 7, 0, 16, 48, 112, 240, 511]) 10 [(0, some 14), (1, some 15), (2, some 16), (4, some 18), (5, some 19), (6, some 20), (3, some 17), (7, some 21), (8, some 22), (9, some 23)] (by kernel_rfl) rfl (by kernel_rfl) (by kernel_rfl) (by kernel_rfl) (by repeat (first | (with_reducible first | exact Below.refl _ _ | apply below_alloc | apply pw_below_drewN | apply below_drew1) | exact Below.refl _ _)) ?_
  intro HT_ HW_ w_ hHeld
  iterate 10 (first | (refine Evt.ow_off (a' := ?_) HT_ rfl rfl (by rfl) (by kernel_rfl) (fun _ _ _ h => h) ?_ ?_; rotate_left; (· (try simp only [Act.put, List.setIfInBounds_toArray, List.set_cons_zero, List.set_cons_succ, i64_w, i32_w]); rfl)) | (refine Evt.ow_pure (a' := ?_) (v := ?_) HT_ rfl rfl rfl (by rfl) (by kernel_rfl) (fun _ _ _ h => h) ?_ ?_ ?_; rotate_left 2; (· intro w'; go_simp; with_reducible rfl); (· (try simp only [Act.put, List.setIfInBounds_toArray, List.set_cons_zero, List.set_cons_succ, i64_w, i32_w]); rfl)) | (refine Evt.ow_load (a' := ?_) (v := ?_) HT_ HW_ hHeld rfl rfl rfl (by rfl) (by kernel_rfl) (fun _ _ _ h => h) ?_ ?_ ?_; rotate_left 2; (· intro w' hS_; obtain ⟨s0, s1, s2, s3, s4, s5, s6, s7, s8, s9⟩ := KP.out w' hS_.out; go_simp; with_reducible rfl); (· (try simp only [Act.put, List.setIfInBounds_toArray, List.set_cons_zero, List.set_cons_succ, i64_w, i32_w]); rfl)))
  refine Evt.ow_done HT_ (by kernel_rfl) ?_
  refine Evt.gen_any (w0 := w) hHeld.out ?_
  intro w1 hbx
  clear hHeld HT_ HW_ KP
  replace VV := Aside0.mk (VV.out.below hbx)
  replace BM := Aside0.mk (BM.out.below hbx)
  replace HB := Aside0.mk (below_step HB.out hbx)
  clear hbx
  obtain ⟨zBM_0, zBM_1, zBM_2, zBM_3, zBM_4, zBM_5, zBM_6, zBM_7, zBM_8, zBM_9⟩ := BM.out.c10
  have fBM_8 : w1.frozen? ⟨gm, 8, none⟩ = false := blk_frozen BM.out.blk 8
  have fBM_9 : w1.frozen? ⟨gm, 9, none⟩ = false := blk_frozen BM.out.blk 9
  go_wp2
  go_ret2
  exact ⟨rfl, Srp.from HB.out (VV.out.wFault true 5)⟩
set_option maxHeartbeats 32000000 in
theorem rstep_ins {i : Nat} (h : Rm w base V gm vC vI vQ vM vE vL l li ⟨q, m, e, ((i : Nat) : Int), acc, st, false, fault⟩) (hi : i < l.length) {er np : Int} {s1 : MS} (hr : core l.length li (rd_T66 l i).f0 (rd_T66 l i).f1.f0 (rd_T66 l i).f1.f1 (rd_T66 l i).f2 ⟨q, m, e, ((i : Nat) : Int), acc, st, false, fault⟩ = (er, np, s1)) (n0 : 0 ≤ np) (n1 : np ≤ 20000) :
    Calls Try.prog 43 #[.pointer (some ⟨gm, 0, none⟩)] w fun x w' => (er ≠ 0 → x = .returned (.tuple #[.bool false, .int .i64 er]) ∧ Srp w base V gm l li { s1 with ended := true, fault := er } w') ∧ (er = 0 → x = .returned (.tuple #[.bool (!s1.ended), .int .i64 0]) ∧ Srp w base V gm l li { s1 with pc := np } w') := by
  obtain ⟨AC, cC, AI, cI, AQ, cQ, AM, cM, AE, cE, AL, cL, rfl, rfl, rfl, rfl, rfl, rfl⟩ := h.forms
  have p1 : decide ((l.length : Int) ≤ (i : Int)) = false := decide_eq_false (by omega)
  have p2 : decide (l.length ≤ i) = false := decide_eq_false (by omega)
  have p3 : decide (i < l.length) = true := decide_eq_true hi
  have p4 : decide ((i : Int) < (l.length : Int)) = true := decide_eq_true (by omega)
  have lb : l.length ≤ 20000 := h.fit.c
  obtain ⟨ad, rfl, y0_, y1_, y2_, y3_⟩ := at_T66 (Kd.R_reads' h.rc).2.2 (i : Int) (by omega) (by omega)
  clear y0_ y1_ y2_ y3_
  obtain ⟨k, a, b, j, K⟩ : ∃ k a b j, Aside0 (rd_T66 l (i : Int) = ⟨k, ⟨a, b⟩, j⟩) := ⟨_, _, _, _, ⟨rfl⟩⟩
  rw [K.out] at hr
  have HR := Aside0.mk hr
  have HI := Aside0.mk hi
  have CELL : Aside0 (∀ W, Rm W base V gm (.slice (some ad) l.length cC) (.slice AI li.length cI) (.slice AQ q.length cQ) (.slice AM m.length cM) (.slice AE e.length cE) (.slice AL st.length cL) l li ⟨q, m, e, ((i : Nat) : Int), acc, st, false, fault⟩ → W.cell? (ad.add (i * 4)) = some (.int .i64 k) ∧ W.cell? ⟨(ad.add (i * 4)).block, (ad.add (i * 4)).off + 1, none⟩ = some (.int .i64 a) ∧ W.cell? ⟨(ad.add (i * 4)).block, (ad.add (i * 4)).off + 2, none⟩ = some (.int .i64 b) ∧ W.cell? ⟨(ad.add (i * 4)).block, (ad.add (i * 4)).off + 3, none⟩ = some (.int .i64 j)) := ⟨fun W hW => by
    obtain ⟨ad', e_, h0, h1, h2, h3⟩ := at_T66 (Kd.R_reads' hW.rc).2.2 (i : Int) (by have := HI.out; omega) (by have := HI.out; omega)
    injection e_ with e_
    subst e_
    rw [K.out, Int.toNat_natCast] at h0 h1 h2 h3
    exact ⟨h0, h1, h2, h3⟩⟩
  clear hr
  have HB := Aside0.mk (Below.refl w.heap.size w)
  have VV := Aside0.mk (h)
  have BM : Aside0 (Bk w gm 83 #[.slice (some ad) l.length cC, .slice AI li.length cI, .slice AQ q.length cQ, .slice AM m.length cM, .slice AE e.length cE, .int .i64 (i : Nat), .bool acc, .slice AL st.length cL, .bool false, .int .i64 fault]) := Aside0.mk (h.bm)
  clear h
  obtain ⟨zBM_0, zBM_1, zBM_2, zBM_3, zBM_4, zBM_5, zBM_6, zBM_7, zBM_8, zBM_9⟩ := BM.out.c10
  go_enter Try.func43, Try.ntmps43
  go_wp2
  have KP := Aside0.mk (fun w' (hb : Below w.heap.size w w') => (BM.out.below hb).c10)
  clear zBM_0 zBM_1 zBM_2 zBM_3 zBM_4 zBM_5 zBM_6 zBM_7 zBM_8 zBM_9
  refine Evt.ow_start (w0 := w) (T := (true, [([], []), ([0], [0]), ([1], [1]), ([2], [2]), ([], []), ([4], [4]), ([5], [5]), ([6], [6]), ([7], [7]), ([3, 8], [3, 8])])) (B := [0, 1, 3, 7, 0, 16, 48, 112, 240, 511]) 10 [(0, some 14), (1, some 15), (2, some 16), (4, some 18), (5, some 19), (6, some 20), (3, some 17), (7, some 21), (8, some 22), (9, some 23)] (by kernel_rfl) rfl (by kernel_rfl) (by kernel_rfl) (by kernel_rfl) (by repeat (first | (with_reducible first | exact Below.refl _ _ | apply below_alloc | apply pw_below_drewN | apply below_drew1) | exact Below.refl _ _)) ?_
  intro HT_ HW_ w_ hHeld
  iterate 10 (first | (refine Evt.ow_off (a' := ?_) HT_ rfl rfl (by rfl) (by kernel_rfl) (fun _ _ _ h => h) ?_ ?_; rotate_left; (· (try simp only [Act.put, List.setIfInBounds_toArray, List.set_cons_zero, List.set_cons_succ, i64_w, i32_w]); rfl)) | (refine Evt.ow_pure (a' := ?_) (v := ?_) HT_ rfl rfl rfl (by rfl) (by kernel_rfl) (fun _ _ _ h => h) ?_ ?_ ?_; rotate_left 2; (· intro w'; go_simp; with_reducible rfl); (· (try simp only [Act.put, List.setIfInBounds_toArray, List.set_cons_zero, List.set_cons_succ, i64_w, i32_w]); rfl)) | (refine Evt.ow_load (a' := ?_) (v := ?_) HT_ HW_ hHeld rfl rfl rfl (by rfl) (by kernel_rfl) (fun _ _ _ h => h) ?_ ?_ ?_; rotate_left 2; (· intro w' hS_; obtain ⟨s0, s1, s2, s3, s4, s5, s6, s7, s8, s9⟩ := KP.out w' hS_.out; go_simp; with_reducible rfl); (· (try simp only [Act.put, List.setIfInBounds_toArray, List.set_cons_zero, List.set_cons_succ, i64_w, i32_w]); rfl)))
  refine Evt.ow_done HT_ (by kernel_rfl) ?_
  refine Evt.gen_any (w0 := w) hHeld.out ?_
  intro w1 hbx
  clear hHeld HT_ HW_ KP
  replace VV := Aside0.mk (VV.out.below hbx)
  replace BM := Aside0.mk (BM.out.below hbx)
  replace HB := Aside0.mk (below_step HB.out hbx)
  clear hbx
  obtain ⟨zBM_0, zBM_1, zBM_2, zBM_3, zBM_4, zBM_5, zBM_6, zBM_7, zBM_8, zBM_9⟩ := BM.out.c10
  go_wp2
  have KP := Aside0.mk (fun w' (hb : Below w1.heap.size w1 w') => (BM.out.below hb).c10)
  clear zBM_0 zBM_1 zBM_2 zBM_3 zBM_4 zBM_5 zBM_6 zBM_7 zBM_8 zBM_9
  refine Evt.ol_start (ds := [11]) (w0 := w1) (T := (true, [([], []), ([], []), ([1], [1]), ([2], [2]), ([3], [3]), ([], []), ([5], [5]), ([6], [6]), ([7], [7]), ([4, 8], [4, 8]), ([9], [9]), ([0, 10], [0, 10]), ([11], [11]), ([12], [12]), ([12], [12]), ([13, 11, 0, 1, 2, 3, 4, 5, 6, 7, 8, 9, 10, 11, 12, 13], [13]), ([14, 15, 0, 1, 2, 3, 4, 5, 6, 7, 8, 9, 10, 11, 12, 13, 14, 15], [14])])) (B := [0, 0, 2, 6, 14, 0, 32, 96, 224, 510, 1022, 2047, 4095, 8191, 8191, 16383, 65535]) 17 [(0, some 31), (1, some 32), (2, some 33), (3, some 34), (4, some 35), (5, some 36), (6, some 37), (7, some 38), (8, some 39), (9, some 40), (10, some 41), (11, some 42), (12, some 30), (13, some 43), (14, some 44), (15, some 4), (16, some 5)] (by kernel_rfl) rfl (by kernel_rfl) (by kernel_rfl) (by kernel_rfl) (by repeat (first | (with_reducible first | exact Below.refl _ _ | apply below_alloc | apply pw_below_drewN | apply below_drew1) | exact Below.refl _ _)) ?_
  intro HT_ HW_ w_ hHeld
  iterate 11 (first | (refine Evt.ol_off (a' := ?_) HT_ rfl rfl (by rfl) (by kernel_rfl) (fun _ _ _ h => h) ?_ ?_; rotate_left; (· (try simp only [Act.put, List.setIfInBounds_toArray, List.set_cons_zero, List.set_cons_succ, i64_w, i32_w]); rfl)) | (refine Evt.ol_pure (a' := ?_) (v := ?_) HT_ rfl rfl rfl (by rfl) (by kernel_rfl) (fun _ _ _ h => h) ?_ ?_ ?_; rotate_left 2; (· intro w'; go_simp; with_reducible rfl); (· (try simp only [Act.put, List.setIfInBounds_toArray, List.set_cons_zero, List.set_cons_succ, i64_w, i32_w]); rfl)) | (refine Evt.ol_load (a' := ?_) (v := ?_) HT_ HW_ hHeld rfl rfl rfl (by rfl) (by kernel_rfl) (fun _ _ _ h => h) ?_ ?_ ?_; rotate_left 2; (· intro w' hS_; obtain ⟨s0, s1, s2, s3, s4, s5, s6, s7, s8, s9⟩ := KP.out w' hS_.out; have ⟨y0, y1, y2, y3⟩ := CELL.out w' (VV.out.below hS_.out); go_simp; with_reducible rfl); (· (try simp only [Act.put, List.setIfInBounds_toArray, List.set_cons_zero, List.set_cons_succ, i64_w, i32_w]); rfl)))
  refine Evt.ol_calld HT_ rfl rfl (by simp) rfl rfl Try.func58 (by kernel_rfl) rfl #[.pointer (some ⟨gm, 0, none⟩), .agg #[.int .i64 k, .int .i64 a, .int .i64 b, .int .i64 j]] (by kernel_rfl) (by rfl) (by (try simp only [List.map_toArray, List.map_cons, List.map_nil]); first | done | rfl | (simp only [List.length_drop, List.length_take]; rfl)) ?_
  refine (rdo_any (VV.out.below hHeld.out) HR.out).mono ?_
  rintro e_ w8 ⟨rfl, hs_⟩
  refine ⟨_, rfl, ?_⟩
  have SR := Aside0.mk (Srp.from (below_step HB.out hHeld.out) hs_)
  obtain ⟨V8, ⟨vC8, vI8, vQ8, vM8, vE8, vL8, R8⟩, _, _⟩ := hs_.out
  have BM8 := Aside0.mk R8.bm
  clear R8 hs_ VV hHeld HB KP BM
  refine Evt.ol_norm (a' := ?_) ?_ ?_
  rotate_left
  · simp only [Act.put, List.setIfInBounds_toArray, List.set_cons_zero, List.set_cons_succ, i64_w, i32_w]; rfl
  iterate 5 (first | (refine Evt.ol_off (a' := ?_) HT_ rfl rfl (by rfl) (by kernel_rfl) (fun _ _ _ h => h) ?_ ?_; rotate_left; (· (try simp only [Act.put, List.setIfInBounds_toArray, List.set_cons_zero, List.set_cons_succ, i64_w, i32_w]); rfl)) | (refine Evt.ol_pure (a' := ?_) (v := ?_) HT_ rfl rfl rfl (by rfl) (by kernel_rfl) (fun _ _ _ h => h) ?_ ?_ ?_; rotate_left 2; (· intro w'; go_simp; with_reducible rfl); (· (try simp only [Act.put, List.setIfInBounds_toArray, List.set_cons_zero, List.set_cons_succ, i64_w, i32_w]); rfl)) | (refine Evt.ol_load (a' := ?_) (v := ?_) HT_ HW_ hHeld rfl rfl rfl (by rfl) (by kernel_rfl) (fun _ _ _ h => h) ?_ ?_ ?_; rotate_left 2; (· intro w' hS_; go_simp; with_reducible rfl); (· (try simp only [Act.put, List.setIfInBounds_toArray, List.set_cons_zero, List.set_cons_succ, i64_w, i32_w]); rfl)))
  refine Evt.ol_done HT_ (by kernel_rfl) ?_
  clear HT_ HW_
  have HB := Aside0.mk (Below.refl w8.heap.size w8)
  have BM : Aside0 (Bk w8 gm 83 #[vC8, vI8, vQ8, vM8, vE8, .int .i64 s1.pc, .bool s1.acc, vL8, .bool s1.ended, .int .i64 s1.fault]) := Aside0.mk (BM8.out)
  clear BM8
  obtain ⟨zBM_0, zBM_1, zBM_2, zBM_3, zBM_4, zBM_5, zBM_6, zBM_7, zBM_8, zBM_9⟩ := BM.out.c10
  have fBM_5 : w8.frozen? ⟨gm, 5, none⟩ = false := blk_frozen BM.out.blk 5
  have fBM_8 : w8.frozen? ⟨gm, 8, none⟩ = false := blk_frozen BM.out.blk 8
  have fBM_9 : w8.frozen? ⟨gm, 9, none⟩ = false := blk_frozen BM.out.blk 9
  by_cases he : er = 0
  · have t0 : decide (er = 0) = true := decide_eq_true he
    have t1 : (er == 0) = true := beq_iff_eq.mpr he
    have t2 : (er != 0) = false := by simp [he]
    have HE := Aside0.mk he
    clear he
    go_wp2
    go_ret2
    refine ⟨fun hc => absurd HE.out hc, fun _ => ⟨rfl, SR.out.then (fun V' hR => ?_)⟩⟩
    obtain ⟨_, _, _, _, _, _, hR⟩ := hR
    exact hR.wPc np (by omega) n1
  · have t0 : decide (er = 0) = false := decide_eq_false he
    have t1 : (er == 0) = false := beq_eq_false_iff_ne.mpr he
    have t2 : (er != 0) = true := bne_iff_ne.mpr he
    have HE := Aside0.mk he
    clear he
    go_wp2
    go_ret2
    refine ⟨fun _ => ⟨rfl, SR.out.then (fun V' hR => ?_)⟩, fun hc => absurd hc HE.out⟩
    obtain ⟨_, _, _, _, _, _, hR⟩ := hR
    exact hR.wFault true er
theorem rstep_any (h : RmP w base V gm l li s) (h0 : 0 ≤ s.pc) : Calls Try.prog 43 #[.pointer (some ⟨gm, 0, none⟩)] w fun x w' => x = .returned (.tuple #[.bool (stepV l li s).1.1, .int .i64 (stepV l li s).1.2]) ∧ Srp w base V gm l li (stepV l li s).2 w' := by
  obtain ⟨vC, vI, vQ, vM, vE, vL, h⟩ := h
  obtain ⟨q, m, e, pc, acc, st, ended, fault⟩ := s
  cases ended with
  | true => exact rstep_end h
  | false =>
    by_cases hp : (l.length : Int) ≤ pc
    · unfold stepV
      rw [if_neg (by simp), if_pos hp]
      exact rstep_short h hp
    · obtain ⟨i, rfl⟩ : ∃ i : Nat, pc = i := ⟨pc.toNat, by simp only at h0; omega⟩
      have hi : i < l.length := by omega
      have hb := core_np (n := l.length) (li := li) (k := (rd_T66 l i).f0) (a := (rd_T66 l i).f1.f0) (b := (rd_T66 l i).f1.f1) (j := (rd_T66 l i).f2) (s := ⟨q, m, e, (i : Int), acc, st, false, fault⟩) h0 (by simp only; omega) h.fit.c
      have hce := core_err (n := l.length) (li := li) (k := (rd_T66 l i).f0) (a := (rd_T66 l i).f1.f0) (b := (rd_T66 l i).f1.f1) (j := (rd_T66 l i).f2) (s := ⟨q, m, e, (i : Int), acc, st, false, fault⟩)
      refine (rstep_ins h hi (Prod.eta _).symm hb.1 hb.2).mono fun x w' hx => ?_
      unfold stepV
      rw [if_neg (by simp), if_neg hp]
      by_cases h1 : (core l.length li (rd_T66 l (i : Int)).f0 (rd_T66 l (i : Int)).f1.f0 (rd_T66 l (i : Int)).f1.f1 (rd_T66 l (i : Int)).f2 ⟨q, m, e, (i : Int), acc, st, false, fault⟩).1 = 0
      · rw [if_pos h1]; exact hx.2 h1
      · rw [if_neg h1]
        have h2 := hx.1 h1
        rw [hce h1] at h2
        exact h2
end
end Go.Proofs.Ytjohdkbciafpfaa.Vm6
end
section
/- Chapter 06: the reference machine's New, walked. -/
namespace Go.Proofs.Ytjohdkbciafpfaa.Vm6
open Go.RowKit Go.Proofs.YtjohdkbciafpfaaW.PrintWords Go.Proofs.YtjohdkbciafpfaaW.PrintMore Go.Proofs.YtjohdkbciafpfaaW.PrintLast Go.Proofs.Ytjohdkbciafpfaa.Chg Go.Proofs.Ytjohdkbciafpfaa.Evt Go.Proofs.Ytjohdkbciafpfaa.Impl
set_option linter.unusedVariables false
set_option linter.unusedSimpArgs false
set_option maxRecDepth 100000
theorem rk66 : Rk k66 66 57 := ⟨rfl, Try.underlying57, ⟨_, _, info66, rfl, by decide, by decide, by decide⟩, fun _ _ _ _ _ h => k66_KM h⟩
section
variable {AC AI AQ AM AE : Option Addr} {cC cI cQ cM cE : Nat} {l : List S66} {li q m e : List Bool}
set_option maxHeartbeats 16000000 in
theorem rnew_any (w : World) {B : Nat} (hB : B ≤ w.heap.size) (hC : Kd.C k66 w AC l.length l) (hI : Rw Kd.bool w AI cI li) (hS : Sb w AQ cQ AM cM AE cE q m e) (hl : l.length ≤ 20000) (hi : li.length ≤ 20000) :
    Calls Try.prog 42 #[.slice AC l.length cC, .slice AI li.length cI, .agg #[.slice AQ q.length cQ, .slice AM m.length cM, .slice AE e.length cE]] w fun x w' => ∃ gm V, x = .returned (.pointer (some ⟨gm, 0, none⟩)) ∧ RmP w' B V gm l li (ini q m e) ∧ (∀ k, V k → w.heap.size ≤ k ∧ k < w'.heap.size) ∧ Below w.heap.size w w' := by
  have HC := Aside0.mk hC
  have HS := Aside0.mk hS
  have HB := Aside0.mk (Below.refl w.heap.size w)
  have SB := Aside0.mk (hS)
  have RI := Aside0.mk (hI)
  clear hC hI hS
  go_enter Try.func42, Try.ntmps42
  go_wp2_with (((with_reducible refine gate_dst (N := 5) rfl ?_); refine box_event ?hg (N := 5) ?hd (cs := #[.slice AQ q.length cQ, .slice AM m.length cM, .slice AE e.length cE]) (t := 24) ?hr ?_; (case hd => rfl); (case hg => rfl); (case hr => first | (go_simp; done) | (go_simp; rfl)); intro g5 hg w1 hbox hb; have hbx : Below w.heap.size w w1 := below_step (by repeat (first | (with_reducible first | exact Below.refl _ _ | apply below_alloc | apply pw_below_drewN | apply below_drew1) | exact Below.refl _ _)) hb; replace SB := Aside0.mk (SB.out.below hbx); replace RI := Aside0.mk (RI.out.below hbx); replace HB := Aside0.mk (below_step HB.out hbx); clear hbx; have BK5 := Aside0.mk (Bk.mk (hbox : Blk w1 g5 24 #[.slice AQ q.length cQ, .slice AM m.length cM, .slice AE e.length cE])); clear hbox hg hb; obtain ⟨zBK5_0, zBK5_1, zBK5_2⟩ := BK5.out.c3))
  have KP := Aside0.mk (fun w' (hb : Below w1.heap.size w1 w') => (BK5.out.below hb).c3)
  clear zBK5_0 zBK5_1 zBK5_2
  refine Evt.ol_start (ds := []) (w0 := w1) (T := (true, [([], []), ([], []), ([0, 1], [0, 1]), ([], []), ([], []), ([3, 4, 2], [3, 4]), ([], []), ([6, 5], [6]), ([2, 5, 7], [2, 5, 7]), ([8], [8]), ([9, 7, 0, 1, 2, 3, 4, 5, 6, 7, 8, 9], [9])])) (B := [0, 0, 3, 0, 0, 31, 0, 127, 255, 511, 1023]) 11 [(1, some 8), (4, some 11), (6, some 13), (0, some 7), (2, some 9), (3, some 10), (5, some 12), (7, some 14), (8, some 15), (9, some 16), (10, some 6)] (by kernel_rfl) rfl (by kernel_rfl) (by kernel_rfl) (by kernel_rfl) (by repeat (first | (with_reducible first | exact Below.refl _ _ | apply below_alloc | apply pw_below_drewN | apply below_drew1) | exact Below.refl _ _)) ?_
  intro HT_ HW_ w_ hHeld
  iterate 3 (first | (refine Evt.ol_off (a' := ?_) HT_ rfl rfl (by rfl) (by kernel_rfl) (fun _ _ _ h => h) ?_ ?_; rotate_left; (· (try simp only [Act.put, List.setIfInBounds_toArray, List.set_cons_zero, List.set_cons_succ, i64_w, i32_w]); rfl)) | (refine Evt.ol_pure (a' := ?_) (v := ?_) HT_ rfl rfl rfl (by rfl) (by kernel_rfl) (fun _ _ _ h => h) ?_ ?_ ?_; rotate_left 2; (· intro w'; go_simp; with_reducible rfl); (· (try simp only [Act.put, List.setIfInBounds_toArray, List.set_cons_zero, List.set_cons_succ, i64_w, i32_w]); rfl)) | (refine Evt.ol_load (a' := ?_) (v := ?_) HT_ HW_ hHeld rfl rfl rfl (by rfl) (by kernel_rfl) (fun _ _ _ h => h) ?_ ?_ ?_; rotate_left 2; (· intro w' hS_; obtain ⟨s0, s1, s2⟩ := KP.out w' hS_.out; go_simp; with_reducible rfl); (· (try simp only [Act.put, List.setIfInBounds_toArray, List.set_cons_zero, List.set_cons_succ, i64_w, i32_w]); rfl)))
  refine Evt.od_join (σ := Value × Value × Value × Value) 4 [(7, some 14), (8, some 15), (9, some 16), (10, some 6)] (fun s => [(7, s.1), (9, s.2.1), (10, s.2.2.1), (12, s.2.2.2)]) (fun s w' => Evt.Ro k66 66 w1 w' s.2.1 (l) ∧ Evt.Ro Kd.bool 4 w1 w' s.2.2.2 (li) ∧ Evt.Apart s.2.1 s.2.2.2) ?_ ?_
  · intro J_0_2_3_5
    refine Evt.od_join (σ := Value × Value × Value × Value) 5 [(5, some 12), (7, some 14), (8, some 15), (9, some 16), (10, some 6)] (fun s => [(7, s.1), (9, s.2.1), (10, s.2.2.1)]) (fun s w' => Evt.Ro k66 66 w1 w' s.2.1 (l) ∧ Evt.Ro Kd.bool 4 w1 w' s.2.2.1 ([]) ∧ Evt.Apart s.2.1 s.2.2.1) ?_ ?_
    rotate_left
    · rintro ⟨o0, n0, o1, n1⟩ w_ hHeld ⟨f0, f1, p0_1⟩
      refine Evt.ol_norm (a' := ?_) ?_ ?_
      rotate_left
      · simp only [putAll, Act.put, List.setIfInBounds_toArray, List.set_cons_zero, List.set_cons_succ, i64_w, i32_w]; rfl
      refine Evt.od_one (i := 5) [(7, some 14), (8, some 15), (9, some 16), (10, some 6)] HT_ rfl rfl (by simp) (by kernel_rfl) (fun K_ hK_ => ?_)
      · refine Evt.d_app Evt.rkB hK_ hHeld (by rfl) rfl (.tmp 10) (.tmp 11) rfl o1 [] (li) (AI) (li.length) (cI) rfl rfl f1 ((RI.out.below hHeld.out).row) (by simp; omega) ?_
        intro v_ w1_ ho_ hg_ hat_ hH_
        exact Evt.ol_norm (by simp only [putAll, Act.put, List.setIfInBounds_toArray, List.set_cons_zero, List.set_cons_succ, i64_w, i32_w]; rfl) (J_0_2_3_5 (o0, n0, o1, v_) _ hH_ ⟨Evt.Ro.other rfl f0 hg_ p0_1.symm, ho_, (Evt.Apart.moved p0_1.symm f0.lt hat_).symm⟩)
    intro J_0_2_3
    refine Evt.od_join (σ := Value × Value × Value × Value) 6 [(3, some 10), (5, some 12), (7, some 14), (8, some 15), (9, some 16), (10, some 6)] (fun s => [(7, s.1), (9, s.2.1)]) (fun s w' => Evt.Ro k66 66 w1 w' s.2.1 (l)) ?_ ?_
    rotate_left
    · rintro ⟨o0, n0, o1, n1⟩ w_ hHeld f0
      refine Evt.ol_norm (a' := ?_) ?_ ?_
      rotate_left
      · simp only [putAll, Act.put, List.setIfInBounds_toArray, List.set_cons_zero, List.set_cons_succ, i64_w, i32_w]; rfl
      refine Evt.od_one (i := 3) [(5, some 12), (7, some 14), (8, some 15), (9, some 16), (10, some 6)] HT_ rfl rfl (by simp) (by kernel_rfl) (fun K_ hK_ => ?_)
      · refine Evt.d_row0 (d := Kd.bool) (e := 4) hK_ hHeld (by rfl) rfl ?_ ?_
        · first | (go_simp; done) | (go_simp; rfl) | (go_simp; refine ⟨?_, ?_⟩ <;> rfl)
        intro v_ w1_ ho_ hn_ hb_ hH_
        exact Evt.ol_norm (by simp only [putAll, Act.put, List.setIfInBounds_toArray, List.set_cons_zero, List.set_cons_succ, i64_w, i32_w]; rfl) (J_0_2_3 (o0, n0, v_, undef) _ hH_ ⟨f0.below hb_, ho_, (Evt.Apart.fresh f0.lt hn_).symm⟩)
    intro J_0_2
    refine Evt.od_join (σ := Value × Value × Value × Value) 6 [(2, some 9), (5, some 12), (7, some 14), (8, some 15), (9, some 16), (10, some 6)] (fun s => [(7, s.1), (10, s.2.2.1)]) (fun s w' => Evt.Ro k66 66 w1 w' s.1 ([]) ∧ Evt.Ro Kd.bool 4 w1 w' s.2.2.1 ([]) ∧ Evt.Apart s.1 s.2.2.1) ?_ ?_
    rotate_left
    · rintro ⟨o0, n0, o1, n1⟩ w_ hHeld ⟨f0, f1, p0_1⟩
      refine Evt.ol_norm (a' := ?_) ?_ ?_
      rotate_left
      · simp only [putAll, Act.put, List.setIfInBounds_toArray, List.set_cons_zero, List.set_cons_succ, i64_w, i32_w]; rfl
      refine Evt.od_one (i := 2) [(5, some 12), (7, some 14), (8, some 15), (9, some 16), (10, some 6)] HT_ rfl rfl (by simp) (by kernel_rfl) (fun K_ hK_ => ?_)
      · refine Evt.d_app rk66 hK_ hHeld (by rfl) rfl (.tmp 7) (.tmp 8) rfl o0 [] (l) (AC) (l.length) (cC) rfl rfl f0 ((Kd.C_below HC.out (below_step HB.out hHeld.out))) (by simp; omega) ?_
        intro v_ w1_ ho_ hg_ hat_ hH_
        exact Evt.ol_norm (by simp only [putAll, Act.put, List.setIfInBounds_toArray, List.set_cons_zero, List.set_cons_succ, i64_w, i32_w]; rfl) (J_0_2_3 (o0, v_, o1, undef) _ hH_ ⟨ho_, Evt.Ro.other rfl f1 hg_ p0_1, (Evt.Apart.moved p0_1 f1.lt hat_)⟩)
    intro J_0_3
    refine Evt.od_join (σ := Value × Value × Value × Value) 7 [(2, some 9), (3, some 10), (5, some 12), (7, some 14), (8, some 15), (9, some 16), (10, some 6)] (fun s => [(7, s.1)]) (fun s w' => Evt.Ro k66 66 w1 w' s.1 ([])) ?_ ?_
    rotate_left
    · rintro ⟨o0, n0, o1, n1⟩ w_ hHeld f0
      refine Evt.ol_norm (a' := ?_) ?_ ?_
      rotate_left
      · simp only [putAll, Act.put, List.setIfInBounds_toArray, List.set_cons_zero, List.set_cons_succ, i64_w, i32_w]; rfl
      refine Evt.od_two (i := 2) (j := 3) [(3, some 10), (5, some 12), (7, some 14), (8, some 15), (9, some 16), (10, some 6)] [(2, some 9), (5, some 12), (7, some 14), (8, some 15), (9, some 16), (10, some 6)] HT_ rfl rfl rfl rfl (by simp) (by kernel_rfl) (fun K_ hK_ => ?_) (fun K_ hK_ => ?_)
      · refine Evt.d_app rk66 hK_ hHeld (by rfl) rfl (.tmp 7) (.tmp 8) rfl o0 [] (l) (AC) (l.length) (cC) rfl rfl f0 ((Kd.C_below HC.out (below_step HB.out hHeld.out))) (by simp; omega) ?_
        intro v_ w1_ ho_ hg_ hat_ hH_
        exact Evt.ol_norm (by simp only [putAll, Act.put, List.setIfInBounds_toArray, List.set_cons_zero, List.set_cons_succ, i64_w, i32_w]; rfl) (J_0_2 (o0, v_, undef, undef) _ hH_ ho_)
      · refine Evt.d_row0 (d := Kd.bool) (e := 4) hK_ hHeld (by rfl) rfl ?_ ?_
        · first | (go_simp; done) | (go_simp; rfl) | (go_simp; refine ⟨?_, ?_⟩ <;> rfl)
        intro v_ w1_ ho_ hn_ hb_ hH_
        exact Evt.ol_norm (by simp only [putAll, Act.put, List.setIfInBounds_toArray, List.set_cons_zero, List.set_cons_succ, i64_w, i32_w]; rfl) (J_0_3 (o0, undef, v_, undef) _ hH_ ⟨f0.below hb_, ho_, (Evt.Apart.fresh f0.lt hn_).symm⟩)
    intro J_0
    refine Evt.od_join (σ := Value × Value × Value × Value) 7 [(0, some 7), (2, some 9), (5, some 12), (7, some 14), (8, some 15), (9, some 16), (10, some 6)] (fun s => [(10, s.2.2.1)]) (fun s w' => Evt.Ro Kd.bool 4 w1 w' s.2.2.1 ([])) ?_ ?_
    rotate_left
    · rintro ⟨o0, n0, o1, n1⟩ w_ hHeld f1
      refine Evt.ol_norm (a' := ?_) ?_ ?_
      rotate_left
      · simp only [putAll, Act.put, List.setIfInBounds_toArray, List.set_cons_zero, List.set_cons_succ, i64_w, i32_w]; rfl
      refine Evt.od_one (i := 0) [(2, some 9), (5, some 12), (7, some 14), (8, some 15), (9, some 16), (10, some 6)] HT_ rfl rfl (by simp) (by kernel_rfl) (fun K_ hK_ => ?_)
      · refine Evt.d_row0 (d := k66) (e := 66) hK_ hHeld (by rfl) rfl ?_ ?_
        · first | (go_simp; done) | (go_simp; rfl) | (go_simp; refine ⟨?_, ?_⟩ <;> rfl)
        intro v_ w1_ ho_ hn_ hb_ hH_
        exact Evt.ol_norm (by simp only [putAll, Act.put, List.setIfInBounds_toArray, List.set_cons_zero, List.set_cons_succ, i64_w, i32_w]; rfl) (J_0_3 (v_, undef, o1, undef) _ hH_ ⟨ho_, f1.below hb_, (Evt.Apart.fresh f1.lt hn_)⟩)
    intro J_3
    refine Evt.od_two (i := 0) (j := 3) [(2, some 9), (3, some 10), (5, some 12), (7, some 14), (8, some 15), (9, some 16), (10, some 6)] [(0, some 7), (2, some 9), (5, some 12), (7, some 14), (8, some 15), (9, some 16), (10, some 6)] HT_ rfl rfl rfl rfl (by simp) (by kernel_rfl) (fun K_ hK_ => ?_) (fun K_ hK_ => ?_)
    · refine Evt.d_row0 (d := k66) (e := 66) hK_ hHeld (by rfl) rfl ?_ ?_
      · first | (go_simp; done) | (go_simp; rfl) | (go_simp; refine ⟨?_, ?_⟩ <;> rfl)
      intro v_ w1_ ho_ hn_ hb_ hH_
      exact Evt.ol_norm (by simp only [putAll, Act.put, List.setIfInBounds_toArray, List.set_cons_zero, List.set_cons_succ, i64_w, i32_w]; rfl) (J_0 (v_, undef, undef, undef) _ hH_ ho_)
    · refine Evt.d_row0 (d := Kd.bool) (e := 4) hK_ hHeld (by rfl) rfl ?_ ?_
      · first | (go_simp; done) | (go_simp; rfl) | (go_simp; refine ⟨?_, ?_⟩ <;> rfl)
      intro v_ w1_ ho_ hn_ hb_ hH_
      exact Evt.ol_norm (by simp only [putAll, Act.put, List.setIfInBounds_toArray, List.set_cons_zero, List.set_cons_succ, i64_w, i32_w]; rfl) (J_3 (undef, undef, v_, undef) _ hH_ ho_)
  rintro ⟨o0, n0, o1, n1⟩ w_ hHeld ⟨f0, f1, p0_1⟩
  have F0 := Aside0.mk f0
  have F1 := Aside0.mk f1
  have P0_1 := Aside0.mk p0_1
  clear f0 f1 p0_1
  refine Evt.ol_norm (a' := ?_) ?_ ?_
  rotate_left
  · simp only [putAll, Act.put, List.setIfInBounds_toArray, List.set_cons_zero, List.set_cons_succ, i64_w, i32_w]; rfl
  have WB := Aside0.mk HB.out.size
  obtain ⟨AC1, cC1, rfl⟩ := Kd.R_slice F0.out.row
  obtain ⟨AI1, cI1, rfl⟩ := Kd.R_slice F1.out.row
  refine Evt.ol_callg HT_ hHeld rfl rfl (by simp) rfl Try.func23 (by kernel_rfl) rfl #[.agg #[.slice AQ q.length cQ, .slice AM m.length cM, .slice AE e.length cE]] (by kernel_rfl) (by rfl) (by (try simp only [List.map_toArray, List.map_cons, List.map_nil]); first | done | rfl | (simp only [List.length_drop, List.length_take]; rfl)) ?_
  (with_reducible refine (cloneR (SB.out.below hHeld.out)).mono ?_)
  rintro e_ w_ ⟨X0, x0, X1, x1, X2, x2, rfl, ho_, hb_⟩
  have O3 := Aside0.mk (ho_.lower (show w.heap.size ≤ _ from (below_step HB.out hHeld.out).size)); have RC0 := Aside0.mk (Kd.R_lower (F0.out.below hb_).row WB.out); have RI0 := Aside0.mk (Kd.R_lower (F1.out.below hb_).row WB.out); clear ho_ F0 F1 P0_1
  refine ⟨_, rfl, hb_, fun hHeld_ => ?_⟩
  clear hHeld hb_
  have hHeld := hHeld_
  clear hHeld_
  refine Evt.ol_norm (a' := ?_) ?_ ?_
  rotate_left
  · simp only [Act.put, List.setIfInBounds_toArray, List.set_cons_zero, List.set_cons_succ, i64_w, i32_w]; rfl
  (first | (refine Evt.ol_off (a' := ?_) HT_ rfl rfl (by rfl) (by kernel_rfl) (fun _ _ _ h => h) ?_ ?_; rotate_left; (· (try simp only [Act.put, List.setIfInBounds_toArray, List.set_cons_zero, List.set_cons_succ, i64_w, i32_w]); rfl)) | (refine Evt.ol_pure (a' := ?_) (v := ?_) HT_ rfl rfl rfl (by rfl) (by kernel_rfl) (fun _ _ _ h => h) ?_ ?_ ?_; rotate_left 2; (· intro w'; go_simp; with_reducible rfl); (· (try simp only [Act.put, List.setIfInBounds_toArray, List.set_cons_zero, List.set_cons_succ, i64_w, i32_w]); rfl)) | (refine Evt.ol_load (a' := ?_) (v := ?_) HT_ HW_ hHeld rfl rfl rfl (by rfl) (by kernel_rfl) (fun _ _ _ h => h) ?_ ?_ ?_; rotate_left 2; (· intro w' hS_; obtain ⟨s0, s1, s2⟩ := KP.out w' hS_.out; go_simp; with_reducible rfl); (· (try simp only [Act.put, List.setIfInBounds_toArray, List.set_cons_zero, List.set_cons_succ, i64_w, i32_w]); rfl)))
  have AL_ : w_.heap.size < (w_.alloc (.cells #[.slice AC1 l.length cC1, .slice AI1 li.length cI1, .slice X0 q.length x0, .slice X1 m.length x1, .slice X2 e.length x2, .int .i64 0, .bool false, .slice none 0 0, .bool false, .int .i64 0] 83 (0, 0))).heap.size := by simp
  refine Evt.ol_value (a' := ?_) (v := .pointer (some ⟨w_.heap.size, 0, none⟩)) (w1 := w_.alloc (.cells #[.slice AC1 l.length cC1, .slice AI1 li.length cI1, .slice X0 q.length x0, .slice X1 m.length x1, .slice X2 e.length x2, .int .i64 0, .bool false, .slice none 0 0, .bool false, .int .i64 0] 83 (0, 0))) HT_ hHeld rfl rfl (by simp) (by rfl) (by kernel_rfl) ?_ (below_alloc (Below.refl _ _) _) ?_ ?_
  rotate_left
  · first | (go_simp; done) | (go_simp; rfl) | (go_simp; refine ⟨?_, ?_⟩ <;> rfl)
  · simp only [Act.put, List.setIfInBounds_toArray, List.set_cons_zero, List.set_cons_succ, i64_w, i32_w]; rfl
  intro hHeld_
  have BZ := Aside0.mk (show Bk (w_.alloc (.cells #[.slice AC1 l.length cC1, .slice AI1 li.length cI1, .slice X0 q.length x0, .slice X1 m.length x1, .slice X2 e.length x2, .int .i64 0, .bool false, .slice none 0 0, .bool false, .int .i64 0] 83 (0, 0))) w_.heap.size 83 (rcells (.slice AC1 l.length cC1) (.slice AI1 li.length cI1) (.slice X0 q.length x0) (.slice X1 m.length x1) (.slice X2 e.length x2) (.slice none 0 0) (ini q m e)) from Bk.new_eq rfl)
  have BW := Aside0.mk (show Below w_.heap.size w_ (w_.alloc (.cells #[.slice AC1 l.length cC1, .slice AI1 li.length cI1, .slice X0 q.length x0, .slice X1 m.length x1, .slice X2 e.length x2, .int .i64 0, .bool false, .slice none 0 0, .bool false, .int .i64 0] 83 (0, 0))) from below_alloc (Below.refl _ _) _)
  have HB1 := Aside0.mk (below_step HB.out hHeld.out)
  have AL := Aside0.mk AL_
  obtain ⟨gm, hgm⟩ : ∃ gm, w_.heap.size = gm := ⟨_, rfl⟩
  obtain ⟨wz, hwz⟩ : ∃ wz, w_.alloc (.cells #[.slice AC1 l.length cC1, .slice AI1 li.length cI1, .slice X0 q.length x0, .slice X1 m.length x1, .slice X2 e.length x2, .int .i64 0, .bool false, .slice none 0 0, .bool false, .int .i64 0] 83 (0, 0)) = wz := ⟨_, rfl⟩
  have GM := Aside0.mk (show w.heap.size ≤ gm from by rw [← hgm]; exact HB1.out.size)
  have HBz := Aside0.mk (below_step HB1.out BW.out)
  rw [hwz] at BZ BW AL HBz
  rw [hwz]
  rw [hgm] at BZ AL
  rw [hgm]
  clear hwz hgm hHeld_ hHeld AL_ HB KP SB RI BK5
  (first | (refine Evt.ol_off (a' := ?_) HT_ rfl rfl (by rfl) (by kernel_rfl) (fun _ _ _ h => h) ?_ ?_; rotate_left; (· (try simp only [Act.put, List.setIfInBounds_toArray, List.set_cons_zero, List.set_cons_succ, i64_w, i32_w]); rfl)) | (refine Evt.ol_pure (a' := ?_) (v := ?_) HT_ rfl rfl rfl (by rfl) (by kernel_rfl) (fun _ _ _ h => h) ?_ ?_ ?_; rotate_left 2; (· intro w'; go_simp; with_reducible rfl); (· (try simp only [Act.put, List.setIfInBounds_toArray, List.set_cons_zero, List.set_cons_succ, i64_w, i32_w]); rfl)) | (refine Evt.ol_load (a' := ?_) (v := ?_) HT_ HW_ hHeld rfl rfl rfl (by rfl) (by kernel_rfl) (fun _ _ _ h => h) ?_ ?_ ?_; rotate_left 2; (· intro w' hS_; go_simp; with_reducible rfl); (· (try simp only [Act.put, List.setIfInBounds_toArray, List.set_cons_zero, List.set_cons_succ, i64_w, i32_w]); rfl)))
  refine Evt.ol_done HT_ (by kernel_rfl) ?_
  go_wp2
  go_ret
  have lo : ∀ {α : Type} {d : Kd α} {e : TypeId} {ok : Nat → Prop} {v : Value} {xs : List α}, d.E = [] → d.R e wz w.heap.size ok v xs → d.R e wz B (fun k => w.heap.size ≤ k ∧ k < wz.heap.size) v xs := fun hE hr => Kd.R_lower (reok hE hr (fun k hk => ⟨Kd.R_base hr k hk, Kd.R_lt hr k hk⟩)) hB
  have O4 := O3.out.below BW.out
  refine ⟨gm, rfl, fun k => w.heap.size ≤ k ∧ k < wz.heap.size, ⟨.slice AC1 l.length cC1, .slice AI1 li.length cI1, .slice X0 q.length x0, .slice X1 m.length x1, .slice X2 e.length x2, .slice none 0 0, ?_⟩, fun k hk => hk, HBz.out⟩
  exact {
    bm := BZ.out
    rc := lo rfl (Kd.R_below RC0.out BW.out)
    ri := lo rfl (Kd.R_below RI0.out BW.out)
    rq := lo rfl O4.q0
    rm := lo rfl O4.q1
    re := lo rfl O4.q2
    rl := Kd.R_nil _ _ _ _ _
    um := ⟨GM.out, AL.out⟩
    ub := fun k hk => ⟨Nat.le_trans hB hk.1, hk.2⟩
    fit := ⟨HS.out.b0, HS.out.b1, HS.out.b2, hi, hl, show (-1 : Int) ≤ 0 by decide, show (0 : Int) ≤ 20000 by decide⟩
    sl := show (0 : Nat) ≤ 64 by decide }
end
end Go.Proofs.Ytjohdkbciafpfaa.Vm6
end
section
/- Chapter 06: the reference machine's Run, walked. Written by gen/rr.py. -/
namespace Go.Proofs.Ytjohdkbciafpfaa.Vm6
open Go.RowKit Go.Proofs.YtjohdkbciafpfaaW.PrintWords Go.Proofs.YtjohdkbciafpfaaW.PrintMore Go.Proofs.YtjohdkbciafpfaaW.PrintLast Go.Proofs.Ytjohdkbciafpfaa.Chg Go.Proofs.Ytjohdkbciafpfaa.Evt Go.Proofs.Ytjohdkbciafpfaa.Impl
set_option linter.unusedVariables false
set_option linter.unusedSimpArgs false
set_option maxRecDepth 100000
abbrev rresC : Array Value := #[.slice none 0 0, .slice none 0 0, .slice none 0 0, .int .i64 0, .int .i64 0, .int .i64 0]
/-- At the head of a round of the reference's Run. -/
structure RrI (w wr : World) (gm g6 : Nat) (l : List S66) (li : List Bool) (kq : Nat) (s : MS) (n : Nat) (sF : MS) (nF : Nat) : Prop where
  hb : Below w.heap.size w wr
  vm : ∃ V, RmP wr w.heap.size V gm l li s ∧ ¬ V g6
  b6 : Bk wr g6 63 rresC
  ok : Ok l s
  nb : n + kq ≤ l.length + 2
  yes : s.ended = false → (l.length : Int) + 1 ≤ s.pc + kq ∧ runV l li kq s n = (sF, nF)
  no : s.ended = true → s = sF ∧ n = nF
section
variable {w wr w' : World} {gm g6 n nF kq : Nat} {l : List S66} {li : List Bool} {s sF : MS}
theorem RrI.next {V : Nat → Prop} (h : RrI w wr gm g6 l li (kq + 1) s n sF nF) (he : s.ended = false) (hV : RmP wr w.heap.size V gm l li s) (h6 : ¬ V g6) (hs : Srp wr w.heap.size V gm l li (stepV l li s).2 w') {n' : Nat} (hn : n' = if (stepV l li s).1.2 = 0 then n + 1 else n) : RrI w w' gm g6 l li kq (stepV l li s).2 n' sF nF := by
  obtain ⟨V', h1, h2, h3⟩ := hs.out
  have l6 := h.b6.blk.lt
  obtain ⟨y1, y2⟩ := h.yes he
  have sf := h.ok.sf (li := li)
  have hp := h.ok.p1
  unfold runV at y2
  rw [← hn] at y2
  refine ⟨h2.below h.hb (fun i hi => (hV.lt i hi).1) h.hb.size, ⟨V', h1, fun hu => ?_⟩, ⟨h.b6.blk.chg h2 h6⟩, h.ok.step, ?_, fun hg => ?_, fun hg => ?_⟩
  · rcases h3 _ hu with hu | hu
    · exact h6 hu
    · omega
  · have := h.nb
    rw [hn]; split <;> omega
  · cases hgo : (stepV l li s).1.1 with
    | true =>
      have g := sf.go hgo
      rw [if_pos hgo] at y2
      exact ⟨by have := g.1; omega, y2⟩
    | false => rw [sf.st hgo] at hg; cases hg
  · cases hgo : (stepV l li s).1.1 with
    | true => rw [(sf.go hgo).2.2.1] at hg; cases hg
    | false =>
      rw [if_neg (by simp [hgo])] at y2
      injection y2 with a b
      exact ⟨a, b⟩
theorem rstep_c {V : Nat → Prop} {base : Nat} (h : RmP w base V gm l li s) (h0 : 0 ≤ s.pc) {gv : Bool} {er : Int} (hg : (stepV l li s).1.1 = gv) (he : (stepV l li s).1.2 = er) : Calls Try.prog 43 #[.pointer (some ⟨gm, 0, none⟩)] w fun x w' => x = .returned (.tuple #[.bool gv, .int .i64 er]) ∧ Srp w base V gm l li (stepV l li s).2 w' := by subst hg; subst he; exact rstep_any h h0
end
section
variable {AC AI AQ AM AE : Option Addr} {cC cI cQ cM cE : Nat} {l : List S66} {li q m e : List Bool}
set_option maxHeartbeats 32000000 in
theorem rrun_any (w : World) (hC : Kd.C k66 w AC l.length l) (hI : Rw Kd.bool w AI cI li) (hS : Sb w AQ cQ AM cM AE cE q m e) (hl : l.length ≤ 10000) (hi : li.length ≤ 20000) {sF : MS} {nF : Nat} (hr : runV l li (l.length + 2) (ini q m e) 0 = (sF, nF)) :
    Calls Try.prog 35 #[.slice AC l.length cC, .slice AI li.length cI, .agg #[.slice AQ q.length cQ, .slice AM m.length cM, .slice AE e.length cE]] w fun x w' => ∃ X0 x0 X1 x1 X2 x2, x = .returned (.agg #[.slice X0 sF.q.length x0, .slice X1 sF.m.length x1, .slice X2 sF.e.length x2, .int .i64 nF, .int .i64 sF.pc, .int .i64 sF.fault]) ∧ Sb w' X0 x0 X1 x1 X2 x2 sF.q sF.m sF.e ∧ Below w.heap.size w w' := by
  have HC := Aside0.mk hC
  have HR := Aside0.mk hr
  have HB := Aside0.mk (Below.refl w.heap.size w)
  have SB := Aside0.mk (hS)
  have RI := Aside0.mk (hI)
  clear hC hI hS hr
  go_enter Try.func35, Try.ntmps35
  go_wp2_with (first | ((with_reducible refine gate_dst (N := 5) rfl ?_); refine box_event ?hg (N := 5) ?hd (cs := #[.slice AQ q.length cQ, .slice AM m.length cM, .slice AE e.length cE]) (t := 24) ?hr ?_; (case hd => rfl); (case hg => rfl); (case hr => first | (go_simp; done) | (go_simp; rfl)); intro g5 hg w1 hbox hb; have hbx : Below w.heap.size w w1 := below_step (by repeat (first | (with_reducible first | exact Below.refl _ _ | apply below_alloc | apply pw_below_drewN | apply below_drew1) | exact Below.refl _ _)) hb; replace SB := Aside0.mk (SB.out.below hbx); replace RI := Aside0.mk (RI.out.below hbx); replace HB := Aside0.mk (below_step HB.out hbx); clear hbx; have BK5 := Aside0.mk (Bk.mk (hbox : Blk w1 g5 24 #[.slice AQ q.length cQ, .slice AM m.length cM, .slice AE e.length cE])); clear hbox hg hb; obtain ⟨zBK5_0, zBK5_1, zBK5_2⟩ := BK5.out.c3) | ((with_reducible refine gate_dst (N := 6) rfl ?_); refine box_event ?hg (N := 6) ?hd (cs := #[.slice none 0 0, .slice none 0 0, .slice none 0 0, .int .i64 0, .int .i64 0, .int .i64 0]) (t := 63) ?hr ?_; (case hd => rfl); (case hg => rfl); (case hr => first | (go_simp; done) | (go_simp; rfl)); intro g6 hg w2 hbox hb; have hbx : Below w1.heap.size w1 w2 := below_step (by repeat (first | (with_reducible first | exact Below.refl _ _ | apply below_alloc | apply pw_below_drewN | apply below_drew1) | exact Below.refl _ _)) hb; have GG6 := Aside0.mk (show w.heap.size ≤ g6 from (by rw [hg]; exact below_size (below_step HB.out (by repeat (first | (with_reducible first | exact Below.refl _ _ | apply below_alloc | apply pw_below_drewN | apply below_drew1) | exact Below.refl _ _))))); clear zBK5_0 zBK5_1 zBK5_2; replace SB := Aside0.mk (SB.out.below hbx); replace RI := Aside0.mk (RI.out.below hbx); replace BK5 := Aside0.mk (BK5.out.below hbx); replace HB := Aside0.mk (below_step HB.out hbx); clear hbx; have BK6 := Aside0.mk (Bk.mk (hbox : Blk w2 g6 63 #[.slice none 0 0, .slice none 0 0, .slice none 0 0, .int .i64 0, .int .i64 0, .int .i64 0])); clear hbox hg hb; obtain ⟨zBK5_0, zBK5_1, zBK5_2⟩ := BK5.out.c3; obtain ⟨zBK6_0, zBK6_1, zBK6_2, zBK6_3, zBK6_4, zBK6_5⟩ := BK6.out.c6) | ((with_reducible refine gate_callee (f := 42) rfl ?_); refine goesL_ (some 14) rfl rfl Try.func42 (by kernel_rfl) rfl #[.slice AC l.length cC, .slice AI li.length cI, .agg #[.slice AQ q.length cQ, .slice AM m.length cM, .slice AE e.length cE]] rfl (by (try simp only [List.map_toArray, List.map_cons, List.map_nil]); first | done | rfl | (simp only [List.length_drop, List.length_take]; rfl)) ?_; (with_reducible refine (rnew_any _ (B := w.heap.size) (below_step HB.out (by repeat (first | (with_reducible first | exact Below.refl _ _ | apply below_alloc | apply pw_below_drewN | apply below_drew1) | exact Below.refl _ _))).size (Kd.C_below HC.out (below_step HB.out (by repeat (first | (with_reducible first | exact Below.refl _ _ | apply below_alloc | apply pw_below_drewN | apply below_drew1) | exact Below.refl _ _)))) (RI.out.below (by repeat (first | (with_reducible first | exact Below.refl _ _ | apply below_alloc | apply pw_below_drewN | apply below_drew1) | exact Below.refl _ _))) (SB.out.below (by repeat (first | (with_reducible first | exact Below.refl _ _ | apply below_alloc | apply pw_below_drewN | apply below_drew1) | exact Below.refl _ _))) (by omega) hi).mono ?_); rintro e w3 ⟨gm, VM, rfl, hv_, hu_, hb⟩; have hbx : Below w2.heap.size w2 w3 := below_step (by repeat (first | (with_reducible first | exact Below.refl _ _ | apply below_alloc | apply pw_below_drewN | apply below_drew1) | exact Below.refl _ _)) hb; have N6 := Aside0.mk (show ¬ VM g6 from fun h_ => absurd (Nat.le_trans (below_size (show Below w2.heap.size w2 _ from (by repeat (first | (with_reducible first | exact Below.refl _ _ | apply below_alloc | apply pw_below_drewN | apply below_drew1) | exact Below.refl _ _)))) (hu_ _ h_).1) (Nat.not_le.mpr BK6.out.blk.lt)); clear hu_; clear zBK5_0 zBK5_1 zBK5_2 zBK6_0 zBK6_1 zBK6_2 zBK6_3 zBK6_4 zBK6_5; replace SB := Aside0.mk (SB.out.below hbx); replace RI := Aside0.mk (RI.out.below hbx); replace BK5 := Aside0.mk (BK5.out.below hbx); replace BK6 := Aside0.mk (BK6.out.below hbx); replace HB := Aside0.mk (below_step HB.out hbx); clear hbx; have VP := Aside0.mk (hv_); clear hb; clear hv_; obtain ⟨zBK5_0, zBK5_1, zBK5_2⟩ := BK5.out.c3; obtain ⟨zBK6_0, zBK6_1, zBK6_2, zBK6_3, zBK6_4, zBK6_5⟩ := BK6.out.c6; refine ⟨_, rfl, ?_⟩))
  have INV : Aside0 (RrI w w3 gm g6 l li (l.length + 2) (ini q m e) 0 sF nF) := ⟨⟨HB.out, ⟨VM, VP.out, N6.out⟩, BK6.out, Ok.ini q m e, by omega, fun _ => ⟨by show (l.length : Int) + 1 ≤ 0 + ((l.length + 2 : Nat) : Int); omega, HR.out⟩, fun h => by cases h⟩⟩
  clear zBK5_0 zBK5_1 zBK5_2 zBK6_0 zBK6_1 zBK6_2 zBK6_3 zBK6_4 zBK6_5
  clear HR SB RI BK5 BK6 HB VP N6
  go_loopg [8] (l.length + 2) (fun kq v8 wr => ∃ (n : Nat) (s : MS), v8 = .int .i64 n ∧ Aside0 (RrI w wr gm g6 l li kq s n sF nF))
  case atStart => exact ⟨0, _, rfl, INV⟩
  case round =>
    clear INV
    obtain ⟨n, s, rfl, I⟩ := hrel
    obtain ⟨V, hv, h6⟩ := I.out.vm
    have VP := Aside0.mk hv
    have H6 := Aside0.mk h6
    obtain ⟨vC, vI, vQ, vM, vE, vL, hm⟩ := hv
    have nb : (n : Int) ≤ 10002 := by have := I.out.nb; omega
    cases he : s.ended with
    | false =>
      have HE := Aside0.mk he
      have z8 : wr.cell? ⟨gm, 8, none⟩ = some (.bool false) := by rw [← he]; exact hm.bm.blk.cell 8 rfl
      clear h6 hm he
      cases gk with
      | zero => have h1_ := (I.out.yes HE.out).1; have h2_ := I.out.ok.p1; omega
      | succ k1 =>
        obtain ⟨gv, GV⟩ : ∃ gv, Aside0 ((stepV l li s).1.1 = gv) := ⟨_, ⟨rfl⟩⟩
        obtain ⟨er, ER⟩ : ∃ er, Aside0 ((stepV l li s).1.2 = er) := ⟨_, ⟨rfl⟩⟩
        by_cases h0 : er = 0
        · have t0 : decide (er = 0) = true := decide_eq_true h0
          have t1 : (er == 0) = true := beq_iff_eq.mpr h0
          have NX : Aside0 (∀ w', Srp wr w.heap.size V gm l li (stepV l li s).2 w' → RrI w w' gm g6 l li k1 (stepV l li s).2 (n + 1) sF nF) := ⟨fun w' hs => I.out.next HE.out VP.out H6.out hs (by rw [ER.out, if_pos h0])⟩
          clear h0
          skip
          have HB := Aside0.mk (Below.refl wr.heap.size wr)
          skip
          go_wp2_with (((with_reducible refine gate_callee (f := 43) rfl ?_); refine goesL_ (some 22) rfl rfl Try.func43 (by kernel_rfl) rfl #[.pointer (some ⟨gm, 0, none⟩)] rfl (by (try simp only [List.map_toArray, List.map_cons, List.map_nil]); first | done | rfl | (simp only [List.length_drop, List.length_take]; rfl)) ?_; (with_reducible refine (rstep_c (VP.out.below (by repeat (first | (with_reducible first | exact Below.refl _ _ | apply below_alloc | apply pw_below_drewN | apply below_drew1) | exact Below.refl _ _))) I.out.ok.p0 GV.out ER.out).mono ?_); rintro e_ w8 ⟨rfl, hs_⟩; have DN := Aside0.mk (NX.out w8 (Srp.from (Below.refl _ _) hs_)); clear hs_ VP NX I HB; refine ⟨_, rfl, ?_⟩))
          go_roundg k1
          case measure => omega
          case rel => exact ⟨n + 1, _, by go_num, DN⟩
          skip
        · have t0 : decide (er = 0) = false := decide_eq_false h0
          have t1 : (er == 0) = false := beq_eq_false_iff_ne.mpr h0
          have NX : Aside0 (∀ w', Srp wr w.heap.size V gm l li (stepV l li s).2 w' → RrI w w' gm g6 l li k1 (stepV l li s).2 (n) sF nF) := ⟨fun w' hs => I.out.next HE.out VP.out H6.out hs (by rw [ER.out, if_neg h0])⟩
          clear h0
          skip
          have HB := Aside0.mk (Below.refl wr.heap.size wr)
          skip
          go_wp2_with (((with_reducible refine gate_callee (f := 43) rfl ?_); refine goesL_ (some 22) rfl rfl Try.func43 (by kernel_rfl) rfl #[.pointer (some ⟨gm, 0, none⟩)] rfl (by (try simp only [List.map_toArray, List.map_cons, List.map_nil]); first | done | rfl | (simp only [List.length_drop, List.length_take]; rfl)) ?_; (with_reducible refine (rstep_c (VP.out.below (by repeat (first | (with_reducible first | exact Below.refl _ _ | apply below_alloc | apply pw_below_drewN | apply below_drew1) | exact Below.refl _ _))) I.out.ok.p0 GV.out ER.out).mono ?_); rintro e_ w8 ⟨rfl, hs_⟩; have DN := Aside0.mk (NX.out w8 (Srp.from (Below.refl _ _) hs_)); clear hs_ VP NX I HB; refine ⟨_, rfl, ?_⟩))
          go_roundg k1
          case measure => omega
          case rel => exact ⟨n, _, by go_num, DN⟩
          skip
    | true =>
      obtain ⟨rfl, rfl⟩ := I.out.no he
      obtain ⟨AC1, cC1, AI1, cI1, AQ1, cQ1, AM1, cM1, AE1, cE1, AL1, cL1, rfl, rfl, rfl, rfl, rfl, rfl⟩ := hm.forms
      have HB := Aside0.mk (Below.refl wr.heap.size wr)
      have VV := Aside0.mk (hm)
      have BM : Aside0 (Bk wr gm 83 #[.slice AC1 l.length cC1, .slice AI1 li.length cI1, .slice AQ1 s.q.length cQ1, .slice AM1 s.m.length cM1, .slice AE1 s.e.length cE1, .int .i64 s.pc, .bool s.acc, .slice AL1 s.st.length cL1, .bool true, .int .i64 s.fault]) := Aside0.mk ((he ▸ hm.bm))
      have B6 := Aside0.mk I.out.b6
      have HBw := Aside0.mk I.out.hb
      clear h6 hm he VP H6 I
      obtain ⟨zBM_0, zBM_1, zBM_2, zBM_3, zBM_4, zBM_5, zBM_6, zBM_7, zBM_8, zBM_9⟩ := BM.out.c10
      go_wp2
      have KP := Aside0.mk (fun w' (hb : Below wr.heap.size wr w') => (BM.out.below hb).c10)
      clear zBM_0 zBM_1 zBM_2 zBM_3 zBM_4 zBM_5 zBM_6 zBM_7 zBM_8 zBM_9
      refine Evt.ol_start (ds := [14]) (w0 := wr) (T := (true, [([], []), ([0], [0]), ([1], [1]), ([2], [2]), ([], []), ([], []), ([5], [5]), ([6], [6]), ([7], [7]), ([], []), ([9], [9]), ([10], [10]), ([11], [11]), ([3, 4, 8, 12], [3, 4, 8, 12]), ([13, 0, 1, 2, 3, 4, 5, 6, 7, 8, 9, 10, 11, 12, 13], [13])])) (B := [0, 1, 3, 7, 0, 0, 32, 96, 224, 0, 512, 1536, 3584, 8191, 16383]) 15 [(0, some 29), (1, some 30), (2, some 31), (3, some 32), (4, some 33), (5, some 34), (6, some 35), (7, some 36), (8, some 37), (9, some 38), (10, some 39), (11, some 40), (12, some 41), (13, some 42), (14, none)] (by kernel_rfl) rfl (by kernel_rfl) (by kernel_rfl) (by kernel_rfl) (by repeat (first | (with_reducible first | exact Below.refl _ _ | apply below_alloc | apply pw_below_drewN | apply below_drew1) | exact Below.refl _ _)) ?_
      intro HT_ HW_ w_ hHeld
      iterate 14 (first | (refine Evt.ol_off (a' := ?_) HT_ rfl rfl (by rfl) (by kernel_rfl) (fun _ _ _ h => h) ?_ ?_; rotate_left; (· (try simp only [Act.put, List.setIfInBounds_toArray, List.set_cons_zero, List.set_cons_succ, i64_w, i32_w]); rfl)) | (refine Evt.ol_pure (a' := ?_) (v := ?_) HT_ rfl rfl rfl (by rfl) (by kernel_rfl) (fun _ _ _ h => h) ?_ ?_ ?_; rotate_left 2; (· intro w'; go_simp; with_reducible rfl); (· (try simp only [Act.put, List.setIfInBounds_toArray, List.set_cons_zero, List.set_cons_succ, i64_w, i32_w]); rfl)) | (refine Evt.ol_load (a' := ?_) (v := ?_) HT_ HW_ hHeld rfl rfl rfl (by rfl) (by kernel_rfl) (fun _ _ _ h => h) ?_ ?_ ?_; rotate_left 2; (· intro w' hS_; obtain ⟨s0, s1, s2, s3, s4, s5, s6, s7, s8, s9⟩ := KP.out w' hS_.out; go_simp; with_reducible rfl); (· (try simp only [Act.put, List.setIfInBounds_toArray, List.set_cons_zero, List.set_cons_succ, i64_w, i32_w]); rfl)))
      refine Evt.ol_ranrow HT_ rfl rfl (by simp) (by kernel_rfl) (by rfl) (B6.out.below hHeld.out) 63 (.tmp 6) (.tmp 42) rfl rfl rfl (by kernel_rfl) rfl (by simp [Value.oneCell']) ?_
      intro wz bz_ hg_
      have BZ := Aside0.mk bz_
      have V9 := Aside0.mk (VV.out.below hHeld.out)
      have S9 : Aside0 (Sb wz AQ1 cQ1 AM1 cM1 AE1 cE1 s.q s.m s.e) := ⟨⟨⟨Rw.of_R (R_chg V9.out.rq hg_ (B6.out.below hHeld.out)), Rw.of_R (R_chg V9.out.rm hg_ (B6.out.below hHeld.out)), Rw.of_R (R_chg V9.out.re hg_ (B6.out.below hHeld.out))⟩, V9.out.fit.q, V9.out.fit.m, V9.out.fit.e⟩⟩
      have HBz := Aside0.mk ((below_step HBw.out hHeld.out).grown hg_ (below_step HBw.out hHeld.out).size (fun k hk => by cases hk; exact GG6.out))
      clear bz_ hg_ hHeld V9 VV BM
      refine Evt.ol_done HT_ (by kernel_rfl) ?_
      clear HT_ HW_
      go_wp2
      refine bodyPost_ret (results_cell_row rfl _ _ g6 63 _ (0, 0) _ rfl BZ.out.blk Try.underlying63 rfl (by kernel_rfl)) rfl ?_
      exact ⟨_, _, _, _, _, _, rfl, S9.out, HBz.out⟩
end
end Go.Proofs.Ytjohdkbciafpfaa.Vm6
end
