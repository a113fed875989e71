/- Chapter 06: the reference machine's logic, edge, pop, walked. Written by gen/rl.py. -/
import Derived.Test.YtjohdkbciafpfaaRm
namespace Go.Proofs.Ytjohdkbciafpfaa.Vm6
open Go.RowKit Go.Proofs.YtjohdkbciafpfaaW.PrintWords Go.Proofs.YtjohdkbciafpfaaW.PrintMore Go.Proofs.YtjohdkbciafpfaaW.PrintLast Go.Proofs.Ytjohdkbciafpfaa.Chg Go.Proofs.Ytjohdkbciafpfaa.Evt Go.Proofs.Ytjohdkbciafpfaa.Impl
set_option linter.unusedVariables false
set_option linter.unusedSimpArgs false
set_option maxRecDepth 100000
section
variable {w w' : World} {base : Nat} {V : Nat → Prop} {gm : Nat} {vC vI vQ vM vE vL : Value} {l : List S66} {li : List Bool} {s : MS} {k a b j : Int}
theorem Rm.wAcc (h : Rm w base V gm vC vI vQ vM vE vL l li s) {c c' : Bool} (hc : c' = c) : Srp w base V gm l li { s with acc := c' } (w.setCell ⟨gm, 6, none⟩ (.bool c)) := by
  subst hc
  exact h.plain (Below.refl _ _) (gset _ _ _ _) ⟨h.bm.blk.set_ 6 _⟩ rfl rfl rfl rfl h.fit.p0 h.fit.p1
theorem Rm.wPc (h : Rm w base V gm vC vI vQ vM vE vL l li s) (p : Int) (p0 : -1 ≤ p) (p1 : p ≤ 20000) : Srp w base V gm l li { s with pc := p } (w.setCell ⟨gm, 5, none⟩ (.int .i64 p)) := h.plain (Below.refl _ _) (gset _ _ _ _) ⟨h.bm.blk.set_ 5 _⟩ rfl rfl rfl rfl p0 p1
theorem Rm.wEnd (h : Rm w base V gm vC vI vQ vM vE vL l li s) (c : Bool) : Srp w base V gm l li { s with ended := c } (w.setCell ⟨gm, 8, none⟩ (.bool c)) := h.plain (Below.refl _ _) (gset _ _ _ _) ⟨h.bm.blk.set_ 8 _⟩ rfl rfl rfl rfl h.fit.p0 h.fit.p1
theorem Rm.wFault (h : Rm w base V gm vC vI vQ vM vE vL l li s) (c : Bool) (er : Int) : Srp w base V gm l li { s with ended := c, fault := er } ((w.setCell ⟨gm, 8, none⟩ (.bool c)).setCell ⟨gm, 9, none⟩ (.int .i64 er)) := h.plain (Below.refl _ _) (grown_trans (gset _ _ _ _) (gset _ _ _ _)) ⟨(h.bm.blk.set_ 8 _).set_ 9 _⟩ rfl rfl rfl rfl h.fit.p0 h.fit.p1
theorem Rm.setAcc (h : Rm w base V gm vC vI vQ vM vE vL l li s) (c : Bool) : Rm (w.setCell ⟨gm, 6, none⟩ (.bool c)) base V gm vC vI vQ vM vE vL l li { s with acc := c } := by
  have hs : w.heap.size ≤ (w.setCell ⟨gm, 6, none⟩ (.bool c)).heap.size := by simp [World.setCell]
  exact { h with
    bm := ⟨h.bm.blk.set_ 6 _⟩
    rc := Kd.R_set h.rc h.bm.blk (typ rfl (by decide)) 6 _
    ri := Kd.R_set h.ri h.bm.blk (typ rfl (by decide)) 6 _
    rq := Kd.R_set h.rq h.bm.blk (typ rfl (by decide)) 6 _
    rm := Kd.R_set h.rm h.bm.blk (typ rfl (by decide)) 6 _
    re := Kd.R_set h.re h.bm.blk (typ rfl (by decide)) 6 _
    rl := Kd.R_set h.rl h.bm.blk (typ rfl (by decide)) 6 _
    ub := fun k hk => ⟨(h.ub k hk).1, Nat.lt_of_lt_of_le (h.ub k hk).2 hs⟩
    fit := ⟨h.fit.q, h.fit.m, h.fit.e, h.fit.i, h.fit.c, h.fit.p0, h.fit.p1⟩ }
theorem gen_cell {G : Act → World → Prop} {a : Act} {W : World} (g j : Nat) {c0 : Bool} (h : ∀ (c : Bool), Aside0 (c0 = c) → ∀ wn, W.setCell ⟨g, j, none⟩ (.bool c) = wn → G a wn) : G a (W.setCell ⟨g, j, none⟩ (.bool c0)) := h c0 ⟨rfl⟩ _ rfl
theorem Srp.pre {wn : World} (hg : w.grownBy wn (some gm)) (hV : V gm) (h : Srp wn base V gm l li s w') : Srp w base V gm l li s w' := by
  obtain ⟨V', h1, h2, h3⟩ := h.out
  exact ⟨V', h1, (Chg.of_grown (S := V) hg (fun k hk => by cases hk; exact .inl hV)).trans h2 (fun i hi => .inl hi), fun k hk => (h3 k hk).imp id (fun h => Nat.le_trans hg.size h)⟩
/-- All but the last of a row of one's own. -/
theorem own_pre {B n c g : Nat} {ok : Nat → Prop} {L : List Bool} {x : Bool} (h : Kd.R Kd.bool 4 w B ok (.slice (some ⟨g, 0, none⟩) n c) (L ++ [x])) : Kd.R Kd.bool 4 w B ok (.slice (some ⟨g, 0, none⟩) L.length c) L := by
  have ho := Kd.own_of_R (enc := Value.bool) h
  rw [List.length_append] at ho
  rcases ho.2 with ⟨e, e0⟩ | ⟨g', cap, cur, e, hg, hh, hn, hcap, hcs, hcur⟩
  · simp at e0
  · injection e with e1 e2 e3
    injection e1 with e1
    injection e1 with e1
    subst e1
    subst e3
    refine Kd.R_of_own (enc := Value.bool) (h1 := fun _ => rfl) ⟨by simp [encs], .inr ⟨g, c, cur, rfl, hg, hh, by simp at hn; omega, hcap, hcs, ?_⟩⟩ (fun k hk => h.1 k hk)
    have h2 : (cur.toList.take ((L.length + 1) * 1)).take (L.length * 1) = (encs Value.bool (L ++ [x])).take (L.length * 1) := by rw [← hcur]; rfl
    rw [List.take_take, Nat.min_eq_left (by omega)] at h2
    rw [h2]
    unfold encs
    rw [List.map_append, List.take_left' (by simp)]
section
variable {q m e st : List Bool} {pc fault : Int} {acc ended : Bool}
set_option maxHeartbeats 4000000 in
theorem rlogic_err (h : Rm w base V gm vC vI vQ vM vE vL l li ⟨q, m, e, pc, acc, st, ended, fault⟩) {v : Bool} {er : Int} (hr : rdv li q m a b = (v, er)) (he : er ≠ 0) :
    Calls Try.prog 69 #[.pointer (some ⟨gm, 0, none⟩), .agg #[.int .i64 k, .int .i64 a, .int .i64 b, .int .i64 j]] w fun x w' => x = .returned (.int .i64 er) ∧ Srp w base V gm l li ⟨q, m, e, pc, acc, st, ended, fault⟩ w' := by
  obtain ⟨AC, cC, AI, cI, AQ, cQ, AM, cM, AE, cE, AL, cL, rfl, rfl, rfl, rfl, rfl, rfl⟩ := h.forms
  have HR := Aside0.mk hr
  have t0 : decide (er = 0) = false := decide_eq_false he
  have t1 : (er == 0) = false := beq_eq_false_iff_ne.mpr he
  have t2 : (er != 0) = true := bne_iff_ne.mpr he
  have HB := Aside0.mk (Below.refl w.heap.size w)
  have V := Aside0.mk (h)
  have RI := Aside0.mk (Rw.of_R h.ri)
  have SB := Aside0.mk (h.sb)
  have BM : Aside0 (Bk w gm 83 #[.slice AC l.length cC, .slice AI li.length cI, .slice AQ q.length cQ, .slice AM m.length cM, .slice AE e.length cE, .int .i64 pc, .bool acc, .slice AL st.length cL, .bool ended, .int .i64 fault]) := Aside0.mk (h.bm)
  clear h hr he
  obtain ⟨zBM_0, zBM_1, zBM_2, zBM_3, zBM_4, zBM_5, zBM_6, zBM_7, zBM_8, zBM_9⟩ := BM.out.c10
  go_enter Try.func69, Try.ntmps69
  go_wp2_with (((with_reducible refine gate_dst (N := 3) rfl ?_); refine box_event ?hg (N := 3) ?hd (cs := #[.int .i64 k, .int .i64 a, .int .i64 b, .int .i64 j]) (t := 66) ?hr ?_; (case hd => rfl); (case hg => rfl); (case hr => first | (go_simp; done) | (go_simp; rfl)); intro g3 hg w1 hbox hb; have hbx : Below w.heap.size w w1 := below_step (by repeat (first | (with_reducible first | exact Below.refl _ _ | apply below_alloc | apply pw_below_drewN | apply below_drew1) | exact Below.refl _ _)) hb; clear zBM_0 zBM_1 zBM_2 zBM_3 zBM_4 zBM_5 zBM_6 zBM_7 zBM_8 zBM_9; replace V := Aside0.mk (V.out.below hbx); replace RI := Aside0.mk (RI.out.below hbx); replace SB := Aside0.mk (SB.out.below hbx); replace BM := Aside0.mk (BM.out.below hbx); replace HB := Aside0.mk (below_step HB.out hbx); clear hbx; have BK3 := Aside0.mk (Bk.mk (hbox : Blk w1 g3 66 #[.int .i64 k, .int .i64 a, .int .i64 b, .int .i64 j])); clear hbox hg hb; obtain ⟨zBM_0, zBM_1, zBM_2, zBM_3, zBM_4, zBM_5, zBM_6, zBM_7, zBM_8, zBM_9⟩ := BM.out.c10; obtain ⟨zBK3_0, zBK3_1, zBK3_2, zBK3_3⟩ := BK3.out.c4))
  have KP := Aside0.mk (fun w' (hb : Below w1.heap.size w1 w') => And.intro ((BM.out.below hb).c10) ((BK3.out.below hb).c4))
  clear zBM_0 zBM_1 zBM_2 zBM_3 zBM_4 zBM_5 zBM_6 zBM_7 zBM_8 zBM_9 zBK3_0 zBK3_1 zBK3_2 zBK3_3
  refine Evt.ow_start (w0 := w1) (T := (true, [([], []), ([0], [0]), ([1], [1]), ([2], [2]), ([], []), ([4], [4]), ([5], [5]), ([6], [6]), ([], []), ([8], [8]), ([3, 7, 9], [3, 7, 9]), ([10], [10]), ([11], [11]), ([11], [11]), ([12, 10, 0, 1, 2, 3, 4, 5, 6, 7, 8, 9, 10, 11, 12], [12]), ([13, 14, 0, 1, 2, 3, 4, 5, 6, 7, 8, 9, 10, 11, 12, 13, 14], [13])])) (B := [0, 1, 3, 7, 0, 16, 48, 112, 0, 256, 1023, 2047, 4095, 4095, 8191, 32767]) 16 [(0, some 8), (1, some 9), (2, some 10), (4, some 12), (5, some 13), (6, some 14), (8, some 16), (3, some 11), (7, some 15), (9, some 17), (10, some 18), (11, some 7), (12, some 19), (13, some 20), (14, some 5), (15, some 6)] (by kernel_rfl) rfl (by kernel_rfl) (by kernel_rfl) (by kernel_rfl) (by repeat (first | (with_reducible first | exact Below.refl _ _ | apply below_alloc | apply pw_below_drewN | apply below_drew1) | exact Below.refl _ _)) ?_
  intro HT_ HW_ w_ hHeld
  iterate 10 (first | (refine Evt.ow_off (a' := ?_) HT_ rfl rfl (by rfl) (by kernel_rfl) (fun _ _ _ h => h) ?_ ?_; rotate_left; (· (try simp only [Act.put, List.setIfInBounds_toArray, List.set_cons_zero, List.set_cons_succ, i64_w, i32_w]); rfl)) | (refine Evt.ow_pure (a' := ?_) (v := ?_) HT_ rfl rfl rfl (by rfl) (by kernel_rfl) (fun _ _ _ h => h) ?_ ?_ ?_; rotate_left 2; (· intro w'; go_simp; with_reducible rfl); (· (try simp only [Act.put, List.setIfInBounds_toArray, List.set_cons_zero, List.set_cons_succ, i64_w, i32_w]); rfl)) | (refine Evt.ow_load (a' := ?_) (v := ?_) HT_ HW_ hHeld rfl rfl rfl (by rfl) (by kernel_rfl) (fun _ _ _ h => h) ?_ ?_ ?_; rotate_left 2; (· intro w' hS_; obtain ⟨⟨s0, s1, s2, s3, s4, s5, s6, s7, s8, s9⟩, ⟨s10, s11, s12, s13⟩⟩ := KP.out w' hS_.out; go_simp; with_reducible rfl); (· (try simp only [Act.put, List.setIfInBounds_toArray, List.set_cons_zero, List.set_cons_succ, i64_w, i32_w]); rfl)))
  refine Evt.ow_call HT_ hHeld rfl rfl rfl (by kernel_rfl) Try.func19 (by kernel_rfl) rfl #[.slice AI li.length cI, .agg #[.slice AQ q.length cQ, .slice AM m.length cM, .slice AE e.length cE], .agg #[.int .i64 a, .int .i64 b]] (by rfl) (by (try simp only [List.map_toArray, List.map_cons, List.map_nil]); first | done | rfl | (simp only [List.length_drop, List.length_take]; rfl)) ?_
  (with_reducible refine (readR a b (RI.out.below hHeld.out) (SB.out.below hHeld.out) HR.out).mono ?_)
  rintro e w_ ⟨rfl, hb⟩
  refine ⟨_, rfl, hb, fun hHeld_ => ?_⟩
  clear hHeld hb
  have hHeld := hHeld_
  clear hHeld_
  refine Evt.ow_norm (a' := ?_) ?_ ?_
  rotate_left
  · simp only [Act.put, List.setIfInBounds_toArray, List.set_cons_zero, List.set_cons_succ, i64_w, i32_w]; rfl
  iterate 5 (first | (refine Evt.ow_off (a' := ?_) HT_ rfl rfl (by rfl) (by kernel_rfl) (fun _ _ _ h => h) ?_ ?_; rotate_left; (· (try simp only [Act.put, List.setIfInBounds_toArray, List.set_cons_zero, List.set_cons_succ, i64_w, i32_w]); rfl)) | (refine Evt.ow_pure (a' := ?_) (v := ?_) HT_ rfl rfl rfl (by rfl) (by kernel_rfl) (fun _ _ _ h => h) ?_ ?_ ?_; rotate_left 2; (· intro w'; go_simp; with_reducible rfl); (· (try simp only [Act.put, List.setIfInBounds_toArray, List.set_cons_zero, List.set_cons_succ, i64_w, i32_w]); rfl)) | (refine Evt.ow_load (a' := ?_) (v := ?_) HT_ HW_ hHeld rfl rfl rfl (by rfl) (by kernel_rfl) (fun _ _ _ h => h) ?_ ?_ ?_; rotate_left 2; (· intro w' hS_; obtain ⟨⟨s0, s1, s2, s3, s4, s5, s6, s7, s8, s9⟩, ⟨s10, s11, s12, s13⟩⟩ := KP.out w' hS_.out; go_simp; with_reducible rfl); (· (try simp only [Act.put, List.setIfInBounds_toArray, List.set_cons_zero, List.set_cons_succ, i64_w, i32_w]); rfl)))
  refine Evt.ow_done HT_ (by kernel_rfl) ?_
  refine Evt.gen_any (w0 := w1) hHeld.out ?_
  intro w2 hbx
  clear hHeld HT_ HW_ KP
  replace V := Aside0.mk (V.out.below hbx)
  replace RI := Aside0.mk (RI.out.below hbx)
  replace SB := Aside0.mk (SB.out.below hbx)
  replace BM := Aside0.mk (BM.out.below hbx)
  replace BK3 := Aside0.mk (BK3.out.below hbx)
  replace HB := Aside0.mk (below_step HB.out hbx)
  clear hbx
  obtain ⟨zBM_0, zBM_1, zBM_2, zBM_3, zBM_4, zBM_5, zBM_6, zBM_7, zBM_8, zBM_9⟩ := BM.out.c10
  obtain ⟨zBK3_0, zBK3_1, zBK3_2, zBK3_3⟩ := BK3.out.c4
  go_wp2
  go_ret
  exact ⟨rfl, (Srp.here ⟨_, _, _, _, _, _, V.out⟩).from HB.out⟩
set_option maxHeartbeats 32000000 in
theorem rlogic_ok (h : Rm w base V gm vC vI vQ vM vE vL l li ⟨q, m, e, pc, acc, st, ended, fault⟩) (hk : 0 ≤ k ∧ k ≤ 5) {v : Bool} (hr : rdv li q m a b = (v, 0)) :
    Calls Try.prog 69 #[.pointer (some ⟨gm, 0, none⟩), .agg #[.int .i64 k, .int .i64 a, .int .i64 b, .int .i64 j]] w fun x w' => x = .returned (.int .i64 0) ∧ Srp w base V gm l li ⟨q, m, e, pc, comb k acc v, st, ended, fault⟩ w' := by
  obtain ⟨AC, cC, AI, cI, AQ, cQ, AM, cM, AE, cE, AL, cL, rfl, rfl, rfl, rfl, rfl, rfl⟩ := h.forms
  have HR := Aside0.mk hr
  obtain e_ | e_ | e_ | e_ | e_ | e_ : k = 0 ∨ k = 1 ∨ k = 2 ∨ k = 3 ∨ k = 4 ∨ k = 5 := by omega
  have K : Aside0 (k = 0) := ⟨e_⟩
  have m0 : 0 ≤ k := by omega
  have m1 : (k % 2 == 1) = false := by rw [e_]; rfl
  have m2 : decide (k % 2 = 1) = false := by rw [e_]; rfl
  have m3 : k / 2 = 0 := by omega
  clear e_ hk
  rotate_left
  have K : Aside0 (k = 1) := ⟨e_⟩
  have m0 : 0 ≤ k := by omega
  have m1 : (k % 2 == 1) = true := by rw [e_]; rfl
  have m2 : decide (k % 2 = 1) = true := by rw [e_]; rfl
  have m3 : k / 2 = 0 := by omega
  clear e_ hk
  rotate_left
  have K : Aside0 (k = 2) := ⟨e_⟩
  have m0 : 0 ≤ k := by omega
  have m1 : (k % 2 == 1) = false := by rw [e_]; rfl
  have m2 : decide (k % 2 = 1) = false := by rw [e_]; rfl
  have m3 : k / 2 = 1 := by omega
  clear e_ hk
  rotate_left
  have K : Aside0 (k = 3) := ⟨e_⟩
  have m0 : 0 ≤ k := by omega
  have m1 : (k % 2 == 1) = true := by rw [e_]; rfl
  have m2 : decide (k % 2 = 1) = true := by rw [e_]; rfl
  have m3 : k / 2 = 1 := by omega
  clear e_ hk
  rotate_left
  have K : Aside0 (k = 4) := ⟨e_⟩
  have m0 : 0 ≤ k := by omega
  have m1 : (k % 2 == 1) = false := by rw [e_]; rfl
  have m2 : decide (k % 2 = 1) = false := by rw [e_]; rfl
  have m3 : k / 2 = 2 := by omega
  clear e_ hk
  rotate_left
  have K : Aside0 (k = 5) := ⟨e_⟩
  have m0 : 0 ≤ k := by omega
  have m1 : (k % 2 == 1) = true := by rw [e_]; rfl
  have m2 : decide (k % 2 = 1) = true := by rw [e_]; rfl
  have m3 : k / 2 = 2 := by omega
  clear e_ hk
  rotate_left
  all_goals
    have HB := Aside0.mk (Below.refl w.heap.size w)
    have V := Aside0.mk (h)
    have RI := Aside0.mk (Rw.of_R h.ri)
    have SB := Aside0.mk (h.sb)
    have BM : Aside0 (Bk w gm 83 #[.slice AC l.length cC, .slice AI li.length cI, .slice AQ q.length cQ, .slice AM m.length cM, .slice AE e.length cE, .int .i64 pc, .bool acc, .slice AL st.length cL, .bool ended, .int .i64 fault]) := Aside0.mk (h.bm)
    clear h hr
    obtain ⟨zBM_0, zBM_1, zBM_2, zBM_3, zBM_4, zBM_5, zBM_6, zBM_7, zBM_8, zBM_9⟩ := BM.out.c10
    go_enter Try.func69, Try.ntmps69
    go_wp2_with (((with_reducible refine gate_dst (N := 3) rfl ?_); refine box_event ?hg (N := 3) ?hd (cs := #[.int .i64 k, .int .i64 a, .int .i64 b, .int .i64 j]) (t := 66) ?hr ?_; (case hd => rfl); (case hg => rfl); (case hr => first | (go_simp; done) | (go_simp; rfl)); intro g3 hg w1 hbox hb; have hbx : Below w.heap.size w w1 := below_step (by repeat (first | (with_reducible first | exact Below.refl _ _ | apply below_alloc | apply pw_below_drewN | apply below_drew1) | exact Below.refl _ _)) hb; clear zBM_0 zBM_1 zBM_2 zBM_3 zBM_4 zBM_5 zBM_6 zBM_7 zBM_8 zBM_9; replace V := Aside0.mk (V.out.below hbx); replace RI := Aside0.mk (RI.out.below hbx); replace SB := Aside0.mk (SB.out.below hbx); replace BM := Aside0.mk (BM.out.below hbx); replace HB := Aside0.mk (below_step HB.out hbx); clear hbx; have BK3 := Aside0.mk (Bk.mk (hbox : Blk w1 g3 66 #[.int .i64 k, .int .i64 a, .int .i64 b, .int .i64 j])); clear hbox hg hb; obtain ⟨zBM_0, zBM_1, zBM_2, zBM_3, zBM_4, zBM_5, zBM_6, zBM_7, zBM_8, zBM_9⟩ := BM.out.c10; obtain ⟨zBK3_0, zBK3_1, zBK3_2, zBK3_3⟩ := BK3.out.c4))
    have KP := Aside0.mk (fun w' (hb : Below w1.heap.size w1 w') => And.intro ((BM.out.below hb).c10) ((BK3.out.below hb).c4))
    clear zBM_0 zBM_1 zBM_2 zBM_3 zBM_4 zBM_5 zBM_6 zBM_7 zBM_8 zBM_9 zBK3_0 zBK3_1 zBK3_2 zBK3_3
    refine Evt.ow_start (w0 := w1) (T := (true, [([], []), ([0], [0]), ([1], [1]), ([2], [2]), ([], []), ([4], [4]), ([5], [5]), ([6], [6]), ([], []), ([8], [8]), ([3, 7, 9], [3, 7, 9]), ([10], [10]), ([11], [11]), ([11], [11]), ([12, 10, 0, 1, 2, 3, 4, 5, 6, 7, 8, 9, 10, 11, 12], [12]), ([13, 14, 0, 1, 2, 3, 4, 5, 6, 7, 8, 9, 10, 11, 12, 13, 14], [13])])) (B := [0, 1, 3, 7, 0, 16, 48, 112, 0, 256, 1023, 2047, 4095, 4095, 8191, 32767]) 16 [(0, some 8), (1, some 9), (2, some 10), (4, some 12), (5, some 13), (6, some 14), (8, some 16), (3, some 11), (7, some 15), (9, some 17), (10, some 18), (11, some 7), (12, some 19), (13, some 20), (14, some 5), (15, some 6)] (by kernel_rfl) rfl (by kernel_rfl) (by kernel_rfl) (by kernel_rfl) (by repeat (first | (with_reducible first | exact Below.refl _ _ | apply below_alloc | apply pw_below_drewN | apply below_drew1) | exact Below.refl _ _)) ?_
    intro HT_ HW_ w_ hHeld
    iterate 10 (first | (refine Evt.ow_off (a' := ?_) HT_ rfl rfl (by rfl) (by kernel_rfl) (fun _ _ _ h => h) ?_ ?_; rotate_left; (· (try simp only [Act.put, List.setIfInBounds_toArray, List.set_cons_zero, List.set_cons_succ, i64_w, i32_w]); rfl)) | (refine Evt.ow_pure (a' := ?_) (v := ?_) HT_ rfl rfl rfl (by rfl) (by kernel_rfl) (fun _ _ _ h => h) ?_ ?_ ?_; rotate_left 2; (· intro w'; go_simp; with_reducible rfl); (· (try simp only [Act.put, List.setIfInBounds_toArray, List.set_cons_zero, List.set_cons_succ, i64_w, i32_w]); rfl)) | (refine Evt.ow_load (a' := ?_) (v := ?_) HT_ HW_ hHeld rfl rfl rfl (by rfl) (by kernel_rfl) (fun _ _ _ h => h) ?_ ?_ ?_; rotate_left 2; (· intro w' hS_; obtain ⟨⟨s0, s1, s2, s3, s4, s5, s6, s7, s8, s9⟩, ⟨s10, s11, s12, s13⟩⟩ := KP.out w' hS_.out; go_simp; with_reducible rfl); (· (try simp only [Act.put, List.setIfInBounds_toArray, List.set_cons_zero, List.set_cons_succ, i64_w, i32_w]); rfl)))
    refine Evt.ow_call HT_ hHeld rfl rfl rfl (by kernel_rfl) Try.func19 (by kernel_rfl) rfl #[.slice AI li.length cI, .agg #[.slice AQ q.length cQ, .slice AM m.length cM, .slice AE e.length cE], .agg #[.int .i64 a, .int .i64 b]] (by rfl) (by (try simp only [List.map_toArray, List.map_cons, List.map_nil]); first | done | rfl | (simp only [List.length_drop, List.length_take]; rfl)) ?_
    (with_reducible refine (readR a b (RI.out.below hHeld.out) (SB.out.below hHeld.out) HR.out).mono ?_)
    rintro e w_ ⟨rfl, hb⟩
    refine ⟨_, rfl, hb, fun hHeld_ => ?_⟩
    clear hHeld hb
    have hHeld := hHeld_
    clear hHeld_
    refine Evt.ow_norm (a' := ?_) ?_ ?_
    rotate_left
    · simp only [Act.put, List.setIfInBounds_toArray, List.set_cons_zero, List.set_cons_succ, i64_w, i32_w]; rfl
    iterate 5 (first | (refine Evt.ow_off (a' := ?_) HT_ rfl rfl (by rfl) (by kernel_rfl) (fun _ _ _ h => h) ?_ ?_; rotate_left; (· (try simp only [Act.put, List.setIfInBounds_toArray, List.set_cons_zero, List.set_cons_succ, i64_w, i32_w]); rfl)) | (refine Evt.ow_pure (a' := ?_) (v := ?_) HT_ rfl rfl rfl (by rfl) (by kernel_rfl) (fun _ _ _ h => h) ?_ ?_ ?_; rotate_left 2; (· intro w'; go_simp; with_reducible rfl); (· (try simp only [Act.put, List.setIfInBounds_toArray, List.set_cons_zero, List.set_cons_succ, i64_w, i32_w]); rfl)) | (refine Evt.ow_load (a' := ?_) (v := ?_) HT_ HW_ hHeld rfl rfl rfl (by rfl) (by kernel_rfl) (fun _ _ _ h => h) ?_ ?_ ?_; rotate_left 2; (· intro w' hS_; obtain ⟨⟨s0, s1, s2, s3, s4, s5, s6, s7, s8, s9⟩, ⟨s10, s11, s12, s13⟩⟩ := KP.out w' hS_.out; go_simp; with_reducible rfl); (· (try simp only [Act.put, List.setIfInBounds_toArray, List.set_cons_zero, List.set_cons_succ, i64_w, i32_w]); rfl)))
    refine Evt.ow_done HT_ (by kernel_rfl) ?_
    refine Evt.gen_any (w0 := w1) hHeld.out ?_
    intro w2 hbx
    clear hHeld HT_ HW_ KP
    replace V := Aside0.mk (V.out.below hbx)
    replace RI := Aside0.mk (RI.out.below hbx)
    replace SB := Aside0.mk (SB.out.below hbx)
    replace BM := Aside0.mk (BM.out.below hbx)
    replace BK3 := Aside0.mk (BK3.out.below hbx)
    replace HB := Aside0.mk (below_step HB.out hbx)
    clear hbx
    obtain ⟨zBM_0, zBM_1, zBM_2, zBM_3, zBM_4, zBM_5, zBM_6, zBM_7, zBM_8, zBM_9⟩ := BM.out.c10
    obtain ⟨zBK3_0, zBK3_1, zBK3_2, zBK3_3⟩ := BK3.out.c4
    have fBM_6 : w2.frozen? ⟨gm, 6, none⟩ = false := blk_frozen BM.out.blk 6
    go_wp2
  all_goals
    go_ret
    refine ⟨rfl, Srp.from HB.out (Rm.wAcc V.out ?_)⟩
    rw [K.out]
    first | rfl | simp [comb, *]
set_option maxHeartbeats 4000000 in
theorem redge_err (h : Rm w base V gm vC vI vQ vM vE vL l li ⟨q, m, e, pc, acc, st, ended, fault⟩) {v : Bool} {er : Int} (hr : rdv li q m a b = (v, er)) (he : er ≠ 0) :
    Calls Try.prog 70 #[.pointer (some ⟨gm, 0, none⟩), .agg #[.int .i64 k, .int .i64 a, .int .i64 b, .int .i64 j]] w fun x w' => x = .returned (.int .i64 er) ∧ Srp w base V gm l li ⟨q, m, e, pc, acc, st, ended, fault⟩ w' := by
  obtain ⟨AC, cC, AI, cI, AQ, cQ, AM, cM, AE, cE, AL, cL, rfl, rfl, rfl, rfl, rfl, rfl⟩ := h.forms
  have HR := Aside0.mk hr
  have t0 : decide (er = 0) = false := decide_eq_false he
  have t1 : (er == 0) = false := beq_eq_false_iff_ne.mpr he
  have t2 : (er != 0) = true := bne_iff_ne.mpr he
  have HB := Aside0.mk (Below.refl w.heap.size w)
  have V := Aside0.mk (h)
  have RI := Aside0.mk (Rw.of_R h.ri)
  have SB := Aside0.mk (h.sb)
  have BM : Aside0 (Bk w gm 83 #[.slice AC l.length cC, .slice AI li.length cI, .slice AQ q.length cQ, .slice AM m.length cM, .slice AE e.length cE, .int .i64 pc, .bool acc, .slice AL st.length cL, .bool ended, .int .i64 fault]) := Aside0.mk (h.bm)
  clear h hr he
  obtain ⟨zBM_0, zBM_1, zBM_2, zBM_3, zBM_4, zBM_5, zBM_6, zBM_7, zBM_8, zBM_9⟩ := BM.out.c10
  go_enter Try.func70, Try.ntmps70
  go_wp2_with (((with_reducible refine gate_dst (N := 3) rfl ?_); refine box_event ?hg (N := 3) ?hd (cs := #[.int .i64 k, .int .i64 a, .int .i64 b, .int .i64 j]) (t := 66) ?hr ?_; (case hd => rfl); (case hg => rfl); (case hr => first | (go_simp; done) | (go_simp; rfl)); intro g3 hg w1 hbox hb; have hbx : Below w.heap.size w w1 := below_step (by repeat (first | (with_reducible first | exact Below.refl _ _ | apply below_alloc | apply pw_below_drewN | apply below_drew1) | exact Below.refl _ _)) hb; clear zBM_0 zBM_1 zBM_2 zBM_3 zBM_4 zBM_5 zBM_6 zBM_7 zBM_8 zBM_9; replace V := Aside0.mk (V.out.below hbx); replace RI := Aside0.mk (RI.out.below hbx); replace SB := Aside0.mk (SB.out.below hbx); replace BM := Aside0.mk (BM.out.below hbx); replace HB := Aside0.mk (below_step HB.out hbx); clear hbx; have BK3 := Aside0.mk (Bk.mk (hbox : Blk w1 g3 66 #[.int .i64 k, .int .i64 a, .int .i64 b, .int .i64 j])); clear hbox hg hb; obtain ⟨zBM_0, zBM_1, zBM_2, zBM_3, zBM_4, zBM_5, zBM_6, zBM_7, zBM_8, zBM_9⟩ := BM.out.c10; obtain ⟨zBK3_0, zBK3_1, zBK3_2, zBK3_3⟩ := BK3.out.c4))
  have KP := Aside0.mk (fun w' (hb : Below w1.heap.size w1 w') => And.intro ((BM.out.below hb).c10) ((BK3.out.below hb).c4))
  clear zBM_0 zBM_1 zBM_2 zBM_3 zBM_4 zBM_5 zBM_6 zBM_7 zBM_8 zBM_9 zBK3_0 zBK3_1 zBK3_2 zBK3_3
  refine Evt.ow_start (w0 := w1) (T := (true, [([], []), ([0], [0]), ([1], [1]), ([2], [2]), ([], []), ([4], [4]), ([5], [5]), ([6], [6]), ([], []), ([8], [8]), ([3, 7, 9], [3, 7, 9]), ([10], [10]), ([11], [11]), ([11], [11]), ([12, 10, 0, 1, 2, 3, 4, 5, 6, 7, 8, 9, 10, 11, 12], [12]), ([13, 14, 0, 1, 2, 3, 4, 5, 6, 7, 8, 9, 10, 11, 12, 13, 14], [13])])) (B := [0, 1, 3, 7, 0, 16, 48, 112, 0, 256, 1023, 2047, 4095, 4095, 8191, 32767]) 16 [(0, some 9), (1, some 10), (2, some 11), (4, some 13), (5, some 14), (6, some 15), (8, some 17), (3, some 12), (7, some 16), (9, some 18), (10, some 19), (11, some 8), (12, some 20), (13, some 21), (14, some 5), (15, some 6)] (by kernel_rfl) rfl (by kernel_rfl) (by kernel_rfl) (by kernel_rfl) (by repeat (first | (with_reducible first | exact Below.refl _ _ | apply below_alloc | apply pw_below_drewN | apply below_drew1) | exact Below.refl _ _)) ?_
  intro HT_ HW_ w_ hHeld
  iterate 10 (first | (refine Evt.ow_off (a' := ?_) HT_ rfl rfl (by rfl) (by kernel_rfl) (fun _ _ _ h => h) ?_ ?_; rotate_left; (· (try simp only [Act.put, List.setIfInBounds_toArray, List.set_cons_zero, List.set_cons_succ, i64_w, i32_w]); rfl)) | (refine Evt.ow_pure (a' := ?_) (v := ?_) HT_ rfl rfl rfl (by rfl) (by kernel_rfl) (fun _ _ _ h => h) ?_ ?_ ?_; rotate_left 2; (· intro w'; go_simp; with_reducible rfl); (· (try simp only [Act.put, List.setIfInBounds_toArray, List.set_cons_zero, List.set_cons_succ, i64_w, i32_w]); rfl)) | (refine Evt.ow_load (a' := ?_) (v := ?_) HT_ HW_ hHeld rfl rfl rfl (by rfl) (by kernel_rfl) (fun _ _ _ h => h) ?_ ?_ ?_; rotate_left 2; (· intro w' hS_; obtain ⟨⟨s0, s1, s2, s3, s4, s5, s6, s7, s8, s9⟩, ⟨s10, s11, s12, s13⟩⟩ := KP.out w' hS_.out; go_simp; with_reducible rfl); (· (try simp only [Act.put, List.setIfInBounds_toArray, List.set_cons_zero, List.set_cons_succ, i64_w, i32_w]); rfl)))
  refine Evt.ow_call HT_ hHeld rfl rfl rfl (by kernel_rfl) Try.func19 (by kernel_rfl) rfl #[.slice AI li.length cI, .agg #[.slice AQ q.length cQ, .slice AM m.length cM, .slice AE e.length cE], .agg #[.int .i64 a, .int .i64 b]] (by rfl) (by (try simp only [List.map_toArray, List.map_cons, List.map_nil]); first | done | rfl | (simp only [List.length_drop, List.length_take]; rfl)) ?_
  (with_reducible refine (readR a b (RI.out.below hHeld.out) (SB.out.below hHeld.out) HR.out).mono ?_)
  rintro e w_ ⟨rfl, hb⟩
  refine ⟨_, rfl, hb, fun hHeld_ => ?_⟩
  clear hHeld hb
  have hHeld := hHeld_
  clear hHeld_
  refine Evt.ow_norm (a' := ?_) ?_ ?_
  rotate_left
  · simp only [Act.put, List.setIfInBounds_toArray, List.set_cons_zero, List.set_cons_succ, i64_w, i32_w]; rfl
  iterate 5 (first | (refine Evt.ow_off (a' := ?_) HT_ rfl rfl (by rfl) (by kernel_rfl) (fun _ _ _ h => h) ?_ ?_; rotate_left; (· (try simp only [Act.put, List.setIfInBounds_toArray, List.set_cons_zero, List.set_cons_succ, i64_w, i32_w]); rfl)) | (refine Evt.ow_pure (a' := ?_) (v := ?_) HT_ rfl rfl rfl (by rfl) (by kernel_rfl) (fun _ _ _ h => h) ?_ ?_ ?_; rotate_left 2; (· intro w'; go_simp; with_reducible rfl); (· (try simp only [Act.put, List.setIfInBounds_toArray, List.set_cons_zero, List.set_cons_succ, i64_w, i32_w]); rfl)) | (refine Evt.ow_load (a' := ?_) (v := ?_) HT_ HW_ hHeld rfl rfl rfl (by rfl) (by kernel_rfl) (fun _ _ _ h => h) ?_ ?_ ?_; rotate_left 2; (· intro w' hS_; obtain ⟨⟨s0, s1, s2, s3, s4, s5, s6, s7, s8, s9⟩, ⟨s10, s11, s12, s13⟩⟩ := KP.out w' hS_.out; go_simp; with_reducible rfl); (· (try simp only [Act.put, List.setIfInBounds_toArray, List.set_cons_zero, List.set_cons_succ, i64_w, i32_w]); rfl)))
  refine Evt.ow_done HT_ (by kernel_rfl) ?_
  refine Evt.gen_any (w0 := w1) hHeld.out ?_
  intro w2 hbx
  clear hHeld HT_ HW_ KP
  replace V := Aside0.mk (V.out.below hbx)
  replace RI := Aside0.mk (RI.out.below hbx)
  replace SB := Aside0.mk (SB.out.below hbx)
  replace BM := Aside0.mk (BM.out.below hbx)
  replace BK3 := Aside0.mk (BK3.out.below hbx)
  replace HB := Aside0.mk (below_step HB.out hbx)
  clear hbx
  obtain ⟨zBM_0, zBM_1, zBM_2, zBM_3, zBM_4, zBM_5, zBM_6, zBM_7, zBM_8, zBM_9⟩ := BM.out.c10
  obtain ⟨zBK3_0, zBK3_1, zBK3_2, zBK3_3⟩ := BK3.out.c4
  go_wp2
  go_ret
  exact ⟨rfl, (Srp.here ⟨_, _, _, _, _, _, V.out⟩).from HB.out⟩
set_option maxHeartbeats 16000000 in
theorem redge_out (h : Rm w base V gm vC vI vQ vM vE vL l li ⟨q, m, e, pc, acc, st, ended, fault⟩) {v : Bool} (hr : rdv li q m a b = (v, 0)) (hj : ¬ (0 ≤ j ∧ j < e.length)) :
    Calls Try.prog 70 #[.pointer (some ⟨gm, 0, none⟩), .agg #[.int .i64 k, .int .i64 a, .int .i64 b, .int .i64 j]] w fun x w' => x = .returned (.int .i64 3) ∧ Srp w base V gm l li ⟨q, m, e, pc, acc, st, ended, fault⟩ w' := by
  obtain ⟨AC, cC, AI, cI, AQ, cQ, AM, cM, AE, cE, AL, cL, rfl, rfl, rfl, rfl, rfl, rfl⟩ := h.forms
  have HR := Aside0.mk hr
  by_cases hj0 : j < 0
  case' pos => have f0 : decide (j < 0) = true := decide_eq_true hj0
  case' neg =>
    have f0 : decide (j < 0) = false := decide_eq_false hj0
    have f1 : decide ((e.length : Int) ≤ j) = true := decide_eq_true (by omega)
  all_goals
    have HB := Aside0.mk (Below.refl w.heap.size w)
    have V := Aside0.mk (h)
    have RI := Aside0.mk (Rw.of_R h.ri)
    have SB := Aside0.mk (h.sb)
    have BM : Aside0 (Bk w gm 83 #[.slice AC l.length cC, .slice AI li.length cI, .slice AQ q.length cQ, .slice AM m.length cM, .slice AE e.length cE, .int .i64 pc, .bool acc, .slice AL st.length cL, .bool ended, .int .i64 fault]) := Aside0.mk (h.bm)
    clear h hr hj hj0
    obtain ⟨zBM_0, zBM_1, zBM_2, zBM_3, zBM_4, zBM_5, zBM_6, zBM_7, zBM_8, zBM_9⟩ := BM.out.c10
    go_enter Try.func70, Try.ntmps70
    go_wp2_with (((with_reducible refine gate_dst (N := 3) rfl ?_); refine box_event ?hg (N := 3) ?hd (cs := #[.int .i64 k, .int .i64 a, .int .i64 b, .int .i64 j]) (t := 66) ?hr ?_; (case hd => rfl); (case hg => rfl); (case hr => first | (go_simp; done) | (go_simp; rfl)); intro g3 hg w1 hbox hb; have hbx : Below w.heap.size w w1 := below_step (by repeat (first | (with_reducible first | exact Below.refl _ _ | apply below_alloc | apply pw_below_drewN | apply below_drew1) | exact Below.refl _ _)) hb; clear zBM_0 zBM_1 zBM_2 zBM_3 zBM_4 zBM_5 zBM_6 zBM_7 zBM_8 zBM_9; replace V := Aside0.mk (V.out.below hbx); replace RI := Aside0.mk (RI.out.below hbx); replace SB := Aside0.mk (SB.out.below hbx); replace BM := Aside0.mk (BM.out.below hbx); replace HB := Aside0.mk (below_step HB.out hbx); clear hbx; have BK3 := Aside0.mk (Bk.mk (hbox : Blk w1 g3 66 #[.int .i64 k, .int .i64 a, .int .i64 b, .int .i64 j])); clear hbox hg hb; obtain ⟨zBM_0, zBM_1, zBM_2, zBM_3, zBM_4, zBM_5, zBM_6, zBM_7, zBM_8, zBM_9⟩ := BM.out.c10; obtain ⟨zBK3_0, zBK3_1, zBK3_2, zBK3_3⟩ := BK3.out.c4))
    have KP := Aside0.mk (fun w' (hb : Below w1.heap.size w1 w') => And.intro ((BM.out.below hb).c10) ((BK3.out.below hb).c4))
    clear zBM_0 zBM_1 zBM_2 zBM_3 zBM_4 zBM_5 zBM_6 zBM_7 zBM_8 zBM_9 zBK3_0 zBK3_1 zBK3_2 zBK3_3
    refine Evt.ow_start (w0 := w1) (T := (true, [([], []), ([0], [0]), ([1], [1]), ([2], [2]), ([], []), ([4], [4]), ([5], [5]), ([6], [6]), ([], []), ([8], [8]), ([3, 7, 9], [3, 7, 9]), ([10], [10]), ([11], [11]), ([11], [11]), ([12, 10, 0, 1, 2, 3, 4, 5, 6, 7, 8, 9, 10, 11, 12], [12]), ([13, 14, 0, 1, 2, 3, 4, 5, 6, 7, 8, 9, 10, 11, 12, 13, 14], [13])])) (B := [0, 1, 3, 7, 0, 16, 48, 112, 0, 256, 1023, 2047, 4095, 4095, 8191, 32767]) 16 [(0, some 9), (1, some 10), (2, some 11), (4, some 13), (5, some 14), (6, some 15), (8, some 17), (3, some 12), (7, some 16), (9, some 18), (10, some 19), (11, some 8), (12, some 20), (13, some 21), (14, some 5), (15, some 6)] (by kernel_rfl) rfl (by kernel_rfl) (by kernel_rfl) (by kernel_rfl) (by repeat (first | (with_reducible first | exact Below.refl _ _ | apply below_alloc | apply pw_below_drewN | apply below_drew1) | exact Below.refl _ _)) ?_
    intro HT_ HW_ w_ hHeld
    iterate 10 (first | (refine Evt.ow_off (a' := ?_) HT_ rfl rfl (by rfl) (by kernel_rfl) (fun _ _ _ h => h) ?_ ?_; rotate_left; (· (try simp only [Act.put, List.setIfInBounds_toArray, List.set_cons_zero, List.set_cons_succ, i64_w, i32_w]); rfl)) | (refine Evt.ow_pure (a' := ?_) (v := ?_) HT_ rfl rfl rfl (by rfl) (by kernel_rfl) (fun _ _ _ h => h) ?_ ?_ ?_; rotate_left 2; (· intro w'; go_simp; with_reducible rfl); (· (try simp only [Act.put, List.setIfInBounds_toArray, List.set_cons_zero, List.set_cons_succ, i64_w, i32_w]); rfl)) | (refine Evt.ow_load (a' := ?_) (v := ?_) HT_ HW_ hHeld rfl rfl rfl (by rfl) (by kernel_rfl) (fun _ _ _ h => h) ?_ ?_ ?_; rotate_left 2; (· intro w' hS_; obtain ⟨⟨s0, s1, s2, s3, s4, s5, s6, s7, s8, s9⟩, ⟨s10, s11, s12, s13⟩⟩ := KP.out w' hS_.out; go_simp; with_reducible rfl); (· (try simp only [Act.put, List.setIfInBounds_toArray, List.set_cons_zero, List.set_cons_succ, i64_w, i32_w]); rfl)))
    refine Evt.ow_call HT_ hHeld rfl rfl rfl (by kernel_rfl) Try.func19 (by kernel_rfl) rfl #[.slice AI li.length cI, .agg #[.slice AQ q.length cQ, .slice AM m.length cM, .slice AE e.length cE], .agg #[.int .i64 a, .int .i64 b]] (by rfl) (by (try simp only [List.map_toArray, List.map_cons, List.map_nil]); first | done | rfl | (simp only [List.length_drop, List.length_take]; rfl)) ?_
    (with_reducible refine (readR a b (RI.out.below hHeld.out) (SB.out.below hHeld.out) HR.out).mono ?_)
    rintro e w_ ⟨rfl, hb⟩
    refine ⟨_, rfl, hb, fun hHeld_ => ?_⟩
    clear hHeld hb
    have hHeld := hHeld_
    clear hHeld_
    refine Evt.ow_norm (a' := ?_) ?_ ?_
    rotate_left
    · simp only [Act.put, List.setIfInBounds_toArray, List.set_cons_zero, List.set_cons_succ, i64_w, i32_w]; rfl
    iterate 5 (first | (refine Evt.ow_off (a' := ?_) HT_ rfl rfl (by rfl) (by kernel_rfl) (fun _ _ _ h => h) ?_ ?_; rotate_left; (· (try simp only [Act.put, List.setIfInBounds_toArray, List.set_cons_zero, List.set_cons_succ, i64_w, i32_w]); rfl)) | (refine Evt.ow_pure (a' := ?_) (v := ?_) HT_ rfl rfl rfl (by rfl) (by kernel_rfl) (fun _ _ _ h => h) ?_ ?_ ?_; rotate_left 2; (· intro w'; go_simp; with_reducible rfl); (· (try simp only [Act.put, List.setIfInBounds_toArray, List.set_cons_zero, List.set_cons_succ, i64_w, i32_w]); rfl)) | (refine Evt.ow_load (a' := ?_) (v := ?_) HT_ HW_ hHeld rfl rfl rfl (by rfl) (by kernel_rfl) (fun _ _ _ h => h) ?_ ?_ ?_; rotate_left 2; (· intro w' hS_; obtain ⟨⟨s0, s1, s2, s3, s4, s5, s6, s7, s8, s9⟩, ⟨s10, s11, s12, s13⟩⟩ := KP.out w' hS_.out; go_simp; with_reducible rfl); (· (try simp only [Act.put, List.setIfInBounds_toArray, List.set_cons_zero, List.set_cons_succ, i64_w, i32_w]); rfl)))
    refine Evt.ow_done HT_ (by kernel_rfl) ?_
    refine Evt.gen_any (w0 := w1) hHeld.out ?_
    intro w2 hbx
    clear hHeld HT_ HW_ KP
    replace V := Aside0.mk (V.out.below hbx)
    replace RI := Aside0.mk (RI.out.below hbx)
    replace SB := Aside0.mk (SB.out.below hbx)
    replace BM := Aside0.mk (BM.out.below hbx)
    replace BK3 := Aside0.mk (BK3.out.below hbx)
    replace HB := Aside0.mk (below_step HB.out hbx)
    clear hbx
    obtain ⟨zBM_0, zBM_1, zBM_2, zBM_3, zBM_4, zBM_5, zBM_6, zBM_7, zBM_8, zBM_9⟩ := BM.out.c10
    obtain ⟨zBK3_0, zBK3_1, zBK3_2, zBK3_3⟩ := BK3.out.c4
    go_wp2
    have KP := Aside0.mk (fun w' (hb : Below w2.heap.size w2 w') => And.intro ((BM.out.below hb).c10) ((BK3.out.below hb).c4))
    clear zBM_0 zBM_1 zBM_2 zBM_3 zBM_4 zBM_5 zBM_6 zBM_7 zBM_8 zBM_9 zBK3_0 zBK3_1 zBK3_2 zBK3_3
    refine Evt.ow_start (w0 := w2) (T := (true, [([], []), ([0], [0]), ([1], [1]), ([2], [2]), ([3], [3]), ([4, 3], [3, 4]), ([3], [3]), ([6, 3], [3, 6]), ([7, 3], [3, 7]), ([8, 3], [3, 8]), ([9, 3], [3, 9]), ([10, 3], [3, 10]), ([5, 11, 3], [3, 5, 11]), ([3, 12], [3, 12])])) (B := [0, 1, 3, 7, 15, 31, 15, 79, 207, 463, 975, 1999, 4095, 8191]) 14 [(0, some 25), (1, some 26), (2, some 27), (3, some 28), (4, some 29), (6, some 31), (7, some 32), (8, some 33), (9, some 34), (5, some 30), (10, some 35), (11, some 36), (12, some 37), (13, some 38)] (by kernel_rfl) rfl (by kernel_rfl) (by kernel_rfl) (by kernel_rfl) (by repeat (first | (with_reducible first | exact Below.refl _ _ | apply below_alloc | apply pw_below_drewN | apply below_drew1) | exact Below.refl _ _)) ?_
    intro HT_ HW_ w_ hHeld
    iterate 14 (first | (refine Evt.ow_off (a' := ?_) HT_ rfl rfl (by rfl) (by kernel_rfl) (fun _ _ _ h => h) ?_ ?_; rotate_left; (· (try simp only [Act.put, List.setIfInBounds_toArray, List.set_cons_zero, List.set_cons_succ, i64_w, i32_w]); rfl)) | (refine Evt.ow_pure (a' := ?_) (v := ?_) HT_ rfl rfl rfl (by rfl) (by kernel_rfl) (fun _ _ _ h => h) ?_ ?_ ?_; rotate_left 2; (· intro w'; go_simp; with_reducible rfl); (· (try simp only [Act.put, List.setIfInBounds_toArray, List.set_cons_zero, List.set_cons_succ, i64_w, i32_w]); rfl)) | (refine Evt.ow_load (a' := ?_) (v := ?_) HT_ HW_ hHeld rfl rfl rfl (by rfl) (by kernel_rfl) (fun _ _ _ h => h) ?_ ?_ ?_; rotate_left 2; (· intro w' hS_; obtain ⟨⟨s0, s1, s2, s3, s4, s5, s6, s7, s8, s9⟩, ⟨s10, s11, s12, s13⟩⟩ := KP.out w' hS_.out; go_simp; with_reducible rfl); (· (try simp only [Act.put, List.setIfInBounds_toArray, List.set_cons_zero, List.set_cons_succ, i64_w, i32_w]); rfl)))
    refine Evt.ow_done HT_ (by kernel_rfl) ?_
    refine Evt.gen_any (w0 := w2) hHeld.out ?_
    intro w3 hbx
    clear hHeld HT_ HW_ KP
    replace V := Aside0.mk (V.out.below hbx)
    replace RI := Aside0.mk (RI.out.below hbx)
    replace SB := Aside0.mk (SB.out.below hbx)
    replace BM := Aside0.mk (BM.out.below hbx)
    replace BK3 := Aside0.mk (BK3.out.below hbx)
    replace HB := Aside0.mk (below_step HB.out hbx)
    clear hbx
    obtain ⟨zBM_0, zBM_1, zBM_2, zBM_3, zBM_4, zBM_5, zBM_6, zBM_7, zBM_8, zBM_9⟩ := BM.out.c10
    obtain ⟨zBK3_0, zBK3_1, zBK3_2, zBK3_3⟩ := BK3.out.c4
    go_wp2
    go_ret
    exact ⟨rfl, (Srp.here ⟨_, _, _, _, _, _, V.out⟩).from HB.out⟩
set_option maxHeartbeats 64000000 in
theorem redge_ok (h : Rm w base V gm vC vI vQ vM vE vL l li ⟨q, m, e, pc, acc, st, ended, fault⟩) (hk : k = 6 ∨ k = 7) {v : Bool} (hr : rdv li q m a b = (v, 0)) {i : Nat} (hi : i < e.length) (hij : j = (i : Int)) :
    Calls Try.prog 70 #[.pointer (some ⟨gm, 0, none⟩), .agg #[.int .i64 k, .int .i64 a, .int .i64 b, .int .i64 j]] w fun x w' => x = .returned (.int .i64 0) ∧ Srp w base V gm l li ⟨q, m, e.set i v, pc, (v != e.getD i false) && (v == (k == 6)), st, ended, fault⟩ w' := by
  obtain ⟨AC, cC, AI, cI, AQ, cQ, AM, cM, AE, cE, AL, cL, rfl, rfl, rfl, rfl, rfl, rfl⟩ := h.forms
  have HR := Aside0.mk hr
  have VM := Aside0.mk h.um
  have f0 : decide (j < 0) = false := decide_eq_false (by omega)
  have f1 : decide ((e.length : Int) ≤ j) = false := decide_eq_false (by omega)
  subst hij
  have p1 : decide (i < e.length) = true := decide_eq_true hi
  have p2 : decide ((i : Int) < (e.length : Int)) = true := decide_eq_true (by omega)
  have p3 : decide (e.length ≤ i) = false := decide_eq_false (by omega)
  have le : e.length ≤ 20000 := h.fit.e
  obtain ⟨gE, rfl⟩ := own_some h.re (by show 0 < e.length; omega)
  obtain ⟨x, XE⟩ : ∃ x, Aside0 (e.getD i false = x) := ⟨_, ⟨rfl⟩⟩
  rw [XE.out]
  obtain ⟨ac, AE⟩ : ∃ ac, Aside0 (((v != x) && (v == (k == 6))) = ac) := ⟨_, ⟨rfl⟩⟩
  rw [AE.out]
  clear hr
  rcases hk with e_ | e_
  have M1 : Aside0 ((k == 6) = true) := ⟨by rw [e_]; rfl⟩
  have m1 : (k == 6) = true := M1.out
  have m2 : decide (k = 6) = true := decide_eq_true e_
  rotate_left
  have M1 : Aside0 ((k == 6) = false) := ⟨by rw [e_]; rfl⟩
  have m1 : (k == 6) = false := M1.out
  have m2 : decide (k = 6) = false := by rw [e_]; rfl
  rotate_left
  all_goals (clear e_; cases v)
  all_goals
    have HB := Aside0.mk (Below.refl w.heap.size w)
    have V := Aside0.mk (h)
    have RI := Aside0.mk (Rw.of_R h.ri)
    have SB := Aside0.mk (h.sb)
    have BM : Aside0 (Bk w gm 83 #[.slice AC l.length cC, .slice AI li.length cI, .slice AQ q.length cQ, .slice AM m.length cM, .slice (some ⟨gE, 0, none⟩) e.length cE, .int .i64 pc, .bool acc, .slice AL st.length cL, .bool ended, .int .i64 fault]) := Aside0.mk (h.bm)
    obtain ⟨zBM_0, zBM_1, zBM_2, zBM_3, zBM_4, zBM_5, zBM_6, zBM_7, zBM_8, zBM_9⟩ := BM.out.c10
    go_enter Try.func70, Try.ntmps70
    go_wp2_with (((with_reducible refine gate_dst (N := 3) rfl ?_); refine box_event ?hg (N := 3) ?hd (cs := #[.int .i64 k, .int .i64 a, .int .i64 b, .int .i64 (i : Nat)]) (t := 66) ?hr ?_; (case hd => rfl); (case hg => rfl); (case hr => first | (go_simp; done) | (go_simp; rfl)); intro g3 hg w1 hbox hb; have hbx : Below w.heap.size w w1 := below_step (by repeat (first | (with_reducible first | exact Below.refl _ _ | apply below_alloc | apply pw_below_drewN | apply below_drew1) | exact Below.refl _ _)) hb; clear zBM_0 zBM_1 zBM_2 zBM_3 zBM_4 zBM_5 zBM_6 zBM_7 zBM_8 zBM_9; replace V := Aside0.mk (V.out.below hbx); replace RI := Aside0.mk (RI.out.below hbx); replace SB := Aside0.mk (SB.out.below hbx); replace BM := Aside0.mk (BM.out.below hbx); replace HB := Aside0.mk (below_step HB.out hbx); clear hbx; have BK3 := Aside0.mk (Bk.mk (hbox : Blk w1 g3 66 #[.int .i64 k, .int .i64 a, .int .i64 b, .int .i64 (i : Nat)])); clear hbox hg hb; obtain ⟨zBM_0, zBM_1, zBM_2, zBM_3, zBM_4, zBM_5, zBM_6, zBM_7, zBM_8, zBM_9⟩ := BM.out.c10; obtain ⟨zBK3_0, zBK3_1, zBK3_2, zBK3_3⟩ := BK3.out.c4))
    have KP := Aside0.mk (fun w' (hb : Below w1.heap.size w1 w') => And.intro ((BM.out.below hb).c10) ((BK3.out.below hb).c4))
    clear zBM_0 zBM_1 zBM_2 zBM_3 zBM_4 zBM_5 zBM_6 zBM_7 zBM_8 zBM_9 zBK3_0 zBK3_1 zBK3_2 zBK3_3
    refine Evt.ow_start (w0 := w1) (T := (true, [([], []), ([0], [0]), ([1], [1]), ([2], [2]), ([], []), ([4], [4]), ([5], [5]), ([6], [6]), ([], []), ([8], [8]), ([3, 7, 9], [3, 7, 9]), ([10], [10]), ([11], [11]), ([11], [11]), ([12, 10, 0, 1, 2, 3, 4, 5, 6, 7, 8, 9, 10, 11, 12], [12]), ([13, 14, 0, 1, 2, 3, 4, 5, 6, 7, 8, 9, 10, 11, 12, 13, 14], [13])])) (B := [0, 1, 3, 7, 0, 16, 48, 112, 0, 256, 1023, 2047, 4095, 4095, 8191, 32767]) 16 [(0, some 9), (1, some 10), (2, some 11), (4, some 13), (5, some 14), (6, some 15), (8, some 17), (3, some 12), (7, some 16), (9, some 18), (10, some 19), (11, some 8), (12, some 20), (13, some 21), (14, some 5), (15, some 6)] (by kernel_rfl) rfl (by kernel_rfl) (by kernel_rfl) (by kernel_rfl) (by repeat (first | (with_reducible first | exact Below.refl _ _ | apply below_alloc | apply pw_below_drewN | apply below_drew1) | exact Below.refl _ _)) ?_
    intro HT_ HW_ w_ hHeld
    iterate 10 (first | (refine Evt.ow_off (a' := ?_) HT_ rfl rfl (by rfl) (by kernel_rfl) (fun _ _ _ h => h) ?_ ?_; rotate_left; (· (try simp only [Act.put, List.setIfInBounds_toArray, List.set_cons_zero, List.set_cons_succ, i64_w, i32_w]); rfl)) | (refine Evt.ow_pure (a' := ?_) (v := ?_) HT_ rfl rfl rfl (by rfl) (by kernel_rfl) (fun _ _ _ h => h) ?_ ?_ ?_; rotate_left 2; (· intro w'; go_simp; with_reducible rfl); (· (try simp only [Act.put, List.setIfInBounds_toArray, List.set_cons_zero, List.set_cons_succ, i64_w, i32_w]); rfl)) | (refine Evt.ow_load (a' := ?_) (v := ?_) HT_ HW_ hHeld rfl rfl rfl (by rfl) (by kernel_rfl) (fun _ _ _ h => h) ?_ ?_ ?_; rotate_left 2; (· intro w' hS_; obtain ⟨⟨s0, s1, s2, s3, s4, s5, s6, s7, s8, s9⟩, ⟨s10, s11, s12, s13⟩⟩ := KP.out w' hS_.out; go_simp; with_reducible rfl); (· (try simp only [Act.put, List.setIfInBounds_toArray, List.set_cons_zero, List.set_cons_succ, i64_w, i32_w]); rfl)))
    refine Evt.ow_call HT_ hHeld rfl rfl rfl (by kernel_rfl) Try.func19 (by kernel_rfl) rfl #[.slice AI li.length cI, .agg #[.slice AQ q.length cQ, .slice AM m.length cM, .slice (some ⟨gE, 0, none⟩) e.length cE], .agg #[.int .i64 a, .int .i64 b]] (by rfl) (by (try simp only [List.map_toArray, List.map_cons, List.map_nil]); first | done | rfl | (simp only [List.length_drop, List.length_take]; rfl)) ?_
    (with_reducible refine (readR a b (RI.out.below hHeld.out) (SB.out.below hHeld.out) HR.out).mono ?_)
    rintro e w_ ⟨rfl, hb⟩
    refine ⟨_, rfl, hb, fun hHeld_ => ?_⟩
    clear hHeld hb
    have hHeld := hHeld_
    clear hHeld_
    refine Evt.ow_norm (a' := ?_) ?_ ?_
    rotate_left
    · simp only [Act.put, List.setIfInBounds_toArray, List.set_cons_zero, List.set_cons_succ, i64_w, i32_w]; rfl
    iterate 5 (first | (refine Evt.ow_off (a' := ?_) HT_ rfl rfl (by rfl) (by kernel_rfl) (fun _ _ _ h => h) ?_ ?_; rotate_left; (· (try simp only [Act.put, List.setIfInBounds_toArray, List.set_cons_zero, List.set_cons_succ, i64_w, i32_w]); rfl)) | (refine Evt.ow_pure (a' := ?_) (v := ?_) HT_ rfl rfl rfl (by rfl) (by kernel_rfl) (fun _ _ _ h => h) ?_ ?_ ?_; rotate_left 2; (· intro w'; go_simp; with_reducible rfl); (· (try simp only [Act.put, List.setIfInBounds_toArray, List.set_cons_zero, List.set_cons_succ, i64_w, i32_w]); rfl)) | (refine Evt.ow_load (a' := ?_) (v := ?_) HT_ HW_ hHeld rfl rfl rfl (by rfl) (by kernel_rfl) (fun _ _ _ h => h) ?_ ?_ ?_; rotate_left 2; (· intro w' hS_; obtain ⟨⟨s0, s1, s2, s3, s4, s5, s6, s7, s8, s9⟩, ⟨s10, s11, s12, s13⟩⟩ := KP.out w' hS_.out; go_simp; with_reducible rfl); (· (try simp only [Act.put, List.setIfInBounds_toArray, List.set_cons_zero, List.set_cons_succ, i64_w, i32_w]); rfl)))
    refine Evt.ow_done HT_ (by kernel_rfl) ?_
    refine Evt.gen_any (w0 := w1) hHeld.out ?_
    intro w2 hbx
    clear hHeld HT_ HW_ KP
    replace V := Aside0.mk (V.out.below hbx)
    replace RI := Aside0.mk (RI.out.below hbx)
    replace SB := Aside0.mk (SB.out.below hbx)
    replace BM := Aside0.mk (BM.out.below hbx)
    replace BK3 := Aside0.mk (BK3.out.below hbx)
    replace HB := Aside0.mk (below_step HB.out hbx)
    clear hbx
    obtain ⟨zBM_0, zBM_1, zBM_2, zBM_3, zBM_4, zBM_5, zBM_6, zBM_7, zBM_8, zBM_9⟩ := BM.out.c10
    obtain ⟨zBK3_0, zBK3_1, zBK3_2, zBK3_3⟩ := BK3.out.c4
    go_wp2
    have KP := Aside0.mk (fun w' (hb : Below w2.heap.size w2 w') => And.intro ((BM.out.below hb).c10) ((BK3.out.below hb).c4))
    clear zBM_0 zBM_1 zBM_2 zBM_3 zBM_4 zBM_5 zBM_6 zBM_7 zBM_8 zBM_9 zBK3_0 zBK3_1 zBK3_2 zBK3_3
    refine Evt.ow_start (w0 := w2) (T := (true, [([], []), ([0], [0]), ([1], [1]), ([2], [2]), ([3], [3]), ([4, 3], [3, 4]), ([3], [3]), ([6, 3], [3, 6]), ([7, 3], [3, 7]), ([8, 3], [3, 8]), ([9, 3], [3, 9]), ([10, 3], [3, 10]), ([5, 11, 3], [3, 5, 11]), ([3, 12], [3, 12])])) (B := [0, 1, 3, 7, 15, 31, 15, 79, 207, 463, 975, 1999, 4095, 8191]) 14 [(0, some 25), (1, some 26), (2, some 27), (3, some 28), (4, some 29), (6, some 31), (7, some 32), (8, some 33), (9, some 34), (5, some 30), (10, some 35), (11, some 36), (12, some 37), (13, some 38)] (by kernel_rfl) rfl (by kernel_rfl) (by kernel_rfl) (by kernel_rfl) (by repeat (first | (with_reducible first | exact Below.refl _ _ | apply below_alloc | apply pw_below_drewN | apply below_drew1) | exact Below.refl _ _)) ?_
    intro HT_ HW_ w_ hHeld
    iterate 14 (first | (refine Evt.ow_off (a' := ?_) HT_ rfl rfl (by rfl) (by kernel_rfl) (fun _ _ _ h => h) ?_ ?_; rotate_left; (· (try simp only [Act.put, List.setIfInBounds_toArray, List.set_cons_zero, List.set_cons_succ, i64_w, i32_w]); rfl)) | (refine Evt.ow_pure (a' := ?_) (v := ?_) HT_ rfl rfl rfl (by rfl) (by kernel_rfl) (fun _ _ _ h => h) ?_ ?_ ?_; rotate_left 2; (· intro w'; go_simp; with_reducible rfl); (· (try simp only [Act.put, List.setIfInBounds_toArray, List.set_cons_zero, List.set_cons_succ, i64_w, i32_w]); rfl)) | (refine Evt.ow_load (a' := ?_) (v := ?_) HT_ HW_ hHeld rfl rfl rfl (by rfl) (by kernel_rfl) (fun _ _ _ h => h) ?_ ?_ ?_; rotate_left 2; (· intro w' hS_; obtain ⟨⟨s0, s1, s2, s3, s4, s5, s6, s7, s8, s9⟩, ⟨s10, s11, s12, s13⟩⟩ := KP.out w' hS_.out; go_simp; with_reducible rfl); (· (try simp only [Act.put, List.setIfInBounds_toArray, List.set_cons_zero, List.set_cons_succ, i64_w, i32_w]); rfl)))
    refine Evt.ow_done HT_ (by kernel_rfl) ?_
    refine Evt.gen_any (w0 := w2) hHeld.out ?_
    intro w3 hbx
    clear hHeld HT_ HW_ KP
    replace V := Aside0.mk (V.out.below hbx)
    replace RI := Aside0.mk (RI.out.below hbx)
    replace SB := Aside0.mk (SB.out.below hbx)
    replace BM := Aside0.mk (BM.out.below hbx)
    replace BK3 := Aside0.mk (BK3.out.below hbx)
    replace HB := Aside0.mk (below_step HB.out hbx)
    clear hbx
    obtain ⟨zBM_0, zBM_1, zBM_2, zBM_3, zBM_4, zBM_5, zBM_6, zBM_7, zBM_8, zBM_9⟩ := BM.out.c10
    obtain ⟨zBK3_0, zBK3_1, zBK3_2, zBK3_3⟩ := BK3.out.c4
    go_wp2
    skip
    have KP := Aside0.mk (fun w' (hb : Below w3.heap.size w3 w') => And.intro ((BM.out.below hb).c10) (And.intro ((BK3.out.below hb).c4) ((show w'.cell? ⟨gE, i, none⟩ = some (.bool x) from (by rw [← XE.out]; exact (own_at (V.out.below hb).re hi).1)))))
    clear zBM_0 zBM_1 zBM_2 zBM_3 zBM_4 zBM_5 zBM_6 zBM_7 zBM_8 zBM_9 zBK3_0 zBK3_1 zBK3_2 zBK3_3
    refine Evt.ow_start (w0 := w3) (T := (true, [([], []), ([0], [0]), ([1], [1]), ([2], [2]), ([3], [3]), ([], []), ([5], [5]), ([4, 6], [4, 6]), ([7], [7]), ([8, 0, 1, 2, 3, 4, 5, 6, 7, 8], [8])])) (B := [0, 1, 3, 7, 15, 0, 32, 127, 255, 511]) 10 [(0, some 39), (1, some 40), (2, some 41), (3, some 42), (5, some 44), (4, some 43), (6, some 45), (7, some 46), (8, some 47), (9, some 7)] (by kernel_rfl) rfl (by kernel_rfl) (by kernel_rfl) (by kernel_rfl) (by repeat (first | (with_reducible first | exact Below.refl _ _ | apply below_alloc | apply pw_below_drewN | apply below_drew1) | exact Below.refl _ _)) ?_
    intro HT_ HW_ w_ hHeld
    iterate 10 (first | (refine Evt.ow_off (a' := ?_) HT_ rfl rfl (by rfl) (by kernel_rfl) (fun _ _ _ h => h) ?_ ?_; rotate_left; (· (try simp only [Act.put, List.setIfInBounds_toArray, List.set_cons_zero, List.set_cons_succ, i64_w, i32_w]); rfl)) | (refine Evt.ow_pure (a' := ?_) (v := ?_) HT_ rfl rfl rfl (by rfl) (by kernel_rfl) (fun _ _ _ h => h) ?_ ?_ ?_; rotate_left 2; (· intro w'; go_simp; with_reducible rfl); (· (try simp only [Act.put, List.setIfInBounds_toArray, List.set_cons_zero, List.set_cons_succ, i64_w, i32_w]); rfl)) | (refine Evt.ow_load (a' := ?_) (v := ?_) HT_ HW_ hHeld rfl rfl rfl (by rfl) (by kernel_rfl) (fun _ _ _ h => h) ?_ ?_ ?_; rotate_left 2; (· intro w' hS_; obtain ⟨⟨s0, s1, s2, s3, s4, s5, s6, s7, s8, s9⟩, ⟨s10, s11, s12, s13⟩, s14⟩ := KP.out w' hS_.out; go_simp; with_reducible rfl); (· (try simp only [Act.put, List.setIfInBounds_toArray, List.set_cons_zero, List.set_cons_succ, i64_w, i32_w]); rfl)))
    refine Evt.ow_done HT_ (by kernel_rfl) ?_
    refine Evt.gen_any (w0 := w3) hHeld.out ?_
    intro w4 hbx
    clear hHeld HT_ HW_ KP
    replace V := Aside0.mk (V.out.below hbx)
    replace RI := Aside0.mk (RI.out.below hbx)
    replace SB := Aside0.mk (SB.out.below hbx)
    replace BM := Aside0.mk (BM.out.below hbx)
    replace BK3 := Aside0.mk (BK3.out.below hbx)
    replace HB := Aside0.mk (below_step HB.out hbx)
    clear hbx
    obtain ⟨zBM_0, zBM_1, zBM_2, zBM_3, zBM_4, zBM_5, zBM_6, zBM_7, zBM_8, zBM_9⟩ := BM.out.c10
    obtain ⟨zBK3_0, zBK3_1, zBK3_2, zBK3_3⟩ := BK3.out.c4
    have fBM_6 : w4.frozen? ⟨gm, 6, none⟩ = false := blk_frozen BM.out.blk 6
    go_wp2
    clear zBM_0 zBM_1 zBM_2 zBM_3 zBM_4 zBM_5 zBM_6 zBM_7 zBM_8 zBM_9 zBK3_0 zBK3_1 zBK3_2 zBK3_3 fBM_6
    refine gen_cell gm 6 ?_
    intro c CE wn hwn
    have V1 := Aside0.mk (hwn ▸ V.out.setAcc c)
    have B3 := Aside0.mk (hwn ▸ Evt.Bk.oth BK3.out (gset w4 gm 6 (.bool c)) (Blk.ne_ BK3.out.blk V.out.bm.blk (by decide)))
    have HB0 := HB
    have W0 : Aside0 ((w4).grownBy wn (some gm)) := ⟨hwn ▸ gset _ _ _ _⟩
    have EQ : Aside0 (c = ac) := ⟨by rw [← CE.out, ← AE.out, M1.out]; cases x <;> rfl⟩
    clear V RI SB BM BK3 HB hwn CE
    have HB := Aside0.mk (Below.refl wn.heap.size wn)
    have BM : Aside0 (Bk wn gm 83 #[.slice AC l.length cC, .slice AI li.length cI, .slice AQ q.length cQ, .slice AM m.length cM, .slice (some ⟨gE, 0, none⟩) e.length cE, .int .i64 pc, .bool c, .slice AL st.length cL, .bool ended, .int .i64 fault]) := Aside0.mk (V1.out.bm)
    have BK3 : Aside0 (Bk wn g3 66 #[.int .i64 k, .int .i64 a, .int .i64 b, .int .i64 (i : Nat)]) := Aside0.mk (B3.out)
    obtain ⟨zBM_0, zBM_1, zBM_2, zBM_3, zBM_4, zBM_5, zBM_6, zBM_7, zBM_8, zBM_9⟩ := BM.out.c10
    obtain ⟨zBK3_0, zBK3_1, zBK3_2, zBK3_3⟩ := BK3.out.c4
    have KP := Aside0.mk (fun w' (hb : Below wn.heap.size wn w') => And.intro ((BM.out.below hb).c10) ((BK3.out.below hb).c4))
    clear zBM_0 zBM_1 zBM_2 zBM_3 zBM_4 zBM_5 zBM_6 zBM_7 zBM_8 zBM_9 zBK3_0 zBK3_1 zBK3_2 zBK3_3
    refine Evt.ol_start (ds := [13]) (w0 := wn) (T := (true, [([], []), ([], []), ([1], [1]), ([2], [2]), ([3], [3]), ([4], [4]), ([], []), ([6], [6]), ([], []), ([5, 7, 8], [5, 7, 8]), ([0, 0, 1, 2, 3, 4, 5, 6, 7, 8, 9], [0]), ([10, 0, 1, 2, 3, 4, 5, 6, 7, 8, 9], [10]), ([11, 0, 1, 2, 3, 4, 5, 6, 7, 8, 9], [11]), ([12, 9, 9, 0, 1, 2, 3, 4, 5, 6, 7, 8, 9], [9, 12])])) (B := [0, 0, 2, 6, 14, 30, 0, 64, 0, 510, 1023, 2047, 4095, 8191]) 14 [(0, some 67), (1, some 68), (2, some 69), (3, some 70), (4, some 71), (5, some 72), (6, some 73), (7, some 74), (8, some 75), (9, some 76), (10, some 77), (11, some 78), (12, some 79), (13, none)] (by kernel_rfl) rfl (by kernel_rfl) (by kernel_rfl) (by kernel_rfl) (by repeat (first | (with_reducible first | exact Below.refl _ _ | apply below_alloc | apply pw_below_drewN | apply below_drew1) | exact Below.refl _ _)) ?_
    intro HT_ HW_ w_ hHeld
    iterate 9 (first | (refine Evt.ol_off (a' := ?_) HT_ rfl rfl (by rfl) (by kernel_rfl) (fun _ _ _ h => h) ?_ ?_; rotate_left; (· (try simp only [Act.put, List.setIfInBounds_toArray, List.set_cons_zero, List.set_cons_succ, i64_w, i32_w]); rfl)) | (refine Evt.ol_pure (a' := ?_) (v := ?_) HT_ rfl rfl rfl (by rfl) (by kernel_rfl) (fun _ _ _ h => h) ?_ ?_ ?_; rotate_left 2; (· intro w'; go_simp; with_reducible rfl); (· (try simp only [Act.put, List.setIfInBounds_toArray, List.set_cons_zero, List.set_cons_succ, i64_w, i32_w]); rfl)) | (refine Evt.ol_load (a' := ?_) (v := ?_) HT_ HW_ hHeld rfl rfl rfl (by rfl) (by kernel_rfl) (fun _ _ _ h => h) ?_ ?_ ?_; rotate_left 2; (· intro w' hS_; obtain ⟨⟨s0, s1, s2, s3, s4, s5, s6, s7, s8, s9⟩, ⟨s10, s11, s12, s13⟩⟩ := KP.out w' hS_.out; go_simp; with_reducible rfl); (· (try simp only [Act.put, List.setIfInBounds_toArray, List.set_cons_zero, List.set_cons_succ, i64_w, i32_w]); rfl)))
    refine Evt.ol_callg HT_ hHeld rfl rfl (by simp) rfl Try.func75 (by kernel_rfl) rfl #[.slice (some ⟨gE, 0, none⟩) e.length cE, .int .i64 (i : Nat), .bool _] (by kernel_rfl) (by rfl) (by (try simp only [List.map_toArray, List.map_cons, List.map_nil]); first | done | rfl | (simp only [List.length_drop, List.length_take]; rfl)) ?_
    (with_reducible refine (setR _ (Rw.of_R (V1.out.below hHeld.out).re) le hi _).mono ?_)
    rintro e_ w_ ⟨X, x0, rfl, hr_, hb_⟩
    have RN := Aside0.mk (Kd.R_lower hr_ (show wn.heap.size ≤ _ from hHeld.out.size)); clear hr_
    refine ⟨_, rfl, hb_, fun hHeld_ => ?_⟩
    clear hHeld hb_
    have hHeld := hHeld_
    clear hHeld_
    refine Evt.ol_norm (a' := ?_) ?_ ?_
    rotate_left
    · simp only [Act.put, List.setIfInBounds_toArray, List.set_cons_zero, List.set_cons_succ, i64_w, i32_w]; rfl
    iterate 3 (first | (refine Evt.ol_off (a' := ?_) HT_ rfl rfl (by rfl) (by kernel_rfl) (fun _ _ _ h => h) ?_ ?_; rotate_left; (· (try simp only [Act.put, List.setIfInBounds_toArray, List.set_cons_zero, List.set_cons_succ, i64_w, i32_w]); rfl)) | (refine Evt.ol_pure (a' := ?_) (v := ?_) HT_ rfl rfl rfl (by rfl) (by kernel_rfl) (fun _ _ _ h => h) ?_ ?_ ?_; rotate_left 2; (· intro w'; go_simp; with_reducible rfl); (· (try simp only [Act.put, List.setIfInBounds_toArray, List.set_cons_zero, List.set_cons_succ, i64_w, i32_w]); rfl)) | (refine Evt.ol_load (a' := ?_) (v := ?_) HT_ HW_ hHeld rfl rfl rfl (by rfl) (by kernel_rfl) (fun _ _ _ h => h) ?_ ?_ ?_; rotate_left 2; (· intro w' hS_; obtain ⟨⟨s0, s1, s2, s3, s4, s5, s6, s7, s8, s9⟩, ⟨s10, s11, s12, s13⟩⟩ := KP.out w' hS_.out; go_simp; with_reducible rfl); (· (try simp only [Act.put, List.setIfInBounds_toArray, List.set_cons_zero, List.set_cons_succ, i64_w, i32_w]); rfl)))
    have BMn := BM.out.below hHeld.out
    have zf : w_.frozen? ⟨gm, 4, none⟩ = false := blk_frozen BMn.blk 4
    have zc : w_.cell? ⟨gm, 4, none⟩ = some (.slice (some ⟨gE, 0, none⟩) e.length cE) := BMn.blk.cell 4 rfl
    refine Evt.ol_rancell HT_ rfl rfl (by simp) (by kernel_rfl) (by rfl) BMn 4 (.slice X e.length x0) ?hrun ?_
    case hrun => (first | (go_simp; done) | (go_simp; rfl))
    intro w9 bz_ hg_
    have hw_ := hHeld.out
    first | (have SR : Aside0 (Srp wn base V gm l li ⟨q, m, e.set i true, pc, ac, st, ended, fault⟩ w9) := ⟨EQ.out ▸ V1.out.turn (s' := ⟨q, m, e.set i true, pc, c, st, ended, fault⟩) hw_ hg_ bz_ (RowOk.old V1.out.rq hw_) (RowOk.old V1.out.rm hw_) (RowOk.new RN.out V1.out.hbase) (RowOk.old V1.out.rl hw_) ⟨V1.out.fit.q, V1.out.fit.m, by simpa using le, V1.out.fit.i, V1.out.fit.c, V1.out.fit.p0, V1.out.fit.p1⟩ V1.out.sl⟩) | (have SR : Aside0 (Srp wn base V gm l li ⟨q, m, e.set i false, pc, ac, st, ended, fault⟩ w9) := ⟨EQ.out ▸ V1.out.turn (s' := ⟨q, m, e.set i false, pc, c, st, ended, fault⟩) hw_ hg_ bz_ (RowOk.old V1.out.rq hw_) (RowOk.old V1.out.rm hw_) (RowOk.new RN.out V1.out.hbase) (RowOk.old V1.out.rl hw_) ⟨V1.out.fit.q, V1.out.fit.m, by simpa using le, V1.out.fit.i, V1.out.fit.c, V1.out.fit.p0, V1.out.fit.p1⟩ V1.out.sl⟩)
    clear bz_ hg_ zf zc BMn hw_ hHeld RN V1 B3 BM BK3 HB
    refine Evt.ol_done HT_ (by kernel_rfl) ?_
    clear HT_ HW_
    go_wp2
    go_ret
    exact ⟨rfl, Srp.from HB0.out (Srp.pre W0.out VM.out SR.out)⟩
end
end
end Go.Proofs.Ytjohdkbciafpfaa.Vm6
