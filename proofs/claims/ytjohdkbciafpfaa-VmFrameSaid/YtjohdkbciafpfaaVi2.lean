/- Chapter 06: rise and fall, walked. -/
import Derived.Test.YtjohdkbciafpfaaVi1
import Derived.Test.YtjohdkbciafpfaaOl
namespace Go.Proofs.Ytjohdkbciafpfaa.Vm6
open Go.RowKit Go.Proofs.YtjohdkbciafpfaaW.PrintWords Go.Proofs.YtjohdkbciafpfaaW.PrintMore Go.Proofs.YtjohdkbciafpfaaW.PrintLast Go.Proofs.Ytjohdkbciafpfaa.Chg Go.Proofs.Ytjohdkbciafpfaa.Evt Go.Proofs.Ytjohdkbciafpfaa.Impl
set_option linter.unusedVariables false
set_option linter.unusedSimpArgs false
set_option maxRecDepth 100000
section
variable {w w' : World} {base : Nat} {U : Nat → Prop} {gm gt mo : Nat} {vC vI vQ vM vE vL : Value} {l : List S66} {li : List Bool} {s : MS} {k a b j : Int}
theorem getC {A : Option Addr} {c : Nat} {l : List Bool} {w : World} (j : Int) (h : Rw Kd.bool w A c l) {v : Bool} {e : Int} (hr : (if 0 ≤ j ∧ j < l.length then (rdOf false l j, (0 : Int)) else (false, 3)) = (v, e)) :
    Calls Try.prog 44 #[.slice A l.length c, .int .i64 j] w fun x w' => x = .returned (.tuple #[.bool v, .int .i64 e]) ∧ Below w.heap.size w w' :=
  (image_Get.calls A c l j v e w h.row h.cap (by rw [getP, hr])).mono fun x w' ⟨hx, hd⟩ => by
    obtain ⟨n, rfl⟩ := hd.out
    exact ⟨hx, pw_below_drewN (Below.refl _ _) n⟩
/-- A bit of the history is written in place. -/
theorem Vm.setE {gE cE : Nat} (h : Vm w base U gm gt vC vI vQ vM (.slice (some ⟨gE, 0, none⟩) s.e.length cE) vL mo l li s) (i : Nat) (v : Bool) : Vm (w.setCell ⟨gE, i, none⟩ (.bool v)) base U gm gt vC vI vQ vM (.slice (some ⟨gE, 0, none⟩) s.e.length cE) vL mo l li { s with e := s.e.set i v } ∧ Chg (· = gE) w (w.setCell ⟨gE, i, none⟩ (.bool v)) := by
  have hC : Chg (fun x => x = gE) w (w.setCell ⟨gE, i, none⟩ (.bool v)) := (Chg.refl (fun x => x = gE) w).setCell (p := ⟨gE, i, none⟩) (.inl rfl) _
  have own : (Value.slice (some ⟨gE, 0, none⟩) s.e.length cE).ownBlock = some gE := by simp [Value.ownBlock]
  have ty : ∀ {g : Nat} {T : TypeId} {cs : Array Value}, Blk w g T cs → 4 ≠ T → g ≠ gE := fun hb hne e => Kd.R_ne h.re hb hne (by rw [own, e])
  refine ⟨{ h with
    bm := ⟨h.bm.blk.far (ty h.bm.blk (by decide)) _⟩
    st := h.st.chg hC (ty h.st.blk (by decide)) (fun k hk e => h.el gE own (by rw [← e]; exact hk.symm))
    rc := turned_chg rfl h.rc hC (fun k hk e => ?_)
    ri := turned_chg rfl h.ri hC (fun k hk e => h.ei gE own (by rw [← e]; exact hk))
    rq := turned_chg rfl h.rq hC (fun k hk e => h.eq gE own (by rw [← e]; exact hk))
    rm := turned_chg rfl h.rm hC (fun k hk e => h.em gE own (by rw [← e]; exact hk))
    re := ?_
    ub := fun k hk => ⟨(h.ub k hk).1, Nat.lt_of_lt_of_le (h.ub k hk).2 hC.size⟩
    fit := { h.fit with e := by simpa using h.fit.e } }, hC⟩
  · subst e
    obtain ⟨inner, ho⟩ := Kd.R_own h.re
    obtain ⟨cells, hc⟩ := own_typed ho k own
    exact Kd.R_ne h.rc hc (by decide) hk.symm
  · have := Kd.R_put (enc := Value.bool) (h1 := fun _ => rfl) h.re (i : Int) v
    rw [Int.toNat_natCast] at this
    exact this.1
theorem Vm.stpE {gE cE : Nat} {v c c' : Bool} {i : Nat} {q m e st : List Bool} {pc fault : Int} {acc ended : Bool} (h : Vm w base U gm gt vC vI vQ vM (.slice (some ⟨gE, 0, none⟩) e.length cE) vL mo l li ⟨q, m, e, pc, acc, st, ended, fault⟩) (hw : w.setCell ⟨gE, i, none⟩ (.bool v) = w') (hc : c' = c) :
    Stp w base U gm l li ⟨q, m, e.set i v, pc, c', st, ended, fault⟩ (w'.setCell ⟨gm, 6, none⟩ (.bool c)) := by
  subst hw hc
  obtain ⟨h1, h2⟩ := Vm.setE (s := ⟨q, m, e, pc, acc, st, ended, fault⟩) h i v
  have h3 := h1.setAcc c'
  refine ⟨U, ⟨_, _, _, _, _, _, _, _, h3⟩, ?_, fun _ h => .inl h⟩
  have hU : U gE := h.re.1 gE (by simp [Value.ownBlock])
  exact ((h2.mono (S' := U) (fun i hi => by subst hi; exact hU))).setCell (p := ⟨gm, 6, none⟩) (.inl h.um) _
section
variable {q m e st : List Bool} {pc fault : Int} {acc ended : Bool}
set_option maxHeartbeats 4000000 in
theorem edge_err (h : Vm w base U gm gt vC vI vQ vM vE vL mo l li ⟨q, m, e, pc, acc, st, ended, fault⟩) {v : Bool} {er : Int} (hr : rdv li q m a b = (v, er)) (he : er ≠ 0) :
    Calls Try.prog 63 #[.pointer (some ⟨gm, 0, none⟩), .agg #[.int .i64 k, .int .i64 a, .int .i64 b, .int .i64 j]] w fun x w' => x = .returned (.int .i64 er) ∧ Stp w base U gm l li ⟨q, m, e, pc, acc, st, ended, fault⟩ w' := by
  obtain ⟨AC, cC, AI, cI, AQ, cQ, AM, cM, AE, cE, rfl, rfl, rfl, rfl, rfl⟩ := h.forms
  have HR := Aside0.mk hr
  have t0 : decide (er = 0) = false := decide_eq_false he
  have t1 : (er == 0) = false := beq_eq_false_iff_ne.mpr he
  have t2 : (er != 0) = true := bne_iff_ne.mpr he
  have HB := Aside0.mk (Below.refl w.heap.size w)
  have V := Aside0.mk (h)
  have RI := Aside0.mk (Rw.of_R h.ri)
  have SB := Aside0.mk (h.sb)
  have BM : Aside0 (Bk w gm 98 #[.slice AC l.length cC, .slice AI li.length cI, .slice AQ q.length cQ, .slice AM m.length cM, .slice AE e.length cE, .int .i64 pc, .bool acc, .pointer (some ⟨gt, 0, none⟩), .bool ended, .int .i64 fault]) := Aside0.mk (h.bm)
  clear h hr he
  obtain ⟨zBM_0, zBM_1, zBM_2, zBM_3, zBM_4, zBM_5, zBM_6, zBM_7, zBM_8, zBM_9⟩ := BM.out.c10
  go_enter Try.func63, Try.ntmps63
  go_wp2_with (((with_reducible refine gate_dst (N := 3) rfl ?_); refine box_event ?hg (N := 3) ?hd (cs := #[.int .i64 k, .int .i64 a, .int .i64 b, .int .i64 j]) (t := 66) ?hr ?_; (case hd => rfl); (case hg => rfl); (case hr => first | (go_simp; done) | (go_simp; rfl)); intro g3 hg w1 hbox hb; have hbx : Below w.heap.size w w1 := below_step (by repeat (first | (with_reducible first | exact Below.refl _ _ | apply below_alloc | apply pw_below_drewN | apply below_drew1) | exact Below.refl _ _)) hb; clear zBM_0 zBM_1 zBM_2 zBM_3 zBM_4 zBM_5 zBM_6 zBM_7 zBM_8 zBM_9; replace V := Aside0.mk (V.out.below hbx); replace RI := Aside0.mk (RI.out.below hbx); replace SB := Aside0.mk (SB.out.below hbx); replace BM := Aside0.mk (BM.out.below hbx); replace HB := Aside0.mk (below_step HB.out hbx); clear hbx; have BK3 := Aside0.mk (Bk.mk (hbox : Blk w1 g3 66 #[.int .i64 k, .int .i64 a, .int .i64 b, .int .i64 j])); clear hbox hg hb; obtain ⟨zBM_0, zBM_1, zBM_2, zBM_3, zBM_4, zBM_5, zBM_6, zBM_7, zBM_8, zBM_9⟩ := BM.out.c10; obtain ⟨zBK3_0, zBK3_1, zBK3_2, zBK3_3⟩ := BK3.out.c4))
  have KP := Aside0.mk (fun w' (hb : Below w1.heap.size w1 w') => And.intro ((BM.out.below hb).c10) ((BK3.out.below hb).c4))
  clear zBM_0 zBM_1 zBM_2 zBM_3 zBM_4 zBM_5 zBM_6 zBM_7 zBM_8 zBM_9 zBK3_0 zBK3_1 zBK3_2 zBK3_3
  refine Evt.ow_start (w0 := w1) (T := (true, [([], []), ([0], [0]), ([1], [1]), ([2], [2]), ([], []), ([4], [4]), ([5], [5]), ([6], [6]), ([], []), ([8], [8]), ([3, 7, 9], [3, 7, 9]), ([10], [10]), ([11], [11]), ([11], [11]), ([12, 10, 0, 1, 2, 3, 4, 5, 6, 7, 8, 9, 10, 11, 12], [12]), ([13, 14, 0, 1, 2, 3, 4, 5, 6, 7, 8, 9, 10, 11, 12, 13, 14], [13])])) (B := [0, 1, 3, 7, 0, 16, 48, 112, 0, 256, 1023, 2047, 4095, 4095, 8191, 32767]) 16 [(0, some 9), (1, some 10), (2, some 11), (4, some 13), (5, some 14), (6, some 15), (8, some 17), (3, some 12), (7, some 16), (9, some 18), (10, some 19), (11, some 8), (12, some 20), (13, some 21), (14, some 5), (15, some 6)] (by kernel_rfl) rfl (by kernel_rfl) (by kernel_rfl) (by kernel_rfl) (by repeat (first | (with_reducible first | exact Below.refl _ _ | apply below_alloc | apply pw_below_drewN | apply below_drew1) | exact Below.refl _ _)) ?_
  intro HT_ HW_ w_ hHeld
  iterate 10 (first | (refine Evt.ow_off (a' := ?_) HT_ rfl rfl (by rfl) (by kernel_rfl) (fun _ _ _ h => h) ?_ ?_; rotate_left; (· (try simp only [Act.put, List.setIfInBounds_toArray, List.set_cons_zero, List.set_cons_succ, i64_w, i32_w]); rfl)) | (refine Evt.ow_pure (a' := ?_) (v := ?_) HT_ rfl rfl rfl (by rfl) (by kernel_rfl) (fun _ _ _ h => h) ?_ ?_ ?_; rotate_left 2; (· intro w'; go_simp; with_reducible rfl); (· (try simp only [Act.put, List.setIfInBounds_toArray, List.set_cons_zero, List.set_cons_succ, i64_w, i32_w]); rfl)) | (refine Evt.ow_load (a' := ?_) (v := ?_) HT_ HW_ hHeld rfl rfl rfl (by rfl) (by kernel_rfl) (fun _ _ _ h => h) ?_ ?_ ?_; rotate_left 2; (· intro w' hS_; obtain ⟨⟨s0, s1, s2, s3, s4, s5, s6, s7, s8, s9⟩, ⟨s10, s11, s12, s13⟩⟩ := KP.out w' hS_.out; go_simp; with_reducible rfl); (· (try simp only [Act.put, List.setIfInBounds_toArray, List.set_cons_zero, List.set_cons_succ, i64_w, i32_w]); rfl)))
  refine Evt.ow_call HT_ hHeld rfl rfl rfl (by kernel_rfl) Try.func18 (by kernel_rfl) rfl #[.slice AI li.length cI, .agg #[.slice AQ q.length cQ, .slice AM m.length cM, .slice AE e.length cE], .agg #[.int .i64 a, .int .i64 b]] (by rfl) (by (try simp only [List.map_toArray, List.map_cons, List.map_nil]); first | done | rfl | (simp only [List.length_drop, List.length_take]; rfl)) ?_
  (with_reducible refine (readC' a b (RI.out.below hHeld.out) (SB.out.below hHeld.out) HR.out).mono ?_)
  rintro e w_ ⟨rfl, hb⟩
  refine ⟨_, rfl, hb, fun hHeld_ => ?_⟩
  clear hHeld hb
  have hHeld := hHeld_
  clear hHeld_
  refine Evt.ow_norm (a' := ?_) ?_ ?_
  rotate_left
  · simp only [Act.put, List.setIfInBounds_toArray, List.set_cons_zero, List.set_cons_succ, i64_w, i32_w]; rfl
  iterate 5 (first | (refine Evt.ow_off (a' := ?_) HT_ rfl rfl (by rfl) (by kernel_rfl) (fun _ _ _ h => h) ?_ ?_; rotate_left; (· (try simp only [Act.put, List.setIfInBounds_toArray, List.set_cons_zero, List.set_cons_succ, i64_w, i32_w]); rfl)) | (refine Evt.ow_pure (a' := ?_) (v := ?_) HT_ rfl rfl rfl (by rfl) (by kernel_rfl) (fun _ _ _ h => h) ?_ ?_ ?_; rotate_left 2; (· intro w'; go_simp; with_reducible rfl); (· (try simp only [Act.put, List.setIfInBounds_toArray, List.set_cons_zero, List.set_cons_succ, i64_w, i32_w]); rfl)) | (refine Evt.ow_load (a' := ?_) (v := ?_) HT_ HW_ hHeld rfl rfl rfl (by rfl) (by kernel_rfl) (fun _ _ _ h => h) ?_ ?_ ?_; rotate_left 2; (· intro w' hS_; obtain ⟨⟨s0, s1, s2, s3, s4, s5, s6, s7, s8, s9⟩, ⟨s10, s11, s12, s13⟩⟩ := KP.out w' hS_.out; go_simp; with_reducible rfl); (· (try simp only [Act.put, List.setIfInBounds_toArray, List.set_cons_zero, List.set_cons_succ, i64_w, i32_w]); rfl)))
  refine Evt.ow_done HT_ (by kernel_rfl) ?_
  refine Evt.gen_any (w0 := w1) hHeld.out ?_
  intro w2 hbx
  clear hHeld HT_ HW_ KP
  replace V := Aside0.mk (V.out.below hbx)
  replace RI := Aside0.mk (RI.out.below hbx)
  replace SB := Aside0.mk (SB.out.below hbx)
  replace BM := Aside0.mk (BM.out.below hbx)
  replace BK3 := Aside0.mk (BK3.out.below hbx)
  replace HB := Aside0.mk (below_step HB.out hbx)
  clear hbx
  obtain ⟨zBM_0, zBM_1, zBM_2, zBM_3, zBM_4, zBM_5, zBM_6, zBM_7, zBM_8, zBM_9⟩ := BM.out.c10
  obtain ⟨zBK3_0, zBK3_1, zBK3_2, zBK3_3⟩ := BK3.out.c4
  go_wp2
  go_ret
  exact ⟨rfl, (Stp.here ⟨_, _, _, _, _, _, _, _, V.out⟩).from HB.out⟩
set_option maxHeartbeats 4000000 in
theorem edge_out (h : Vm w base U gm gt vC vI vQ vM vE vL mo l li ⟨q, m, e, pc, acc, st, ended, fault⟩) {v : Bool} (hr : rdv li q m a b = (v, 0)) (hj : ¬ (0 ≤ j ∧ j < e.length)) :
    Calls Try.prog 63 #[.pointer (some ⟨gm, 0, none⟩), .agg #[.int .i64 k, .int .i64 a, .int .i64 b, .int .i64 j]] w fun x w' => x = .returned (.int .i64 3) ∧ Stp w base U gm l li ⟨q, m, e, pc, acc, st, ended, fault⟩ w' := by
  obtain ⟨AC, cC, AI, cI, AQ, cQ, AM, cM, AE, cE, rfl, rfl, rfl, rfl, rfl⟩ := h.forms
  have HR := Aside0.mk hr
  have HG := Aside0.mk (show (if 0 ≤ j ∧ j < e.length then (rdOf false e j, (0 : Int)) else (false, 3)) = (false, 3) from if_neg hj)
  have HB := Aside0.mk (Below.refl w.heap.size w)
  have V := Aside0.mk (h)
  have RI := Aside0.mk (Rw.of_R h.ri)
  have RE := Aside0.mk (Rw.of_R h.re)
  have SB := Aside0.mk (h.sb)
  have BM : Aside0 (Bk w gm 98 #[.slice AC l.length cC, .slice AI li.length cI, .slice AQ q.length cQ, .slice AM m.length cM, .slice AE e.length cE, .int .i64 pc, .bool acc, .pointer (some ⟨gt, 0, none⟩), .bool ended, .int .i64 fault]) := Aside0.mk (h.bm)
  clear h hr hj
  obtain ⟨zBM_0, zBM_1, zBM_2, zBM_3, zBM_4, zBM_5, zBM_6, zBM_7, zBM_8, zBM_9⟩ := BM.out.c10
  go_enter Try.func63, Try.ntmps63
  go_wp2_with (((with_reducible refine gate_dst (N := 3) rfl ?_); refine box_event ?hg (N := 3) ?hd (cs := #[.int .i64 k, .int .i64 a, .int .i64 b, .int .i64 j]) (t := 66) ?hr ?_; (case hd => rfl); (case hg => rfl); (case hr => first | (go_simp; done) | (go_simp; rfl)); intro g3 hg w1 hbox hb; have hbx : Below w.heap.size w w1 := below_step (by repeat (first | (with_reducible first | exact Below.refl _ _ | apply below_alloc | apply pw_below_drewN | apply below_drew1) | exact Below.refl _ _)) hb; clear zBM_0 zBM_1 zBM_2 zBM_3 zBM_4 zBM_5 zBM_6 zBM_7 zBM_8 zBM_9; replace V := Aside0.mk (V.out.below hbx); replace RI := Aside0.mk (RI.out.below hbx); replace RE := Aside0.mk (RE.out.below hbx); replace SB := Aside0.mk (SB.out.below hbx); replace BM := Aside0.mk (BM.out.below hbx); replace HB := Aside0.mk (below_step HB.out hbx); clear hbx; have BK3 := Aside0.mk (Bk.mk (hbox : Blk w1 g3 66 #[.int .i64 k, .int .i64 a, .int .i64 b, .int .i64 j])); clear hbox hg hb; obtain ⟨zBM_0, zBM_1, zBM_2, zBM_3, zBM_4, zBM_5, zBM_6, zBM_7, zBM_8, zBM_9⟩ := BM.out.c10; obtain ⟨zBK3_0, zBK3_1, zBK3_2, zBK3_3⟩ := BK3.out.c4))
  have KP := Aside0.mk (fun w' (hb : Below w1.heap.size w1 w') => And.intro ((BM.out.below hb).c10) ((BK3.out.below hb).c4))
  clear zBM_0 zBM_1 zBM_2 zBM_3 zBM_4 zBM_5 zBM_6 zBM_7 zBM_8 zBM_9 zBK3_0 zBK3_1 zBK3_2 zBK3_3
  refine Evt.ow_start (w0 := w1) (T := (true, [([], []), ([0], [0]), ([1], [1]), ([2], [2]), ([], []), ([4], [4]), ([5], [5]), ([6], [6]), ([], []), ([8], [8]), ([3, 7, 9], [3, 7, 9]), ([10], [10]), ([11], [11]), ([11], [11]), ([12, 10, 0, 1, 2, 3, 4, 5, 6, 7, 8, 9, 10, 11, 12], [12]), ([13, 14, 0, 1, 2, 3, 4, 5, 6, 7, 8, 9, 10, 11, 12, 13, 14], [13])])) (B := [0, 1, 3, 7, 0, 16, 48, 112, 0, 256, 1023, 2047, 4095, 4095, 8191, 32767]) 16 [(0, some 9), (1, some 10), (2, some 11), (4, some 13), (5, some 14), (6, some 15), (8, some 17), (3, some 12), (7, some 16), (9, some 18), (10, some 19), (11, some 8), (12, some 20), (13, some 21), (14, some 5), (15, some 6)] (by kernel_rfl) rfl (by kernel_rfl) (by kernel_rfl) (by kernel_rfl) (by repeat (first | (with_reducible first | exact Below.refl _ _ | apply below_alloc | apply pw_below_drewN | apply below_drew1) | exact Below.refl _ _)) ?_
  intro HT_ HW_ w_ hHeld
  iterate 10 (first | (refine Evt.ow_off (a' := ?_) HT_ rfl rfl (by rfl) (by kernel_rfl) (fun _ _ _ h => h) ?_ ?_; rotate_left; (· (try simp only [Act.put, List.setIfInBounds_toArray, List.set_cons_zero, List.set_cons_succ, i64_w, i32_w]); rfl)) | (refine Evt.ow_pure (a' := ?_) (v := ?_) HT_ rfl rfl rfl (by rfl) (by kernel_rfl) (fun _ _ _ h => h) ?_ ?_ ?_; rotate_left 2; (· intro w'; go_simp; with_reducible rfl); (· (try simp only [Act.put, List.setIfInBounds_toArray, List.set_cons_zero, List.set_cons_succ, i64_w, i32_w]); rfl)) | (refine Evt.ow_load (a' := ?_) (v := ?_) HT_ HW_ hHeld rfl rfl rfl (by rfl) (by kernel_rfl) (fun _ _ _ h => h) ?_ ?_ ?_; rotate_left 2; (· intro w' hS_; obtain ⟨⟨s0, s1, s2, s3, s4, s5, s6, s7, s8, s9⟩, ⟨s10, s11, s12, s13⟩⟩ := KP.out w' hS_.out; go_simp; with_reducible rfl); (· (try simp only [Act.put, List.setIfInBounds_toArray, List.set_cons_zero, List.set_cons_succ, i64_w, i32_w]); rfl)))
  refine Evt.ow_call HT_ hHeld rfl rfl rfl (by kernel_rfl) Try.func18 (by kernel_rfl) rfl #[.slice AI li.length cI, .agg #[.slice AQ q.length cQ, .slice AM m.length cM, .slice AE e.length cE], .agg #[.int .i64 a, .int .i64 b]] (by rfl) (by (try simp only [List.map_toArray, List.map_cons, List.map_nil]); first | done | rfl | (simp only [List.length_drop, List.length_take]; rfl)) ?_
  (with_reducible refine (readC' a b (RI.out.below hHeld.out) (SB.out.below hHeld.out) HR.out).mono ?_)
  rintro e w_ ⟨rfl, hb⟩
  refine ⟨_, rfl, hb, fun hHeld_ => ?_⟩
  clear hHeld hb
  have hHeld := hHeld_
  clear hHeld_
  refine Evt.ow_norm (a' := ?_) ?_ ?_
  rotate_left
  · simp only [Act.put, List.setIfInBounds_toArray, List.set_cons_zero, List.set_cons_succ, i64_w, i32_w]; rfl
  iterate 5 (first | (refine Evt.ow_off (a' := ?_) HT_ rfl rfl (by rfl) (by kernel_rfl) (fun _ _ _ h => h) ?_ ?_; rotate_left; (· (try simp only [Act.put, List.setIfInBounds_toArray, List.set_cons_zero, List.set_cons_succ, i64_w, i32_w]); rfl)) | (refine Evt.ow_pure (a' := ?_) (v := ?_) HT_ rfl rfl rfl (by rfl) (by kernel_rfl) (fun _ _ _ h => h) ?_ ?_ ?_; rotate_left 2; (· intro w'; go_simp; with_reducible rfl); (· (try simp only [Act.put, List.setIfInBounds_toArray, List.set_cons_zero, List.set_cons_succ, i64_w, i32_w]); rfl)) | (refine Evt.ow_load (a' := ?_) (v := ?_) HT_ HW_ hHeld rfl rfl rfl (by rfl) (by kernel_rfl) (fun _ _ _ h => h) ?_ ?_ ?_; rotate_left 2; (· intro w' hS_; obtain ⟨⟨s0, s1, s2, s3, s4, s5, s6, s7, s8, s9⟩, ⟨s10, s11, s12, s13⟩⟩ := KP.out w' hS_.out; go_simp; with_reducible rfl); (· (try simp only [Act.put, List.setIfInBounds_toArray, List.set_cons_zero, List.set_cons_succ, i64_w, i32_w]); rfl)))
  refine Evt.ow_done HT_ (by kernel_rfl) ?_
  refine Evt.gen_any (w0 := w1) hHeld.out ?_
  intro w2 hbx
  clear hHeld HT_ HW_ KP
  replace V := Aside0.mk (V.out.below hbx)
  replace RI := Aside0.mk (RI.out.below hbx)
  replace RE := Aside0.mk (RE.out.below hbx)
  replace SB := Aside0.mk (SB.out.below hbx)
  replace BM := Aside0.mk (BM.out.below hbx)
  replace BK3 := Aside0.mk (BK3.out.below hbx)
  replace HB := Aside0.mk (below_step HB.out hbx)
  clear hbx
  obtain ⟨zBM_0, zBM_1, zBM_2, zBM_3, zBM_4, zBM_5, zBM_6, zBM_7, zBM_8, zBM_9⟩ := BM.out.c10
  obtain ⟨zBK3_0, zBK3_1, zBK3_2, zBK3_3⟩ := BK3.out.c4
  go_wp2
  have KP := Aside0.mk (fun w' (hb : Below w2.heap.size w2 w') => And.intro ((BM.out.below hb).c10) ((BK3.out.below hb).c4))
  clear zBM_0 zBM_1 zBM_2 zBM_3 zBM_4 zBM_5 zBM_6 zBM_7 zBM_8 zBM_9 zBK3_0 zBK3_1 zBK3_2 zBK3_3
  refine Evt.ow_start (w0 := w2) (T := (true, [([], []), ([0], [0]), ([1], [1]), ([2], [2]), ([3], [3]), ([], []), ([5], [5]), ([4, 6], [4, 6]), ([7], [7]), ([8], [8]), ([8], [8]), ([9, 7, 0, 1, 2, 3, 4, 5, 6, 7, 8, 9], [9]), ([10, 11, 0, 1, 2, 3, 4, 5, 6, 7, 8, 9, 10, 11], [10])])) (B := [0, 1, 3, 7, 15, 0, 32, 127, 255, 511, 511, 1023, 4095]) 13 [(0, some 26), (1, some 27), (2, some 28), (3, some 29), (5, some 31), (4, some 30), (6, some 32), (7, some 33), (8, some 25), (9, some 34), (10, some 35), (11, some 7), (12, some 6)] (by kernel_rfl) rfl (by kernel_rfl) (by kernel_rfl) (by kernel_rfl) (by repeat (first | (with_reducible first | exact Below.refl _ _ | apply below_alloc | apply pw_below_drewN | apply below_drew1) | exact Below.refl _ _)) ?_
  intro HT_ HW_ w_ hHeld
  iterate 7 (first | (refine Evt.ow_off (a' := ?_) HT_ rfl rfl (by rfl) (by kernel_rfl) (fun _ _ _ h => h) ?_ ?_; rotate_left; (· (try simp only [Act.put, List.setIfInBounds_toArray, List.set_cons_zero, List.set_cons_succ, i64_w, i32_w]); rfl)) | (refine Evt.ow_pure (a' := ?_) (v := ?_) HT_ rfl rfl rfl (by rfl) (by kernel_rfl) (fun _ _ _ h => h) ?_ ?_ ?_; rotate_left 2; (· intro w'; go_simp; with_reducible rfl); (· (try simp only [Act.put, List.setIfInBounds_toArray, List.set_cons_zero, List.set_cons_succ, i64_w, i32_w]); rfl)) | (refine Evt.ow_load (a' := ?_) (v := ?_) HT_ HW_ hHeld rfl rfl rfl (by rfl) (by kernel_rfl) (fun _ _ _ h => h) ?_ ?_ ?_; rotate_left 2; (· intro w' hS_; obtain ⟨⟨s0, s1, s2, s3, s4, s5, s6, s7, s8, s9⟩, ⟨s10, s11, s12, s13⟩⟩ := KP.out w' hS_.out; go_simp; with_reducible rfl); (· (try simp only [Act.put, List.setIfInBounds_toArray, List.set_cons_zero, List.set_cons_succ, i64_w, i32_w]); rfl)))
  refine Evt.ow_call HT_ hHeld rfl rfl rfl (by kernel_rfl) Try.func44 (by kernel_rfl) rfl #[.slice AE e.length cE, .int .i64 j] (by rfl) (by (try simp only [List.map_toArray, List.map_cons, List.map_nil]); first | done | rfl | (simp only [List.length_drop, List.length_take]; rfl)) ?_
  (with_reducible refine (getC j (RE.out.below hHeld.out) HG.out).mono ?_)
  rintro e w_ ⟨rfl, hb⟩
  refine ⟨_, rfl, hb, fun hHeld_ => ?_⟩
  clear hHeld hb
  have hHeld := hHeld_
  clear hHeld_
  refine Evt.ow_norm (a' := ?_) ?_ ?_
  rotate_left
  · simp only [Act.put, List.setIfInBounds_toArray, List.set_cons_zero, List.set_cons_succ, i64_w, i32_w]; rfl
  iterate 5 (first | (refine Evt.ow_off (a' := ?_) HT_ rfl rfl (by rfl) (by kernel_rfl) (fun _ _ _ h => h) ?_ ?_; rotate_left; (· (try simp only [Act.put, List.setIfInBounds_toArray, List.set_cons_zero, List.set_cons_succ, i64_w, i32_w]); rfl)) | (refine Evt.ow_pure (a' := ?_) (v := ?_) HT_ rfl rfl rfl (by rfl) (by kernel_rfl) (fun _ _ _ h => h) ?_ ?_ ?_; rotate_left 2; (· intro w'; go_simp; with_reducible rfl); (· (try simp only [Act.put, List.setIfInBounds_toArray, List.set_cons_zero, List.set_cons_succ, i64_w, i32_w]); rfl)) | (refine Evt.ow_load (a' := ?_) (v := ?_) HT_ HW_ hHeld rfl rfl rfl (by rfl) (by kernel_rfl) (fun _ _ _ h => h) ?_ ?_ ?_; rotate_left 2; (· intro w' hS_; obtain ⟨⟨s0, s1, s2, s3, s4, s5, s6, s7, s8, s9⟩, ⟨s10, s11, s12, s13⟩⟩ := KP.out w' hS_.out; go_simp; with_reducible rfl); (· (try simp only [Act.put, List.setIfInBounds_toArray, List.set_cons_zero, List.set_cons_succ, i64_w, i32_w]); rfl)))
  refine Evt.ow_done HT_ (by kernel_rfl) ?_
  refine Evt.gen_any (w0 := w2) hHeld.out ?_
  intro w3 hbx
  clear hHeld HT_ HW_ KP
  replace V := Aside0.mk (V.out.below hbx)
  replace RI := Aside0.mk (RI.out.below hbx)
  replace RE := Aside0.mk (RE.out.below hbx)
  replace SB := Aside0.mk (SB.out.below hbx)
  replace BM := Aside0.mk (BM.out.below hbx)
  replace BK3 := Aside0.mk (BK3.out.below hbx)
  replace HB := Aside0.mk (below_step HB.out hbx)
  clear hbx
  obtain ⟨zBM_0, zBM_1, zBM_2, zBM_3, zBM_4, zBM_5, zBM_6, zBM_7, zBM_8, zBM_9⟩ := BM.out.c10
  obtain ⟨zBK3_0, zBK3_1, zBK3_2, zBK3_3⟩ := BK3.out.c4
  go_wp2
  go_ret
  exact ⟨rfl, (Stp.here ⟨_, _, _, _, _, _, _, _, V.out⟩).from HB.out⟩
set_option maxHeartbeats 8000000 in
theorem edge_ok (h : Vm w base U gm gt vC vI vQ vM vE vL mo l li ⟨q, m, e, pc, acc, st, ended, fault⟩) {v : Bool} (hr : rdv li q m a b = (v, 0)) (hj : 0 ≤ j ∧ j < e.length) :
    Calls Try.prog 63 #[.pointer (some ⟨gm, 0, none⟩), .agg #[.int .i64 k, .int .i64 a, .int .i64 b, .int .i64 j]] w fun x w' => x = .returned (.int .i64 0) ∧ Stp w base U gm l li ⟨q, m, e.set j.toNat v, pc, (v != rdOf false e j) && (v == (k == 6)), st, ended, fault⟩ w' := by
  obtain ⟨AC, cC, AI, cI, AQ, cQ, AM, cM, AE, cE, rfl, rfl, rfl, rfl, rfl⟩ := h.forms
  obtain ⟨i, rfl⟩ : ∃ i : Nat, j = i := ⟨j.toNat, by omega⟩
  obtain ⟨gE, cE', hE, hge, hlt, _⟩ := Kd.R_form h.re (show 0 < e.length by omega)
  injection hE with hE _ hE'
  subst hE hE'
  rw [Int.toNat_natCast]
  have HR := Aside0.mk hr
  obtain ⟨x, HX⟩ : ∃ x, Aside0 (rdOf false e (i : Int) = x) := ⟨_, ⟨rfl⟩⟩
  rw [HX.out]
  have HG := Aside0.mk (show (if 0 ≤ (i : Int) ∧ (i : Int) < e.length then (rdOf false e i, (0 : Int)) else (false, 3)) = (x, 0) from by rw [if_pos hj, HX.out])
  have i0 : decide (i < e.length) = true := decide_eq_true (by omega)
  have i1 : decide ((i : Int) < (e.length : Int)) = true := decide_eq_true (by omega)
  have HB := Aside0.mk (Below.refl w.heap.size w)
  have V := Aside0.mk (h)
  have RI := Aside0.mk (Rw.of_R h.ri)
  have RE := Aside0.mk (Rw.of_R h.re)
  have SB := Aside0.mk (h.sb)
  have BM : Aside0 (Bk w gm 98 #[.slice AC l.length cC, .slice AI li.length cI, .slice AQ q.length cQ, .slice AM m.length cM, .slice (some ⟨gE, 0, none⟩) e.length cE, .int .i64 pc, .bool acc, .pointer (some ⟨gt, 0, none⟩), .bool ended, .int .i64 fault]) := Aside0.mk (h.bm)
  clear h hr
  obtain ⟨zBM_0, zBM_1, zBM_2, zBM_3, zBM_4, zBM_5, zBM_6, zBM_7, zBM_8, zBM_9⟩ := BM.out.c10
  go_enter Try.func63, Try.ntmps63
  go_wp2_with (((with_reducible refine gate_dst (N := 3) rfl ?_); refine box_event ?hg (N := 3) ?hd (cs := #[.int .i64 k, .int .i64 a, .int .i64 b, .int .i64 i]) (t := 66) ?hr ?_; (case hd => rfl); (case hg => rfl); (case hr => first | (go_simp; done) | (go_simp; rfl)); intro g3 hg w1 hbox hb; have hbx : Below w.heap.size w w1 := below_step (by repeat (first | (with_reducible first | exact Below.refl _ _ | apply below_alloc | apply pw_below_drewN | apply below_drew1) | exact Below.refl _ _)) hb; clear zBM_0 zBM_1 zBM_2 zBM_3 zBM_4 zBM_5 zBM_6 zBM_7 zBM_8 zBM_9; replace V := Aside0.mk (V.out.below hbx); replace RI := Aside0.mk (RI.out.below hbx); replace RE := Aside0.mk (RE.out.below hbx); replace SB := Aside0.mk (SB.out.below hbx); replace BM := Aside0.mk (BM.out.below hbx); replace HB := Aside0.mk (below_step HB.out hbx); clear hbx; have BK3 := Aside0.mk (Bk.mk (hbox : Blk w1 g3 66 #[.int .i64 k, .int .i64 a, .int .i64 b, .int .i64 i])); clear hbox hg hb; obtain ⟨zBM_0, zBM_1, zBM_2, zBM_3, zBM_4, zBM_5, zBM_6, zBM_7, zBM_8, zBM_9⟩ := BM.out.c10; obtain ⟨zBK3_0, zBK3_1, zBK3_2, zBK3_3⟩ := BK3.out.c4))
  have KP := Aside0.mk (fun w' (hb : Below w1.heap.size w1 w') => And.intro ((BM.out.below hb).c10) ((BK3.out.below hb).c4))
  clear zBM_0 zBM_1 zBM_2 zBM_3 zBM_4 zBM_5 zBM_6 zBM_7 zBM_8 zBM_9 zBK3_0 zBK3_1 zBK3_2 zBK3_3
  refine Evt.ow_start (w0 := w1) (T := (true, [([], []), ([0], [0]), ([1], [1]), ([2], [2]), ([], []), ([4], [4]), ([5], [5]), ([6], [6]), ([], []), ([8], [8]), ([3, 7, 9], [3, 7, 9]), ([10], [10]), ([11], [11]), ([11], [11]), ([12, 10, 0, 1, 2, 3, 4, 5, 6, 7, 8, 9, 10, 11, 12], [12]), ([13, 14, 0, 1, 2, 3, 4, 5, 6, 7, 8, 9, 10, 11, 12, 13, 14], [13])])) (B := [0, 1, 3, 7, 0, 16, 48, 112, 0, 256, 1023, 2047, 4095, 4095, 8191, 32767]) 16 [(0, some 9), (1, some 10), (2, some 11), (4, some 13), (5, some 14), (6, some 15), (8, some 17), (3, some 12), (7, some 16), (9, some 18), (10, some 19), (11, some 8), (12, some 20), (13, some 21), (14, some 5), (15, some 6)] (by kernel_rfl) rfl (by kernel_rfl) (by kernel_rfl) (by kernel_rfl) (by repeat (first | (with_reducible first | exact Below.refl _ _ | apply below_alloc | apply pw_below_drewN | apply below_drew1) | exact Below.refl _ _)) ?_
  intro HT_ HW_ w_ hHeld
  iterate 10 (first | (refine Evt.ow_off (a' := ?_) HT_ rfl rfl (by rfl) (by kernel_rfl) (fun _ _ _ h => h) ?_ ?_; rotate_left; (· (try simp only [Act.put, List.setIfInBounds_toArray, List.set_cons_zero, List.set_cons_succ, i64_w, i32_w]); rfl)) | (refine Evt.ow_pure (a' := ?_) (v := ?_) HT_ rfl rfl rfl (by rfl) (by kernel_rfl) (fun _ _ _ h => h) ?_ ?_ ?_; rotate_left 2; (· intro w'; go_simp; with_reducible rfl); (· (try simp only [Act.put, List.setIfInBounds_toArray, List.set_cons_zero, List.set_cons_succ, i64_w, i32_w]); rfl)) | (refine Evt.ow_load (a' := ?_) (v := ?_) HT_ HW_ hHeld rfl rfl rfl (by rfl) (by kernel_rfl) (fun _ _ _ h => h) ?_ ?_ ?_; rotate_left 2; (· intro w' hS_; obtain ⟨⟨s0, s1, s2, s3, s4, s5, s6, s7, s8, s9⟩, ⟨s10, s11, s12, s13⟩⟩ := KP.out w' hS_.out; go_simp; with_reducible rfl); (· (try simp only [Act.put, List.setIfInBounds_toArray, List.set_cons_zero, List.set_cons_succ, i64_w, i32_w]); rfl)))
  refine Evt.ow_call HT_ hHeld rfl rfl rfl (by kernel_rfl) Try.func18 (by kernel_rfl) rfl #[.slice AI li.length cI, .agg #[.slice AQ q.length cQ, .slice AM m.length cM, .slice (some ⟨gE, 0, none⟩) e.length cE], .agg #[.int .i64 a, .int .i64 b]] (by rfl) (by (try simp only [List.map_toArray, List.map_cons, List.map_nil]); first | done | rfl | (simp only [List.length_drop, List.length_take]; rfl)) ?_
  (with_reducible refine (readC' a b (RI.out.below hHeld.out) (SB.out.below hHeld.out) HR.out).mono ?_)
  rintro e w_ ⟨rfl, hb⟩
  refine ⟨_, rfl, hb, fun hHeld_ => ?_⟩
  clear hHeld hb
  have hHeld := hHeld_
  clear hHeld_
  refine Evt.ow_norm (a' := ?_) ?_ ?_
  rotate_left
  · simp only [Act.put, List.setIfInBounds_toArray, List.set_cons_zero, List.set_cons_succ, i64_w, i32_w]; rfl
  iterate 5 (first | (refine Evt.ow_off (a' := ?_) HT_ rfl rfl (by rfl) (by kernel_rfl) (fun _ _ _ h => h) ?_ ?_; rotate_left; (· (try simp only [Act.put, List.setIfInBounds_toArray, List.set_cons_zero, List.set_cons_succ, i64_w, i32_w]); rfl)) | (refine Evt.ow_pure (a' := ?_) (v := ?_) HT_ rfl rfl rfl (by rfl) (by kernel_rfl) (fun _ _ _ h => h) ?_ ?_ ?_; rotate_left 2; (· intro w'; go_simp; with_reducible rfl); (· (try simp only [Act.put, List.setIfInBounds_toArray, List.set_cons_zero, List.set_cons_succ, i64_w, i32_w]); rfl)) | (refine Evt.ow_load (a' := ?_) (v := ?_) HT_ HW_ hHeld rfl rfl rfl (by rfl) (by kernel_rfl) (fun _ _ _ h => h) ?_ ?_ ?_; rotate_left 2; (· intro w' hS_; obtain ⟨⟨s0, s1, s2, s3, s4, s5, s6, s7, s8, s9⟩, ⟨s10, s11, s12, s13⟩⟩ := KP.out w' hS_.out; go_simp; with_reducible rfl); (· (try simp only [Act.put, List.setIfInBounds_toArray, List.set_cons_zero, List.set_cons_succ, i64_w, i32_w]); rfl)))
  refine Evt.ow_done HT_ (by kernel_rfl) ?_
  refine Evt.gen_any (w0 := w1) hHeld.out ?_
  intro w2 hbx
  clear hHeld HT_ HW_ KP
  replace V := Aside0.mk (V.out.below hbx)
  replace RI := Aside0.mk (RI.out.below hbx)
  replace RE := Aside0.mk (RE.out.below hbx)
  replace SB := Aside0.mk (SB.out.below hbx)
  replace BM := Aside0.mk (BM.out.below hbx)
  replace BK3 := Aside0.mk (BK3.out.below hbx)
  replace HB := Aside0.mk (below_step HB.out hbx)
  clear hbx
  obtain ⟨zBM_0, zBM_1, zBM_2, zBM_3, zBM_4, zBM_5, zBM_6, zBM_7, zBM_8, zBM_9⟩ := BM.out.c10
  obtain ⟨zBK3_0, zBK3_1, zBK3_2, zBK3_3⟩ := BK3.out.c4
  go_wp2
  have KP := Aside0.mk (fun w' (hb : Below w2.heap.size w2 w') => And.intro ((BM.out.below hb).c10) ((BK3.out.below hb).c4))
  clear zBM_0 zBM_1 zBM_2 zBM_3 zBM_4 zBM_5 zBM_6 zBM_7 zBM_8 zBM_9 zBK3_0 zBK3_1 zBK3_2 zBK3_3
  refine Evt.ow_start (w0 := w2) (T := (true, [([], []), ([0], [0]), ([1], [1]), ([2], [2]), ([3], [3]), ([], []), ([5], [5]), ([4, 6], [4, 6]), ([7], [7]), ([8], [8]), ([8], [8]), ([9, 7, 0, 1, 2, 3, 4, 5, 6, 7, 8, 9], [9]), ([10, 11, 0, 1, 2, 3, 4, 5, 6, 7, 8, 9, 10, 11], [10])])) (B := [0, 1, 3, 7, 15, 0, 32, 127, 255, 511, 511, 1023, 4095]) 13 [(0, some 26), (1, some 27), (2, some 28), (3, some 29), (5, some 31), (4, some 30), (6, some 32), (7, some 33), (8, some 25), (9, some 34), (10, some 35), (11, some 7), (12, some 6)] (by kernel_rfl) rfl (by kernel_rfl) (by kernel_rfl) (by kernel_rfl) (by repeat (first | (with_reducible first | exact Below.refl _ _ | apply below_alloc | apply pw_below_drewN | apply below_drew1) | exact Below.refl _ _)) ?_
  intro HT_ HW_ w_ hHeld
  iterate 7 (first | (refine Evt.ow_off (a' := ?_) HT_ rfl rfl (by rfl) (by kernel_rfl) (fun _ _ _ h => h) ?_ ?_; rotate_left; (· (try simp only [Act.put, List.setIfInBounds_toArray, List.set_cons_zero, List.set_cons_succ, i64_w, i32_w]); rfl)) | (refine Evt.ow_pure (a' := ?_) (v := ?_) HT_ rfl rfl rfl (by rfl) (by kernel_rfl) (fun _ _ _ h => h) ?_ ?_ ?_; rotate_left 2; (· intro w'; go_simp; with_reducible rfl); (· (try simp only [Act.put, List.setIfInBounds_toArray, List.set_cons_zero, List.set_cons_succ, i64_w, i32_w]); rfl)) | (refine Evt.ow_load (a' := ?_) (v := ?_) HT_ HW_ hHeld rfl rfl rfl (by rfl) (by kernel_rfl) (fun _ _ _ h => h) ?_ ?_ ?_; rotate_left 2; (· intro w' hS_; obtain ⟨⟨s0, s1, s2, s3, s4, s5, s6, s7, s8, s9⟩, ⟨s10, s11, s12, s13⟩⟩ := KP.out w' hS_.out; go_simp; with_reducible rfl); (· (try simp only [Act.put, List.setIfInBounds_toArray, List.set_cons_zero, List.set_cons_succ, i64_w, i32_w]); rfl)))
  refine Evt.ow_call HT_ hHeld rfl rfl rfl (by kernel_rfl) Try.func44 (by kernel_rfl) rfl #[.slice (some ⟨gE, 0, none⟩) e.length cE, .int .i64 i] (by rfl) (by (try simp only [List.map_toArray, List.map_cons, List.map_nil]); first | done | rfl | (simp only [List.length_drop, List.length_take]; rfl)) ?_
  (with_reducible refine (getC i (RE.out.below hHeld.out) HG.out).mono ?_)
  rintro e w_ ⟨rfl, hb⟩
  refine ⟨_, rfl, hb, fun hHeld_ => ?_⟩
  clear hHeld hb
  have hHeld := hHeld_
  clear hHeld_
  refine Evt.ow_norm (a' := ?_) ?_ ?_
  rotate_left
  · simp only [Act.put, List.setIfInBounds_toArray, List.set_cons_zero, List.set_cons_succ, i64_w, i32_w]; rfl
  iterate 5 (first | (refine Evt.ow_off (a' := ?_) HT_ rfl rfl (by rfl) (by kernel_rfl) (fun _ _ _ h => h) ?_ ?_; rotate_left; (· (try simp only [Act.put, List.setIfInBounds_toArray, List.set_cons_zero, List.set_cons_succ, i64_w, i32_w]); rfl)) | (refine Evt.ow_pure (a' := ?_) (v := ?_) HT_ rfl rfl rfl (by rfl) (by kernel_rfl) (fun _ _ _ h => h) ?_ ?_ ?_; rotate_left 2; (· intro w'; go_simp; with_reducible rfl); (· (try simp only [Act.put, List.setIfInBounds_toArray, List.set_cons_zero, List.set_cons_succ, i64_w, i32_w]); rfl)) | (refine Evt.ow_load (a' := ?_) (v := ?_) HT_ HW_ hHeld rfl rfl rfl (by rfl) (by kernel_rfl) (fun _ _ _ h => h) ?_ ?_ ?_; rotate_left 2; (· intro w' hS_; obtain ⟨⟨s0, s1, s2, s3, s4, s5, s6, s7, s8, s9⟩, ⟨s10, s11, s12, s13⟩⟩ := KP.out w' hS_.out; go_simp; with_reducible rfl); (· (try simp only [Act.put, List.setIfInBounds_toArray, List.set_cons_zero, List.set_cons_succ, i64_w, i32_w]); rfl)))
  refine Evt.ow_done HT_ (by kernel_rfl) ?_
  refine Evt.gen_any (w0 := w2) hHeld.out ?_
  intro w3 hbx
  clear hHeld HT_ HW_ KP
  replace V := Aside0.mk (V.out.below hbx)
  replace RI := Aside0.mk (RI.out.below hbx)
  replace RE := Aside0.mk (RE.out.below hbx)
  replace SB := Aside0.mk (SB.out.below hbx)
  replace BM := Aside0.mk (BM.out.below hbx)
  replace BK3 := Aside0.mk (BK3.out.below hbx)
  replace HB := Aside0.mk (below_step HB.out hbx)
  clear hbx
  obtain ⟨zBM_0, zBM_1, zBM_2, zBM_3, zBM_4, zBM_5, zBM_6, zBM_7, zBM_8, zBM_9⟩ := BM.out.c10
  obtain ⟨zBK3_0, zBK3_1, zBK3_2, zBK3_3⟩ := BK3.out.c4
  go_wp2
  have KP := Aside0.mk (fun w' (hb : Below w3.heap.size w3 w') => And.intro ((BM.out.below hb).c10) ((BK3.out.below hb).c4))
  clear zBM_0 zBM_1 zBM_2 zBM_3 zBM_4 zBM_5 zBM_6 zBM_7 zBM_8 zBM_9 zBK3_0 zBK3_1 zBK3_2 zBK3_3
  refine Evt.ol_start (ds := [9]) (w0 := w3) (T := (true, [([], []), ([0], [0]), ([1], [1]), ([2], [2]), ([3], [3]), ([], []), ([5], [5]), ([], []), ([4, 6, 0, 1, 2, 3, 4, 5, 6, 7], [4, 6]), ([8, 7, 0, 1, 2, 3, 4, 5, 6, 7], [7, 8])])) (B := [0, 1, 3, 7, 15, 0, 32, 0, 255, 511]) 10 [(0, some 39), (1, some 40), (2, some 41), (3, some 42), (4, some 43), (5, some 44), (6, some 45), (7, some 46), (8, some 47), (9, none)] (by kernel_rfl) rfl (by kernel_rfl) (by kernel_rfl) (by kernel_rfl) (by repeat (first | (with_reducible first | exact Below.refl _ _ | apply below_alloc | apply pw_below_drewN | apply below_drew1) | exact Below.refl _ _)) ?_
  intro HT_ HW_ w_ hHeld
  iterate 9 (first | (refine Evt.ol_off (a' := ?_) HT_ rfl rfl (by rfl) (by kernel_rfl) (fun _ _ _ h => h) ?_ ?_; rotate_left; (· (try simp only [Act.put, List.setIfInBounds_toArray, List.set_cons_zero, List.set_cons_succ, i64_w, i32_w]); rfl)) | (refine Evt.ol_pure (a' := ?_) (v := ?_) HT_ rfl rfl rfl (by rfl) (by kernel_rfl) (fun _ _ _ h => h) ?_ ?_ ?_; rotate_left 2; (· intro w'; go_simp; with_reducible rfl); (· (try simp only [Act.put, List.setIfInBounds_toArray, List.set_cons_zero, List.set_cons_succ, i64_w, i32_w]); rfl)) | (refine Evt.ol_load (a' := ?_) (v := ?_) HT_ HW_ hHeld rfl rfl rfl (by rfl) (by kernel_rfl) (fun _ _ _ h => h) ?_ ?_ ?_; rotate_left 2; (· intro w' hS_; obtain ⟨⟨s0, s1, s2, s3, s4, s5, s6, s7, s8, s9⟩, ⟨s10, s11, s12, s13⟩⟩ := KP.out w' hS_.out; go_simp; with_reducible rfl); (· (try simp only [Act.put, List.setIfInBounds_toArray, List.set_cons_zero, List.set_cons_succ, i64_w, i32_w]); rfl)))
  have V1 := Aside0.mk (V.out.below hHeld.out)
  have HBw := Aside0.mk (below_step HB.out hHeld.out)
  obtain ⟨zc_, zf_⟩ := Kd.R_celln (enc := Value.bool) (h1 := fun _ => rfl) false V1.out.re (i : Int) hj.1 hj.2
  rw [Int.toNat_natCast] at zc_ zf_
  refine Evt.ol_ran (w1 := w_.setCell ⟨gE, i, none⟩ (.bool v)) HT_ rfl rfl (by simp) (by kernel_rfl) (by rfl) ?_ ?_
  · first | (go_simp; done) | (go_simp; rfl)
  refine Evt.ol_done HT_ (by kernel_rfl) ?_
  have VE := Aside0.mk (Vm.setE (s := ⟨q, m, e, pc, acc, st, ended, fault⟩) V1.out i v).1.bm
  have B3 := Aside0.mk (Bk.mk ((BK3.out.below hHeld.out).blk.far (p := ⟨gE, i, none⟩) (fun e_ => Kd.R_ne V1.out.re (BK3.out.below hHeld.out).blk (by decide) (by rw [e_]; simp [Value.ownBlock])) (.bool v)))
  clear zc_ zf_ V RI RE SB BM BK3 HB HT_ HW_ KP hHeld
  obtain ⟨wn, hwn⟩ : ∃ wn, w_.setCell ⟨gE, i, none⟩ (.bool v) = wn := ⟨_, rfl⟩
  rw [hwn] at VE B3 ⊢
  have HWN := Aside0.mk hwn
  clear hwn
  have HB := Aside0.mk (Below.refl wn.heap.size wn)
  have BM : Aside0 (Bk wn gm 98 #[.slice AC l.length cC, .slice AI li.length cI, .slice AQ q.length cQ, .slice AM m.length cM, .slice (some ⟨gE, 0, none⟩) e.length cE, .int .i64 pc, .bool acc, .pointer (some ⟨gt, 0, none⟩), .bool ended, .int .i64 fault]) := Aside0.mk (VE.out)
  have BK3 : Aside0 (Bk wn g3 66 #[.int .i64 k, .int .i64 a, .int .i64 b, .int .i64 i]) := Aside0.mk (B3.out)
  clear VE B3
  obtain ⟨zBM_0, zBM_1, zBM_2, zBM_3, zBM_4, zBM_5, zBM_6, zBM_7, zBM_8, zBM_9⟩ := BM.out.c10
  obtain ⟨zBK3_0, zBK3_1, zBK3_2, zBK3_3⟩ := BK3.out.c4
  have fBM_6 : wn.frozen? ⟨gm, 6, none⟩ = false := blk_frozen BM.out.blk 6
  go_wp2
  all_goals
    go_ret
    refine ⟨rfl, Stp.from HBw.out (Vm.stpE V1.out HWN.out ?_)⟩
    cases v <;> cases x <;> simp_all
end
end
end Go.Proofs.Ytjohdkbciafpfaa.Vm6
