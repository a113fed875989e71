/- Chapter 06: push, andp, orp, jmpc, end, walked. -/
import Derived.Test.YtjohdkbciafpfaaVi2
namespace Go.Proofs.Ytjohdkbciafpfaa.Vm6
open Go.RowKit Go.Proofs.YtjohdkbciafpfaaW.PrintWords Go.Proofs.YtjohdkbciafpfaaW.PrintMore Go.Proofs.YtjohdkbciafpfaaW.PrintLast Go.Proofs.Ytjohdkbciafpfaa.Chg Go.Proofs.Ytjohdkbciafpfaa.Evt Go.Proofs.Ytjohdkbciafpfaa.Impl
set_option linter.unusedVariables false
set_option linter.unusedSimpArgs false
set_option maxRecDepth 100000
section
variable {w w' w1 : World} {base : Nat} {U : Nat → Prop} {gm gt mo : Nat} {vC vI vQ vM vE vL : Value} {l : List S66} {li : List Bool} {s : MS} {k a b j : Int}
/-- The stack has been written. -/
theorem Vm.setL {vL' : Value} {mo' : Nat} {st' : List Bool} (h : Vm w base U gm gt vC vI vQ vM vE vL mo l li s) (hs : StkBool.St w' base gt vL' st' 64 mo') (hc : Chg (StkBool.foot gt vL) w w') (ho : ∀ k, own vL' k → own vL k ∨ w.heap.size ≤ k) :
    Vm w' base (fun k => U k ∨ vL'.ownBlock = some k) gm gt vC vI vQ vM vE vL' mo' l li { s with st := st' } := by
  have ty : ∀ {g : Nat} {T : TypeId} {cs : Array Value}, Blk w g T cs → 4 ≠ T → 112 ≠ T → ¬ StkBool.foot gt vL g := fun hb hne hne2 hf => by
    rcases hf with e | e
    · exact h.st.blk.ne_ hb hne2 e.symm
    · exact Kd.R_ne h.st.row hb hne e
  have far : ∀ {v : Value} {ok : Nat → Prop} {xs : List Bool}, Kd.R Kd.bool 4 w base ok v xs → (∀ k, vL.ownBlock = some k → v.ownBlock ≠ some k) → ∀ k, v.ownBlock = some k → ¬ StkBool.foot gt vL k := fun {v ok xs} hr ha k hk hf => by
    rcases hf with e | e
    · subst e; exact Kd.R_ne hr h.st.blk (by decide) hk.symm
    · exact ha k e.symm hk
  have ap : ∀ {v : Value} {ok : Nat → Prop} {xs : List Bool}, Kd.R Kd.bool 4 w base ok v xs → (∀ k, vL.ownBlock = some k → v.ownBlock ≠ some k) → ∀ k, vL'.ownBlock = some k → v.ownBlock ≠ some k := fun {v ok xs} hr ha k hk e => by
    rcases ho k hk.symm with h1 | h1
    · exact ha k h1.symm e
    · have := Kd.R_lt hr k e; omega
  have el' : ∀ k, vL.ownBlock = some k → vE.ownBlock ≠ some k := fun k hk e => h.el k e hk
  exact { h with
    bm := ⟨h.bm.blk.chg hc (ty h.bm.blk (by decide) (by decide))⟩
    st := hs
    rc := Kd.R_mono (turned_chg rfl h.rc hc (fun k hk hf => by
      obtain ⟨inner, ho⟩ := Kd.R_own h.rc
      obtain ⟨cells, hb⟩ := own_typed ho k hk
      exact ty (T := 66) hb (by decide) (by decide) hf)) (fun _ h => .inl h)
    ri := Kd.R_mono (turned_chg rfl h.ri hc (far h.ri h.ni)) (fun _ h => .inl h)
    rq := Kd.R_mono (turned_chg rfl h.rq hc (far h.rq h.nq)) (fun _ h => .inl h)
    rm := Kd.R_mono (turned_chg rfl h.rm hc (far h.rm h.nm)) (fun _ h => .inl h)
    re := Kd.R_mono (turned_chg rfl h.re hc (far h.re el')) (fun _ h => .inl h)
    ul := fun k hk => .inr hk
    um := .inl h.um
    ut := .inl h.ut
    ub := fun k hk => by
      rcases hk with hk | hk
      · exact ⟨(h.ub k hk).1, Nat.lt_of_lt_of_le (h.ub k hk).2 hc.size⟩
      · exact ⟨Kd.R_base hs.row k hk, Kd.R_lt hs.row k hk⟩
    el := fun k hk e => ap h.re el' k e hk
    ni := ap h.ri h.ni
    nq := ap h.rq h.nq
    nm := ap h.rm h.nm
    fit := ⟨h.fit.q, h.fit.m, h.fit.e, h.fit.i, h.fit.c, h.fit.p0, h.fit.p1⟩ }
theorem Vm.footU (h : Vm w base U gm gt vC vI vQ vM vE vL mo l li s) : ∀ k, StkBool.foot gt vL k → U k := by
  rintro k (rfl | hk)
  · exact h.ut
  · exact h.ul k hk.symm
theorem Vm.stpL {vL' : Value} {mo' : Nat} {st' : List Bool} (h : Vm w base U gm gt vC vI vQ vM vE vL mo l li s) (hs : StkBool.St w' base gt vL' st' 64 mo') (hc : Chg (StkBool.foot gt vL) w w') (ho : ∀ k, own vL' k → own vL k ∨ w.heap.size ≤ k) : Stp w base U gm l li { s with st := st' } w' := by
  refine ⟨_, ⟨_, _, _, _, _, _, _, _, h.setL hs hc ho⟩, hc.mono h.footU, fun k hk => ?_⟩
  rcases hk with hk | hk
  · exact .inl hk
  · exact (ho k hk.symm).imp (fun hk => h.ul k hk.symm) id
theorem Vm.stpLA {vL' : Value} {mo' : Nat} {st' : List Bool} {c c' : Bool} (h : Vm w base U gm gt vC vI vQ vM vE vL mo l li s) (hs : StkBool.St w' base gt vL' st' 64 mo') (hc : Chg (StkBool.foot gt vL) w w') (ho : ∀ k, own vL' k → own vL k ∨ w.heap.size ≤ k) (hcc : c' = c) : Stp w base U gm l li { s with st := st', acc := c' } (w'.setCell ⟨gm, 6, none⟩ (.bool c)) := by
  subst hcc
  refine ⟨_, ⟨_, _, _, _, _, _, _, _, (h.setL hs hc ho).setAcc c'⟩, (hc.mono h.footU).setCell (p := ⟨gm, 6, none⟩) (.inl h.um) _, fun k hk => ?_⟩
  rcases hk with hk | hk
  · exact .inl hk
  · exact (ho k hk.symm).imp (fun hk => h.ul k hk.symm) id
/-- A block of another kind stays while the stack is written. -/
theorem Vm.keepL {g : Nat} {T : TypeId} {cs : Array Value} (h : Vm w base U gm gt vC vI vQ vM vE vL mo l li s) (hc : Chg (StkBool.foot gt vL) w w') (hb : Bk w g T cs) (h1 : 4 ≠ T) (h2 : 112 ≠ T) : Bk w' g T cs :=
  ⟨hb.blk.chg hc (fun hf => by
    rcases hf with e | e
    · exact h.st.blk.ne_ hb.blk h2 e.symm
    · exact Kd.R_ne h.st.row hb.blk h1 e)⟩
section
variable {q m e st : List Bool} {pc fault : Int} {acc ended : Bool}
set_option maxHeartbeats 4000000 in
theorem push_full (h : Vm w base U gm gt vC vI vQ vM vE vL mo l li ⟨q, m, e, pc, acc, st, ended, fault⟩) (hf : st.length = 64) : Calls Try.prog 64 #[.pointer (some ⟨gm, 0, none⟩), .agg #[.int .i64 k, .int .i64 a, .int .i64 b, .int .i64 j]] w fun x w' => x = .returned (.int .i64 10) ∧ Stp w base U gm l li ⟨q, m, e, pc, acc, st, ended, fault⟩ w' := by
  obtain ⟨AC, cC, AI, cI, AQ, cQ, AM, cM, AE, cE, rfl, rfl, rfl, rfl, rfl⟩ := h.forms
  have HF := Aside0.mk hf
  have HB := Aside0.mk (Below.refl w.heap.size w)
  have V := Aside0.mk (h)
  have BM : Aside0 (Bk w gm 98 #[.slice AC l.length cC, .slice AI li.length cI, .slice AQ q.length cQ, .slice AM m.length cM, .slice AE e.length cE, .int .i64 pc, .bool acc, .pointer (some ⟨gt, 0, none⟩), .bool ended, .int .i64 fault]) := Aside0.mk (h.bm)
  clear h hf
  obtain ⟨zBM_0, zBM_1, zBM_2, zBM_3, zBM_4, zBM_5, zBM_6, zBM_7, zBM_8, zBM_9⟩ := BM.out.c10
  go_enter Try.func64, Try.ntmps64
  go_wp2_with (((with_reducible refine gate_dst (N := 3) rfl ?_); refine box_event ?hg (N := 3) ?hd (cs := #[.int .i64 k, .int .i64 a, .int .i64 b, .int .i64 j]) (t := 66) ?hr ?_; (case hd => rfl); (case hg => rfl); (case hr => first | (go_simp; done) | (go_simp; rfl)); intro g3 hg w1 hbox hb; have hbx : Below w.heap.size w w1 := below_step (by repeat (first | (with_reducible first | exact Below.refl _ _ | apply below_alloc | apply pw_below_drewN | apply below_drew1) | exact Below.refl _ _)) hb; clear zBM_0 zBM_1 zBM_2 zBM_3 zBM_4 zBM_5 zBM_6 zBM_7 zBM_8 zBM_9; replace V := Aside0.mk (V.out.below hbx); replace BM := Aside0.mk (BM.out.below hbx); replace HB := Aside0.mk (below_step HB.out hbx); clear hbx; have BK3 := Aside0.mk (Bk.mk (hbox : Blk w1 g3 66 #[.int .i64 k, .int .i64 a, .int .i64 b, .int .i64 j])); clear hbox hg hb; obtain ⟨zBM_0, zBM_1, zBM_2, zBM_3, zBM_4, zBM_5, zBM_6, zBM_7, zBM_8, zBM_9⟩ := BM.out.c10; obtain ⟨zBK3_0, zBK3_1, zBK3_2, zBK3_3⟩ := BK3.out.c4))
  have KP := Aside0.mk (fun w' (hb : Below w1.heap.size w1 w') => And.intro ((BM.out.below hb).c10) ((BK3.out.below hb).c4))
  clear zBM_0 zBM_1 zBM_2 zBM_3 zBM_4 zBM_5 zBM_6 zBM_7 zBM_8 zBM_9 zBK3_0 zBK3_1 zBK3_2 zBK3_3
  refine Evt.ol_start (ds := [8]) (w0 := w1) (T := (true, [([], []), ([0], [0]), ([1], [1]), ([2], [2]), ([], []), ([4], [4]), ([5], [5]), ([6], [6]), ([3, 7], [3, 7]), ([8, 8, 0, 1, 2, 3, 4, 5, 6, 7, 8], [8])])) (B := [0, 1, 3, 7, 0, 16, 48, 112, 255, 511]) 10 [(0, some 5), (1, some 6), (2, some 7), (3, some 8), (4, some 9), (5, some 10), (6, some 11), (7, some 12), (8, some 13), (9, some 4)] (by kernel_rfl) rfl (by kernel_rfl) (by kernel_rfl) (by kernel_rfl) (by repeat (first | (with_reducible first | exact Below.refl _ _ | apply below_alloc | apply pw_below_drewN | apply below_drew1) | exact Below.refl _ _)) ?_
  intro HT_ HW_ w_ hHeld
  iterate 8 (first | (refine Evt.ol_off (a' := ?_) HT_ rfl rfl (by rfl) (by kernel_rfl) (fun _ _ _ h => h) ?_ ?_; rotate_left; (· (try simp only [Act.put, List.setIfInBounds_toArray, List.set_cons_zero, List.set_cons_succ, i64_w, i32_w]); rfl)) | (refine Evt.ol_pure (a' := ?_) (v := ?_) HT_ rfl rfl rfl (by rfl) (by kernel_rfl) (fun _ _ _ h => h) ?_ ?_ ?_; rotate_left 2; (· intro w'; go_simp; with_reducible rfl); (· (try simp only [Act.put, List.setIfInBounds_toArray, List.set_cons_zero, List.set_cons_succ, i64_w, i32_w]); rfl)) | (refine Evt.ol_load (a' := ?_) (v := ?_) HT_ HW_ hHeld rfl rfl rfl (by rfl) (by kernel_rfl) (fun _ _ _ h => h) ?_ ?_ ?_; rotate_left 2; (· intro w' hS_; obtain ⟨⟨s0, s1, s2, s3, s4, s5, s6, s7, s8, s9⟩, ⟨s10, s11, s12, s13⟩⟩ := KP.out w' hS_.out; go_simp; with_reducible rfl); (· (try simp only [Act.put, List.setIfInBounds_toArray, List.set_cons_zero, List.set_cons_succ, i64_w, i32_w]); rfl)))
  refine Evt.ol_calld HT_ rfl rfl (by simp) rfl rfl Try.func73 (by kernel_rfl) rfl #[.pointer (some ⟨gt, 0, none⟩), .bool acc] (by kernel_rfl) (by rfl) (by (try simp only [List.map_toArray, List.map_cons, List.map_nil]); first | done | rfl | (simp only [List.length_drop, List.length_take]; rfl)) ?_
  refine (StkBool.push_full w_ base gt vL st 64 mo acc (V.out.below hHeld.out).st HF.out).mono ?_
  rintro e_ w2 ⟨rfl, hd⟩
  refine ⟨_, rfl, ?_⟩
  have HB2 := Aside0.mk (below_step HB.out hHeld.out)
  obtain ⟨n_, rfl⟩ := hd.out
  have V2 := Aside0.mk ((V.out.below hHeld.out).below (pw_below_drewN (Below.refl _ _) n_))
  have HB3 := Aside0.mk (pw_below_drewN HB2.out n_)
  clear V hHeld HB HB2 KP BM BK3
  refine Evt.ol_norm (a' := ?_) ?_ ?_
  rotate_left
  · simp only [Act.put, List.setIfInBounds_toArray, List.set_cons_zero, List.set_cons_succ, i64_w, i32_w]; rfl
  (first | (refine Evt.ol_off (a' := ?_) HT_ rfl rfl (by rfl) (by kernel_rfl) (fun _ _ _ h => h) ?_ ?_; rotate_left; (· (try simp only [Act.put, List.setIfInBounds_toArray, List.set_cons_zero, List.set_cons_succ, i64_w, i32_w]); rfl)) | (refine Evt.ol_pure (a' := ?_) (v := ?_) HT_ rfl rfl rfl (by rfl) (by kernel_rfl) (fun _ _ _ h => h) ?_ ?_ ?_; rotate_left 2; (· intro w'; go_simp; with_reducible rfl); (· (try simp only [Act.put, List.setIfInBounds_toArray, List.set_cons_zero, List.set_cons_succ, i64_w, i32_w]); rfl)) | (refine Evt.ol_load (a' := ?_) (v := ?_) HT_ HW_ hHeld rfl rfl rfl (by rfl) (by kernel_rfl) (fun _ _ _ h => h) ?_ ?_ ?_; rotate_left 2; (· intro w' hS_; obtain ⟨⟨s0, s1, s2, s3, s4, s5, s6, s7, s8, s9⟩, ⟨s10, s11, s12, s13⟩⟩ := KP.out w' hS_.out; go_simp; with_reducible rfl); (· (try simp only [Act.put, List.setIfInBounds_toArray, List.set_cons_zero, List.set_cons_succ, i64_w, i32_w]); rfl)))
  refine Evt.ol_done HT_ (by kernel_rfl) ?_
  go_wp2
  go_ret
  exact ⟨rfl, (Stp.here ⟨_, _, _, _, _, _, _, _, V2.out⟩).from HB3.out⟩
set_option maxHeartbeats 4000000 in
theorem push_ok (h : Vm w base U gm gt vC vI vQ vM vE vL mo l li ⟨q, m, e, pc, acc, st, ended, fault⟩) (hf : st.length < 64) : Calls Try.prog 64 #[.pointer (some ⟨gm, 0, none⟩), .agg #[.int .i64 k, .int .i64 a, .int .i64 b, .int .i64 j]] w fun x w' => x = .returned (.int .i64 0) ∧ Stp w base U gm l li ⟨q, m, e, pc, acc, st ++ [acc], ended, fault⟩ w' := by
  obtain ⟨AC, cC, AI, cI, AQ, cQ, AM, cM, AE, cE, rfl, rfl, rfl, rfl, rfl⟩ := h.forms
  have HF := Aside0.mk hf
  have HB := Aside0.mk (Below.refl w.heap.size w)
  have V := Aside0.mk (h)
  have BM : Aside0 (Bk w gm 98 #[.slice AC l.length cC, .slice AI li.length cI, .slice AQ q.length cQ, .slice AM m.length cM, .slice AE e.length cE, .int .i64 pc, .bool acc, .pointer (some ⟨gt, 0, none⟩), .bool ended, .int .i64 fault]) := Aside0.mk (h.bm)
  clear h hf
  obtain ⟨zBM_0, zBM_1, zBM_2, zBM_3, zBM_4, zBM_5, zBM_6, zBM_7, zBM_8, zBM_9⟩ := BM.out.c10
  go_enter Try.func64, Try.ntmps64
  go_wp2_with (((with_reducible refine gate_dst (N := 3) rfl ?_); refine box_event ?hg (N := 3) ?hd (cs := #[.int .i64 k, .int .i64 a, .int .i64 b, .int .i64 j]) (t := 66) ?hr ?_; (case hd => rfl); (case hg => rfl); (case hr => first | (go_simp; done) | (go_simp; rfl)); intro g3 hg w1 hbox hb; have hbx : Below w.heap.size w w1 := below_step (by repeat (first | (with_reducible first | exact Below.refl _ _ | apply below_alloc | apply pw_below_drewN | apply below_drew1) | exact Below.refl _ _)) hb; clear zBM_0 zBM_1 zBM_2 zBM_3 zBM_4 zBM_5 zBM_6 zBM_7 zBM_8 zBM_9; replace V := Aside0.mk (V.out.below hbx); replace BM := Aside0.mk (BM.out.below hbx); replace HB := Aside0.mk (below_step HB.out hbx); clear hbx; have BK3 := Aside0.mk (Bk.mk (hbox : Blk w1 g3 66 #[.int .i64 k, .int .i64 a, .int .i64 b, .int .i64 j])); clear hbox hg hb; obtain ⟨zBM_0, zBM_1, zBM_2, zBM_3, zBM_4, zBM_5, zBM_6, zBM_7, zBM_8, zBM_9⟩ := BM.out.c10; obtain ⟨zBK3_0, zBK3_1, zBK3_2, zBK3_3⟩ := BK3.out.c4))
  have KP := Aside0.mk (fun w' (hb : Below w1.heap.size w1 w') => And.intro ((BM.out.below hb).c10) ((BK3.out.below hb).c4))
  clear zBM_0 zBM_1 zBM_2 zBM_3 zBM_4 zBM_5 zBM_6 zBM_7 zBM_8 zBM_9 zBK3_0 zBK3_1 zBK3_2 zBK3_3
  refine Evt.ol_start (ds := [8]) (w0 := w1) (T := (true, [([], []), ([0], [0]), ([1], [1]), ([2], [2]), ([], []), ([4], [4]), ([5], [5]), ([6], [6]), ([3, 7], [3, 7]), ([8, 8, 0, 1, 2, 3, 4, 5, 6, 7, 8], [8])])) (B := [0, 1, 3, 7, 0, 16, 48, 112, 255, 511]) 10 [(0, some 5), (1, some 6), (2, some 7), (3, some 8), (4, some 9), (5, some 10), (6, some 11), (7, some 12), (8, some 13), (9, some 4)] (by kernel_rfl) rfl (by kernel_rfl) (by kernel_rfl) (by kernel_rfl) (by repeat (first | (with_reducible first | exact Below.refl _ _ | apply below_alloc | apply pw_below_drewN | apply below_drew1) | exact Below.refl _ _)) ?_
  intro HT_ HW_ w_ hHeld
  iterate 8 (first | (refine Evt.ol_off (a' := ?_) HT_ rfl rfl (by rfl) (by kernel_rfl) (fun _ _ _ h => h) ?_ ?_; rotate_left; (· (try simp only [Act.put, List.setIfInBounds_toArray, List.set_cons_zero, List.set_cons_succ, i64_w, i32_w]); rfl)) | (refine Evt.ol_pure (a' := ?_) (v := ?_) HT_ rfl rfl rfl (by rfl) (by kernel_rfl) (fun _ _ _ h => h) ?_ ?_ ?_; rotate_left 2; (· intro w'; go_simp; with_reducible rfl); (· (try simp only [Act.put, List.setIfInBounds_toArray, List.set_cons_zero, List.set_cons_succ, i64_w, i32_w]); rfl)) | (refine Evt.ol_load (a' := ?_) (v := ?_) HT_ HW_ hHeld rfl rfl rfl (by rfl) (by kernel_rfl) (fun _ _ _ h => h) ?_ ?_ ?_; rotate_left 2; (· intro w' hS_; obtain ⟨⟨s0, s1, s2, s3, s4, s5, s6, s7, s8, s9⟩, ⟨s10, s11, s12, s13⟩⟩ := KP.out w' hS_.out; go_simp; with_reducible rfl); (· (try simp only [Act.put, List.setIfInBounds_toArray, List.set_cons_zero, List.set_cons_succ, i64_w, i32_w]); rfl)))
  refine Evt.ol_calld HT_ rfl rfl (by simp) rfl rfl Try.func73 (by kernel_rfl) rfl #[.pointer (some ⟨gt, 0, none⟩), .bool acc] (by kernel_rfl) (by rfl) (by (try simp only [List.map_toArray, List.map_cons, List.map_nil]); first | done | rfl | (simp only [List.length_drop, List.length_take]; rfl)) ?_
  refine (StkBool.push w_ base gt vL st 64 mo acc (V.out.below hHeld.out).st HF.out).mono ?_
  rintro e_ w2 ⟨rfl, v2, hs, hc, ho⟩
  refine ⟨_, rfl, ?_⟩
  have HB2 := Aside0.mk (below_step HB.out hHeld.out)
  have V2 := Aside0.mk ((V.out.below hHeld.out).stpL hs hc ho)
  clear V hHeld HB KP BM BK3 hs hc ho
  refine Evt.ol_norm (a' := ?_) ?_ ?_
  rotate_left
  · simp only [Act.put, List.setIfInBounds_toArray, List.set_cons_zero, List.set_cons_succ, i64_w, i32_w]; rfl
  (first | (refine Evt.ol_off (a' := ?_) HT_ rfl rfl (by rfl) (by kernel_rfl) (fun _ _ _ h => h) ?_ ?_; rotate_left; (· (try simp only [Act.put, List.setIfInBounds_toArray, List.set_cons_zero, List.set_cons_succ, i64_w, i32_w]); rfl)) | (refine Evt.ol_pure (a' := ?_) (v := ?_) HT_ rfl rfl rfl (by rfl) (by kernel_rfl) (fun _ _ _ h => h) ?_ ?_ ?_; rotate_left 2; (· intro w'; go_simp; with_reducible rfl); (· (try simp only [Act.put, List.setIfInBounds_toArray, List.set_cons_zero, List.set_cons_succ, i64_w, i32_w]); rfl)) | (refine Evt.ol_load (a' := ?_) (v := ?_) HT_ HW_ hHeld rfl rfl rfl (by rfl) (by kernel_rfl) (fun _ _ _ h => h) ?_ ?_ ?_; rotate_left 2; (· intro w' hS_; obtain ⟨⟨s0, s1, s2, s3, s4, s5, s6, s7, s8, s9⟩, ⟨s10, s11, s12, s13⟩⟩ := KP.out w' hS_.out; go_simp; with_reducible rfl); (· (try simp only [Act.put, List.setIfInBounds_toArray, List.set_cons_zero, List.set_cons_succ, i64_w, i32_w]); rfl)))
  refine Evt.ol_done HT_ (by kernel_rfl) ?_
  go_wp2
  go_ret
  exact ⟨rfl, V2.out.from HB2.out⟩
set_option maxHeartbeats 4000000 in
theorem pop_empty (h : Vm w base U gm gt vC vI vQ vM vE vL mo l li ⟨q, m, e, pc, acc, [], ended, fault⟩) : Calls Try.prog 65 #[.pointer (some ⟨gm, 0, none⟩), .agg #[.int .i64 k, .int .i64 a, .int .i64 b, .int .i64 j]] w fun x w' => x = .returned (.int .i64 18) ∧ Stp w base U gm l li ⟨q, m, e, pc, acc, [], ended, fault⟩ w' := by
  obtain ⟨AC, cC, AI, cI, AQ, cQ, AM, cM, AE, cE, rfl, rfl, rfl, rfl, rfl⟩ := h.forms
  have HB := Aside0.mk (Below.refl w.heap.size w)
  have V := Aside0.mk (h)
  have BM : Aside0 (Bk w gm 98 #[.slice AC l.length cC, .slice AI li.length cI, .slice AQ q.length cQ, .slice AM m.length cM, .slice AE e.length cE, .int .i64 pc, .bool acc, .pointer (some ⟨gt, 0, none⟩), .bool ended, .int .i64 fault]) := Aside0.mk (h.bm)
  clear h
  obtain ⟨zBM_0, zBM_1, zBM_2, zBM_3, zBM_4, zBM_5, zBM_6, zBM_7, zBM_8, zBM_9⟩ := BM.out.c10
  go_enter Try.func65, Try.ntmps65
  go_wp2_with (first | ((with_reducible refine gate_dst (N := 3) rfl ?_); refine box_event ?hg (N := 3) ?hd (cs := #[.int .i64 k, .int .i64 a, .int .i64 b, .int .i64 j]) (t := 66) ?hr ?_; (case hd => rfl); (case hg => rfl); (case hr => first | (go_simp; done) | (go_simp; rfl)); intro g3 hg w1 hbox hb; have hbx : Below w.heap.size w w1 := below_step (by repeat (first | (with_reducible first | exact Below.refl _ _ | apply below_alloc | apply pw_below_drewN | apply below_drew1) | exact Below.refl _ _)) hb; clear zBM_0 zBM_1 zBM_2 zBM_3 zBM_4 zBM_5 zBM_6 zBM_7 zBM_8 zBM_9; replace V := Aside0.mk (V.out.below hbx); replace BM := Aside0.mk (BM.out.below hbx); replace HB := Aside0.mk (below_step HB.out hbx); clear hbx; have BK3 := Aside0.mk (Bk.mk (hbox : Blk w1 g3 66 #[.int .i64 k, .int .i64 a, .int .i64 b, .int .i64 j])); clear hbox hg hb; obtain ⟨zBM_0, zBM_1, zBM_2, zBM_3, zBM_4, zBM_5, zBM_6, zBM_7, zBM_8, zBM_9⟩ := BM.out.c10; obtain ⟨zBK3_0, zBK3_1, zBK3_2, zBK3_3⟩ := BK3.out.c4) | ((with_reducible refine gate_callee (f := 74) rfl ?_); refine goesL_ (some 12) rfl rfl Try.func74 (by kernel_rfl) rfl #[.pointer (some ⟨gt, 0, none⟩)] rfl (by (try simp only [List.map_toArray, List.map_cons, List.map_nil]); first | done | rfl | (simp only [List.length_drop, List.length_take]; rfl)) ?_; (with_reducible refine (StkBool.pop_empty _ base gt vL 64 mo (V.out.below (by repeat (first | (with_reducible first | exact Below.refl _ _ | apply below_alloc | apply pw_below_drewN | apply below_drew1) | exact Below.refl _ _))).st).mono ?_); rintro e_ w2 ⟨rfl, rfl⟩; refine ⟨_, rfl, ?_⟩))
  go_ret
  exact ⟨rfl, (Stp.here ⟨_, _, _, _, _, _, _, _, V.out⟩).from HB.out⟩
theorem pop_kinds (h : k = 9 ∨ k = 10) : (k == 9) = decide (k = 9) ∧ (k = 9 ∨ k ≠ 9) := ⟨rfl, by omega⟩
set_option maxHeartbeats 8000000 in
theorem pop_ok {y : Bool} (h : Vm w base U gm gt vC vI vQ vM vE vL mo l li ⟨q, m, e, pc, acc, st ++ [y], ended, fault⟩) : Calls Try.prog 65 #[.pointer (some ⟨gm, 0, none⟩), .agg #[.int .i64 k, .int .i64 a, .int .i64 b, .int .i64 j]] w fun x w' => x = .returned (.int .i64 0) ∧ Stp w base U gm l li ⟨q, m, e, pc, if k = 9 then y && acc else y || acc, st, ended, fault⟩ w' := by
  obtain ⟨AC, cC, AI, cI, AQ, cQ, AM, cM, AE, cE, rfl, rfl, rfl, rfl, rfl⟩ := h.forms
  by_cases hk : k = 9
  all_goals
    first
    | (have q1 : (k == 9) = true := beq_iff_eq.mpr hk
       have q2 : decide (k = 9) = true := decide_eq_true hk
       have K := Aside0.mk (if_pos hk : (if k = 9 then y && acc else y || acc) = (y && acc))
       rw [K.out]
       clear hk K
       have L := Aside0.mk (rfl : (y && acc) = (y && acc))
       revert q1 q2 L)
    | (have q1 : (k == 9) = false := beq_eq_false_iff_ne.mpr hk
       have q2 : decide (k = 9) = false := decide_eq_false hk
       have K := Aside0.mk (if_neg hk : (if k = 9 then y && acc else y || acc) = (y || acc))
       rw [K.out]
       clear hk K
       have L := Aside0.mk (rfl : (y || acc) = (y || acc))
       revert q1 q2 L)
  all_goals
    intro q1 q2 L
    have HB := Aside0.mk (Below.refl w.heap.size w)
    have V := Aside0.mk (h)
    have BM : Aside0 (Bk w gm 98 #[.slice AC l.length cC, .slice AI li.length cI, .slice AQ q.length cQ, .slice AM m.length cM, .slice AE e.length cE, .int .i64 pc, .bool acc, .pointer (some ⟨gt, 0, none⟩), .bool ended, .int .i64 fault]) := Aside0.mk (h.bm)
    clear h
    obtain ⟨zBM_0, zBM_1, zBM_2, zBM_3, zBM_4, zBM_5, zBM_6, zBM_7, zBM_8, zBM_9⟩ := BM.out.c10
    go_enter Try.func65, Try.ntmps65
    go_wp2_with (first | ((with_reducible refine gate_dst (N := 3) rfl ?_); refine box_event ?hg (N := 3) ?hd (cs := #[.int .i64 k, .int .i64 a, .int .i64 b, .int .i64 j]) (t := 66) ?hr ?_; (case hd => rfl); (case hg => rfl); (case hr => first | (go_simp; done) | (go_simp; rfl)); intro g3 hg w1 hbox hb; have hbx : Below w.heap.size w w1 := below_step (by repeat (first | (with_reducible first | exact Below.refl _ _ | apply below_alloc | apply pw_below_drewN | apply below_drew1) | exact Below.refl _ _)) hb; clear zBM_0 zBM_1 zBM_2 zBM_3 zBM_4 zBM_5 zBM_6 zBM_7 zBM_8 zBM_9; replace V := Aside0.mk (V.out.below hbx); replace BM := Aside0.mk (BM.out.below hbx); replace HB := Aside0.mk (below_step HB.out hbx); clear hbx; have BK3 := Aside0.mk (Bk.mk (hbox : Blk w1 g3 66 #[.int .i64 k, .int .i64 a, .int .i64 b, .int .i64 j])); clear hbox hg hb; obtain ⟨zBM_0, zBM_1, zBM_2, zBM_3, zBM_4, zBM_5, zBM_6, zBM_7, zBM_8, zBM_9⟩ := BM.out.c10; obtain ⟨zBK3_0, zBK3_1, zBK3_2, zBK3_3⟩ := BK3.out.c4) | ((with_reducible refine gate_callee (f := 74) rfl ?_); refine goesL_ (some 12) rfl rfl Try.func74 (by kernel_rfl) rfl #[.pointer (some ⟨gt, 0, none⟩)] rfl (by (try simp only [List.map_toArray, List.map_cons, List.map_nil]); first | done | rfl | (simp only [List.length_drop, List.length_take]; rfl)) ?_; (with_reducible refine (StkBool.pop _ base gt vL st y 64 mo (V.out.below (by repeat (first | (with_reducible first | exact Below.refl _ _ | apply below_alloc | apply pw_below_drewN | apply below_drew1) | exact Below.refl _ _))).st).mono ?_); rintro e_ w2 ⟨rfl, v2, hs, hc, ho⟩; have V2 := Aside0.mk ((V.out.below (by repeat (first | (with_reducible first | exact Below.refl _ _ | apply below_alloc | apply pw_below_drewN | apply below_drew1) | exact Below.refl _ _))).setL hs hc ho); have B3 := Aside0.mk (Vm.keepL (V.out.below (by repeat (first | (with_reducible first | exact Below.refl _ _ | apply below_alloc | apply pw_below_drewN | apply below_drew1) | exact Below.refl _ _))) hc (BK3.out.below (by repeat (first | (with_reducible first | exact Below.refl _ _ | apply below_alloc | apply pw_below_drewN | apply below_drew1) | exact Below.refl _ _))) (by decide) (by decide)); have S2 := Aside0.mk (fun c c' (hcc : c' = c) => Stp.from HB.out (Vm.stpLA (V.out.below (by repeat (first | (with_reducible first | exact Below.refl _ _ | apply below_alloc | apply pw_below_drewN | apply below_drew1) | exact Below.refl _ _))) hs hc ho hcc)); clear zBM_0 zBM_1 zBM_2 zBM_3 zBM_4 zBM_5 zBM_6 zBM_7 zBM_8 zBM_9 zBK3_0 zBK3_1 zBK3_2 zBK3_3; clear V BM BK3 HB hs hc ho; have HB := Aside0.mk (Below.refl w2.heap.size w2); have V2x := Aside0.mk (V2.out); have BM : Aside0 (Bk w2 gm 98 #[.slice AC l.length cC, .slice AI li.length cI, .slice AQ q.length cQ, .slice AM m.length cM, .slice AE e.length cE, .int .i64 pc, .bool acc, .pointer (some ⟨gt, 0, none⟩), .bool ended, .int .i64 fault]) := Aside0.mk (V2.out.bm); have BK3 : Aside0 (Bk w2 g3 66 #[.int .i64 k, .int .i64 a, .int .i64 b, .int .i64 j]) := Aside0.mk (B3.out); clear V2x B3; obtain ⟨zBM_0, zBM_1, zBM_2, zBM_3, zBM_4, zBM_5, zBM_6, zBM_7, zBM_8, zBM_9⟩ := BM.out.c10; obtain ⟨zBK3_0, zBK3_1, zBK3_2, zBK3_3⟩ := BK3.out.c4; have fBM_6 : w2.frozen? ⟨gm, 6, none⟩ = false := blk_frozen BM.out.blk 6; refine ⟨_, rfl, ?_⟩))
  all_goals
    go_ret
    refine ⟨rfl, S2.out _ _ ?_⟩
    first | rfl | (cases y <;> cases acc <;> simp_all)
set_option maxHeartbeats 4000000 in
theorem end_any (h : Vm w base U gm gt vC vI vQ vM vE vL mo l li ⟨q, m, e, pc, acc, st, ended, fault⟩) (p0 : 0 ≤ pc) : Calls Try.prog 68 #[.pointer (some ⟨gm, 0, none⟩), .agg #[.int .i64 k, .int .i64 a, .int .i64 b, .int .i64 j]] w fun x w' => x = .returned (.int .i64 0) ∧ Stp w base U gm l li ⟨q, m, e, pc - 1, acc, st, true, fault⟩ w' := by
  obtain ⟨AC, cC, AI, cI, AQ, cQ, AM, cM, AE, cE, rfl, rfl, rfl, rfl, rfl⟩ := h.forms
  have p1 : pc ≤ 20000 := h.fit.p1
  have HB := Aside0.mk (Below.refl w.heap.size w)
  have V := Aside0.mk (h)
  have BM : Aside0 (Bk w gm 98 #[.slice AC l.length cC, .slice AI li.length cI, .slice AQ q.length cQ, .slice AM m.length cM, .slice AE e.length cE, .int .i64 pc, .bool acc, .pointer (some ⟨gt, 0, none⟩), .bool ended, .int .i64 fault]) := Aside0.mk (h.bm)
  clear h
  obtain ⟨zBM_0, zBM_1, zBM_2, zBM_3, zBM_4, zBM_5, zBM_6, zBM_7, zBM_8, zBM_9⟩ := BM.out.c10
  go_enter Try.func68, Try.ntmps68
  go_upto_region 1 with (((with_reducible refine gate_dst (N := 3) rfl ?_); refine box_event ?hg (N := 3) ?hd (cs := #[.int .i64 k, .int .i64 a, .int .i64 b, .int .i64 j]) (t := 66) ?hr ?_; (case hd => rfl); (case hg => rfl); (case hr => first | (go_simp; done) | (go_simp; rfl)); intro g3 hg w1 hbox hb; have hbx : Below w.heap.size w w1 := below_step (by repeat (first | (with_reducible first | exact Below.refl _ _ | apply below_alloc | apply pw_below_drewN | apply below_drew1) | exact Below.refl _ _)) hb; clear zBM_0 zBM_1 zBM_2 zBM_3 zBM_4 zBM_5 zBM_6 zBM_7 zBM_8 zBM_9; replace V := Aside0.mk (V.out.below hbx); replace BM := Aside0.mk (BM.out.below hbx); replace HB := Aside0.mk (below_step HB.out hbx); clear hbx; have BK3 := Aside0.mk (Bk.mk (hbox : Blk w1 g3 66 #[.int .i64 k, .int .i64 a, .int .i64 b, .int .i64 j])); clear hbox hg hb; obtain ⟨zBM_0, zBM_1, zBM_2, zBM_3, zBM_4, zBM_5, zBM_6, zBM_7, zBM_8, zBM_9⟩ := BM.out.c10; obtain ⟨zBK3_0, zBK3_1, zBK3_2, zBK3_3⟩ := BK3.out.c4))
  have fBM_8 : w1.frozen? ⟨gm, 8, none⟩ = false := blk_frozen BM.out.blk 8
  have fBM_5 : w1.frozen? ⟨gm, 5, none⟩ = false := blk_frozen BM.out.blk 5
  go_wp2
  go_ret
  refine ⟨rfl, Stp.from HB.out ?_⟩
  exact V.out.stpc ((V.out.setEnd true).setPc (pc - 1) (by omega) (by omega)) (((Chg.refl (fun x => x = gm) _).setCell (p := ⟨gm, 8, none⟩) (.inl rfl) _).setCell (p := ⟨gm, 5, none⟩) (.inl rfl) _)
set_option maxHeartbeats 4000000 in
theorem jump_neg (h : Vm w base U gm gt vC vI vQ vM vE vL mo l li ⟨q, m, e, pc, acc, st, ended, fault⟩) (hj : j < 0) : Calls Try.prog 67 #[.pointer (some ⟨gm, 0, none⟩), .agg #[.int .i64 k, .int .i64 a, .int .i64 b, .int .i64 j]] w fun x w' => x = .returned (.int .i64 3) ∧ Stp w base U gm l li ⟨q, m, e, pc, acc, st, ended, fault⟩ w' := by
  obtain ⟨AC, cC, AI, cI, AQ, cQ, AM, cM, AE, cE, rfl, rfl, rfl, rfl, rfl⟩ := h.forms
  have j0 : decide (j < 0) = true := decide_eq_true hj
  have HB := Aside0.mk (Below.refl w.heap.size w)
  have V := Aside0.mk (h)
  have BM : Aside0 (Bk w gm 98 #[.slice AC l.length cC, .slice AI li.length cI, .slice AQ q.length cQ, .slice AM m.length cM, .slice AE e.length cE, .int .i64 pc, .bool acc, .pointer (some ⟨gt, 0, none⟩), .bool ended, .int .i64 fault]) := Aside0.mk (h.bm)
  clear h hj
  obtain ⟨zBM_0, zBM_1, zBM_2, zBM_3, zBM_4, zBM_5, zBM_6, zBM_7, zBM_8, zBM_9⟩ := BM.out.c10
  go_enter Try.func67, Try.ntmps67
  go_wp2_with (((with_reducible refine gate_dst (N := 3) rfl ?_); refine box_event ?hg (N := 3) ?hd (cs := #[.int .i64 k, .int .i64 a, .int .i64 b, .int .i64 j]) (t := 66) ?hr ?_; (case hd => rfl); (case hg => rfl); (case hr => first | (go_simp; done) | (go_simp; rfl)); intro g3 hg w1 hbox hb; have hbx : Below w.heap.size w w1 := below_step (by repeat (first | (with_reducible first | exact Below.refl _ _ | apply below_alloc | apply pw_below_drewN | apply below_drew1) | exact Below.refl _ _)) hb; clear zBM_0 zBM_1 zBM_2 zBM_3 zBM_4 zBM_5 zBM_6 zBM_7 zBM_8 zBM_9; replace V := Aside0.mk (V.out.below hbx); replace BM := Aside0.mk (BM.out.below hbx); replace HB := Aside0.mk (below_step HB.out hbx); clear hbx; have BK3 := Aside0.mk (Bk.mk (hbox : Blk w1 g3 66 #[.int .i64 k, .int .i64 a, .int .i64 b, .int .i64 j])); clear hbox hg hb; obtain ⟨zBM_0, zBM_1, zBM_2, zBM_3, zBM_4, zBM_5, zBM_6, zBM_7, zBM_8, zBM_9⟩ := BM.out.c10; obtain ⟨zBK3_0, zBK3_1, zBK3_2, zBK3_3⟩ := BK3.out.c4))
  have KP := Aside0.mk (fun w' (hb : Below w1.heap.size w1 w') => And.intro ((BM.out.below hb).c10) ((BK3.out.below hb).c4))
  clear zBM_0 zBM_1 zBM_2 zBM_3 zBM_4 zBM_5 zBM_6 zBM_7 zBM_8 zBM_9 zBK3_0 zBK3_1 zBK3_2 zBK3_3
  refine Evt.ow_start (w0 := w1) (T := (true, [([], []), ([0], [0]), ([1], [1]), ([2], [2]), ([3], [3]), ([4, 3], [3, 4]), ([3], [3]), ([6, 3], [3, 6]), ([7, 3], [3, 7]), ([8, 3], [3, 8]), ([9, 3], [3, 9]), ([5, 10, 3], [3, 5, 10]), ([3, 11], [3, 11]), ([12, 3], [12])])) (B := [0, 1, 3, 7, 15, 31, 15, 79, 207, 463, 975, 2047, 4095, 8191]) 14 [(0, some 6), (1, some 7), (2, some 8), (3, some 9), (4, some 10), (5, some 11), (6, some 12), (7, some 13), (8, some 14), (9, some 15), (10, some 16), (11, some 17), (12, some 18), (13, some 5)] (by kernel_rfl) rfl (by kernel_rfl) (by kernel_rfl) (by kernel_rfl) (by repeat (first | (with_reducible first | exact Below.refl _ _ | apply below_alloc | apply pw_below_drewN | apply below_drew1) | exact Below.refl _ _)) ?_
  intro HT_ HW_ w_ hHeld
  iterate 14 (first | (refine Evt.ow_off (a' := ?_) HT_ rfl rfl (by rfl) (by kernel_rfl) (fun _ _ _ h => h) ?_ ?_; rotate_left; (· (try simp only [Act.put, List.setIfInBounds_toArray, List.set_cons_zero, List.set_cons_succ, i64_w, i32_w]); rfl)) | (refine Evt.ow_pure (a' := ?_) (v := ?_) HT_ rfl rfl rfl (by rfl) (by kernel_rfl) (fun _ _ _ h => h) ?_ ?_ ?_; rotate_left 2; (· intro w'; go_simp; with_reducible rfl); (· (try simp only [Act.put, List.setIfInBounds_toArray, List.set_cons_zero, List.set_cons_succ, i64_w, i32_w]); rfl)) | (refine Evt.ow_load (a' := ?_) (v := ?_) HT_ HW_ hHeld rfl rfl rfl (by rfl) (by kernel_rfl) (fun _ _ _ h => h) ?_ ?_ ?_; rotate_left 2; (· intro w' hS_; obtain ⟨⟨s0, s1, s2, s3, s4, s5, s6, s7, s8, s9⟩, ⟨s10, s11, s12, s13⟩⟩ := KP.out w' hS_.out; go_simp; with_reducible rfl); (· (try simp only [Act.put, List.setIfInBounds_toArray, List.set_cons_zero, List.set_cons_succ, i64_w, i32_w]); rfl)))
  refine Evt.ow_done HT_ (by kernel_rfl) ?_
  refine Evt.gen_any (w0 := w1) hHeld.out ?_
  intro w2 hbx
  clear hHeld HT_ HW_ KP
  replace V := Aside0.mk (V.out.below hbx)
  replace BM := Aside0.mk (BM.out.below hbx)
  replace BK3 := Aside0.mk (BK3.out.below hbx)
  replace HB := Aside0.mk (below_step HB.out hbx)
  clear hbx
  obtain ⟨zBM_0, zBM_1, zBM_2, zBM_3, zBM_4, zBM_5, zBM_6, zBM_7, zBM_8, zBM_9⟩ := BM.out.c10
  obtain ⟨zBK3_0, zBK3_1, zBK3_2, zBK3_3⟩ := BK3.out.c4
  go_wp2
  go_ret
  exact ⟨rfl, (Stp.here ⟨_, _, _, _, _, _, _, _, V.out⟩).from HB.out⟩
set_option maxHeartbeats 4000000 in
theorem jump_big (h : Vm w base U gm gt vC vI vQ vM vE vL mo l li ⟨q, m, e, pc, acc, st, ended, fault⟩) (h0 : 0 ≤ j) (hj : (l.length : Int) ≤ j) : Calls Try.prog 67 #[.pointer (some ⟨gm, 0, none⟩), .agg #[.int .i64 k, .int .i64 a, .int .i64 b, .int .i64 j]] w fun x w' => x = .returned (.int .i64 3) ∧ Stp w base U gm l li ⟨q, m, e, pc, acc, st, ended, fault⟩ w' := by
  obtain ⟨AC, cC, AI, cI, AQ, cQ, AM, cM, AE, cE, rfl, rfl, rfl, rfl, rfl⟩ := h.forms
  have j0 : decide (j < 0) = false := decide_eq_false (by omega)
  have j1 : decide ((l.length : Int) ≤ j) = true := decide_eq_true hj
  have j2 : decide (j ≥ (l.length : Int)) = true := decide_eq_true hj
  have HB := Aside0.mk (Below.refl w.heap.size w)
  have V := Aside0.mk (h)
  have BM : Aside0 (Bk w gm 98 #[.slice AC l.length cC, .slice AI li.length cI, .slice AQ q.length cQ, .slice AM m.length cM, .slice AE e.length cE, .int .i64 pc, .bool acc, .pointer (some ⟨gt, 0, none⟩), .bool ended, .int .i64 fault]) := Aside0.mk (h.bm)
  clear h hj h0
  obtain ⟨zBM_0, zBM_1, zBM_2, zBM_3, zBM_4, zBM_5, zBM_6, zBM_7, zBM_8, zBM_9⟩ := BM.out.c10
  go_enter Try.func67, Try.ntmps67
  go_wp2_with (((with_reducible refine gate_dst (N := 3) rfl ?_); refine box_event ?hg (N := 3) ?hd (cs := #[.int .i64 k, .int .i64 a, .int .i64 b, .int .i64 j]) (t := 66) ?hr ?_; (case hd => rfl); (case hg => rfl); (case hr => first | (go_simp; done) | (go_simp; rfl)); intro g3 hg w1 hbox hb; have hbx : Below w.heap.size w w1 := below_step (by repeat (first | (with_reducible first | exact Below.refl _ _ | apply below_alloc | apply pw_below_drewN | apply below_drew1) | exact Below.refl _ _)) hb; clear zBM_0 zBM_1 zBM_2 zBM_3 zBM_4 zBM_5 zBM_6 zBM_7 zBM_8 zBM_9; replace V := Aside0.mk (V.out.below hbx); replace BM := Aside0.mk (BM.out.below hbx); replace HB := Aside0.mk (below_step HB.out hbx); clear hbx; have BK3 := Aside0.mk (Bk.mk (hbox : Blk w1 g3 66 #[.int .i64 k, .int .i64 a, .int .i64 b, .int .i64 j])); clear hbox hg hb; obtain ⟨zBM_0, zBM_1, zBM_2, zBM_3, zBM_4, zBM_5, zBM_6, zBM_7, zBM_8, zBM_9⟩ := BM.out.c10; obtain ⟨zBK3_0, zBK3_1, zBK3_2, zBK3_3⟩ := BK3.out.c4))
  have KP := Aside0.mk (fun w' (hb : Below w1.heap.size w1 w') => And.intro ((BM.out.below hb).c10) ((BK3.out.below hb).c4))
  clear zBM_0 zBM_1 zBM_2 zBM_3 zBM_4 zBM_5 zBM_6 zBM_7 zBM_8 zBM_9 zBK3_0 zBK3_1 zBK3_2 zBK3_3
  refine Evt.ow_start (w0 := w1) (T := (true, [([], []), ([0], [0]), ([1], [1]), ([2], [2]), ([3], [3]), ([4, 3], [3, 4]), ([3], [3]), ([6, 3], [3, 6]), ([7, 3], [3, 7]), ([8, 3], [3, 8]), ([9, 3], [3, 9]), ([5, 10, 3], [3, 5, 10]), ([3, 11], [3, 11]), ([12, 3], [12])])) (B := [0, 1, 3, 7, 15, 31, 15, 79, 207, 463, 975, 2047, 4095, 8191]) 14 [(0, some 6), (1, some 7), (2, some 8), (3, some 9), (4, some 10), (6, some 12), (7, some 13), (8, some 14), (5, some 11), (9, some 15), (10, some 16), (11, some 17), (12, some 18), (13, some 5)] (by kernel_rfl) rfl (by kernel_rfl) (by kernel_rfl) (by kernel_rfl) (by repeat (first | (with_reducible first | exact Below.refl _ _ | apply below_alloc | apply pw_below_drewN | apply below_drew1) | exact Below.refl _ _)) ?_
  intro HT_ HW_ w_ hHeld
  iterate 14 (first | (refine Evt.ow_off (a' := ?_) HT_ rfl rfl (by rfl) (by kernel_rfl) (fun _ _ _ h => h) ?_ ?_; rotate_left; (· (try simp only [Act.put, List.setIfInBounds_toArray, List.set_cons_zero, List.set_cons_succ, i64_w, i32_w]); rfl)) | (refine Evt.ow_pure (a' := ?_) (v := ?_) HT_ rfl rfl rfl (by rfl) (by kernel_rfl) (fun _ _ _ h => h) ?_ ?_ ?_; rotate_left 2; (· intro w'; go_simp; with_reducible rfl); (· (try simp only [Act.put, List.setIfInBounds_toArray, List.set_cons_zero, List.set_cons_succ, i64_w, i32_w]); rfl)) | (refine Evt.ow_load (a' := ?_) (v := ?_) HT_ HW_ hHeld rfl rfl rfl (by rfl) (by kernel_rfl) (fun _ _ _ h => h) ?_ ?_ ?_; rotate_left 2; (· intro w' hS_; obtain ⟨⟨s0, s1, s2, s3, s4, s5, s6, s7, s8, s9⟩, ⟨s10, s11, s12, s13⟩⟩ := KP.out w' hS_.out; go_simp; with_reducible rfl); (· (try simp only [Act.put, List.setIfInBounds_toArray, List.set_cons_zero, List.set_cons_succ, i64_w, i32_w]); rfl)))
  refine Evt.ow_done HT_ (by kernel_rfl) ?_
  refine Evt.gen_any (w0 := w1) hHeld.out ?_
  intro w2 hbx
  clear hHeld HT_ HW_ KP
  replace V := Aside0.mk (V.out.below hbx)
  replace BM := Aside0.mk (BM.out.below hbx)
  replace BK3 := Aside0.mk (BK3.out.below hbx)
  replace HB := Aside0.mk (below_step HB.out hbx)
  clear hbx
  obtain ⟨zBM_0, zBM_1, zBM_2, zBM_3, zBM_4, zBM_5, zBM_6, zBM_7, zBM_8, zBM_9⟩ := BM.out.c10
  obtain ⟨zBK3_0, zBK3_1, zBK3_2, zBK3_3⟩ := BK3.out.c4
  go_wp2
  go_ret
  exact ⟨rfl, (Stp.here ⟨_, _, _, _, _, _, _, _, V.out⟩).from HB.out⟩
set_option maxHeartbeats 4000000 in
theorem jump_back (h : Vm w base U gm gt vC vI vQ vM vE vL mo l li ⟨q, m, e, pc, acc, st, ended, fault⟩) (h0 : 0 ≤ j) (hj : j < (l.length : Int)) (hp : j ≤ pc) : Calls Try.prog 67 #[.pointer (some ⟨gm, 0, none⟩), .agg #[.int .i64 k, .int .i64 a, .int .i64 b, .int .i64 j]] w fun x w' => x = .returned (.int .i64 17) ∧ Stp w base U gm l li ⟨q, m, e, pc, acc, st, ended, fault⟩ w' := by
  obtain ⟨AC, cC, AI, cI, AQ, cQ, AM, cM, AE, cE, rfl, rfl, rfl, rfl, rfl⟩ := h.forms
  have j0 : decide (j < 0) = false := decide_eq_false (by omega)
  have j1 : decide ((l.length : Int) ≤ j) = false := decide_eq_false (by omega)
  have j2 : decide (j ≥ (l.length : Int)) = false := decide_eq_false (by omega)
  have j3 : decide (j ≤ pc) = true := decide_eq_true hp
  have HB := Aside0.mk (Below.refl w.heap.size w)
  have V := Aside0.mk (h)
  have BM : Aside0 (Bk w gm 98 #[.slice AC l.length cC, .slice AI li.length cI, .slice AQ q.length cQ, .slice AM m.length cM, .slice AE e.length cE, .int .i64 pc, .bool acc, .pointer (some ⟨gt, 0, none⟩), .bool ended, .int .i64 fault]) := Aside0.mk (h.bm)
  clear h hj h0 hp
  obtain ⟨zBM_0, zBM_1, zBM_2, zBM_3, zBM_4, zBM_5, zBM_6, zBM_7, zBM_8, zBM_9⟩ := BM.out.c10
  go_enter Try.func67, Try.ntmps67
  go_wp2_with (((with_reducible refine gate_dst (N := 3) rfl ?_); refine box_event ?hg (N := 3) ?hd (cs := #[.int .i64 k, .int .i64 a, .int .i64 b, .int .i64 j]) (t := 66) ?hr ?_; (case hd => rfl); (case hg => rfl); (case hr => first | (go_simp; done) | (go_simp; rfl)); intro g3 hg w1 hbox hb; have hbx : Below w.heap.size w w1 := below_step (by repeat (first | (with_reducible first | exact Below.refl _ _ | apply below_alloc | apply pw_below_drewN | apply below_drew1) | exact Below.refl _ _)) hb; clear zBM_0 zBM_1 zBM_2 zBM_3 zBM_4 zBM_5 zBM_6 zBM_7 zBM_8 zBM_9; replace V := Aside0.mk (V.out.below hbx); replace BM := Aside0.mk (BM.out.below hbx); replace HB := Aside0.mk (below_step HB.out hbx); clear hbx; have BK3 := Aside0.mk (Bk.mk (hbox : Blk w1 g3 66 #[.int .i64 k, .int .i64 a, .int .i64 b, .int .i64 j])); clear hbox hg hb; obtain ⟨zBM_0, zBM_1, zBM_2, zBM_3, zBM_4, zBM_5, zBM_6, zBM_7, zBM_8, zBM_9⟩ := BM.out.c10; obtain ⟨zBK3_0, zBK3_1, zBK3_2, zBK3_3⟩ := BK3.out.c4))
  have KP := Aside0.mk (fun w' (hb : Below w1.heap.size w1 w') => And.intro ((BM.out.below hb).c10) ((BK3.out.below hb).c4))
  clear zBM_0 zBM_1 zBM_2 zBM_3 zBM_4 zBM_5 zBM_6 zBM_7 zBM_8 zBM_9 zBK3_0 zBK3_1 zBK3_2 zBK3_3
  refine Evt.ow_start (w0 := w1) (T := (true, [([], []), ([0], [0]), ([1], [1]), ([2], [2]), ([3], [3]), ([4, 3], [3, 4]), ([3], [3]), ([6, 3], [3, 6]), ([7, 3], [3, 7]), ([8, 3], [3, 8]), ([9, 3], [3, 9]), ([5, 10, 3], [3, 5, 10]), ([3, 11], [3, 11]), ([12, 3], [12])])) (B := [0, 1, 3, 7, 15, 31, 15, 79, 207, 463, 975, 2047, 4095, 8191]) 14 [(0, some 6), (1, some 7), (2, some 8), (3, some 9), (4, some 10), (6, some 12), (7, some 13), (8, some 14), (5, some 11), (9, some 15), (10, some 16), (11, some 17), (12, some 18), (13, some 5)] (by kernel_rfl) rfl (by kernel_rfl) (by kernel_rfl) (by kernel_rfl) (by repeat (first | (with_reducible first | exact Below.refl _ _ | apply below_alloc | apply pw_below_drewN | apply below_drew1) | exact Below.refl _ _)) ?_
  intro HT_ HW_ w_ hHeld
  iterate 14 (first | (refine Evt.ow_off (a' := ?_) HT_ rfl rfl (by rfl) (by kernel_rfl) (fun _ _ _ h => h) ?_ ?_; rotate_left; (· (try simp only [Act.put, List.setIfInBounds_toArray, List.set_cons_zero, List.set_cons_succ, i64_w, i32_w]); rfl)) | (refine Evt.ow_pure (a' := ?_) (v := ?_) HT_ rfl rfl rfl (by rfl) (by kernel_rfl) (fun _ _ _ h => h) ?_ ?_ ?_; rotate_left 2; (· intro w'; go_simp; with_reducible rfl); (· (try simp only [Act.put, List.setIfInBounds_toArray, List.set_cons_zero, List.set_cons_succ, i64_w, i32_w]); rfl)) | (refine Evt.ow_load (a' := ?_) (v := ?_) HT_ HW_ hHeld rfl rfl rfl (by rfl) (by kernel_rfl) (fun _ _ _ h => h) ?_ ?_ ?_; rotate_left 2; (· intro w' hS_; obtain ⟨⟨s0, s1, s2, s3, s4, s5, s6, s7, s8, s9⟩, ⟨s10, s11, s12, s13⟩⟩ := KP.out w' hS_.out; go_simp; with_reducible rfl); (· (try simp only [Act.put, List.setIfInBounds_toArray, List.set_cons_zero, List.set_cons_succ, i64_w, i32_w]); rfl)))
  refine Evt.ow_done HT_ (by kernel_rfl) ?_
  refine Evt.gen_any (w0 := w1) hHeld.out ?_
  intro w2 hbx
  clear hHeld HT_ HW_ KP
  replace V := Aside0.mk (V.out.below hbx)
  replace BM := Aside0.mk (BM.out.below hbx)
  replace BK3 := Aside0.mk (BK3.out.below hbx)
  replace HB := Aside0.mk (below_step HB.out hbx)
  clear hbx
  obtain ⟨zBM_0, zBM_1, zBM_2, zBM_3, zBM_4, zBM_5, zBM_6, zBM_7, zBM_8, zBM_9⟩ := BM.out.c10
  obtain ⟨zBK3_0, zBK3_1, zBK3_2, zBK3_3⟩ := BK3.out.c4
  go_wp2
  have KP := Aside0.mk (fun w' (hb : Below w2.heap.size w2 w') => And.intro ((BM.out.below hb).c10) ((BK3.out.below hb).c4))
  clear zBM_0 zBM_1 zBM_2 zBM_3 zBM_4 zBM_5 zBM_6 zBM_7 zBM_8 zBM_9 zBK3_0 zBK3_1 zBK3_2 zBK3_3
  refine Evt.ow_start (w0 := w2) (T := (true, [([], []), ([0], [0]), ([], []), ([2], [2]), ([3], [3]), ([4], [4]), ([1, 5], [1, 5]), ([6], [6])])) (B := [0, 1, 0, 4, 12, 28, 63, 127]) 8 [(0, some 20), (2, some 22), (3, some 23), (4, some 24), (1, some 21), (5, some 25), (6, some 26), (7, some 19)] (by kernel_rfl) rfl (by kernel_rfl) (by kernel_rfl) (by kernel_rfl) (by repeat (first | (with_reducible first | exact Below.refl _ _ | apply below_alloc | apply pw_below_drewN | apply below_drew1) | exact Below.refl _ _)) ?_
  intro HT_ HW_ w_ hHeld
  iterate 8 (first | (refine Evt.ow_off (a' := ?_) HT_ rfl rfl (by rfl) (by kernel_rfl) (fun _ _ _ h => h) ?_ ?_; rotate_left; (· (try simp only [Act.put, List.setIfInBounds_toArray, List.set_cons_zero, List.set_cons_succ, i64_w, i32_w]); rfl)) | (refine Evt.ow_pure (a' := ?_) (v := ?_) HT_ rfl rfl rfl (by rfl) (by kernel_rfl) (fun _ _ _ h => h) ?_ ?_ ?_; rotate_left 2; (· intro w'; go_simp; with_reducible rfl); (· (try simp only [Act.put, List.setIfInBounds_toArray, List.set_cons_zero, List.set_cons_succ, i64_w, i32_w]); rfl)) | (refine Evt.ow_load (a' := ?_) (v := ?_) HT_ HW_ hHeld rfl rfl rfl (by rfl) (by kernel_rfl) (fun _ _ _ h => h) ?_ ?_ ?_; rotate_left 2; (· intro w' hS_; obtain ⟨⟨s0, s1, s2, s3, s4, s5, s6, s7, s8, s9⟩, ⟨s10, s11, s12, s13⟩⟩ := KP.out w' hS_.out; go_simp; with_reducible rfl); (· (try simp only [Act.put, List.setIfInBounds_toArray, List.set_cons_zero, List.set_cons_succ, i64_w, i32_w]); rfl)))
  refine Evt.ow_done HT_ (by kernel_rfl) ?_
  refine Evt.gen_any (w0 := w2) hHeld.out ?_
  intro w3 hbx
  clear hHeld HT_ HW_ KP
  replace V := Aside0.mk (V.out.below hbx)
  replace BM := Aside0.mk (BM.out.below hbx)
  replace BK3 := Aside0.mk (BK3.out.below hbx)
  replace HB := Aside0.mk (below_step HB.out hbx)
  clear hbx
  obtain ⟨zBM_0, zBM_1, zBM_2, zBM_3, zBM_4, zBM_5, zBM_6, zBM_7, zBM_8, zBM_9⟩ := BM.out.c10
  obtain ⟨zBK3_0, zBK3_1, zBK3_2, zBK3_3⟩ := BK3.out.c4
  go_wp2
  go_ret
  exact ⟨rfl, (Stp.here ⟨_, _, _, _, _, _, _, _, V.out⟩).from HB.out⟩
set_option maxHeartbeats 4000000 in
theorem jump_ok (h : Vm w base U gm gt vC vI vQ vM vE vL mo l li ⟨q, m, e, pc, acc, st, ended, fault⟩) (h0 : 0 ≤ j) (hj : j < (l.length : Int)) (hp : pc < j) : Calls Try.prog 67 #[.pointer (some ⟨gm, 0, none⟩), .agg #[.int .i64 k, .int .i64 a, .int .i64 b, .int .i64 j]] w fun x w' => x = .returned (.int .i64 0) ∧ Stp w base U gm l li ⟨q, m, e, if acc = true then j - 1 else pc, acc, st, ended, fault⟩ w' := by
  obtain ⟨AC, cC, AI, cI, AQ, cQ, AM, cM, AE, cE, rfl, rfl, rfl, rfl, rfl⟩ := h.forms
  have j0 : decide (j < 0) = false := decide_eq_false (by omega)
  have j1 : decide ((l.length : Int) ≤ j) = false := decide_eq_false (by omega)
  have j2 : decide (j ≥ (l.length : Int)) = false := decide_eq_false (by omega)
  have j3 : decide (j ≤ pc) = false := decide_eq_false (by omega)
  have j4 : j ≤ 20000 := by have := h.fit.c; omega
  have HB := Aside0.mk (Below.refl w.heap.size w)
  have V := Aside0.mk (h)
  have BM : Aside0 (Bk w gm 98 #[.slice AC l.length cC, .slice AI li.length cI, .slice AQ q.length cQ, .slice AM m.length cM, .slice AE e.length cE, .int .i64 pc, .bool acc, .pointer (some ⟨gt, 0, none⟩), .bool ended, .int .i64 fault]) := Aside0.mk (h.bm)
  clear h hj hp
  obtain ⟨zBM_0, zBM_1, zBM_2, zBM_3, zBM_4, zBM_5, zBM_6, zBM_7, zBM_8, zBM_9⟩ := BM.out.c10
  go_enter Try.func67, Try.ntmps67
  go_wp2_with (((with_reducible refine gate_dst (N := 3) rfl ?_); refine box_event ?hg (N := 3) ?hd (cs := #[.int .i64 k, .int .i64 a, .int .i64 b, .int .i64 j]) (t := 66) ?hr ?_; (case hd => rfl); (case hg => rfl); (case hr => first | (go_simp; done) | (go_simp; rfl)); intro g3 hg w1 hbox hb; have hbx : Below w.heap.size w w1 := below_step (by repeat (first | (with_reducible first | exact Below.refl _ _ | apply below_alloc | apply pw_below_drewN | apply below_drew1) | exact Below.refl _ _)) hb; clear zBM_0 zBM_1 zBM_2 zBM_3 zBM_4 zBM_5 zBM_6 zBM_7 zBM_8 zBM_9; replace V := Aside0.mk (V.out.below hbx); replace BM := Aside0.mk (BM.out.below hbx); replace HB := Aside0.mk (below_step HB.out hbx); clear hbx; have BK3 := Aside0.mk (Bk.mk (hbox : Blk w1 g3 66 #[.int .i64 k, .int .i64 a, .int .i64 b, .int .i64 j])); clear hbox hg hb; obtain ⟨zBM_0, zBM_1, zBM_2, zBM_3, zBM_4, zBM_5, zBM_6, zBM_7, zBM_8, zBM_9⟩ := BM.out.c10; obtain ⟨zBK3_0, zBK3_1, zBK3_2, zBK3_3⟩ := BK3.out.c4))
  have KP := Aside0.mk (fun w' (hb : Below w1.heap.size w1 w') => And.intro ((BM.out.below hb).c10) ((BK3.out.below hb).c4))
  clear zBM_0 zBM_1 zBM_2 zBM_3 zBM_4 zBM_5 zBM_6 zBM_7 zBM_8 zBM_9 zBK3_0 zBK3_1 zBK3_2 zBK3_3
  refine Evt.ow_start (w0 := w1) (T := (true, [([], []), ([0], [0]), ([1], [1]), ([2], [2]), ([3], [3]), ([4, 3], [3, 4]), ([3], [3]), ([6, 3], [3, 6]), ([7, 3], [3, 7]), ([8, 3], [3, 8]), ([9, 3], [3, 9]), ([5, 10, 3], [3, 5, 10]), ([3, 11], [3, 11]), ([12, 3], [12])])) (B := [0, 1, 3, 7, 15, 31, 15, 79, 207, 463, 975, 2047, 4095, 8191]) 14 [(0, some 6), (1, some 7), (2, some 8), (3, some 9), (4, some 10), (6, some 12), (7, some 13), (8, some 14), (5, some 11), (9, some 15), (10, some 16), (11, some 17), (12, some 18), (13, some 5)] (by kernel_rfl) rfl (by kernel_rfl) (by kernel_rfl) (by kernel_rfl) (by repeat (first | (with_reducible first | exact Below.refl _ _ | apply below_alloc | apply pw_below_drewN | apply below_drew1) | exact Below.refl _ _)) ?_
  intro HT_ HW_ w_ hHeld
  iterate 14 (first | (refine Evt.ow_off (a' := ?_) HT_ rfl rfl (by rfl) (by kernel_rfl) (fun _ _ _ h => h) ?_ ?_; rotate_left; (· (try simp only [Act.put, List.setIfInBounds_toArray, List.set_cons_zero, List.set_cons_succ, i64_w, i32_w]); rfl)) | (refine Evt.ow_pure (a' := ?_) (v := ?_) HT_ rfl rfl rfl (by rfl) (by kernel_rfl) (fun _ _ _ h => h) ?_ ?_ ?_; rotate_left 2; (· intro w'; go_simp; with_reducible rfl); (· (try simp only [Act.put, List.setIfInBounds_toArray, List.set_cons_zero, List.set_cons_succ, i64_w, i32_w]); rfl)) | (refine Evt.ow_load (a' := ?_) (v := ?_) HT_ HW_ hHeld rfl rfl rfl (by rfl) (by kernel_rfl) (fun _ _ _ h => h) ?_ ?_ ?_; rotate_left 2; (· intro w' hS_; obtain ⟨⟨s0, s1, s2, s3, s4, s5, s6, s7, s8, s9⟩, ⟨s10, s11, s12, s13⟩⟩ := KP.out w' hS_.out; go_simp; with_reducible rfl); (· (try simp only [Act.put, List.setIfInBounds_toArray, List.set_cons_zero, List.set_cons_succ, i64_w, i32_w]); rfl)))
  refine Evt.ow_done HT_ (by kernel_rfl) ?_
  refine Evt.gen_any (w0 := w1) hHeld.out ?_
  intro w2 hbx
  clear hHeld HT_ HW_ KP
  replace V := Aside0.mk (V.out.below hbx)
  replace BM := Aside0.mk (BM.out.below hbx)
  replace BK3 := Aside0.mk (BK3.out.below hbx)
  replace HB := Aside0.mk (below_step HB.out hbx)
  clear hbx
  obtain ⟨zBM_0, zBM_1, zBM_2, zBM_3, zBM_4, zBM_5, zBM_6, zBM_7, zBM_8, zBM_9⟩ := BM.out.c10
  obtain ⟨zBK3_0, zBK3_1, zBK3_2, zBK3_3⟩ := BK3.out.c4
  go_wp2
  have KP := Aside0.mk (fun w' (hb : Below w2.heap.size w2 w') => And.intro ((BM.out.below hb).c10) ((BK3.out.below hb).c4))
  clear zBM_0 zBM_1 zBM_2 zBM_3 zBM_4 zBM_5 zBM_6 zBM_7 zBM_8 zBM_9 zBK3_0 zBK3_1 zBK3_2 zBK3_3
  refine Evt.ow_start (w0 := w2) (T := (true, [([], []), ([0], [0]), ([], []), ([2], [2]), ([3], [3]), ([4], [4]), ([1, 5], [1, 5]), ([6], [6])])) (B := [0, 1, 0, 4, 12, 28, 63, 127]) 8 [(0, some 20), (2, some 22), (3, some 23), (4, some 24), (1, some 21), (5, some 25), (6, some 26), (7, some 19)] (by kernel_rfl) rfl (by kernel_rfl) (by kernel_rfl) (by kernel_rfl) (by repeat (first | (with_reducible first | exact Below.refl _ _ | apply below_alloc | apply pw_below_drewN | apply below_drew1) | exact Below.refl _ _)) ?_
  intro HT_ HW_ w_ hHeld
  iterate 8 (first | (refine Evt.ow_off (a' := ?_) HT_ rfl rfl (by rfl) (by kernel_rfl) (fun _ _ _ h => h) ?_ ?_; rotate_left; (· (try simp only [Act.put, List.setIfInBounds_toArray, List.set_cons_zero, List.set_cons_succ, i64_w, i32_w]); rfl)) | (refine Evt.ow_pure (a' := ?_) (v := ?_) HT_ rfl rfl rfl (by rfl) (by kernel_rfl) (fun _ _ _ h => h) ?_ ?_ ?_; rotate_left 2; (· intro w'; go_simp; with_reducible rfl); (· (try simp only [Act.put, List.setIfInBounds_toArray, List.set_cons_zero, List.set_cons_succ, i64_w, i32_w]); rfl)) | (refine Evt.ow_load (a' := ?_) (v := ?_) HT_ HW_ hHeld rfl rfl rfl (by rfl) (by kernel_rfl) (fun _ _ _ h => h) ?_ ?_ ?_; rotate_left 2; (· intro w' hS_; obtain ⟨⟨s0, s1, s2, s3, s4, s5, s6, s7, s8, s9⟩, ⟨s10, s11, s12, s13⟩⟩ := KP.out w' hS_.out; go_simp; with_reducible rfl); (· (try simp only [Act.put, List.setIfInBounds_toArray, List.set_cons_zero, List.set_cons_succ, i64_w, i32_w]); rfl)))
  refine Evt.ow_done HT_ (by kernel_rfl) ?_
  refine Evt.gen_any (w0 := w2) hHeld.out ?_
  intro w3 hbx
  clear hHeld HT_ HW_ KP
  replace V := Aside0.mk (V.out.below hbx)
  replace BM := Aside0.mk (BM.out.below hbx)
  replace BK3 := Aside0.mk (BK3.out.below hbx)
  replace HB := Aside0.mk (below_step HB.out hbx)
  clear hbx
  obtain ⟨zBM_0, zBM_1, zBM_2, zBM_3, zBM_4, zBM_5, zBM_6, zBM_7, zBM_8, zBM_9⟩ := BM.out.c10
  obtain ⟨zBK3_0, zBK3_1, zBK3_2, zBK3_3⟩ := BK3.out.c4
  have fBM_5 : w3.frozen? ⟨gm, 5, none⟩ = false := blk_frozen BM.out.blk 5
  go_wp2
  all_goals
    go_ret
    cases acc <;> first
      | contradiction
      | (exfalso; simp_all; done)
      | exact ⟨rfl, Stp.from HB.out (V.out.stpc (V.out.setPc (j - 1) (by omega) (by omega)) ((Chg.refl (fun x => x = gm) _).setCell (p := ⟨gm, 5, none⟩) (.inl rfl) _))⟩
      | exact ⟨rfl, Stp.from HB.out (Stp.here ⟨_, _, _, _, _, _, _, _, V.out⟩)⟩
end
end
end Go.Proofs.Ytjohdkbciafpfaa.Vm6
