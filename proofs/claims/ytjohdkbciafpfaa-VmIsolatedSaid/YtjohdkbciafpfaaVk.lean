/- Chapter 06: the reference's Clone of states, walked. -/
import Derived.Test.YtjohdkbciafpfaaOd
import Derived.Test.YtjohdkbciafpfaaVi4
namespace Go.Proofs.Ytjohdkbciafpfaa.Vm6
open Go.RowKit Go.Proofs.YtjohdkbciafpfaaW.PrintWords Go.Proofs.YtjohdkbciafpfaaW.PrintMore Go.Proofs.YtjohdkbciafpfaaW.PrintLast Go.Proofs.Ytjohdkbciafpfaa.Chg Go.Proofs.Ytjohdkbciafpfaa.Evt Go.Proofs.Ytjohdkbciafpfaa.Impl
set_option linter.unusedVariables false
set_option linter.unusedSimpArgs false
set_option maxRecDepth 100000
set_option maxHeartbeats 16000000 in
theorem cloneR {w : World} {A0 A1 A2 : Option Addr} {c0 c1 c2 : Nat} {l0 l1 l2 : List Bool} (h : Sb w A0 c0 A1 c1 A2 c2 l0 l1 l2) : Calls Try.prog 23 #[.agg #[.slice A0 l0.length c0, .slice A1 l1.length c1, .slice A2 l2.length c2]] w fun x w' => Gives1 w x w' l0 l1 l2 := by
  have b0 := h.b0
  have b1 := h.b1
  have b2 := h.b2
  have HB := Aside0.mk (Below.refl w.heap.size w)
  have SB := Aside0.mk (h)
  clear h
  go_enter Try.func23, Try.ntmps23
  go_wp2_with (first | ((with_reducible refine gate_dst (N := 1) rfl ?_); refine box_event ?hg (N := 1) ?hd (cs := #[.slice A0 l0.length c0, .slice A1 l1.length c1, .slice A2 l2.length c2]) (t := 24) ?hr ?_; (case hd => rfl); (case hg => rfl); (case hr => first | (go_simp; done) | (go_simp; rfl)); intro g1 hg w1 hbox hb; have hbx : Below w.heap.size w w1 := below_step (by repeat (first | (with_reducible first | exact Below.refl _ _ | apply below_alloc | apply pw_below_drewN | apply below_drew1) | exact Below.refl _ _)) hb; replace SB := Aside0.mk (SB.out.below hbx); replace HB := Aside0.mk (below_step HB.out hbx); clear hbx; have BK1 := Aside0.mk (Bk.mk (hbox : Blk w1 g1 24 #[.slice A0 l0.length c0, .slice A1 l1.length c1, .slice A2 l2.length c2])); clear hbox hg hb; obtain ⟨zBK1_0, zBK1_1, zBK1_2⟩ := BK1.out.c3) | ((with_reducible refine gate_dst (N := 2) rfl ?_); refine box_event ?hg (N := 2) ?hd (cs := #[.slice none 0 0, .slice none 0 0, .slice none 0 0]) (t := 24) ?hr ?_; (case hd => rfl); (case hg => rfl); (case hr => first | (go_simp; done) | (go_simp; rfl)); intro g2 hg w2 hbox hb; have hbx : Below w1.heap.size w1 w2 := below_step (by repeat (first | (with_reducible first | exact Below.refl _ _ | apply below_alloc | apply pw_below_drewN | apply below_drew1) | exact Below.refl _ _)) hb; have GG2 := Aside0.mk (show w.heap.size ≤ g2 from (by rw [hg]; exact below_size (below_step HB.out (by repeat (first | (with_reducible first | exact Below.refl _ _ | apply below_alloc | apply pw_below_drewN | apply below_drew1) | exact Below.refl _ _))))); clear zBK1_0 zBK1_1 zBK1_2; replace SB := Aside0.mk (SB.out.below hbx); replace BK1 := Aside0.mk (BK1.out.below hbx); replace HB := Aside0.mk (below_step HB.out hbx); clear hbx; have BK2 := Aside0.mk (Bk.mk (hbox : Blk w2 g2 24 #[.slice none 0 0, .slice none 0 0, .slice none 0 0])); clear hbox hg hb; obtain ⟨zBK1_0, zBK1_1, zBK1_2⟩ := BK1.out.c3; obtain ⟨zBK2_0, zBK2_1, zBK2_2⟩ := BK2.out.c3))
  have KP := Aside0.mk (fun w' (hb : Below w2.heap.size w2 w') => (BK1.out.below hb).c3)
  clear zBK1_0 zBK1_1 zBK1_2 zBK2_0 zBK2_1 zBK2_2
  refine Evt.ol_start (ds := [13]) (w0 := w2) (T := (true, [([], []), ([], []), ([1], [1]), ([0, 2], [0, 2]), ([], []), ([], []), ([5], [5]), ([4, 6, 3], [4, 6]), ([], []), ([], []), ([9], [9]), ([8, 10, 7], [8, 10]), ([3, 7, 11], [3, 7, 11]), ([12, 11, 0, 1, 2, 3, 4, 5, 6, 7, 8, 9, 10, 11, 12], [12])])) (B := [0, 0, 2, 7, 0, 0, 32, 127, 0, 0, 512, 2047, 4095, 8191]) 14 [(1, some 4), (2, some 5), (5, some 8), (6, some 9), (9, some 12), (10, some 13), (0, some 3), (3, some 6), (4, some 7), (7, some 10), (8, some 11), (11, some 14), (12, some 15), (13, none)] (by kernel_rfl) rfl (by kernel_rfl) (by kernel_rfl) (by kernel_rfl) (by repeat (first | (with_reducible first | exact Below.refl _ _ | apply below_alloc | apply pw_below_drewN | apply below_drew1) | exact Below.refl _ _)) ?_
  intro HT_ HW_ w_ hHeld
  iterate 6 (first | (refine Evt.ol_off (a' := ?_) HT_ rfl rfl (by rfl) (by kernel_rfl) (fun _ _ _ h => h) ?_ ?_; rotate_left; (· (try simp only [Act.put, List.setIfInBounds_toArray, List.set_cons_zero, List.set_cons_succ, i64_w, i32_w]); rfl)) | (refine Evt.ol_pure (a' := ?_) (v := ?_) HT_ rfl rfl rfl (by rfl) (by kernel_rfl) (fun _ _ _ h => h) ?_ ?_ ?_; rotate_left 2; (· intro w'; go_simp; with_reducible rfl); (· (try simp only [Act.put, List.setIfInBounds_toArray, List.set_cons_zero, List.set_cons_succ, i64_w, i32_w]); rfl)) | (refine Evt.ol_load (a' := ?_) (v := ?_) HT_ HW_ hHeld rfl rfl rfl (by rfl) (by kernel_rfl) (fun _ _ _ h => h) ?_ ?_ ?_; rotate_left 2; (· intro w' hS_; obtain ⟨s0, s1, s2⟩ := KP.out w' hS_.out; go_simp; with_reducible rfl); (· (try simp only [Act.put, List.setIfInBounds_toArray, List.set_cons_zero, List.set_cons_succ, i64_w, i32_w]); rfl)))
  refine Evt.od_join (σ := Value × Value × Value × Value × Value × Value) 2 [(12, some 15), (13, none)] (fun s => [(3, s.1), (6, s.2.1), (7, s.2.2.1), (10, s.2.2.2.1), (11, s.2.2.2.2.1), (14, s.2.2.2.2.2)]) (fun s w' => Evt.Ro Kd.bool 4 w2 w' s.2.1 (l0) ∧ Evt.Ro Kd.bool 4 w2 w' s.2.2.2.1 (l1) ∧ Evt.Ro Kd.bool 4 w2 w' s.2.2.2.2.2 (l2) ∧ Evt.Apart s.2.1 s.2.2.2.1 ∧ Evt.Apart s.2.1 s.2.2.2.2.2 ∧ Evt.Apart s.2.2.2.1 s.2.2.2.2.2) ?_ ?_
  · intro J_0_3_4_7_8_11
    refine Evt.od_join (σ := Value × Value × Value × Value × Value × Value) 3 [(11, some 14), (12, some 15), (13, none)] (fun s => [(3, s.1), (6, s.2.1), (7, s.2.2.1), (10, s.2.2.2.1), (11, s.2.2.2.2.1)]) (fun s w' => Evt.Ro Kd.bool 4 w2 w' s.2.1 (l0) ∧ Evt.Ro Kd.bool 4 w2 w' s.2.2.2.1 (l1) ∧ Evt.Ro Kd.bool 4 w2 w' s.2.2.2.2.1 ([]) ∧ Evt.Apart s.2.1 s.2.2.2.1 ∧ Evt.Apart s.2.1 s.2.2.2.2.1 ∧ Evt.Apart s.2.2.2.1 s.2.2.2.2.1) ?_ ?_
    rotate_left
    · rintro ⟨o0, n0, o1, n1, o2, n2⟩ w_ hHeld ⟨f0, f1, f2, p0_1, p0_2, p1_2⟩
      refine Evt.ol_norm (a' := ?_) ?_ ?_
      rotate_left
      · simp only [putAll, Act.put, List.setIfInBounds_toArray, List.set_cons_zero, List.set_cons_succ, i64_w, i32_w]; rfl
      refine Evt.od_one (i := 11) [(12, some 15), (13, none)] HT_ rfl rfl (by simp) (by kernel_rfl) (fun K_ hK_ => ?_)
      · refine Evt.d_app Evt.rkB hK_ hHeld (by rfl) rfl (.tmp 11) (.tmp 13) rfl o2 [] (l2) (A2) (l2.length) (c2) rfl rfl f2 ((SB.out.below hHeld.out).sr.r2.row) (by simp; omega) ?_
        intro v_ w1_ ho_ hg_ hat_ hH_
        exact Evt.ol_norm (by simp only [putAll, Act.put, List.setIfInBounds_toArray, List.set_cons_zero, List.set_cons_succ, i64_w, i32_w]; rfl) (J_0_3_4_7_8_11 (o0, n0, o1, n1, o2, v_) _ hH_ ⟨Evt.Ro.other rfl f0 hg_ p0_2.symm, Evt.Ro.other rfl f1 hg_ p1_2.symm, ho_, p0_1, (Evt.Apart.moved p0_2.symm f0.lt hat_).symm, (Evt.Apart.moved p1_2.symm f1.lt hat_).symm⟩)
    intro J_0_3_4_7_8
    refine Evt.od_join (σ := Value × Value × Value × Value × Value × Value) 4 [(8, some 11), (11, some 14), (12, some 15), (13, none)] (fun s => [(3, s.1), (6, s.2.1), (7, s.2.2.1), (10, s.2.2.2.1)]) (fun s w' => Evt.Ro Kd.bool 4 w2 w' s.2.1 (l0) ∧ Evt.Ro Kd.bool 4 w2 w' s.2.2.2.1 (l1) ∧ Evt.Apart s.2.1 s.2.2.2.1) ?_ ?_
    rotate_left
    · rintro ⟨o0, n0, o1, n1, o2, n2⟩ w_ hHeld ⟨f0, f1, p0_1⟩
      refine Evt.ol_norm (a' := ?_) ?_ ?_
      rotate_left
      · simp only [putAll, Act.put, List.setIfInBounds_toArray, List.set_cons_zero, List.set_cons_succ, i64_w, i32_w]; rfl
      refine Evt.od_one (i := 8) [(11, some 14), (12, some 15), (13, none)] HT_ rfl rfl (by simp) (by kernel_rfl) (fun K_ hK_ => ?_)
      · refine Evt.d_row0 (d := Kd.bool) (e := 4) hK_ hHeld (by rfl) rfl ?_ ?_
        · first | (go_simp; done) | (go_simp; rfl) | (go_simp; refine ⟨?_, ?_⟩ <;> rfl)
        intro v_ w1_ ho_ hn_ hb_ hH_
        exact Evt.ol_norm (by simp only [putAll, Act.put, List.setIfInBounds_toArray, List.set_cons_zero, List.set_cons_succ, i64_w, i32_w]; rfl) (J_0_3_4_7_8 (o0, n0, o1, n1, v_, undef) _ hH_ ⟨f0.below hb_, f1.below hb_, ho_, p0_1, (Evt.Apart.fresh f0.lt hn_).symm, (Evt.Apart.fresh f1.lt hn_).symm⟩)
    intro J_0_3_4_7
    refine Evt.od_join (σ := Value × Value × Value × Value × Value × Value) 4 [(7, some 10), (11, some 14), (12, some 15), (13, none)] (fun s => [(3, s.1), (6, s.2.1), (7, s.2.2.1), (11, s.2.2.2.2.1)]) (fun s w' => Evt.Ro Kd.bool 4 w2 w' s.2.1 (l0) ∧ Evt.Ro Kd.bool 4 w2 w' s.2.2.1 ([]) ∧ Evt.Ro Kd.bool 4 w2 w' s.2.2.2.2.1 ([]) ∧ Evt.Apart s.2.1 s.2.2.1 ∧ Evt.Apart s.2.1 s.2.2.2.2.1 ∧ Evt.Apart s.2.2.1 s.2.2.2.2.1) ?_ ?_
    rotate_left
    · rintro ⟨o0, n0, o1, n1, o2, n2⟩ w_ hHeld ⟨f0, f1, f2, p0_1, p0_2, p1_2⟩
      refine Evt.ol_norm (a' := ?_) ?_ ?_
      rotate_left
      · simp only [putAll, Act.put, List.setIfInBounds_toArray, List.set_cons_zero, List.set_cons_succ, i64_w, i32_w]; rfl
      refine Evt.od_one (i := 7) [(11, some 14), (12, some 15), (13, none)] HT_ rfl rfl (by simp) (by kernel_rfl) (fun K_ hK_ => ?_)
      · refine Evt.d_app Evt.rkB hK_ hHeld (by rfl) rfl (.tmp 7) (.tmp 9) rfl o1 [] (l1) (A1) (l1.length) (c1) rfl rfl f1 ((SB.out.below hHeld.out).sr.r1.row) (by simp; omega) ?_
        intro v_ w1_ ho_ hg_ hat_ hH_
        exact Evt.ol_norm (by simp only [putAll, Act.put, List.setIfInBounds_toArray, List.set_cons_zero, List.set_cons_succ, i64_w, i32_w]; rfl) (J_0_3_4_7_8 (o0, n0, o1, v_, o2, undef) _ hH_ ⟨Evt.Ro.other rfl f0 hg_ p0_1.symm, ho_, Evt.Ro.other rfl f2 hg_ p1_2, (Evt.Apart.moved p0_1.symm f0.lt hat_).symm, p0_2, (Evt.Apart.moved p1_2 f2.lt hat_)⟩)
    intro J_0_3_4_8
    refine Evt.od_join (σ := Value × Value × Value × Value × Value × Value) 5 [(7, some 10), (8, some 11), (11, some 14), (12, some 15), (13, none)] (fun s => [(3, s.1), (6, s.2.1), (7, s.2.2.1)]) (fun s w' => Evt.Ro Kd.bool 4 w2 w' s.2.1 (l0) ∧ Evt.Ro Kd.bool 4 w2 w' s.2.2.1 ([]) ∧ Evt.Apart s.2.1 s.2.2.1) ?_ ?_
    rotate_left
    · rintro ⟨o0, n0, o1, n1, o2, n2⟩ w_ hHeld ⟨f0, f1, p0_1⟩
      refine Evt.ol_norm (a' := ?_) ?_ ?_
      rotate_left
      · simp only [putAll, Act.put, List.setIfInBounds_toArray, List.set_cons_zero, List.set_cons_succ, i64_w, i32_w]; rfl
      refine Evt.od_two (i := 7) (j := 8) [(8, some 11), (11, some 14), (12, some 15), (13, none)] [(7, some 10), (11, some 14), (12, some 15), (13, none)] HT_ rfl rfl rfl rfl (by simp) (by kernel_rfl) (fun K_ hK_ => ?_) (fun K_ hK_ => ?_)
      · refine Evt.d_app Evt.rkB hK_ hHeld (by rfl) rfl (.tmp 7) (.tmp 9) rfl o1 [] (l1) (A1) (l1.length) (c1) rfl rfl f1 ((SB.out.below hHeld.out).sr.r1.row) (by simp; omega) ?_
        intro v_ w1_ ho_ hg_ hat_ hH_
        exact Evt.ol_norm (by simp only [putAll, Act.put, List.setIfInBounds_toArray, List.set_cons_zero, List.set_cons_succ, i64_w, i32_w]; rfl) (J_0_3_4_7 (o0, n0, o1, v_, undef, undef) _ hH_ ⟨Evt.Ro.other rfl f0 hg_ p0_1.symm, ho_, (Evt.Apart.moved p0_1.symm f0.lt hat_).symm⟩)
      · refine Evt.d_row0 (d := Kd.bool) (e := 4) hK_ hHeld (by rfl) rfl ?_ ?_
        · first | (go_simp; done) | (go_simp; rfl) | (go_simp; refine ⟨?_, ?_⟩ <;> rfl)
        intro v_ w1_ ho_ hn_ hb_ hH_
        exact Evt.ol_norm (by simp only [putAll, Act.put, List.setIfInBounds_toArray, List.set_cons_zero, List.set_cons_succ, i64_w, i32_w]; rfl) (J_0_3_4_8 (o0, n0, o1, undef, v_, undef) _ hH_ ⟨f0.below hb_, f1.below hb_, ho_, p0_1, (Evt.Apart.fresh f0.lt hn_).symm, (Evt.Apart.fresh f1.lt hn_).symm⟩)
    intro J_0_3_4
    refine Evt.od_join (σ := Value × Value × Value × Value × Value × Value) 5 [(4, some 7), (7, some 10), (11, some 14), (12, some 15), (13, none)] (fun s => [(3, s.1), (6, s.2.1), (11, s.2.2.2.2.1)]) (fun s w' => Evt.Ro Kd.bool 4 w2 w' s.2.1 (l0) ∧ Evt.Ro Kd.bool 4 w2 w' s.2.2.2.2.1 ([]) ∧ Evt.Apart s.2.1 s.2.2.2.2.1) ?_ ?_
    rotate_left
    · rintro ⟨o0, n0, o1, n1, o2, n2⟩ w_ hHeld ⟨f0, f2, p0_2⟩
      refine Evt.ol_norm (a' := ?_) ?_ ?_
      rotate_left
      · simp only [putAll, Act.put, List.setIfInBounds_toArray, List.set_cons_zero, List.set_cons_succ, i64_w, i32_w]; rfl
      refine Evt.od_one (i := 4) [(7, some 10), (11, some 14), (12, some 15), (13, none)] HT_ rfl rfl (by simp) (by kernel_rfl) (fun K_ hK_ => ?_)
      · refine Evt.d_row0 (d := Kd.bool) (e := 4) hK_ hHeld (by rfl) rfl ?_ ?_
        · first | (go_simp; done) | (go_simp; rfl) | (go_simp; refine ⟨?_, ?_⟩ <;> rfl)
        intro v_ w1_ ho_ hn_ hb_ hH_
        exact Evt.ol_norm (by simp only [putAll, Act.put, List.setIfInBounds_toArray, List.set_cons_zero, List.set_cons_succ, i64_w, i32_w]; rfl) (J_0_3_4_8 (o0, n0, v_, undef, o2, undef) _ hH_ ⟨f0.below hb_, ho_, f2.below hb_, (Evt.Apart.fresh f0.lt hn_).symm, p0_2, (Evt.Apart.fresh f2.lt hn_)⟩)
    intro J_0_3_8
    refine Evt.od_join (σ := Value × Value × Value × Value × Value × Value) 5 [(3, some 6), (7, some 10), (11, some 14), (12, some 15), (13, none)] (fun s => [(3, s.1), (7, s.2.2.1), (11, s.2.2.2.2.1)]) (fun s w' => Evt.Ro Kd.bool 4 w2 w' s.1 ([]) ∧ Evt.Ro Kd.bool 4 w2 w' s.2.2.1 ([]) ∧ Evt.Ro Kd.bool 4 w2 w' s.2.2.2.2.1 ([]) ∧ Evt.Apart s.1 s.2.2.1 ∧ Evt.Apart s.1 s.2.2.2.2.1 ∧ Evt.Apart s.2.2.1 s.2.2.2.2.1) ?_ ?_
    rotate_left
    · rintro ⟨o0, n0, o1, n1, o2, n2⟩ w_ hHeld ⟨f0, f1, f2, p0_1, p0_2, p1_2⟩
      refine Evt.ol_norm (a' := ?_) ?_ ?_
      rotate_left
      · simp only [putAll, Act.put, List.setIfInBounds_toArray, List.set_cons_zero, List.set_cons_succ, i64_w, i32_w]; rfl
      refine Evt.od_one (i := 3) [(7, some 10), (11, some 14), (12, some 15), (13, none)] HT_ rfl rfl (by simp) (by kernel_rfl) (fun K_ hK_ => ?_)
      · refine Evt.d_app Evt.rkB hK_ hHeld (by rfl) rfl (.tmp 3) (.tmp 5) rfl o0 [] (l0) (A0) (l0.length) (c0) rfl rfl f0 ((SB.out.below hHeld.out).sr.r0.row) (by simp; omega) ?_
        intro v_ w1_ ho_ hg_ hat_ hH_
        exact Evt.ol_norm (by simp only [putAll, Act.put, List.setIfInBounds_toArray, List.set_cons_zero, List.set_cons_succ, i64_w, i32_w]; rfl) (J_0_3_4_8 (o0, v_, o1, undef, o2, undef) _ hH_ ⟨ho_, Evt.Ro.other rfl f1 hg_ p0_1, Evt.Ro.other rfl f2 hg_ p0_2, (Evt.Apart.moved p0_1 f1.lt hat_), (Evt.Apart.moved p0_2 f2.lt hat_), p1_2⟩)
    intro J_0_4_8
    refine Evt.od_join (σ := Value × Value × Value × Value × Value × Value) 6 [(4, some 7), (7, some 10), (8, some 11), (11, some 14), (12, some 15), (13, none)] (fun s => [(3, s.1), (6, s.2.1)]) (fun s w' => Evt.Ro Kd.bool 4 w2 w' s.2.1 (l0)) ?_ ?_
    rotate_left
    · rintro ⟨o0, n0, o1, n1, o2, n2⟩ w_ hHeld f0
      refine Evt.ol_norm (a' := ?_) ?_ ?_
      rotate_left
      · simp only [putAll, Act.put, List.setIfInBounds_toArray, List.set_cons_zero, List.set_cons_succ, i64_w, i32_w]; rfl
      refine Evt.od_two (i := 4) (j := 8) [(7, some 10), (8, some 11), (11, some 14), (12, some 15), (13, none)] [(4, some 7), (7, some 10), (11, some 14), (12, some 15), (13, none)] HT_ rfl rfl rfl rfl (by simp) (by kernel_rfl) (fun K_ hK_ => ?_) (fun K_ hK_ => ?_)
      · refine Evt.d_row0 (d := Kd.bool) (e := 4) hK_ hHeld (by rfl) rfl ?_ ?_
        · first | (go_simp; done) | (go_simp; rfl) | (go_simp; refine ⟨?_, ?_⟩ <;> rfl)
        intro v_ w1_ ho_ hn_ hb_ hH_
        exact Evt.ol_norm (by simp only [putAll, Act.put, List.setIfInBounds_toArray, List.set_cons_zero, List.set_cons_succ, i64_w, i32_w]; rfl) (J_0_3_4 (o0, n0, v_, undef, undef, undef) _ hH_ ⟨f0.below hb_, ho_, (Evt.Apart.fresh f0.lt hn_).symm⟩)
      · refine Evt.d_row0 (d := Kd.bool) (e := 4) hK_ hHeld (by rfl) rfl ?_ ?_
        · first | (go_simp; done) | (go_simp; rfl) | (go_simp; refine ⟨?_, ?_⟩ <;> rfl)
        intro v_ w1_ ho_ hn_ hb_ hH_
        exact Evt.ol_norm (by simp only [putAll, Act.put, List.setIfInBounds_toArray, List.set_cons_zero, List.set_cons_succ, i64_w, i32_w]; rfl) (J_0_3_8 (o0, n0, undef, undef, v_, undef) _ hH_ ⟨f0.below hb_, ho_, (Evt.Apart.fresh f0.lt hn_).symm⟩)
    intro J_0_3
    refine Evt.od_join (σ := Value × Value × Value × Value × Value × Value) 6 [(3, some 6), (7, some 10), (8, some 11), (11, some 14), (12, some 15), (13, none)] (fun s => [(3, s.1), (7, s.2.2.1)]) (fun s w' => Evt.Ro Kd.bool 4 w2 w' s.1 ([]) ∧ Evt.Ro Kd.bool 4 w2 w' s.2.2.1 ([]) ∧ Evt.Apart s.1 s.2.2.1) ?_ ?_
    rotate_left
    · rintro ⟨o0, n0, o1, n1, o2, n2⟩ w_ hHeld ⟨f0, f1, p0_1⟩
      refine Evt.ol_norm (a' := ?_) ?_ ?_
      rotate_left
      · simp only [putAll, Act.put, List.setIfInBounds_toArray, List.set_cons_zero, List.set_cons_succ, i64_w, i32_w]; rfl
      refine Evt.od_two (i := 3) (j := 8) [(7, some 10), (8, some 11), (11, some 14), (12, some 15), (13, none)] [(3, some 6), (7, some 10), (11, some 14), (12, some 15), (13, none)] HT_ rfl rfl rfl rfl (by simp) (by kernel_rfl) (fun K_ hK_ => ?_) (fun K_ hK_ => ?_)
      · refine Evt.d_app Evt.rkB hK_ hHeld (by rfl) rfl (.tmp 3) (.tmp 5) rfl o0 [] (l0) (A0) (l0.length) (c0) rfl rfl f0 ((SB.out.below hHeld.out).sr.r0.row) (by simp; omega) ?_
        intro v_ w1_ ho_ hg_ hat_ hH_
        exact Evt.ol_norm (by simp only [putAll, Act.put, List.setIfInBounds_toArray, List.set_cons_zero, List.set_cons_succ, i64_w, i32_w]; rfl) (J_0_3_4 (o0, v_, o1, undef, undef, undef) _ hH_ ⟨ho_, Evt.Ro.other rfl f1 hg_ p0_1, (Evt.Apart.moved p0_1 f1.lt hat_)⟩)
      · refine Evt.d_row0 (d := Kd.bool) (e := 4) hK_ hHeld (by rfl) rfl ?_ ?_
        · first | (go_simp; done) | (go_simp; rfl) | (go_simp; refine ⟨?_, ?_⟩ <;> rfl)
        intro v_ w1_ ho_ hn_ hb_ hH_
        exact Evt.ol_norm (by simp only [putAll, Act.put, List.setIfInBounds_toArray, List.set_cons_zero, List.set_cons_succ, i64_w, i32_w]; rfl) (J_0_4_8 (o0, undef, o1, undef, v_, undef) _ hH_ ⟨f0.below hb_, f1.below hb_, ho_, p0_1, (Evt.Apart.fresh f0.lt hn_).symm, (Evt.Apart.fresh f1.lt hn_).symm⟩)
    intro J_0_4
    refine Evt.od_join (σ := Value × Value × Value × Value × Value × Value) 6 [(3, some 6), (4, some 7), (7, some 10), (11, some 14), (12, some 15), (13, none)] (fun s => [(3, s.1), (11, s.2.2.2.2.1)]) (fun s w' => Evt.Ro Kd.bool 4 w2 w' s.1 ([]) ∧ Evt.Ro Kd.bool 4 w2 w' s.2.2.2.2.1 ([]) ∧ Evt.Apart s.1 s.2.2.2.2.1) ?_ ?_
    rotate_left
    · rintro ⟨o0, n0, o1, n1, o2, n2⟩ w_ hHeld ⟨f0, f2, p0_2⟩
      refine Evt.ol_norm (a' := ?_) ?_ ?_
      rotate_left
      · simp only [putAll, Act.put, List.setIfInBounds_toArray, List.set_cons_zero, List.set_cons_succ, i64_w, i32_w]; rfl
      refine Evt.od_two (i := 3) (j := 4) [(4, some 7), (7, some 10), (11, some 14), (12, some 15), (13, none)] [(3, some 6), (7, some 10), (11, some 14), (12, some 15), (13, none)] HT_ rfl rfl rfl rfl (by simp) (by kernel_rfl) (fun K_ hK_ => ?_) (fun K_ hK_ => ?_)
      · refine Evt.d_app Evt.rkB hK_ hHeld (by rfl) rfl (.tmp 3) (.tmp 5) rfl o0 [] (l0) (A0) (l0.length) (c0) rfl rfl f0 ((SB.out.below hHeld.out).sr.r0.row) (by simp; omega) ?_
        intro v_ w1_ ho_ hg_ hat_ hH_
        exact Evt.ol_norm (by simp only [putAll, Act.put, List.setIfInBounds_toArray, List.set_cons_zero, List.set_cons_succ, i64_w, i32_w]; rfl) (J_0_3_8 (o0, v_, undef, undef, o2, undef) _ hH_ ⟨ho_, Evt.Ro.other rfl f2 hg_ p0_2, (Evt.Apart.moved p0_2 f2.lt hat_)⟩)
      · refine Evt.d_row0 (d := Kd.bool) (e := 4) hK_ hHeld (by rfl) rfl ?_ ?_
        · first | (go_simp; done) | (go_simp; rfl) | (go_simp; refine ⟨?_, ?_⟩ <;> rfl)
        intro v_ w1_ ho_ hn_ hb_ hH_
        exact Evt.ol_norm (by simp only [putAll, Act.put, List.setIfInBounds_toArray, List.set_cons_zero, List.set_cons_succ, i64_w, i32_w]; rfl) (J_0_4_8 (o0, undef, v_, undef, o2, undef) _ hH_ ⟨f0.below hb_, ho_, f2.below hb_, (Evt.Apart.fresh f0.lt hn_).symm, p0_2, (Evt.Apart.fresh f2.lt hn_)⟩)
    intro J_0_8
    refine Evt.od_join (σ := Value × Value × Value × Value × Value × Value) 6 [(0, some 3), (3, some 6), (7, some 10), (11, some 14), (12, some 15), (13, none)] (fun s => [(7, s.2.2.1), (11, s.2.2.2.2.1)]) (fun s w' => Evt.Ro Kd.bool 4 w2 w' s.2.2.1 ([]) ∧ Evt.Ro Kd.bool 4 w2 w' s.2.2.2.2.1 ([]) ∧ Evt.Apart s.2.2.1 s.2.2.2.2.1) ?_ ?_
    rotate_left
    · rintro ⟨o0, n0, o1, n1, o2, n2⟩ w_ hHeld ⟨f1, f2, p1_2⟩
      refine Evt.ol_norm (a' := ?_) ?_ ?_
      rotate_left
      · simp only [putAll, Act.put, List.setIfInBounds_toArray, List.set_cons_zero, List.set_cons_succ, i64_w, i32_w]; rfl
      refine Evt.od_one (i := 0) [(3, some 6), (7, some 10), (11, some 14), (12, some 15), (13, none)] HT_ rfl rfl (by simp) (by kernel_rfl) (fun K_ hK_ => ?_)
      · refine Evt.d_row0 (d := Kd.bool) (e := 4) hK_ hHeld (by rfl) rfl ?_ ?_
        · first | (go_simp; done) | (go_simp; rfl) | (go_simp; refine ⟨?_, ?_⟩ <;> rfl)
        intro v_ w1_ ho_ hn_ hb_ hH_
        exact Evt.ol_norm (by simp only [putAll, Act.put, List.setIfInBounds_toArray, List.set_cons_zero, List.set_cons_succ, i64_w, i32_w]; rfl) (J_0_4_8 (v_, undef, o1, undef, o2, undef) _ hH_ ⟨ho_, f1.below hb_, f2.below hb_, (Evt.Apart.fresh f1.lt hn_), (Evt.Apart.fresh f2.lt hn_), p1_2⟩)
    intro J_4_8
    refine Evt.od_join (σ := Value × Value × Value × Value × Value × Value) 7 [(3, some 6), (4, some 7), (7, some 10), (8, some 11), (11, some 14), (12, some 15), (13, none)] (fun s => [(3, s.1)]) (fun s w' => Evt.Ro Kd.bool 4 w2 w' s.1 ([])) ?_ ?_
    rotate_left
    · rintro ⟨o0, n0, o1, n1, o2, n2⟩ w_ hHeld f0
      refine Evt.ol_norm (a' := ?_) ?_ ?_
      rotate_left
      · simp only [putAll, Act.put, List.setIfInBounds_toArray, List.set_cons_zero, List.set_cons_succ, i64_w, i32_w]; rfl
      refine Evt.od_three (i := 3) (j := 4) (k := 8) [(4, some 7), (7, some 10), (8, some 11), (11, some 14), (12, some 15), (13, none)] [(3, some 6), (7, some 10), (8, some 11), (11, some 14), (12, some 15), (13, none)] [(3, some 6), (4, some 7), (7, some 10), (11, some 14), (12, some 15), (13, none)] HT_ rfl rfl rfl rfl rfl rfl (by simp) (by kernel_rfl) (fun K_ hK_ => ?_) (fun K_ hK_ => ?_) (fun K_ hK_ => ?_)
      · refine Evt.d_app Evt.rkB hK_ hHeld (by rfl) rfl (.tmp 3) (.tmp 5) rfl o0 [] (l0) (A0) (l0.length) (c0) rfl rfl f0 ((SB.out.below hHeld.out).sr.r0.row) (by simp; omega) ?_
        intro v_ w1_ ho_ hg_ hat_ hH_
        exact Evt.ol_norm (by simp only [putAll, Act.put, List.setIfInBounds_toArray, List.set_cons_zero, List.set_cons_succ, i64_w, i32_w]; rfl) (J_0_3 (o0, v_, undef, undef, undef, undef) _ hH_ ho_)
      · refine Evt.d_row0 (d := Kd.bool) (e := 4) hK_ hHeld (by rfl) rfl ?_ ?_
        · first | (go_simp; done) | (go_simp; rfl) | (go_simp; refine ⟨?_, ?_⟩ <;> rfl)
        intro v_ w1_ ho_ hn_ hb_ hH_
        exact Evt.ol_norm (by simp only [putAll, Act.put, List.setIfInBounds_toArray, List.set_cons_zero, List.set_cons_succ, i64_w, i32_w]; rfl) (J_0_4 (o0, undef, v_, undef, undef, undef) _ hH_ ⟨f0.below hb_, ho_, (Evt.Apart.fresh f0.lt hn_).symm⟩)
      · refine Evt.d_row0 (d := Kd.bool) (e := 4) hK_ hHeld (by rfl) rfl ?_ ?_
        · first | (go_simp; done) | (go_simp; rfl) | (go_simp; refine ⟨?_, ?_⟩ <;> rfl)
        intro v_ w1_ ho_ hn_ hb_ hH_
        exact Evt.ol_norm (by simp only [putAll, Act.put, List.setIfInBounds_toArray, List.set_cons_zero, List.set_cons_succ, i64_w, i32_w]; rfl) (J_0_8 (o0, undef, undef, undef, v_, undef) _ hH_ ⟨f0.below hb_, ho_, (Evt.Apart.fresh f0.lt hn_).symm⟩)
    intro J_0
    refine Evt.od_join (σ := Value × Value × Value × Value × Value × Value) 7 [(0, some 3), (3, some 6), (7, some 10), (8, some 11), (11, some 14), (12, some 15), (13, none)] (fun s => [(7, s.2.2.1)]) (fun s w' => Evt.Ro Kd.bool 4 w2 w' s.2.2.1 ([])) ?_ ?_
    rotate_left
    · rintro ⟨o0, n0, o1, n1, o2, n2⟩ w_ hHeld f1
      refine Evt.ol_norm (a' := ?_) ?_ ?_
      rotate_left
      · simp only [putAll, Act.put, List.setIfInBounds_toArray, List.set_cons_zero, List.set_cons_succ, i64_w, i32_w]; rfl
      refine Evt.od_two (i := 0) (j := 8) [(3, some 6), (7, some 10), (8, some 11), (11, some 14), (12, some 15), (13, none)] [(0, some 3), (3, some 6), (7, some 10), (11, some 14), (12, some 15), (13, none)] HT_ rfl rfl rfl rfl (by simp) (by kernel_rfl) (fun K_ hK_ => ?_) (fun K_ hK_ => ?_)
      · refine Evt.d_row0 (d := Kd.bool) (e := 4) hK_ hHeld (by rfl) rfl ?_ ?_
        · first | (go_simp; done) | (go_simp; rfl) | (go_simp; refine ⟨?_, ?_⟩ <;> rfl)
        intro v_ w1_ ho_ hn_ hb_ hH_
        exact Evt.ol_norm (by simp only [putAll, Act.put, List.setIfInBounds_toArray, List.set_cons_zero, List.set_cons_succ, i64_w, i32_w]; rfl) (J_0_4 (v_, undef, o1, undef, undef, undef) _ hH_ ⟨ho_, f1.below hb_, (Evt.Apart.fresh f1.lt hn_)⟩)
      · refine Evt.d_row0 (d := Kd.bool) (e := 4) hK_ hHeld (by rfl) rfl ?_ ?_
        · first | (go_simp; done) | (go_simp; rfl) | (go_simp; refine ⟨?_, ?_⟩ <;> rfl)
        intro v_ w1_ ho_ hn_ hb_ hH_
        exact Evt.ol_norm (by simp only [putAll, Act.put, List.setIfInBounds_toArray, List.set_cons_zero, List.set_cons_succ, i64_w, i32_w]; rfl) (J_4_8 (undef, undef, o1, undef, v_, undef) _ hH_ ⟨f1.below hb_, ho_, (Evt.Apart.fresh f1.lt hn_).symm⟩)
    intro J_4
    refine Evt.od_join (σ := Value × Value × Value × Value × Value × Value) 7 [(0, some 3), (3, some 6), (4, some 7), (7, some 10), (11, some 14), (12, some 15), (13, none)] (fun s => [(11, s.2.2.2.2.1)]) (fun s w' => Evt.Ro Kd.bool 4 w2 w' s.2.2.2.2.1 ([])) ?_ ?_
    rotate_left
    · rintro ⟨o0, n0, o1, n1, o2, n2⟩ w_ hHeld f2
      refine Evt.ol_norm (a' := ?_) ?_ ?_
      rotate_left
      · simp only [putAll, Act.put, List.setIfInBounds_toArray, List.set_cons_zero, List.set_cons_succ, i64_w, i32_w]; rfl
      refine Evt.od_two (i := 0) (j := 4) [(3, some 6), (4, some 7), (7, some 10), (11, some 14), (12, some 15), (13, none)] [(0, some 3), (3, some 6), (7, some 10), (11, some 14), (12, some 15), (13, none)] HT_ rfl rfl rfl rfl (by simp) (by kernel_rfl) (fun K_ hK_ => ?_) (fun K_ hK_ => ?_)
      · refine Evt.d_row0 (d := Kd.bool) (e := 4) hK_ hHeld (by rfl) rfl ?_ ?_
        · first | (go_simp; done) | (go_simp; rfl) | (go_simp; refine ⟨?_, ?_⟩ <;> rfl)
        intro v_ w1_ ho_ hn_ hb_ hH_
        exact Evt.ol_norm (by simp only [putAll, Act.put, List.setIfInBounds_toArray, List.set_cons_zero, List.set_cons_succ, i64_w, i32_w]; rfl) (J_0_8 (v_, undef, undef, undef, o2, undef) _ hH_ ⟨ho_, f2.below hb_, (Evt.Apart.fresh f2.lt hn_)⟩)
      · refine Evt.d_row0 (d := Kd.bool) (e := 4) hK_ hHeld (by rfl) rfl ?_ ?_
        · first | (go_simp; done) | (go_simp; rfl) | (go_simp; refine ⟨?_, ?_⟩ <;> rfl)
        intro v_ w1_ ho_ hn_ hb_ hH_
        exact Evt.ol_norm (by simp only [putAll, Act.put, List.setIfInBounds_toArray, List.set_cons_zero, List.set_cons_succ, i64_w, i32_w]; rfl) (J_4_8 (undef, undef, v_, undef, o2, undef) _ hH_ ⟨ho_, f2.below hb_, (Evt.Apart.fresh f2.lt hn_)⟩)
    intro J_8
    refine Evt.od_three (i := 0) (j := 4) (k := 8) [(3, some 6), (4, some 7), (7, some 10), (8, some 11), (11, some 14), (12, some 15), (13, none)] [(0, some 3), (3, some 6), (7, some 10), (8, some 11), (11, some 14), (12, some 15), (13, none)] [(0, some 3), (3, some 6), (4, some 7), (7, some 10), (11, some 14), (12, some 15), (13, none)] HT_ rfl rfl rfl rfl rfl rfl (by simp) (by kernel_rfl) (fun K_ hK_ => ?_) (fun K_ hK_ => ?_) (fun K_ hK_ => ?_)
    · refine Evt.d_row0 (d := Kd.bool) (e := 4) hK_ hHeld (by rfl) rfl ?_ ?_
      · first | (go_simp; done) | (go_simp; rfl) | (go_simp; refine ⟨?_, ?_⟩ <;> rfl)
      intro v_ w1_ ho_ hn_ hb_ hH_
      exact Evt.ol_norm (by simp only [putAll, Act.put, List.setIfInBounds_toArray, List.set_cons_zero, List.set_cons_succ, i64_w, i32_w]; rfl) (J_0 (v_, undef, undef, undef, undef, undef) _ hH_ ho_)
    · refine Evt.d_row0 (d := Kd.bool) (e := 4) hK_ hHeld (by rfl) rfl ?_ ?_
      · first | (go_simp; done) | (go_simp; rfl) | (go_simp; refine ⟨?_, ?_⟩ <;> rfl)
      intro v_ w1_ ho_ hn_ hb_ hH_
      exact Evt.ol_norm (by simp only [putAll, Act.put, List.setIfInBounds_toArray, List.set_cons_zero, List.set_cons_succ, i64_w, i32_w]; rfl) (J_4 (undef, undef, v_, undef, undef, undef) _ hH_ ho_)
    · refine Evt.d_row0 (d := Kd.bool) (e := 4) hK_ hHeld (by rfl) rfl ?_ ?_
      · first | (go_simp; done) | (go_simp; rfl) | (go_simp; refine ⟨?_, ?_⟩ <;> rfl)
      intro v_ w1_ ho_ hn_ hb_ hH_
      exact Evt.ol_norm (by simp only [putAll, Act.put, List.setIfInBounds_toArray, List.set_cons_zero, List.set_cons_succ, i64_w, i32_w]; rfl) (J_8 (undef, undef, undef, undef, v_, undef) _ hH_ ho_)
  rintro ⟨o0, n0, o1, n1, o2, n2⟩ w_ hHeld ⟨f0, f1, f2, p0_1, p0_2, p1_2⟩
  have F0 := Aside0.mk f0
  have F1 := Aside0.mk f1
  have F2 := Aside0.mk f2
  have P0_1 := Aside0.mk p0_1
  have P0_2 := Aside0.mk p0_2
  have P1_2 := Aside0.mk p1_2
  clear f0 f1 f2 p0_1 p0_2 p1_2
  refine Evt.ol_norm (a' := ?_) ?_ ?_
  rotate_left
  · simp only [putAll, Act.put, List.setIfInBounds_toArray, List.set_cons_zero, List.set_cons_succ, i64_w, i32_w]; rfl
  obtain ⟨X0, x0, rfl⟩ := Kd.R_slice F0.out.row
  obtain ⟨X1, x1, rfl⟩ := Kd.R_slice F1.out.row
  obtain ⟨X2, x2, rfl⟩ := Kd.R_slice F2.out.row
  have O3 : Aside0 (Own3 w_ w.heap.size (.slice X0 l0.length x0) (.slice X1 l1.length x1) (.slice X2 l2.length x2) l0 l1 l2) := ⟨Own3.lower ⟨reok rfl F0.out.row (fun k hk => ⟨fun e => P0_1.out k hk e.symm, fun e => P0_2.out k hk e.symm⟩), reok rfl F1.out.row (fun k hk => ⟨fun e => P0_1.out k e.symm hk, fun e => P1_2.out k hk e.symm⟩), reok rfl F2.out.row (fun k hk => ⟨fun e => P0_2.out k e.symm hk, fun e => P1_2.out k e.symm hk⟩)⟩ HB.out.size⟩
  clear F0 F1 F2 P0_1 P0_2 P1_2
  (first | (refine Evt.ol_off (a' := ?_) HT_ rfl rfl (by rfl) (by kernel_rfl) (fun _ _ _ h => h) ?_ ?_; rotate_left; (· (try simp only [Act.put, List.setIfInBounds_toArray, List.set_cons_zero, List.set_cons_succ, i64_w, i32_w]); rfl)) | (refine Evt.ol_pure (a' := ?_) (v := ?_) HT_ rfl rfl rfl (by rfl) (by kernel_rfl) (fun _ _ _ h => h) ?_ ?_ ?_; rotate_left 2; (· intro w'; go_simp; with_reducible rfl); (· (try simp only [Act.put, List.setIfInBounds_toArray, List.set_cons_zero, List.set_cons_succ, i64_w, i32_w]); rfl)) | (refine Evt.ol_load (a' := ?_) (v := ?_) HT_ HW_ hHeld rfl rfl rfl (by rfl) (by kernel_rfl) (fun _ _ _ h => h) ?_ ?_ ?_; rotate_left 2; (· intro w' hS_; obtain ⟨s0, s1, s2⟩ := KP.out w' hS_.out; go_simp; with_reducible rfl); (· (try simp only [Act.put, List.setIfInBounds_toArray, List.set_cons_zero, List.set_cons_succ, i64_w, i32_w]); rfl)))
  refine Evt.ol_ranrow HT_ rfl rfl (by simp) (by kernel_rfl) (by rfl) (BK2.out.below hHeld.out) 24 (.tmp 2) (.tmp 15) rfl rfl rfl (by kernel_rfl) rfl (by simp [Value.oneCell']) ?_
  intro wz bz_ hg_
  have BZ := Aside0.mk bz_
  have O4 := Aside0.mk (Own3.chg O3.out hg_ (BK2.out.below hHeld.out))
  have HBz := Aside0.mk ((below_step HB.out hHeld.out).grown hg_ (below_step HB.out hHeld.out).size (fun k hk => by cases hk; exact GG2.out))
  clear bz_ hg_
  refine Evt.ol_done HT_ (by kernel_rfl) ?_
  go_wp2
  refine bodyPost_ret (results_cell_row rfl _ _ g2 24 _ (0, 0) _ rfl BZ.out.blk Try.underlying24 rfl (by kernel_rfl)) rfl ?_
  exact ⟨_, _, _, _, _, _, rfl, O4.out, HBz.out⟩
end Go.Proofs.Ytjohdkbciafpfaa.Vm6
