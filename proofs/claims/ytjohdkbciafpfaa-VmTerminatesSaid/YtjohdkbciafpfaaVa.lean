/- Chapter 06: Step said plainly; At, Acc, Depth, State. -/
import Derived.Test.YtjohdkbciafpfaaVe
namespace Go.Proofs.Ytjohdkbciafpfaa.Vm6
open Go.RowKit Go.Proofs.YtjohdkbciafpfaaW.PrintWords Go.Proofs.YtjohdkbciafpfaaW.PrintMore Go.Proofs.YtjohdkbciafpfaaW.PrintLast Go.Proofs.Ytjohdkbciafpfaa.Chg Go.Proofs.Ytjohdkbciafpfaa.Evt Go.Proofs.Ytjohdkbciafpfaa.Impl
set_option linter.unusedVariables false
set_option linter.unusedSimpArgs false
set_option maxRecDepth 100000
/-- Every opcode is a machine integer. -/
def WfC (l : List S66) : Prop := ∀ i : Nat, i < l.length → (Lit.int .i64 (rd_T66 l (i : Int)).f0).wf = true
theorem core_np {n : Nat} {li : List Bool} {k a b j : Int} {s : MS} (h0 : 0 ≤ s.pc) (h1 : s.pc < n) (hn : n ≤ 20000) : 0 ≤ (core n li k a b j s).2.1 ∧ (core n li k a b j s).2.1 ≤ 20000 := by
  unfold core
  repeat' split
  all_goals first | (simp only; omega) | (simp only; split <;> omega)
section
variable {w w' w1 w2 : World} {base : Nat} {U U1 : Nat → Prop} {gm gt mo : Nat} {vC vI vQ vM vE vL : Value} {l : List S66} {li : List Bool} {s s2 : MS}
theorem step_any (h : VmP w base U gm l li s) (hw : WfC l) (h0 : 0 ≤ s.pc) : Calls Try.prog 38 #[.pointer (some ⟨gm, 0, none⟩)] w fun x w' => x = .returned (.tuple #[.bool (stepV l li s).1.1, .int .i64 (stepV l li s).1.2]) ∧ Stp w base U gm l li (stepV l li s).2 w' := by
  obtain ⟨gt, vC, vI, vQ, vM, vE, vL, mo, h⟩ := h
  obtain ⟨q, m, e, pc, acc, st, ended, fault⟩ := s
  cases ended with
  | true => exact step_end h
  | false =>
    by_cases hp : (l.length : Int) ≤ pc
    · unfold stepV
      rw [if_neg (by simp), if_pos hp]
      exact step_short h hp
    · obtain ⟨i, rfl⟩ : ∃ i : Nat, pc = i := ⟨pc.toNat, by simp only at h0; omega⟩
      have hi : i < l.length := by omega
      have hb := core_np (n := l.length) (li := li) (k := (rd_T66 l i).f0) (a := (rd_T66 l i).f1.f0) (b := (rd_T66 l i).f1.f1) (j := (rd_T66 l i).f2) (s := ⟨q, m, e, (i : Int), acc, st, false, fault⟩) h0 (by simp only; omega) h.fit.c
      refine (step_ins h hi (Prod.eta _).symm (hw i hi) hb.1 hb.2).mono fun x w' hx => ?_
      unfold stepV
      rw [if_neg (by simp), if_neg hp]
      rcases hx with ⟨h1, h2, h3⟩ | ⟨h1, h2, h3⟩
      · rw [if_neg h1]; exact ⟨h2, h3⟩
      · rw [if_pos h1]; exact ⟨h2, h3⟩
theorem at_any (h : VmP w base U gm l li s) : Calls Try.prog 37 #[.pointer (some ⟨gm, 0, none⟩)] w fun x w' => x = .returned (.int .i64 s.pc) ∧ Below w.heap.size w w' := by
  obtain ⟨gt, vC, vI, vQ, vM, vE, vL, mo, h⟩ := h
  have HB := Aside0.mk (Below.refl w.heap.size w)
  have BM : Aside0 (Bk w gm 98 #[vC, vI, vQ, vM, vE, .int .i64 s.pc, .bool s.acc, .pointer (some ⟨gt, 0, none⟩), .bool s.ended, .int .i64 s.fault]) := Aside0.mk (h.bm)
  clear h
  obtain ⟨zBM_0, zBM_1, zBM_2, zBM_3, zBM_4, zBM_5, zBM_6, zBM_7, zBM_8, zBM_9⟩ := BM.out.c10
  go_enter Try.func37, Try.ntmps37
  go_wp2
  go_ret
  exact ⟨rfl, HB.out⟩
theorem acc_any (h : VmP w base U gm l li s) : Calls Try.prog 40 #[.pointer (some ⟨gm, 0, none⟩)] w fun x w' => x = .returned (.bool s.acc) ∧ Below w.heap.size w w' := by
  obtain ⟨gt, vC, vI, vQ, vM, vE, vL, mo, h⟩ := h
  have HB := Aside0.mk (Below.refl w.heap.size w)
  have BM : Aside0 (Bk w gm 98 #[vC, vI, vQ, vM, vE, .int .i64 s.pc, .bool s.acc, .pointer (some ⟨gt, 0, none⟩), .bool s.ended, .int .i64 s.fault]) := Aside0.mk (h.bm)
  clear h
  obtain ⟨zBM_0, zBM_1, zBM_2, zBM_3, zBM_4, zBM_5, zBM_6, zBM_7, zBM_8, zBM_9⟩ := BM.out.c10
  go_enter Try.func40, Try.ntmps40
  go_wp2
  go_ret
  exact ⟨rfl, HB.out⟩
theorem depth_any (h : VmP w base U gm l li s) : Calls Try.prog 41 #[.pointer (some ⟨gm, 0, none⟩)] w fun x w' => x = .returned (.int .i64 (s.st.length : Int)) ∧ Below w.heap.size w w' := by
  obtain ⟨gt, vC, vI, vQ, vM, vE, vL, mo, h⟩ := h
  have HB := Aside0.mk (Below.refl w.heap.size w)
  have V := Aside0.mk (h)
  have BM : Aside0 (Bk w gm 98 #[vC, vI, vQ, vM, vE, .int .i64 s.pc, .bool s.acc, .pointer (some ⟨gt, 0, none⟩), .bool s.ended, .int .i64 s.fault]) := Aside0.mk (h.bm)
  clear h
  obtain ⟨zBM_0, zBM_1, zBM_2, zBM_3, zBM_4, zBM_5, zBM_6, zBM_7, zBM_8, zBM_9⟩ := BM.out.c10
  go_enter Try.func41, Try.ntmps41
  go_wp2_with (((with_reducible refine gate_callee (f := 57) rfl ?_); refine goesL_ (some 9) rfl rfl Try.func57 (by kernel_rfl) rfl #[.pointer (some ⟨gt, 0, none⟩)] rfl (by (try simp only [List.map_toArray, List.map_cons, List.map_nil]); first | done | rfl | (simp only [List.length_drop, List.length_take]; rfl)) ?_; (with_reducible refine (StkBool.depth _ base gt vL s.st 64 mo V.out.st).mono ?_); rintro e_ w2 ⟨rfl, rfl⟩; refine ⟨_, rfl, ?_⟩))
  go_ret
  exact ⟨rfl, HB.out⟩
theorem state_any (h : VmP w base U gm l li s) : Calls Try.prog 39 #[.pointer (some ⟨gm, 0, none⟩)] w fun x w' => Gives1 w x w' s.q s.m s.e := by
  obtain ⟨gt, vC, vI, vQ, vM, vE, vL, mo, h⟩ := h
  obtain ⟨AC, cC, AI, cI, AQ, cQ, AM, cM, AE, cE, rfl, rfl, rfl, rfl, rfl⟩ := h.forms
  have HB := Aside0.mk (Below.refl w.heap.size w)
  have SB := Aside0.mk (h.sb)
  have BM : Aside0 (Bk w gm 98 #[.slice AC l.length cC, .slice AI li.length cI, .slice AQ s.q.length cQ, .slice AM s.m.length cM, .slice AE s.e.length cE, .int .i64 s.pc, .bool s.acc, .pointer (some ⟨gt, 0, none⟩), .bool s.ended, .int .i64 s.fault]) := Aside0.mk (h.bm)
  clear h
  obtain ⟨zBM_0, zBM_1, zBM_2, zBM_3, zBM_4, zBM_5, zBM_6, zBM_7, zBM_8, zBM_9⟩ := BM.out.c10
  go_enter Try.func39, Try.ntmps39
  go_wp2_with (first | ((with_reducible refine gate_dst (N := 2) rfl ?_); refine box_event ?hg (N := 2) ?hd (cs := #[.slice none 0 0, .slice none 0 0, .slice none 0 0]) (t := 24) ?hr ?_; (case hd => rfl); (case hg => rfl); (case hr => first | (go_simp; done) | (go_simp; rfl)); intro g2 hg w1 hbox hb; have hbx : Below w.heap.size w w1 := below_step (by repeat (first | (with_reducible first | exact Below.refl _ _ | apply below_alloc | apply pw_below_drewN | apply below_drew1) | exact Below.refl _ _)) hb; have GG2 := Aside0.mk (show w.heap.size ≤ g2 from (by rw [hg]; exact below_size (below_step HB.out (by repeat (first | (with_reducible first | exact Below.refl _ _ | apply below_alloc | apply pw_below_drewN | apply below_drew1) | exact Below.refl _ _))))); clear zBM_0 zBM_1 zBM_2 zBM_3 zBM_4 zBM_5 zBM_6 zBM_7 zBM_8 zBM_9; replace SB := Aside0.mk (SB.out.below hbx); replace BM := Aside0.mk (BM.out.below hbx); replace HB := Aside0.mk (below_step HB.out hbx); clear hbx; have BK2 := Aside0.mk (Bk.mk (hbox : Blk w1 g2 24 #[.slice none 0 0, .slice none 0 0, .slice none 0 0])); clear hbox hg hb; obtain ⟨zBM_0, zBM_1, zBM_2, zBM_3, zBM_4, zBM_5, zBM_6, zBM_7, zBM_8, zBM_9⟩ := BM.out.c10; obtain ⟨zBK2_0, zBK2_1, zBK2_2⟩ := BK2.out.c3) | ((with_reducible refine gate_callee (f := 24) rfl ?_); refine goesL_ (some 10) rfl rfl Try.func24 (by kernel_rfl) rfl #[.agg #[.slice AQ s.q.length cQ, .slice AM s.m.length cM, .slice AE s.e.length cE]] rfl (by (try simp only [List.map_toArray, List.map_cons, List.map_nil]); first | done | rfl | (simp only [List.length_drop, List.length_take]; rfl)) ?_; (with_reducible refine (cloneC (SB.out.below (by repeat (first | (with_reducible first | exact Below.refl _ _ | apply below_alloc | apply pw_below_drewN | apply below_drew1) | exact Below.refl _ _)))).mono ?_); rintro e w2 ⟨X0, x0, X1, x1, X2, x2, rfl, ho_, hb⟩; have hbx : Below w1.heap.size w1 w2 := below_step (by repeat (first | (with_reducible first | exact Below.refl _ _ | apply below_alloc | apply pw_below_drewN | apply below_drew1) | exact Below.refl _ _)) hb; have O3 := Aside0.mk (ho_.lower (show w.heap.size ≤ _ from (below_step HB.out (by repeat (first | (with_reducible first | exact Below.refl _ _ | apply below_alloc | apply pw_below_drewN | apply below_drew1) | exact Below.refl _ _))).size)); clear ho_; clear zBM_0 zBM_1 zBM_2 zBM_3 zBM_4 zBM_5 zBM_6 zBM_7 zBM_8 zBM_9 zBK2_0 zBK2_1 zBK2_2; replace SB := Aside0.mk (SB.out.below hbx); replace BM := Aside0.mk (BM.out.below hbx); replace BK2 := Aside0.mk (BK2.out.below hbx); replace HB := Aside0.mk (below_step HB.out hbx); clear hbx; clear hb; obtain ⟨zBM_0, zBM_1, zBM_2, zBM_3, zBM_4, zBM_5, zBM_6, zBM_7, zBM_8, zBM_9⟩ := BM.out.c10; obtain ⟨zBK2_0, zBK2_1, zBK2_2⟩ := BK2.out.c3; refine ⟨_, rfl, ?_⟩) | (refine Evt.setrow_ev rfl BK2.out 24 (.tmp 2) (.tmp 10) rfl rfl rfl rfl (by kernel_rfl) rfl (by simp [Value.oneCell']) ?_; intro wz bz_ hg_; have BZ := Aside0.mk bz_; have O4 := Aside0.mk (Own3.chg O3.out hg_ BK2.out); have HBz := Aside0.mk (HB.out.grown hg_ HB.out.size (fun k hk => by cases hk; exact GG2.out)); clear bz_ hg_))
  refine bodyPost_ret (results_cell_row rfl _ _ g2 24 _ (0, 0) _ rfl BZ.out.blk Try.underlying24 rfl (by kernel_rfl)) rfl ?_
  exact ⟨_, _, _, _, _, _, rfl, O4.out, HBz.out⟩
end
end Go.Proofs.Ytjohdkbciafpfaa.Vm6
