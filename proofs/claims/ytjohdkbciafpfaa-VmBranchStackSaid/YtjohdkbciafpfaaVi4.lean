/- Chapter 06: st, stn, set, rst, walked (joined by gen/v4m.py out of gen/XVi4.old.tpl). -/
import Derived.Test.YtjohdkbciafpfaaVi3
import Derived.Test.YtjohdkbciafpfaaSw
namespace Go.Proofs.Ytjohdkbciafpfaa.Vm6
open Go.RowKit Go.Proofs.YtjohdkbciafpfaaW.PrintWords Go.Proofs.YtjohdkbciafpfaaW.PrintMore Go.Proofs.YtjohdkbciafpfaaW.PrintLast Go.Proofs.Ytjohdkbciafpfaa.Chg Go.Proofs.Ytjohdkbciafpfaa.Evt Go.Proofs.Ytjohdkbciafpfaa.Impl
set_option linter.unusedVariables false
set_option linter.unusedSimpArgs false
set_option maxRecDepth 100000
section
variable {w w' w1 : World} {base : Nat} {U : Nat → Prop} {gm gt mo : Nat} {vC vI vQ vM vE vL : Value} {l : List S66} {li : List Bool} {s : MS} {k a b j : Int}
/-- The state has been replaced by rows made since w. -/
theorem Vm.stpS {v0 v1 v2 : Value} {r0 r1 r2 : List Bool} (h : Vm w base U gm gt vC vI vQ vM vE vL mo l li s) (hb : Below w.heap.size w w') (ho : Own3 w' w.heap.size v0 v1 v2 r0 r1 r2) (f0 : r0.length ≤ 20000) (f1 : r1.length ≤ 20000) (f2 : r2.length ≤ 20000) :
    Stp w base U gm l li { s with q := r0, m := r1, e := r2 } (((w'.setCell ⟨gm, 2, none⟩ v0).setCell ⟨gm, 3, none⟩ v1).setCell ⟨gm, 4, none⟩ v2) := by
  have h' := h.below hb
  have hC : Chg U w' (((w'.setCell ⟨gm, 2, none⟩ v0).setCell ⟨gm, 3, none⟩ v1).setCell ⟨gm, 4, none⟩ v2) := (((Chg.refl U w').setCell (p := ⟨gm, 2, none⟩) (.inl h.um) v0).setCell (p := ⟨gm, 3, none⟩) (.inl h.um) v1).setCell (p := ⟨gm, 4, none⟩) (.inl h.um) v2
  have hG : Chg (fun x => x = gm) w' (((w'.setCell ⟨gm, 2, none⟩ v0).setCell ⟨gm, 3, none⟩ v1).setCell ⟨gm, 4, none⟩ v2) := (((Chg.refl (fun x => x = gm) w').setCell (p := ⟨gm, 2, none⟩) (.inl rfl) v0).setCell (p := ⟨gm, 3, none⟩) (.inl rfl) v1).setCell (p := ⟨gm, 4, none⟩) (.inl rfl) v2
  have bG : Blk (((w'.setCell ⟨gm, 2, none⟩ v0).setCell ⟨gm, 3, none⟩ v1).setCell ⟨gm, 4, none⟩ v2) gm 98 (mcells vC vI v0 v1 v2 gt s) := ((h'.bm.blk.set_ 2 v0).set_ 3 v1).set_ 4 v2
  have tyg : ∀ {α : Type} {d : Kd α} {e : TypeId} {B : Nat} {ok : Nat → Prop} {v : Value} {xs : List α}, d.R e w' B ok v xs → e ≠ 98 → ∀ k, v.ownBlock = some k → ¬ k = gm := fun hr hne k hk e => Kd.R_ne hr h'.bm.blk hne (by rw [← e]; exact hk.symm)
  have lt : ∀ {α : Type} {d : Kd α} {e : TypeId} {B : Nat} {ok : Nat → Prop} {v : Value} {xs : List α}, d.R e w B ok v xs → ∀ k, v.ownBlock = some k → k < w.heap.size := fun hr => Kd.R_lt hr
  have n0 := Kd.R_base ho.q0
  have n1 := Kd.R_base ho.q1
  have n2 := Kd.R_base ho.q2
  have hle := h.hbase
  refine ⟨fun k => U k ∨ v0.ownBlock = some k ∨ v1.ownBlock = some k ∨ v2.ownBlock = some k, ⟨gt, vC, vI, v0, v1, v2, vL, mo, ?_⟩, (Chg.of_below (S := U) hb).trans hC (fun i hi => .inl hi), fun k hk => ?_⟩
  · exact { h' with
      bm := ⟨bG⟩
      st := h'.st.chg hG (fun e => h'.st.blk.ne_ h'.bm.blk (by decide) e) (fun k hk => tyg h'.st.row (by decide) k hk.symm)
      rc := Kd.R_mono (turned_chg rfl h'.rc hG (tyg h'.rc (by decide))) (fun _ h => .inl h)
      ri := Kd.R_mono (turned_chg rfl h'.ri hG (tyg h'.ri (by decide))) (fun _ h => .inl h)
      rq := reok rfl (Kd.R_lower (turned_chg rfl ho.q0 hG (tyg ho.q0 (by decide))) hle) (fun _ h => .inr (.inl h))
      rm := reok rfl (Kd.R_lower (turned_chg rfl ho.q1 hG (tyg ho.q1 (by decide))) hle) (fun _ h => .inr (.inr (.inl h)))
      re := reok rfl (Kd.R_lower (turned_chg rfl ho.q2 hG (tyg ho.q2 (by decide))) hle) (fun _ h => .inr (.inr (.inr h)))
      ul := fun k hk => .inl (h.ul k hk)
      um := .inl h.um
      ut := .inl h.ut
      ub := fun k hk => by
        rcases hk with hk | hk | hk | hk
        · exact ⟨(h'.ub k hk).1, Nat.lt_of_lt_of_le (h'.ub k hk).2 hG.size⟩
        · exact ⟨Nat.le_trans hle (n0 k hk), Nat.lt_of_lt_of_le (Kd.R_lt ho.q0 k hk) hG.size⟩
        · exact ⟨Nat.le_trans hle (n1 k hk), Nat.lt_of_lt_of_le (Kd.R_lt ho.q1 k hk) hG.size⟩
        · exact ⟨Nat.le_trans hle (n2 k hk), Nat.lt_of_lt_of_le (Kd.R_lt ho.q2 k hk) hG.size⟩
      ei := fun k hk e => by have := lt h.ri k e; have := n2 k hk; omega
      eq := fun k hk e => (ho.q2.1 k hk).1 e.symm
      em := fun k hk e => (ho.q2.1 k hk).2 e.symm
      el := fun k hk e => by have := lt h.st.row k e; have := n2 k hk; omega
      nq := fun k hk e => by have := lt h.st.row k hk; have := n0 k e; omega
      nm := fun k hk e => by have := lt h.st.row k hk; have := n1 k e; omega
      fit := ⟨f0, f1, f2, h.fit.i, h.fit.c, h.fit.p0, h.fit.p1⟩ }
  · rcases hk with hk | hk | hk | hk
    · exact .inl hk
    · exact .inr (n0 k hk)
    · exact .inr (n1 k hk)
    · exact .inr (n2 k hk)
/-- The machine stays while a block of another kind is written. -/
theorem Vm.keep {g : Nat} {T : TypeId} {cs : Array Value} (h : Vm w base U gm gt vC vI vQ vM vE vL mo l li s) (hg : w.grownBy w' (some g)) (hb : Bk w g T cs) (hn : ¬ U g) : Vm w' base U gm gt vC vI vQ vM vE vL mo l li s :=
  h.chg (S := fun k => k = g) (Chg.of_grown hg (fun k hk => by cases hk; exact .inl rfl)) (fun k hk e => hn (e ▸ hk))
theorem wrv_err {q m e : List Bool} {a b : Int} (v v' : Bool) : (wrv q m e a b v).2.2.2 = (wrv q m e a b v').2.2.2 := by
  unfold wrv
  split
  · split <;> rfl
  · split
    · split <;> rfl
    · rfl
theorem wrv_len {q m e : List Bool} {a b : Int} {v : Bool} (h0 : q.length ≤ 20000) (h1 : m.length ≤ 20000) (h2 : e.length ≤ 20000) : (wrv q m e a b v).1.length ≤ 20000 ∧ (wrv q m e a b v).2.1.length ≤ 20000 ∧ (wrv q m e a b v).2.2.1.length ≤ 20000 := by
  unfold wrv
  split
  · split <;> simp <;> omega
  · split
    · split <;> simp <;> omega
    · simp
theorem coil_kA (h : k = 11 ∨ k = 13) : (k = 11 ∧ (k == 11) = true ∧ decide (k = 11) = true ∧ (k == 13) = false ∧ decide (k = 13) = false ∧ (k == 14) = false ∧ decide (k = 14) = false) ∨ (k = 13 ∧ (k == 11) = false ∧ decide (k = 11) = false ∧ (k == 13) = true ∧ decide (k = 13) = true ∧ (k == 14) = false ∧ decide (k = 14) = false) := by
  rcases h with rfl | rfl
  all_goals simp
theorem coil_kB (h : k = 12 ∨ k = 14) : (k = 12 ∧ (k == 11) = false ∧ decide (k = 11) = false ∧ (k == 13) = false ∧ decide (k = 13) = false ∧ (k == 14) = false ∧ decide (k = 14) = false) ∨ (k = 14 ∧ (k == 11) = false ∧ decide (k = 11) = false ∧ (k == 13) = false ∧ decide (k = 13) = false ∧ (k == 14) = true ∧ decide (k = 14) = true) := by
  rcases h with rfl | rfl
  all_goals simp
section
variable {q m e st : List Bool} {pc fault : Int} {acc ended : Bool}
set_option maxHeartbeats 32000000 in
theorem coil_err (h : Vm w base U gm gt vC vI vQ vM vE vL mo l li ⟨q, m, e, pc, acc, st, ended, fault⟩) {er : Int} {r0 r1 r2 : List Bool} (hc : ((k = 11 ∨ k = 13) ∧ wrv q m e a b (acc) = (r0, r1, r2, er)) ∨ ((k = 12 ∨ k = 14) ∧ wrv q m e a b (!acc) = (r0, r1, r2, er))) (he : er ≠ 0) : Calls Try.prog 66 #[.pointer (some ⟨gm, 0, none⟩), .agg #[.int .i64 k, .int .i64 a, .int .i64 b, .int .i64 j]] w fun x w' => x = .returned (.int .i64 er) ∧ Stp w base U gm l li ⟨q, m, e, pc, acc, st, ended, fault⟩ w' := by
  obtain ⟨AC, cC, AI, cI, AQ, cQ, AM, cM, AE, cE, rfl, rfl, rfl, rfl, rfl⟩ := h.forms
  have t0 : decide (er = 0) = false := decide_eq_false he
  have t1 : (er == 0) = false := beq_eq_false_iff_ne.mpr he
  have t2 : (er != 0) = true := bne_iff_ne.mpr he
  rcases hc with ⟨hk, hr⟩ | ⟨hk, hr⟩
  case' inl =>
    have HR := Aside0.mk hr
    rcases coil_kA hk with ⟨e_, a11, b11, a13, b13, a14, b14⟩ | ⟨e_, a11, b11, a13, b13, a14, b14⟩
  case' inr =>
    have HR := Aside0.mk hr
    rcases coil_kB hk with ⟨e_, a11, b11, a13, b13, a14, b14⟩ | ⟨e_, a11, b11, a13, b13, a14, b14⟩
  all_goals
    clear hr hk e_ he
    have HB := Aside0.mk (Below.refl w.heap.size w)
    have V := Aside0.mk (h)
    have SB := Aside0.mk (h.sb)
    have BM : Aside0 (Bk w gm 98 #[.slice AC l.length cC, .slice AI li.length cI, .slice AQ q.length cQ, .slice AM m.length cM, .slice AE e.length cE, .int .i64 pc, .bool acc, .pointer (some ⟨gt, 0, none⟩), .bool ended, .int .i64 fault]) := Aside0.mk (h.bm)
    clear h
    obtain ⟨zBM_0, zBM_1, zBM_2, zBM_3, zBM_4, zBM_5, zBM_6, zBM_7, zBM_8, zBM_9⟩ := BM.out.c10
    go_enter Try.func66, Try.ntmps66
    go_wp2_with (((with_reducible refine gate_dst (N := 3) rfl ?_); refine box_event ?hg (N := 3) ?hd (cs := #[.int .i64 k, .int .i64 a, .int .i64 b, .int .i64 j]) (t := 66) ?hr ?_; (case hd => rfl); (case hg => rfl); (case hr => first | (go_simp; done) | (go_simp; rfl)); intro g3 hg w1 hbox hb; have hbx : Below w.heap.size w w1 := below_step (by repeat (first | (with_reducible first | exact Below.refl _ _ | apply below_alloc | apply pw_below_drewN | apply below_drew1) | exact Below.refl _ _)) hb; clear zBM_0 zBM_1 zBM_2 zBM_3 zBM_4 zBM_5 zBM_6 zBM_7 zBM_8 zBM_9; replace V := Aside0.mk (V.out.below hbx); replace SB := Aside0.mk (SB.out.below hbx); replace BM := Aside0.mk (BM.out.below hbx); replace HB := Aside0.mk (below_step HB.out hbx); clear hbx; have BK3 := Aside0.mk (Bk.mk (hbox : Blk w1 g3 66 #[.int .i64 k, .int .i64 a, .int .i64 b, .int .i64 j])); clear hbox hg hb; obtain ⟨zBM_0, zBM_1, zBM_2, zBM_3, zBM_4, zBM_5, zBM_6, zBM_7, zBM_8, zBM_9⟩ := BM.out.c10; obtain ⟨zBK3_0, zBK3_1, zBK3_2, zBK3_3⟩ := BK3.out.c4))
    have KP := Aside0.mk (fun w' (hb : Below w1.heap.size w1 w') => And.intro ((BM.out.below hb).c10) ((BK3.out.below hb).c4))
    clear zBM_0 zBM_1 zBM_2 zBM_3 zBM_4 zBM_5 zBM_6 zBM_7 zBM_8 zBM_9 zBK3_0 zBK3_1 zBK3_2 zBK3_3
    refine Evt.ol_start (ds := []) (w0 := w1) (T := (true, [([], []), ([0], [0]), ([1], [1]), ([2], [2]), ([], []), ([4], [4]), ([], []), ([6], [6]), ([7], [7]), ([8], [8]), ([9], [9]), ([10, 9], [9, 10]), ([11, 9], [9, 11]), ([9, 12], [9, 12]), ([], []), ([14], [14]), ([15], [15]), ([16], [16]), ([13, 17], [13, 17]), ([3, 5, 18, 9], [3, 5, 18]), ([19], [19]), ([20], [20]), ([20], [20]), ([], []), ([23, 21, 19, 0, 1, 2, 3, 4, 5, 6, 7, 8, 9, 10, 11, 12, 13, 14, 15, 16, 17, 18, 19, 20, 21, 23], [21, 23]), ([22, 24, 0, 1, 2, 3, 4, 5, 6, 7, 8, 9, 10, 11, 12, 13, 14, 15, 16, 17, 18, 19, 20, 21, 22, 23, 24], [22])])) (B := [0, 1, 3, 7, 0, 16, 0, 64, 192, 448, 960, 1984, 4032, 8128, 0, 16384, 49152, 114688, 262080, 524287, 1048575, 2097151, 2097151, 0, 12582911, 33554431]) 26 [(0, some 8), (1, some 9), (2, some 10), (3, some 11), (4, some 12), (5, some 13), (6, some 14), (7, some 15), (8, some 16), (9, some 17), (10, some 18), (11, some 19), (12, some 20), (13, some 21), (14, some 22), (15, some 23), (16, some 24), (17, some 25), (18, some 26), (19, some 27), (20, some 7), (21, some 28), (22, some 29), (23, some 5), (24, none), (25, some 6)] (by kernel_rfl) rfl (by kernel_rfl) (by kernel_rfl) (by kernel_rfl) (by repeat (first | (with_reducible first | exact Below.refl _ _ | apply below_alloc | apply pw_below_drewN | apply below_drew1) | exact Below.refl _ _)) ?_
    intro HT_ HW_ w_ hHeld
    iterate 19 (first | (refine Evt.ol_off (a' := ?_) HT_ rfl rfl (by rfl) (by kernel_rfl) (fun _ _ _ h => h) ?_ ?_; rotate_left; (· (try simp only [Act.put, List.setIfInBounds_toArray, List.set_cons_zero, List.set_cons_succ, i64_w, i32_w]); rfl)) | (refine Evt.ol_pure (a' := ?_) (v := ?_) HT_ rfl rfl rfl (by rfl) (by kernel_rfl) (fun _ _ _ h => h) ?_ ?_ ?_; rotate_left 2; (· intro w'; go_simp; with_reducible rfl); (· (try simp only [Act.put, List.setIfInBounds_toArray, List.set_cons_zero, List.set_cons_succ, i64_w, i32_w]); rfl)) | (refine Evt.ol_load (a' := ?_) (v := ?_) HT_ HW_ hHeld rfl rfl rfl (by rfl) (by kernel_rfl) (fun _ _ _ h => h) ?_ ?_ ?_; rotate_left 2; (· intro w' hS_; obtain ⟨⟨s0, s1, s2, s3, s4, s5, s6, s7, s8, s9⟩, ⟨s10, s11, s12, s13⟩⟩ := KP.out w' hS_.out; go_simp; with_reducible rfl); (· (try simp only [Act.put, List.setIfInBounds_toArray, List.set_cons_zero, List.set_cons_succ, i64_w, i32_w]); rfl)))
    refine Evt.ol_join (σ := (Option Addr) × (Nat) × (Option Addr) × (Nat) × (Option Addr) × (Nat) × (Nat)) 2 [(24, none), (25, some 6)] (fun s => match s with | (X0, x0, X1, x1, X2, x2, gT23) => [(27, .tuple #[.agg #[.slice X0 r0.length x0, .slice X1 r1.length x1, .slice X2 r2.length x2], .int .i64 er]), (7, .tuple #[.agg #[.slice X0 r0.length x0, .slice X1 r1.length x1, .slice X2 r2.length x2], .int .i64 er]), (28, .agg #[.slice X0 r0.length x0, .slice X1 r1.length x1, .slice X2 r2.length x2]), (29, .int .i64 er), (5, .pointer (some ⟨gT23, 0, none⟩))]) (fun s W_ => match s with | (X0, x0, X1, x1, X2, x2, gT23) => (Own3 W_ w.heap.size (.slice X0 r0.length x0) (.slice X1 r1.length x1) (.slice X2 r2.length x2) r0 r1 r2) ∧ (Bk W_ gT23 24 #[.slice none 0 0, .slice none 0 0, .slice none 0 0]) ∧ (w1.heap.size ≤ gT23)) ?_ ?_
    · intro JN
      refine Evt.ol_two (i := 19) (j := 23) [(20, some 7), (21, some 28), (22, some 29), (23, some 5), (24, none), (25, some 6)] [(19, some 27), (20, some 7), (21, some 28), (22, some 29), (24, none), (25, some 6)] HT_ rfl rfl rfl rfl (by kernel_rfl) (fun K_ hK_ => ?_) (fun K_ hK_ => ?_)
      · refine Evt.k_call hK_ hHeld rfl Try.func20 (by kernel_rfl) rfl #[.agg #[.slice AQ q.length cQ, .slice AM m.length cM, .slice AE e.length cE], .agg #[.int .i64 a, .int .i64 b], .bool _] (by rfl) rfl (by (try simp only [List.map_toArray, List.map_cons, List.map_nil]); first | done | rfl | (simp only [List.length_drop, List.length_take]; rfl)) ?_
        (with_reducible refine (writeC a b _ (SB.out.below hHeld.out) HR.out).mono ?_)
        rintro e w_ ⟨X0, x0, X1, x1, X2, x2, rfl, ho_, hb_⟩
        have ho2_ := ho_.lower (show w.heap.size ≤ _ from (below_step HB.out hHeld.out).size); clear ho_
        refine ⟨_, rfl, hb_, fun hH_ => ?_⟩
        have F19 := Aside0.mk (ho2_)
        clear hHeld hb_
        have hHeld := hH_
        clear hH_ hK_
        refine Evt.ol_norm (a' := ?_) ?_ ?_
        rotate_left
        · simp only [Act.put, List.setIfInBounds_toArray, List.set_cons_zero, List.set_cons_succ, i64_w, i32_w]; rfl
        iterate 3 (first | (refine Evt.ol_off (a' := ?_) HT_ rfl rfl (by rfl) (by kernel_rfl) (fun _ _ _ h => h) ?_ ?_; rotate_left; (· (try simp only [Act.put, List.setIfInBounds_toArray, List.set_cons_zero, List.set_cons_succ, i64_w, i32_w]); rfl)) | (refine Evt.ol_pure (a' := ?_) (v := ?_) HT_ rfl rfl rfl (by rfl) (by kernel_rfl) (fun _ _ _ h => h) ?_ ?_ ?_; rotate_left 2; (· intro w'; go_simp; with_reducible rfl); (· (try simp only [Act.put, List.setIfInBounds_toArray, List.set_cons_zero, List.set_cons_succ, i64_w, i32_w]); rfl)) | (refine Evt.ol_load (a' := ?_) (v := ?_) HT_ HW_ hHeld rfl rfl rfl (by rfl) (by kernel_rfl) (fun _ _ _ h => h) ?_ ?_ ?_; rotate_left 2; (· intro w' hS_; obtain ⟨⟨s0, s1, s2, s3, s4, s5, s6, s7, s8, s9⟩, ⟨s10, s11, s12, s13⟩⟩ := KP.out w' hS_.out; go_simp; with_reducible rfl); (· (try simp only [Act.put, List.setIfInBounds_toArray, List.set_cons_zero, List.set_cons_succ, i64_w, i32_w]); rfl)))
        refine Evt.ol_one (i := 23) [(24, none), (25, some 6)] HT_ rfl rfl (by kernel_rfl) (fun K_ hK_ => ?_)
        · refine Evt.k_alloc hK_ hHeld rfl rfl (cs := #[.slice none 0 0, .slice none 0 0, .slice none 0 0]) (t := 24) ?_ ?_
          · first | (go_simp; done) | (go_simp; rfl) | (go_simp; refine ⟨?_, ?_⟩ <;> rfl)
          intro gT23 w_ hg_ hB_ hb_ hH_
          have GE23 := Aside0.mk (show w1.heap.size ≤ gT23 from (by rw [hg_]; exact hHeld.out.size))
          clear hg_
          have n_F19 := Aside0.mk (F19.out.below hb_)
          clear F19
          have F19 := n_F19
          clear n_F19
          have F23 := Aside0.mk hB_
          clear hHeld hb_ hB_
          have hHeld := hH_
          clear hH_ hK_
          refine Evt.ol_norm (a' := ?_) ?_ ?_
          rotate_left
          · simp only [Act.put, List.setIfInBounds_toArray, List.set_cons_zero, List.set_cons_succ, i64_w, i32_w]; rfl
          exact Evt.ol_norm (by simp only [putAll, Act.put, List.setIfInBounds_toArray, List.set_cons_zero, List.set_cons_succ, i64_w, i32_w]; rfl) (JN (X0, x0, X1, x1, X2, x2, gT23) _ hHeld ⟨F19.out, F23.out, GE23.out⟩)
      · refine Evt.k_alloc hK_ hHeld rfl rfl (cs := #[.slice none 0 0, .slice none 0 0, .slice none 0 0]) (t := 24) ?_ ?_
        · first | (go_simp; done) | (go_simp; rfl) | (go_simp; refine ⟨?_, ?_⟩ <;> rfl)
        intro gT23 w_ hg_ hB_ hb_ hH_
        have GE23 := Aside0.mk (show w1.heap.size ≤ gT23 from (by rw [hg_]; exact hHeld.out.size))
        clear hg_
        have F23 := Aside0.mk hB_
        clear hHeld hb_ hB_
        have hHeld := hH_
        clear hH_ hK_
        refine Evt.ol_norm (a' := ?_) ?_ ?_
        rotate_left
        · simp only [Act.put, List.setIfInBounds_toArray, List.set_cons_zero, List.set_cons_succ, i64_w, i32_w]; rfl
        refine Evt.ol_one (i := 19) [(20, some 7), (21, some 28), (22, some 29), (24, none), (25, some 6)] HT_ rfl rfl (by kernel_rfl) (fun K_ hK_ => ?_)
        · refine Evt.k_call hK_ hHeld rfl Try.func20 (by kernel_rfl) rfl #[.agg #[.slice AQ q.length cQ, .slice AM m.length cM, .slice AE e.length cE], .agg #[.int .i64 a, .int .i64 b], .bool _] (by rfl) rfl (by (try simp only [List.map_toArray, List.map_cons, List.map_nil]); first | done | rfl | (simp only [List.length_drop, List.length_take]; rfl)) ?_
          (with_reducible refine (writeC a b _ (SB.out.below hHeld.out) HR.out).mono ?_)
          rintro e w_ ⟨X0, x0, X1, x1, X2, x2, rfl, ho_, hb_⟩
          have ho2_ := ho_.lower (show w.heap.size ≤ _ from (below_step HB.out hHeld.out).size); clear ho_
          refine ⟨_, rfl, hb_, fun hH_ => ?_⟩
          have F19 := Aside0.mk (ho2_)
          have n_F23 := Aside0.mk (F23.out.below hb_)
          clear F23
          have F23 := n_F23
          clear n_F23
          clear hHeld hb_
          have hHeld := hH_
          clear hH_ hK_
          refine Evt.ol_norm (a' := ?_) ?_ ?_
          rotate_left
          · simp only [Act.put, List.setIfInBounds_toArray, List.set_cons_zero, List.set_cons_succ, i64_w, i32_w]; rfl
          iterate 3 (first | (refine Evt.ol_off (a' := ?_) HT_ rfl rfl (by rfl) (by kernel_rfl) (fun _ _ _ h => h) ?_ ?_; rotate_left; (· (try simp only [Act.put, List.setIfInBounds_toArray, List.set_cons_zero, List.set_cons_succ, i64_w, i32_w]); rfl)) | (refine Evt.ol_pure (a' := ?_) (v := ?_) HT_ rfl rfl rfl (by rfl) (by kernel_rfl) (fun _ _ _ h => h) ?_ ?_ ?_; rotate_left 2; (· intro w'; go_simp; with_reducible rfl); (· (try simp only [Act.put, List.setIfInBounds_toArray, List.set_cons_zero, List.set_cons_succ, i64_w, i32_w]); rfl)) | (refine Evt.ol_load (a' := ?_) (v := ?_) HT_ HW_ hHeld rfl rfl rfl (by rfl) (by kernel_rfl) (fun _ _ _ h => h) ?_ ?_ ?_; rotate_left 2; (· intro w' hS_; obtain ⟨⟨s0, s1, s2, s3, s4, s5, s6, s7, s8, s9⟩, ⟨s10, s11, s12, s13⟩⟩ := KP.out w' hS_.out; go_simp; with_reducible rfl); (· (try simp only [Act.put, List.setIfInBounds_toArray, List.set_cons_zero, List.set_cons_succ, i64_w, i32_w]); rfl)))
          exact Evt.ol_norm (by simp only [putAll, Act.put, List.setIfInBounds_toArray, List.set_cons_zero, List.set_cons_succ, i64_w, i32_w]; rfl) (JN (X0, x0, X1, x1, X2, x2, gT23) _ hHeld ⟨F19.out, F23.out, GE23.out⟩)
    rintro ⟨X0, x0, X1, x1, X2, x2, gT23⟩ w_ hHeld ⟨f_F19, f_F23, f_GE23⟩
    have F19 := Aside0.mk f_F19
    have F23 := Aside0.mk f_F23
    have GE23 := Aside0.mk f_GE23
    clear f_F19 f_F23 f_GE23
    refine Evt.ol_norm (a' := ?_) ?_ ?_
    rotate_left
    · simp only [putAll, Act.put, List.setIfInBounds_toArray, List.set_cons_zero, List.set_cons_succ, i64_w, i32_w]; rfl
    refine Evt.ol_setrow (i := 24) [(25, some 6)] HT_ hHeld rfl rfl (by kernel_rfl) (by rfl) F23.out GE23.out 24 (.tmp 5) (.tmp 28) rfl rfl rfl (by kernel_rfl) rfl (by simp [Value.oneCell']) ?_
    intro wa B5_ hg_ hH_
    have O19 := Aside0.mk (Own3.chg F19.out hg_ F23.out)
    have GE5 := Aside0.mk (Nat.le_trans (show w.heap.size ≤ _ from HB.out.size) GE23.out)
    have B5 := Aside0.mk B5_
    have V1 := Aside0.mk (V.out.below hH_.out)
    have BKn := Aside0.mk (BK3.out.below hH_.out)
    have HBn := Aside0.mk (below_step HB.out hH_.out)
    have SBn := Aside0.mk (SB.out.below hH_.out)
    clear F19 F23 GE23 hHeld B5_ hg_ V SB BM BK3 HB KP
    have hHeld := hH_
    clear hH_
    (first | (refine Evt.ol_off (a' := ?_) HT_ rfl rfl (by rfl) (by kernel_rfl) (fun _ _ _ h => h) ?_ ?_; rotate_left; (· (try simp only [Act.put, List.setIfInBounds_toArray, List.set_cons_zero, List.set_cons_succ, i64_w, i32_w]); rfl)) | (refine Evt.ol_pure (a' := ?_) (v := ?_) HT_ rfl rfl rfl (by rfl) (by kernel_rfl) (fun _ _ _ h => h) ?_ ?_ ?_; rotate_left 2; (· intro w'; go_simp; with_reducible rfl); (· (try simp only [Act.put, List.setIfInBounds_toArray, List.set_cons_zero, List.set_cons_succ, i64_w, i32_w]); rfl)) | (refine Evt.ol_load (a' := ?_) (v := ?_) HT_ HW_ hHeld rfl rfl rfl (by rfl) (by kernel_rfl) (fun _ _ _ h => h) ?_ ?_ ?_; rotate_left 2; (· intro w' hS_; obtain ⟨⟨s0, s1, s2, s3, s4, s5, s6, s7, s8, s9⟩, ⟨s10, s11, s12, s13⟩⟩ := KP.out w' hS_.out; go_simp; with_reducible rfl); (· (try simp only [Act.put, List.setIfInBounds_toArray, List.set_cons_zero, List.set_cons_succ, i64_w, i32_w]); rfl)))
    refine Evt.ol_done HT_ (by kernel_rfl) ?_
    clear HT_ HW_ hHeld
    go_wp2
    go_ret
    exact ⟨rfl, (Stp.here ⟨_, _, _, _, _, _, _, _, V1.out⟩).from HBn.out⟩
set_option maxHeartbeats 32000000 in
theorem coil_w (h : Vm w base U gm gt vC vI vQ vM vE vL mo l li ⟨q, m, e, pc, acc, st, ended, fault⟩) {r0 r1 r2 : List Bool} (hc : ((k = 11) ∧ wrv q m e a b (acc) = (r0, r1, r2, 0)) ∨ ((k = 12) ∧ wrv q m e a b (!acc) = (r0, r1, r2, 0))) : Calls Try.prog 66 #[.pointer (some ⟨gm, 0, none⟩), .agg #[.int .i64 k, .int .i64 a, .int .i64 b, .int .i64 j]] w fun x w' => x = .returned (.int .i64 0) ∧ Stp w base U gm l li ⟨r0, r1, r2, pc, acc, st, ended, fault⟩ w' := by
  obtain ⟨AC, cC, AI, cI, AQ, cQ, AM, cM, AE, cE, rfl, rfl, rfl, rfl, rfl⟩ := h.forms
  have V0 := Aside0.mk h
  rcases hc with ⟨hk, hr⟩ | ⟨hk, hr⟩
  case' inl =>
    have HR := Aside0.mk hr
    have LN := Aside0.mk (show r0.length ≤ 20000 ∧ r1.length ≤ 20000 ∧ r2.length ≤ 20000 from by have h_ := wrv_len (a := a) (b := b) (v := acc) h.fit.q h.fit.m h.fit.e; rw [hr] at h_; exact h_)
    obtain ⟨a11, b11, a13, b13, a14, b14⟩ : (k == 11) = true ∧ decide (k = 11) = true ∧ (k == 13) = false ∧ decide (k = 13) = false ∧ (k == 14) = false ∧ decide (k = 14) = false := by subst hk; simp
  case' inr =>
    have HR := Aside0.mk hr
    have LN := Aside0.mk (show r0.length ≤ 20000 ∧ r1.length ≤ 20000 ∧ r2.length ≤ 20000 from by have h_ := wrv_len (a := a) (b := b) (v := !acc) h.fit.q h.fit.m h.fit.e; rw [hr] at h_; exact h_)
    obtain ⟨a11, b11, a13, b13, a14, b14⟩ : (k == 11) = false ∧ decide (k = 11) = false ∧ (k == 13) = false ∧ decide (k = 13) = false ∧ (k == 14) = false ∧ decide (k = 14) = false := by subst hk; simp
  all_goals
    clear hr hk
    have HB := Aside0.mk (Below.refl w.heap.size w)
    have V := Aside0.mk (h)
    have SB := Aside0.mk (h.sb)
    have BM : Aside0 (Bk w gm 98 #[.slice AC l.length cC, .slice AI li.length cI, .slice AQ q.length cQ, .slice AM m.length cM, .slice AE e.length cE, .int .i64 pc, .bool acc, .pointer (some ⟨gt, 0, none⟩), .bool ended, .int .i64 fault]) := Aside0.mk (h.bm)
    clear h
    obtain ⟨zBM_0, zBM_1, zBM_2, zBM_3, zBM_4, zBM_5, zBM_6, zBM_7, zBM_8, zBM_9⟩ := BM.out.c10
    go_enter Try.func66, Try.ntmps66
    go_wp2_with (((with_reducible refine gate_dst (N := 3) rfl ?_); refine box_event ?hg (N := 3) ?hd (cs := #[.int .i64 k, .int .i64 a, .int .i64 b, .int .i64 j]) (t := 66) ?hr ?_; (case hd => rfl); (case hg => rfl); (case hr => first | (go_simp; done) | (go_simp; rfl)); intro g3 hg w1 hbox hb; have hbx : Below w.heap.size w w1 := below_step (by repeat (first | (with_reducible first | exact Below.refl _ _ | apply below_alloc | apply pw_below_drewN | apply below_drew1) | exact Below.refl _ _)) hb; clear zBM_0 zBM_1 zBM_2 zBM_3 zBM_4 zBM_5 zBM_6 zBM_7 zBM_8 zBM_9; replace V := Aside0.mk (V.out.below hbx); replace SB := Aside0.mk (SB.out.below hbx); replace BM := Aside0.mk (BM.out.below hbx); replace HB := Aside0.mk (below_step HB.out hbx); clear hbx; have BK3 := Aside0.mk (Bk.mk (hbox : Blk w1 g3 66 #[.int .i64 k, .int .i64 a, .int .i64 b, .int .i64 j])); clear hbox hg hb; obtain ⟨zBM_0, zBM_1, zBM_2, zBM_3, zBM_4, zBM_5, zBM_6, zBM_7, zBM_8, zBM_9⟩ := BM.out.c10; obtain ⟨zBK3_0, zBK3_1, zBK3_2, zBK3_3⟩ := BK3.out.c4))
    have KP := Aside0.mk (fun w' (hb : Below w1.heap.size w1 w') => And.intro ((BM.out.below hb).c10) ((BK3.out.below hb).c4))
    clear zBM_0 zBM_1 zBM_2 zBM_3 zBM_4 zBM_5 zBM_6 zBM_7 zBM_8 zBM_9 zBK3_0 zBK3_1 zBK3_2 zBK3_3
    refine Evt.ol_start (ds := []) (w0 := w1) (T := (true, [([], []), ([0], [0]), ([1], [1]), ([2], [2]), ([], []), ([4], [4]), ([], []), ([6], [6]), ([7], [7]), ([8], [8]), ([9], [9]), ([10, 9], [9, 10]), ([11, 9], [9, 11]), ([9, 12], [9, 12]), ([], []), ([14], [14]), ([15], [15]), ([16], [16]), ([13, 17], [13, 17]), ([3, 5, 18, 9], [3, 5, 18]), ([19], [19]), ([20], [20]), ([20], [20]), ([], []), ([23, 21, 19, 0, 1, 2, 3, 4, 5, 6, 7, 8, 9, 10, 11, 12, 13, 14, 15, 16, 17, 18, 19, 20, 21, 23], [21, 23]), ([22, 24, 0, 1, 2, 3, 4, 5, 6, 7, 8, 9, 10, 11, 12, 13, 14, 15, 16, 17, 18, 19, 20, 21, 22, 23, 24], [22])])) (B := [0, 1, 3, 7, 0, 16, 0, 64, 192, 448, 960, 1984, 4032, 8128, 0, 16384, 49152, 114688, 262080, 524287, 1048575, 2097151, 2097151, 0, 12582911, 33554431]) 26 [(0, some 8), (1, some 9), (2, some 10), (3, some 11), (4, some 12), (5, some 13), (6, some 14), (7, some 15), (8, some 16), (9, some 17), (10, some 18), (11, some 19), (12, some 20), (13, some 21), (14, some 22), (15, some 23), (16, some 24), (17, some 25), (18, some 26), (19, some 27), (20, some 7), (21, some 28), (22, some 29), (23, some 5), (24, none), (25, some 6)] (by kernel_rfl) rfl (by kernel_rfl) (by kernel_rfl) (by kernel_rfl) (by repeat (first | (with_reducible first | exact Below.refl _ _ | apply below_alloc | apply pw_below_drewN | apply below_drew1) | exact Below.refl _ _)) ?_
    intro HT_ HW_ w_ hHeld
    iterate 19 (first | (refine Evt.ol_off (a' := ?_) HT_ rfl rfl (by rfl) (by kernel_rfl) (fun _ _ _ h => h) ?_ ?_; rotate_left; (· (try simp only [Act.put, List.setIfInBounds_toArray, List.set_cons_zero, List.set_cons_succ, i64_w, i32_w]); rfl)) | (refine Evt.ol_pure (a' := ?_) (v := ?_) HT_ rfl rfl rfl (by rfl) (by kernel_rfl) (fun _ _ _ h => h) ?_ ?_ ?_; rotate_left 2; (· intro w'; go_simp; with_reducible rfl); (· (try simp only [Act.put, List.setIfInBounds_toArray, List.set_cons_zero, List.set_cons_succ, i64_w, i32_w]); rfl)) | (refine Evt.ol_load (a' := ?_) (v := ?_) HT_ HW_ hHeld rfl rfl rfl (by rfl) (by kernel_rfl) (fun _ _ _ h => h) ?_ ?_ ?_; rotate_left 2; (· intro w' hS_; obtain ⟨⟨s0, s1, s2, s3, s4, s5, s6, s7, s8, s9⟩, ⟨s10, s11, s12, s13⟩⟩ := KP.out w' hS_.out; go_simp; with_reducible rfl); (· (try simp only [Act.put, List.setIfInBounds_toArray, List.set_cons_zero, List.set_cons_succ, i64_w, i32_w]); rfl)))
    refine Evt.ol_join (σ := (Option Addr) × (Nat) × (Option Addr) × (Nat) × (Option Addr) × (Nat) × (Nat)) 2 [(24, none), (25, some 6)] (fun s => match s with | (X0, x0, X1, x1, X2, x2, gT23) => [(27, .tuple #[.agg #[.slice X0 r0.length x0, .slice X1 r1.length x1, .slice X2 r2.length x2], .int .i64 0]), (7, .tuple #[.agg #[.slice X0 r0.length x0, .slice X1 r1.length x1, .slice X2 r2.length x2], .int .i64 0]), (28, .agg #[.slice X0 r0.length x0, .slice X1 r1.length x1, .slice X2 r2.length x2]), (29, .int .i64 0), (5, .pointer (some ⟨gT23, 0, none⟩))]) (fun s W_ => match s with | (X0, x0, X1, x1, X2, x2, gT23) => (Own3 W_ w.heap.size (.slice X0 r0.length x0) (.slice X1 r1.length x1) (.slice X2 r2.length x2) r0 r1 r2) ∧ (Bk W_ gT23 24 #[.slice none 0 0, .slice none 0 0, .slice none 0 0]) ∧ (w1.heap.size ≤ gT23)) ?_ ?_
    · intro JN
      refine Evt.ol_two (i := 19) (j := 23) [(20, some 7), (21, some 28), (22, some 29), (23, some 5), (24, none), (25, some 6)] [(19, some 27), (20, some 7), (21, some 28), (22, some 29), (24, none), (25, some 6)] HT_ rfl rfl rfl rfl (by kernel_rfl) (fun K_ hK_ => ?_) (fun K_ hK_ => ?_)
      · refine Evt.k_call hK_ hHeld rfl Try.func20 (by kernel_rfl) rfl #[.agg #[.slice AQ q.length cQ, .slice AM m.length cM, .slice AE e.length cE], .agg #[.int .i64 a, .int .i64 b], .bool _] (by rfl) rfl (by (try simp only [List.map_toArray, List.map_cons, List.map_nil]); first | done | rfl | (simp only [List.length_drop, List.length_take]; rfl)) ?_
        (with_reducible refine (writeC a b _ (SB.out.below hHeld.out) HR.out).mono ?_)
        rintro e w_ ⟨X0, x0, X1, x1, X2, x2, rfl, ho_, hb_⟩
        have ho2_ := ho_.lower (show w.heap.size ≤ _ from (below_step HB.out hHeld.out).size); clear ho_
        refine ⟨_, rfl, hb_, fun hH_ => ?_⟩
        have F19 := Aside0.mk (ho2_)
        clear hHeld hb_
        have hHeld := hH_
        clear hH_ hK_
        refine Evt.ol_norm (a' := ?_) ?_ ?_
        rotate_left
        · simp only [Act.put, List.setIfInBounds_toArray, List.set_cons_zero, List.set_cons_succ, i64_w, i32_w]; rfl
        iterate 3 (first | (refine Evt.ol_off (a' := ?_) HT_ rfl rfl (by rfl) (by kernel_rfl) (fun _ _ _ h => h) ?_ ?_; rotate_left; (· (try simp only [Act.put, List.setIfInBounds_toArray, List.set_cons_zero, List.set_cons_succ, i64_w, i32_w]); rfl)) | (refine Evt.ol_pure (a' := ?_) (v := ?_) HT_ rfl rfl rfl (by rfl) (by kernel_rfl) (fun _ _ _ h => h) ?_ ?_ ?_; rotate_left 2; (· intro w'; go_simp; with_reducible rfl); (· (try simp only [Act.put, List.setIfInBounds_toArray, List.set_cons_zero, List.set_cons_succ, i64_w, i32_w]); rfl)) | (refine Evt.ol_load (a' := ?_) (v := ?_) HT_ HW_ hHeld rfl rfl rfl (by rfl) (by kernel_rfl) (fun _ _ _ h => h) ?_ ?_ ?_; rotate_left 2; (· intro w' hS_; obtain ⟨⟨s0, s1, s2, s3, s4, s5, s6, s7, s8, s9⟩, ⟨s10, s11, s12, s13⟩⟩ := KP.out w' hS_.out; go_simp; with_reducible rfl); (· (try simp only [Act.put, List.setIfInBounds_toArray, List.set_cons_zero, List.set_cons_succ, i64_w, i32_w]); rfl)))
        refine Evt.ol_one (i := 23) [(24, none), (25, some 6)] HT_ rfl rfl (by kernel_rfl) (fun K_ hK_ => ?_)
        · refine Evt.k_alloc hK_ hHeld rfl rfl (cs := #[.slice none 0 0, .slice none 0 0, .slice none 0 0]) (t := 24) ?_ ?_
          · first | (go_simp; done) | (go_simp; rfl) | (go_simp; refine ⟨?_, ?_⟩ <;> rfl)
          intro gT23 w_ hg_ hB_ hb_ hH_
          have GE23 := Aside0.mk (show w1.heap.size ≤ gT23 from (by rw [hg_]; exact hHeld.out.size))
          clear hg_
          have n_F19 := Aside0.mk (F19.out.below hb_)
          clear F19
          have F19 := n_F19
          clear n_F19
          have F23 := Aside0.mk hB_
          clear hHeld hb_ hB_
          have hHeld := hH_
          clear hH_ hK_
          refine Evt.ol_norm (a' := ?_) ?_ ?_
          rotate_left
          · simp only [Act.put, List.setIfInBounds_toArray, List.set_cons_zero, List.set_cons_succ, i64_w, i32_w]; rfl
          exact Evt.ol_norm (by simp only [putAll, Act.put, List.setIfInBounds_toArray, List.set_cons_zero, List.set_cons_succ, i64_w, i32_w]; rfl) (JN (X0, x0, X1, x1, X2, x2, gT23) _ hHeld ⟨F19.out, F23.out, GE23.out⟩)
      · refine Evt.k_alloc hK_ hHeld rfl rfl (cs := #[.slice none 0 0, .slice none 0 0, .slice none 0 0]) (t := 24) ?_ ?_
        · first | (go_simp; done) | (go_simp; rfl) | (go_simp; refine ⟨?_, ?_⟩ <;> rfl)
        intro gT23 w_ hg_ hB_ hb_ hH_
        have GE23 := Aside0.mk (show w1.heap.size ≤ gT23 from (by rw [hg_]; exact hHeld.out.size))
        clear hg_
        have F23 := Aside0.mk hB_
        clear hHeld hb_ hB_
        have hHeld := hH_
        clear hH_ hK_
        refine Evt.ol_norm (a' := ?_) ?_ ?_
        rotate_left
        · simp only [Act.put, List.setIfInBounds_toArray, List.set_cons_zero, List.set_cons_succ, i64_w, i32_w]; rfl
        refine Evt.ol_one (i := 19) [(20, some 7), (21, some 28), (22, some 29), (24, none), (25, some 6)] HT_ rfl rfl (by kernel_rfl) (fun K_ hK_ => ?_)
        · refine Evt.k_call hK_ hHeld rfl Try.func20 (by kernel_rfl) rfl #[.agg #[.slice AQ q.length cQ, .slice AM m.length cM, .slice AE e.length cE], .agg #[.int .i64 a, .int .i64 b], .bool _] (by rfl) rfl (by (try simp only [List.map_toArray, List.map_cons, List.map_nil]); first | done | rfl | (simp only [List.length_drop, List.length_take]; rfl)) ?_
          (with_reducible refine (writeC a b _ (SB.out.below hHeld.out) HR.out).mono ?_)
          rintro e w_ ⟨X0, x0, X1, x1, X2, x2, rfl, ho_, hb_⟩
          have ho2_ := ho_.lower (show w.heap.size ≤ _ from (below_step HB.out hHeld.out).size); clear ho_
          refine ⟨_, rfl, hb_, fun hH_ => ?_⟩
          have F19 := Aside0.mk (ho2_)
          have n_F23 := Aside0.mk (F23.out.below hb_)
          clear F23
          have F23 := n_F23
          clear n_F23
          clear hHeld hb_
          have hHeld := hH_
          clear hH_ hK_
          refine Evt.ol_norm (a' := ?_) ?_ ?_
          rotate_left
          · simp only [Act.put, List.setIfInBounds_toArray, List.set_cons_zero, List.set_cons_succ, i64_w, i32_w]; rfl
          iterate 3 (first | (refine Evt.ol_off (a' := ?_) HT_ rfl rfl (by rfl) (by kernel_rfl) (fun _ _ _ h => h) ?_ ?_; rotate_left; (· (try simp only [Act.put, List.setIfInBounds_toArray, List.set_cons_zero, List.set_cons_succ, i64_w, i32_w]); rfl)) | (refine Evt.ol_pure (a' := ?_) (v := ?_) HT_ rfl rfl rfl (by rfl) (by kernel_rfl) (fun _ _ _ h => h) ?_ ?_ ?_; rotate_left 2; (· intro w'; go_simp; with_reducible rfl); (· (try simp only [Act.put, List.setIfInBounds_toArray, List.set_cons_zero, List.set_cons_succ, i64_w, i32_w]); rfl)) | (refine Evt.ol_load (a' := ?_) (v := ?_) HT_ HW_ hHeld rfl rfl rfl (by rfl) (by kernel_rfl) (fun _ _ _ h => h) ?_ ?_ ?_; rotate_left 2; (· intro w' hS_; obtain ⟨⟨s0, s1, s2, s3, s4, s5, s6, s7, s8, s9⟩, ⟨s10, s11, s12, s13⟩⟩ := KP.out w' hS_.out; go_simp; with_reducible rfl); (· (try simp only [Act.put, List.setIfInBounds_toArray, List.set_cons_zero, List.set_cons_succ, i64_w, i32_w]); rfl)))
          exact Evt.ol_norm (by simp only [putAll, Act.put, List.setIfInBounds_toArray, List.set_cons_zero, List.set_cons_succ, i64_w, i32_w]; rfl) (JN (X0, x0, X1, x1, X2, x2, gT23) _ hHeld ⟨F19.out, F23.out, GE23.out⟩)
    rintro ⟨X0, x0, X1, x1, X2, x2, gT23⟩ w_ hHeld ⟨f_F19, f_F23, f_GE23⟩
    have F19 := Aside0.mk f_F19
    have F23 := Aside0.mk f_F23
    have GE23 := Aside0.mk f_GE23
    clear f_F19 f_F23 f_GE23
    refine Evt.ol_norm (a' := ?_) ?_ ?_
    rotate_left
    · simp only [putAll, Act.put, List.setIfInBounds_toArray, List.set_cons_zero, List.set_cons_succ, i64_w, i32_w]; rfl
    refine Evt.ol_setrow (i := 24) [(25, some 6)] HT_ hHeld rfl rfl (by kernel_rfl) (by rfl) F23.out GE23.out 24 (.tmp 5) (.tmp 28) rfl rfl rfl (by kernel_rfl) rfl (by simp [Value.oneCell']) ?_
    intro wa B5_ hg_ hH_
    have O19 := Aside0.mk (Own3.chg F19.out hg_ F23.out)
    have GE5 := Aside0.mk (Nat.le_trans (show w.heap.size ≤ _ from HB.out.size) GE23.out)
    have B5 := Aside0.mk B5_
    have V1 := Aside0.mk (V.out.below hH_.out)
    have BKn := Aside0.mk (BK3.out.below hH_.out)
    have HBn := Aside0.mk (below_step HB.out hH_.out)
    have SBn := Aside0.mk (SB.out.below hH_.out)
    clear F19 F23 GE23 hHeld B5_ hg_ V SB BM BK3 HB KP
    have hHeld := hH_
    clear hH_
    (first | (refine Evt.ol_off (a' := ?_) HT_ rfl rfl (by rfl) (by kernel_rfl) (fun _ _ _ h => h) ?_ ?_; rotate_left; (· (try simp only [Act.put, List.setIfInBounds_toArray, List.set_cons_zero, List.set_cons_succ, i64_w, i32_w]); rfl)) | (refine Evt.ol_pure (a' := ?_) (v := ?_) HT_ rfl rfl rfl (by rfl) (by kernel_rfl) (fun _ _ _ h => h) ?_ ?_ ?_; rotate_left 2; (· intro w'; go_simp; with_reducible rfl); (· (try simp only [Act.put, List.setIfInBounds_toArray, List.set_cons_zero, List.set_cons_succ, i64_w, i32_w]); rfl)) | (refine Evt.ol_load (a' := ?_) (v := ?_) HT_ HW_ hHeld rfl rfl rfl (by rfl) (by kernel_rfl) (fun _ _ _ h => h) ?_ ?_ ?_; rotate_left 2; (· intro w' hS_; obtain ⟨⟨s0, s1, s2, s3, s4, s5, s6, s7, s8, s9⟩, ⟨s10, s11, s12, s13⟩⟩ := KP.out w' hS_.out; go_simp; with_reducible rfl); (· (try simp only [Act.put, List.setIfInBounds_toArray, List.set_cons_zero, List.set_cons_succ, i64_w, i32_w]); rfl)))
    refine Evt.ol_done HT_ (by kernel_rfl) ?_
    clear HT_ HW_ hHeld
    have NU5 := Aside0.mk (show ¬ U gT23 from fun h_ => by have h1_ := (V0.out.ub _ h_).2; have h2_ := GE5.out; omega)
    have HB := Aside0.mk (Below.refl wa.heap.size wa)
    have BM : Aside0 (Bk wa gm 98 #[.slice AC l.length cC, .slice AI li.length cI, .slice AQ q.length cQ, .slice AM m.length cM, .slice AE e.length cE, .int .i64 pc, .bool acc, .pointer (some ⟨gt, 0, none⟩), .bool ended, .int .i64 fault]) := Aside0.mk (V1.out.bm)
    have BK3 : Aside0 (Bk wa g3 66 #[.int .i64 k, .int .i64 a, .int .i64 b, .int .i64 j]) := Aside0.mk (BKn.out)
    have BK5 : Aside0 (Bk wa gT23 24 #[.slice X0 r0.length x0, .slice X1 r1.length x1, .slice X2 r2.length x2]) := Aside0.mk (B5.out)
    clear HB BKn B5
    obtain ⟨zBM_0, zBM_1, zBM_2, zBM_3, zBM_4, zBM_5, zBM_6, zBM_7, zBM_8, zBM_9⟩ := BM.out.c10
    obtain ⟨zBK3_0, zBK3_1, zBK3_2, zBK3_3⟩ := BK3.out.c4
    obtain ⟨zBK5_0, zBK5_1, zBK5_2⟩ := BK5.out.c3
    have fBM_2 : wa.frozen? ⟨gm, 2, none⟩ = false := blk_frozen BM.out.blk 2
    have fBM_3 : wa.frozen? ⟨gm, 3, none⟩ = false := blk_frozen BM.out.blk 3
    have fBM_4 : wa.frozen? ⟨gm, 4, none⟩ = false := blk_frozen BM.out.blk 4
    go_wp2
    go_ret
    exact ⟨rfl, Vm.stpS V0.out HBn.out O19.out LN.out.1 LN.out.2.1 LN.out.2.2⟩
set_option maxHeartbeats 32000000 in
theorem coil_skip (h : Vm w base U gm gt vC vI vQ vM vE vL mo l li ⟨q, m, e, pc, false, st, ended, fault⟩) {r0 r1 r2 : List Bool} (hc : ((k = 13) ∧ wrv q m e a b (false) = (r0, r1, r2, 0)) ∨ ((k = 14) ∧ wrv q m e a b (true) = (r0, r1, r2, 0))) : Calls Try.prog 66 #[.pointer (some ⟨gm, 0, none⟩), .agg #[.int .i64 k, .int .i64 a, .int .i64 b, .int .i64 j]] w fun x w' => x = .returned (.int .i64 0) ∧ Stp w base U gm l li ⟨q, m, e, pc, false, st, ended, fault⟩ w' := by
  obtain ⟨AC, cC, AI, cI, AQ, cQ, AM, cM, AE, cE, rfl, rfl, rfl, rfl, rfl⟩ := h.forms
  have V0 := Aside0.mk h
  rcases hc with ⟨hk, hr⟩ | ⟨hk, hr⟩
  case' inl =>
    have HR := Aside0.mk hr
    obtain ⟨a11, b11, a13, b13, a14, b14⟩ : (k == 11) = false ∧ decide (k = 11) = false ∧ (k == 13) = true ∧ decide (k = 13) = true ∧ (k == 14) = false ∧ decide (k = 14) = false := by subst hk; simp
  case' inr =>
    have HR := Aside0.mk hr
    obtain ⟨a11, b11, a13, b13, a14, b14⟩ : (k == 11) = false ∧ decide (k = 11) = false ∧ (k == 13) = false ∧ decide (k = 13) = false ∧ (k == 14) = true ∧ decide (k = 14) = true := by subst hk; simp
  all_goals
    clear hr hk
    have HB := Aside0.mk (Below.refl w.heap.size w)
    have V := Aside0.mk (h)
    have SB := Aside0.mk (h.sb)
    have BM : Aside0 (Bk w gm 98 #[.slice AC l.length cC, .slice AI li.length cI, .slice AQ q.length cQ, .slice AM m.length cM, .slice AE e.length cE, .int .i64 pc, .bool false, .pointer (some ⟨gt, 0, none⟩), .bool ended, .int .i64 fault]) := Aside0.mk (h.bm)
    clear h
    obtain ⟨zBM_0, zBM_1, zBM_2, zBM_3, zBM_4, zBM_5, zBM_6, zBM_7, zBM_8, zBM_9⟩ := BM.out.c10
    go_enter Try.func66, Try.ntmps66
    go_wp2_with (((with_reducible refine gate_dst (N := 3) rfl ?_); refine box_event ?hg (N := 3) ?hd (cs := #[.int .i64 k, .int .i64 a, .int .i64 b, .int .i64 j]) (t := 66) ?hr ?_; (case hd => rfl); (case hg => rfl); (case hr => first | (go_simp; done) | (go_simp; rfl)); intro g3 hg w1 hbox hb; have hbx : Below w.heap.size w w1 := below_step (by repeat (first | (with_reducible first | exact Below.refl _ _ | apply below_alloc | apply pw_below_drewN | apply below_drew1) | exact Below.refl _ _)) hb; clear zBM_0 zBM_1 zBM_2 zBM_3 zBM_4 zBM_5 zBM_6 zBM_7 zBM_8 zBM_9; replace V := Aside0.mk (V.out.below hbx); replace SB := Aside0.mk (SB.out.below hbx); replace BM := Aside0.mk (BM.out.below hbx); replace HB := Aside0.mk (below_step HB.out hbx); clear hbx; have BK3 := Aside0.mk (Bk.mk (hbox : Blk w1 g3 66 #[.int .i64 k, .int .i64 a, .int .i64 b, .int .i64 j])); clear hbox hg hb; obtain ⟨zBM_0, zBM_1, zBM_2, zBM_3, zBM_4, zBM_5, zBM_6, zBM_7, zBM_8, zBM_9⟩ := BM.out.c10; obtain ⟨zBK3_0, zBK3_1, zBK3_2, zBK3_3⟩ := BK3.out.c4))
    have KP := Aside0.mk (fun w' (hb : Below w1.heap.size w1 w') => And.intro ((BM.out.below hb).c10) ((BK3.out.below hb).c4))
    clear zBM_0 zBM_1 zBM_2 zBM_3 zBM_4 zBM_5 zBM_6 zBM_7 zBM_8 zBM_9 zBK3_0 zBK3_1 zBK3_2 zBK3_3
    refine Evt.ol_start (ds := []) (w0 := w1) (T := (true, [([], []), ([0], [0]), ([1], [1]), ([2], [2]), ([], []), ([4], [4]), ([], []), ([6], [6]), ([7], [7]), ([8], [8]), ([9], [9]), ([10, 9], [9, 10]), ([11, 9], [9, 11]), ([9, 12], [9, 12]), ([], []), ([14], [14]), ([15], [15]), ([16], [16]), ([13, 17], [13, 17]), ([3, 5, 18, 9], [3, 5, 18]), ([19], [19]), ([20], [20]), ([20], [20]), ([], []), ([23, 21, 19, 0, 1, 2, 3, 4, 5, 6, 7, 8, 9, 10, 11, 12, 13, 14, 15, 16, 17, 18, 19, 20, 21, 23], [21, 23]), ([22, 24, 0, 1, 2, 3, 4, 5, 6, 7, 8, 9, 10, 11, 12, 13, 14, 15, 16, 17, 18, 19, 20, 21, 22, 23, 24], [22])])) (B := [0, 1, 3, 7, 0, 16, 0, 64, 192, 448, 960, 1984, 4032, 8128, 0, 16384, 49152, 114688, 262080, 524287, 1048575, 2097151, 2097151, 0, 12582911, 33554431]) 26 [(0, some 8), (1, some 9), (2, some 10), (3, some 11), (4, some 12), (5, some 13), (6, some 14), (7, some 15), (8, some 16), (9, some 17), (10, some 18), (11, some 19), (12, some 20), (13, some 21), (14, some 22), (15, some 23), (16, some 24), (17, some 25), (18, some 26), (19, some 27), (20, some 7), (21, some 28), (22, some 29), (23, some 5), (24, none), (25, some 6)] (by kernel_rfl) rfl (by kernel_rfl) (by kernel_rfl) (by kernel_rfl) (by repeat (first | (with_reducible first | exact Below.refl _ _ | apply below_alloc | apply pw_below_drewN | apply below_drew1) | exact Below.refl _ _)) ?_
    intro HT_ HW_ w_ hHeld
    iterate 19 (first | (refine Evt.ol_off (a' := ?_) HT_ rfl rfl (by rfl) (by kernel_rfl) (fun _ _ _ h => h) ?_ ?_; rotate_left; (· (try simp only [Act.put, List.setIfInBounds_toArray, List.set_cons_zero, List.set_cons_succ, i64_w, i32_w]); rfl)) | (refine Evt.ol_pure (a' := ?_) (v := ?_) HT_ rfl rfl rfl (by rfl) (by kernel_rfl) (fun _ _ _ h => h) ?_ ?_ ?_; rotate_left 2; (· intro w'; go_simp; with_reducible rfl); (· (try simp only [Act.put, List.setIfInBounds_toArray, List.set_cons_zero, List.set_cons_succ, i64_w, i32_w]); rfl)) | (refine Evt.ol_load (a' := ?_) (v := ?_) HT_ HW_ hHeld rfl rfl rfl (by rfl) (by kernel_rfl) (fun _ _ _ h => h) ?_ ?_ ?_; rotate_left 2; (· intro w' hS_; obtain ⟨⟨s0, s1, s2, s3, s4, s5, s6, s7, s8, s9⟩, ⟨s10, s11, s12, s13⟩⟩ := KP.out w' hS_.out; go_simp; with_reducible rfl); (· (try simp only [Act.put, List.setIfInBounds_toArray, List.set_cons_zero, List.set_cons_succ, i64_w, i32_w]); rfl)))
    refine Evt.ol_join (σ := (Option Addr) × (Nat) × (Option Addr) × (Nat) × (Option Addr) × (Nat) × (Nat)) 2 [(24, none), (25, some 6)] (fun s => match s with | (X0, x0, X1, x1, X2, x2, gT23) => [(27, .tuple #[.agg #[.slice X0 r0.length x0, .slice X1 r1.length x1, .slice X2 r2.length x2], .int .i64 0]), (7, .tuple #[.agg #[.slice X0 r0.length x0, .slice X1 r1.length x1, .slice X2 r2.length x2], .int .i64 0]), (28, .agg #[.slice X0 r0.length x0, .slice X1 r1.length x1, .slice X2 r2.length x2]), (29, .int .i64 0), (5, .pointer (some ⟨gT23, 0, none⟩))]) (fun s W_ => match s with | (X0, x0, X1, x1, X2, x2, gT23) => (Own3 W_ w.heap.size (.slice X0 r0.length x0) (.slice X1 r1.length x1) (.slice X2 r2.length x2) r0 r1 r2) ∧ (Bk W_ gT23 24 #[.slice none 0 0, .slice none 0 0, .slice none 0 0]) ∧ (w1.heap.size ≤ gT23)) ?_ ?_
    · intro JN
      refine Evt.ol_two (i := 19) (j := 23) [(20, some 7), (21, some 28), (22, some 29), (23, some 5), (24, none), (25, some 6)] [(19, some 27), (20, some 7), (21, some 28), (22, some 29), (24, none), (25, some 6)] HT_ rfl rfl rfl rfl (by kernel_rfl) (fun K_ hK_ => ?_) (fun K_ hK_ => ?_)
      · refine Evt.k_call hK_ hHeld rfl Try.func20 (by kernel_rfl) rfl #[.agg #[.slice AQ q.length cQ, .slice AM m.length cM, .slice AE e.length cE], .agg #[.int .i64 a, .int .i64 b], .bool _] (by rfl) rfl (by (try simp only [List.map_toArray, List.map_cons, List.map_nil]); first | done | rfl | (simp only [List.length_drop, List.length_take]; rfl)) ?_
        (with_reducible refine (writeC a b _ (SB.out.below hHeld.out) HR.out).mono ?_)
        rintro e w_ ⟨X0, x0, X1, x1, X2, x2, rfl, ho_, hb_⟩
        have ho2_ := ho_.lower (show w.heap.size ≤ _ from (below_step HB.out hHeld.out).size); clear ho_
        refine ⟨_, rfl, hb_, fun hH_ => ?_⟩
        have F19 := Aside0.mk (ho2_)
        clear hHeld hb_
        have hHeld := hH_
        clear hH_ hK_
        refine Evt.ol_norm (a' := ?_) ?_ ?_
        rotate_left
        · simp only [Act.put, List.setIfInBounds_toArray, List.set_cons_zero, List.set_cons_succ, i64_w, i32_w]; rfl
        iterate 3 (first | (refine Evt.ol_off (a' := ?_) HT_ rfl rfl (by rfl) (by kernel_rfl) (fun _ _ _ h => h) ?_ ?_; rotate_left; (· (try simp only [Act.put, List.setIfInBounds_toArray, List.set_cons_zero, List.set_cons_succ, i64_w, i32_w]); rfl)) | (refine Evt.ol_pure (a' := ?_) (v := ?_) HT_ rfl rfl rfl (by rfl) (by kernel_rfl) (fun _ _ _ h => h) ?_ ?_ ?_; rotate_left 2; (· intro w'; go_simp; with_reducible rfl); (· (try simp only [Act.put, List.setIfInBounds_toArray, List.set_cons_zero, List.set_cons_succ, i64_w, i32_w]); rfl)) | (refine Evt.ol_load (a' := ?_) (v := ?_) HT_ HW_ hHeld rfl rfl rfl (by rfl) (by kernel_rfl) (fun _ _ _ h => h) ?_ ?_ ?_; rotate_left 2; (· intro w' hS_; obtain ⟨⟨s0, s1, s2, s3, s4, s5, s6, s7, s8, s9⟩, ⟨s10, s11, s12, s13⟩⟩ := KP.out w' hS_.out; go_simp; with_reducible rfl); (· (try simp only [Act.put, List.setIfInBounds_toArray, List.set_cons_zero, List.set_cons_succ, i64_w, i32_w]); rfl)))
        refine Evt.ol_one (i := 23) [(24, none), (25, some 6)] HT_ rfl rfl (by kernel_rfl) (fun K_ hK_ => ?_)
        · refine Evt.k_alloc hK_ hHeld rfl rfl (cs := #[.slice none 0 0, .slice none 0 0, .slice none 0 0]) (t := 24) ?_ ?_
          · first | (go_simp; done) | (go_simp; rfl) | (go_simp; refine ⟨?_, ?_⟩ <;> rfl)
          intro gT23 w_ hg_ hB_ hb_ hH_
          have GE23 := Aside0.mk (show w1.heap.size ≤ gT23 from (by rw [hg_]; exact hHeld.out.size))
          clear hg_
          have n_F19 := Aside0.mk (F19.out.below hb_)
          clear F19
          have F19 := n_F19
          clear n_F19
          have F23 := Aside0.mk hB_
          clear hHeld hb_ hB_
          have hHeld := hH_
          clear hH_ hK_
          refine Evt.ol_norm (a' := ?_) ?_ ?_
          rotate_left
          · simp only [Act.put, List.setIfInBounds_toArray, List.set_cons_zero, List.set_cons_succ, i64_w, i32_w]; rfl
          exact Evt.ol_norm (by simp only [putAll, Act.put, List.setIfInBounds_toArray, List.set_cons_zero, List.set_cons_succ, i64_w, i32_w]; rfl) (JN (X0, x0, X1, x1, X2, x2, gT23) _ hHeld ⟨F19.out, F23.out, GE23.out⟩)
      · refine Evt.k_alloc hK_ hHeld rfl rfl (cs := #[.slice none 0 0, .slice none 0 0, .slice none 0 0]) (t := 24) ?_ ?_
        · first | (go_simp; done) | (go_simp; rfl) | (go_simp; refine ⟨?_, ?_⟩ <;> rfl)
        intro gT23 w_ hg_ hB_ hb_ hH_
        have GE23 := Aside0.mk (show w1.heap.size ≤ gT23 from (by rw [hg_]; exact hHeld.out.size))
        clear hg_
        have F23 := Aside0.mk hB_
        clear hHeld hb_ hB_
        have hHeld := hH_
        clear hH_ hK_
        refine Evt.ol_norm (a' := ?_) ?_ ?_
        rotate_left
        · simp only [Act.put, List.setIfInBounds_toArray, List.set_cons_zero, List.set_cons_succ, i64_w, i32_w]; rfl
        refine Evt.ol_one (i := 19) [(20, some 7), (21, some 28), (22, some 29), (24, none), (25, some 6)] HT_ rfl rfl (by kernel_rfl) (fun K_ hK_ => ?_)
        · refine Evt.k_call hK_ hHeld rfl Try.func20 (by kernel_rfl) rfl #[.agg #[.slice AQ q.length cQ, .slice AM m.length cM, .slice AE e.length cE], .agg #[.int .i64 a, .int .i64 b], .bool _] (by rfl) rfl (by (try simp only [List.map_toArray, List.map_cons, List.map_nil]); first | done | rfl | (simp only [List.length_drop, List.length_take]; rfl)) ?_
          (with_reducible refine (writeC a b _ (SB.out.below hHeld.out) HR.out).mono ?_)
          rintro e w_ ⟨X0, x0, X1, x1, X2, x2, rfl, ho_, hb_⟩
          have ho2_ := ho_.lower (show w.heap.size ≤ _ from (below_step HB.out hHeld.out).size); clear ho_
          refine ⟨_, rfl, hb_, fun hH_ => ?_⟩
          have F19 := Aside0.mk (ho2_)
          have n_F23 := Aside0.mk (F23.out.below hb_)
          clear F23
          have F23 := n_F23
          clear n_F23
          clear hHeld hb_
          have hHeld := hH_
          clear hH_ hK_
          refine Evt.ol_norm (a' := ?_) ?_ ?_
          rotate_left
          · simp only [Act.put, List.setIfInBounds_toArray, List.set_cons_zero, List.set_cons_succ, i64_w, i32_w]; rfl
          iterate 3 (first | (refine Evt.ol_off (a' := ?_) HT_ rfl rfl (by rfl) (by kernel_rfl) (fun _ _ _ h => h) ?_ ?_; rotate_left; (· (try simp only [Act.put, List.setIfInBounds_toArray, List.set_cons_zero, List.set_cons_succ, i64_w, i32_w]); rfl)) | (refine Evt.ol_pure (a' := ?_) (v := ?_) HT_ rfl rfl rfl (by rfl) (by kernel_rfl) (fun _ _ _ h => h) ?_ ?_ ?_; rotate_left 2; (· intro w'; go_simp; with_reducible rfl); (· (try simp only [Act.put, List.setIfInBounds_toArray, List.set_cons_zero, List.set_cons_succ, i64_w, i32_w]); rfl)) | (refine Evt.ol_load (a' := ?_) (v := ?_) HT_ HW_ hHeld rfl rfl rfl (by rfl) (by kernel_rfl) (fun _ _ _ h => h) ?_ ?_ ?_; rotate_left 2; (· intro w' hS_; obtain ⟨⟨s0, s1, s2, s3, s4, s5, s6, s7, s8, s9⟩, ⟨s10, s11, s12, s13⟩⟩ := KP.out w' hS_.out; go_simp; with_reducible rfl); (· (try simp only [Act.put, List.setIfInBounds_toArray, List.set_cons_zero, List.set_cons_succ, i64_w, i32_w]); rfl)))
          exact Evt.ol_norm (by simp only [putAll, Act.put, List.setIfInBounds_toArray, List.set_cons_zero, List.set_cons_succ, i64_w, i32_w]; rfl) (JN (X0, x0, X1, x1, X2, x2, gT23) _ hHeld ⟨F19.out, F23.out, GE23.out⟩)
    rintro ⟨X0, x0, X1, x1, X2, x2, gT23⟩ w_ hHeld ⟨f_F19, f_F23, f_GE23⟩
    have F19 := Aside0.mk f_F19
    have F23 := Aside0.mk f_F23
    have GE23 := Aside0.mk f_GE23
    clear f_F19 f_F23 f_GE23
    refine Evt.ol_norm (a' := ?_) ?_ ?_
    rotate_left
    · simp only [putAll, Act.put, List.setIfInBounds_toArray, List.set_cons_zero, List.set_cons_succ, i64_w, i32_w]; rfl
    refine Evt.ol_setrow (i := 24) [(25, some 6)] HT_ hHeld rfl rfl (by kernel_rfl) (by rfl) F23.out GE23.out 24 (.tmp 5) (.tmp 28) rfl rfl rfl (by kernel_rfl) rfl (by simp [Value.oneCell']) ?_
    intro wa B5_ hg_ hH_
    have O19 := Aside0.mk (Own3.chg F19.out hg_ F23.out)
    have GE5 := Aside0.mk (Nat.le_trans (show w.heap.size ≤ _ from HB.out.size) GE23.out)
    have B5 := Aside0.mk B5_
    have V1 := Aside0.mk (V.out.below hH_.out)
    have BKn := Aside0.mk (BK3.out.below hH_.out)
    have HBn := Aside0.mk (below_step HB.out hH_.out)
    have SBn := Aside0.mk (SB.out.below hH_.out)
    clear F19 F23 GE23 hHeld B5_ hg_ V SB BM BK3 HB KP
    have hHeld := hH_
    clear hH_
    (first | (refine Evt.ol_off (a' := ?_) HT_ rfl rfl (by rfl) (by kernel_rfl) (fun _ _ _ h => h) ?_ ?_; rotate_left; (· (try simp only [Act.put, List.setIfInBounds_toArray, List.set_cons_zero, List.set_cons_succ, i64_w, i32_w]); rfl)) | (refine Evt.ol_pure (a' := ?_) (v := ?_) HT_ rfl rfl rfl (by rfl) (by kernel_rfl) (fun _ _ _ h => h) ?_ ?_ ?_; rotate_left 2; (· intro w'; go_simp; with_reducible rfl); (· (try simp only [Act.put, List.setIfInBounds_toArray, List.set_cons_zero, List.set_cons_succ, i64_w, i32_w]); rfl)) | (refine Evt.ol_load (a' := ?_) (v := ?_) HT_ HW_ hHeld rfl rfl rfl (by rfl) (by kernel_rfl) (fun _ _ _ h => h) ?_ ?_ ?_; rotate_left 2; (· intro w' hS_; obtain ⟨⟨s0, s1, s2, s3, s4, s5, s6, s7, s8, s9⟩, ⟨s10, s11, s12, s13⟩⟩ := KP.out w' hS_.out; go_simp; with_reducible rfl); (· (try simp only [Act.put, List.setIfInBounds_toArray, List.set_cons_zero, List.set_cons_succ, i64_w, i32_w]); rfl)))
    refine Evt.ol_done HT_ (by kernel_rfl) ?_
    clear HT_ HW_ hHeld
    have NU5 := Aside0.mk (show ¬ U gT23 from fun h_ => by have h1_ := (V0.out.ub _ h_).2; have h2_ := GE5.out; omega)
    have HB := Aside0.mk (Below.refl wa.heap.size wa)
    have BM : Aside0 (Bk wa gm 98 #[.slice AC l.length cC, .slice AI li.length cI, .slice AQ q.length cQ, .slice AM m.length cM, .slice AE e.length cE, .int .i64 pc, .bool false, .pointer (some ⟨gt, 0, none⟩), .bool ended, .int .i64 fault]) := Aside0.mk (V1.out.bm)
    have BK3 : Aside0 (Bk wa g3 66 #[.int .i64 k, .int .i64 a, .int .i64 b, .int .i64 j]) := Aside0.mk (BKn.out)
    have BK5 : Aside0 (Bk wa gT23 24 #[.slice X0 r0.length x0, .slice X1 r1.length x1, .slice X2 r2.length x2]) := Aside0.mk (B5.out)
    clear HB BKn B5
    obtain ⟨zBM_0, zBM_1, zBM_2, zBM_3, zBM_4, zBM_5, zBM_6, zBM_7, zBM_8, zBM_9⟩ := BM.out.c10
    obtain ⟨zBK3_0, zBK3_1, zBK3_2, zBK3_3⟩ := BK3.out.c4
    obtain ⟨zBK5_0, zBK5_1, zBK5_2⟩ := BK5.out.c3
    have fBM_2 : wa.frozen? ⟨gm, 2, none⟩ = false := blk_frozen BM.out.blk 2
    have fBM_3 : wa.frozen? ⟨gm, 3, none⟩ = false := blk_frozen BM.out.blk 3
    have fBM_4 : wa.frozen? ⟨gm, 4, none⟩ = false := blk_frozen BM.out.blk 4
    go_wp2
    go_ret
    exact ⟨rfl, (Stp.here ⟨_, _, _, _, _, _, _, _, V1.out⟩).from HBn.out⟩
set_option maxHeartbeats 32000000 in
theorem coil_set (h : Vm w base U gm gt vC vI vQ vM vE vL mo l li ⟨q, m, e, pc, true, st, ended, fault⟩) {r0 r1 r2 : List Bool} (hc : ((k = 13) ∧ wrv q m e a b (true) = (r0, r1, r2, 0)) ∨ ((k = 14) ∧ wrv q m e a b (false) = (r0, r1, r2, 0))) : Calls Try.prog 66 #[.pointer (some ⟨gm, 0, none⟩), .agg #[.int .i64 k, .int .i64 a, .int .i64 b, .int .i64 j]] w fun x w' => x = .returned (.int .i64 0) ∧ Stp w base U gm l li ⟨r0, r1, r2, pc, true, st, ended, fault⟩ w' := by
  obtain ⟨AC, cC, AI, cI, AQ, cQ, AM, cM, AE, cE, rfl, rfl, rfl, rfl, rfl⟩ := h.forms
  have V0 := Aside0.mk h
  rcases hc with ⟨hk, hr⟩ | ⟨hk, hr⟩
  case' inl =>
    have HR := Aside0.mk hr
    have LN := Aside0.mk (show r0.length ≤ 20000 ∧ r1.length ≤ 20000 ∧ r2.length ≤ 20000 from by have h_ := wrv_len (a := a) (b := b) (v := true) h.fit.q h.fit.m h.fit.e; rw [hr] at h_; exact h_)
    obtain ⟨a11, b11, a13, b13, a14, b14⟩ : (k == 11) = false ∧ decide (k = 11) = false ∧ (k == 13) = true ∧ decide (k = 13) = true ∧ (k == 14) = false ∧ decide (k = 14) = false := by subst hk; simp
  case' inr =>
    have HR := Aside0.mk hr
    have LN := Aside0.mk (show r0.length ≤ 20000 ∧ r1.length ≤ 20000 ∧ r2.length ≤ 20000 from by have h_ := wrv_len (a := a) (b := b) (v := false) h.fit.q h.fit.m h.fit.e; rw [hr] at h_; exact h_)
    obtain ⟨a11, b11, a13, b13, a14, b14⟩ : (k == 11) = false ∧ decide (k = 11) = false ∧ (k == 13) = false ∧ decide (k = 13) = false ∧ (k == 14) = true ∧ decide (k = 14) = true := by subst hk; simp
  all_goals
    clear hr hk
    have HB := Aside0.mk (Below.refl w.heap.size w)
    have V := Aside0.mk (h)
    have SB := Aside0.mk (h.sb)
    have BM : Aside0 (Bk w gm 98 #[.slice AC l.length cC, .slice AI li.length cI, .slice AQ q.length cQ, .slice AM m.length cM, .slice AE e.length cE, .int .i64 pc, .bool true, .pointer (some ⟨gt, 0, none⟩), .bool ended, .int .i64 fault]) := Aside0.mk (h.bm)
    clear h
    obtain ⟨zBM_0, zBM_1, zBM_2, zBM_3, zBM_4, zBM_5, zBM_6, zBM_7, zBM_8, zBM_9⟩ := BM.out.c10
    go_enter Try.func66, Try.ntmps66
    go_wp2_with (((with_reducible refine gate_dst (N := 3) rfl ?_); refine box_event ?hg (N := 3) ?hd (cs := #[.int .i64 k, .int .i64 a, .int .i64 b, .int .i64 j]) (t := 66) ?hr ?_; (case hd => rfl); (case hg => rfl); (case hr => first | (go_simp; done) | (go_simp; rfl)); intro g3 hg w1 hbox hb; have hbx : Below w.heap.size w w1 := below_step (by repeat (first | (with_reducible first | exact Below.refl _ _ | apply below_alloc | apply pw_below_drewN | apply below_drew1) | exact Below.refl _ _)) hb; clear zBM_0 zBM_1 zBM_2 zBM_3 zBM_4 zBM_5 zBM_6 zBM_7 zBM_8 zBM_9; replace V := Aside0.mk (V.out.below hbx); replace SB := Aside0.mk (SB.out.below hbx); replace BM := Aside0.mk (BM.out.below hbx); replace HB := Aside0.mk (below_step HB.out hbx); clear hbx; have BK3 := Aside0.mk (Bk.mk (hbox : Blk w1 g3 66 #[.int .i64 k, .int .i64 a, .int .i64 b, .int .i64 j])); clear hbox hg hb; obtain ⟨zBM_0, zBM_1, zBM_2, zBM_3, zBM_4, zBM_5, zBM_6, zBM_7, zBM_8, zBM_9⟩ := BM.out.c10; obtain ⟨zBK3_0, zBK3_1, zBK3_2, zBK3_3⟩ := BK3.out.c4))
    have KP := Aside0.mk (fun w' (hb : Below w1.heap.size w1 w') => And.intro ((BM.out.below hb).c10) ((BK3.out.below hb).c4))
    clear zBM_0 zBM_1 zBM_2 zBM_3 zBM_4 zBM_5 zBM_6 zBM_7 zBM_8 zBM_9 zBK3_0 zBK3_1 zBK3_2 zBK3_3
    refine Evt.ol_start (ds := []) (w0 := w1) (T := (true, [([], []), ([0], [0]), ([1], [1]), ([2], [2]), ([], []), ([4], [4]), ([], []), ([6], [6]), ([7], [7]), ([8], [8]), ([9], [9]), ([10, 9], [9, 10]), ([11, 9], [9, 11]), ([9, 12], [9, 12]), ([], []), ([14], [14]), ([15], [15]), ([16], [16]), ([13, 17], [13, 17]), ([3, 5, 18, 9], [3, 5, 18]), ([19], [19]), ([20], [20]), ([20], [20]), ([], []), ([23, 21, 19, 0, 1, 2, 3, 4, 5, 6, 7, 8, 9, 10, 11, 12, 13, 14, 15, 16, 17, 18, 19, 20, 21, 23], [21, 23]), ([22, 24, 0, 1, 2, 3, 4, 5, 6, 7, 8, 9, 10, 11, 12, 13, 14, 15, 16, 17, 18, 19, 20, 21, 22, 23, 24], [22])])) (B := [0, 1, 3, 7, 0, 16, 0, 64, 192, 448, 960, 1984, 4032, 8128, 0, 16384, 49152, 114688, 262080, 524287, 1048575, 2097151, 2097151, 0, 12582911, 33554431]) 26 [(0, some 8), (1, some 9), (2, some 10), (3, some 11), (4, some 12), (5, some 13), (6, some 14), (7, some 15), (8, some 16), (9, some 17), (10, some 18), (11, some 19), (12, some 20), (13, some 21), (14, some 22), (15, some 23), (16, some 24), (17, some 25), (18, some 26), (19, some 27), (20, some 7), (21, some 28), (22, some 29), (23, some 5), (24, none), (25, some 6)] (by kernel_rfl) rfl (by kernel_rfl) (by kernel_rfl) (by kernel_rfl) (by repeat (first | (with_reducible first | exact Below.refl _ _ | apply below_alloc | apply pw_below_drewN | apply below_drew1) | exact Below.refl _ _)) ?_
    intro HT_ HW_ w_ hHeld
    iterate 19 (first | (refine Evt.ol_off (a' := ?_) HT_ rfl rfl (by rfl) (by kernel_rfl) (fun _ _ _ h => h) ?_ ?_; rotate_left; (· (try simp only [Act.put, List.setIfInBounds_toArray, List.set_cons_zero, List.set_cons_succ, i64_w, i32_w]); rfl)) | (refine Evt.ol_pure (a' := ?_) (v := ?_) HT_ rfl rfl rfl (by rfl) (by kernel_rfl) (fun _ _ _ h => h) ?_ ?_ ?_; rotate_left 2; (· intro w'; go_simp; with_reducible rfl); (· (try simp only [Act.put, List.setIfInBounds_toArray, List.set_cons_zero, List.set_cons_succ, i64_w, i32_w]); rfl)) | (refine Evt.ol_load (a' := ?_) (v := ?_) HT_ HW_ hHeld rfl rfl rfl (by rfl) (by kernel_rfl) (fun _ _ _ h => h) ?_ ?_ ?_; rotate_left 2; (· intro w' hS_; obtain ⟨⟨s0, s1, s2, s3, s4, s5, s6, s7, s8, s9⟩, ⟨s10, s11, s12, s13⟩⟩ := KP.out w' hS_.out; go_simp; with_reducible rfl); (· (try simp only [Act.put, List.setIfInBounds_toArray, List.set_cons_zero, List.set_cons_succ, i64_w, i32_w]); rfl)))
    refine Evt.ol_join (σ := (Option Addr) × (Nat) × (Option Addr) × (Nat) × (Option Addr) × (Nat) × (Nat)) 2 [(24, none), (25, some 6)] (fun s => match s with | (X0, x0, X1, x1, X2, x2, gT23) => [(27, .tuple #[.agg #[.slice X0 r0.length x0, .slice X1 r1.length x1, .slice X2 r2.length x2], .int .i64 0]), (7, .tuple #[.agg #[.slice X0 r0.length x0, .slice X1 r1.length x1, .slice X2 r2.length x2], .int .i64 0]), (28, .agg #[.slice X0 r0.length x0, .slice X1 r1.length x1, .slice X2 r2.length x2]), (29, .int .i64 0), (5, .pointer (some ⟨gT23, 0, none⟩))]) (fun s W_ => match s with | (X0, x0, X1, x1, X2, x2, gT23) => (Own3 W_ w.heap.size (.slice X0 r0.length x0) (.slice X1 r1.length x1) (.slice X2 r2.length x2) r0 r1 r2) ∧ (Bk W_ gT23 24 #[.slice none 0 0, .slice none 0 0, .slice none 0 0]) ∧ (w1.heap.size ≤ gT23)) ?_ ?_
    · intro JN
      refine Evt.ol_two (i := 19) (j := 23) [(20, some 7), (21, some 28), (22, some 29), (23, some 5), (24, none), (25, some 6)] [(19, some 27), (20, some 7), (21, some 28), (22, some 29), (24, none), (25, some 6)] HT_ rfl rfl rfl rfl (by kernel_rfl) (fun K_ hK_ => ?_) (fun K_ hK_ => ?_)
      · refine Evt.k_call hK_ hHeld rfl Try.func20 (by kernel_rfl) rfl #[.agg #[.slice AQ q.length cQ, .slice AM m.length cM, .slice AE e.length cE], .agg #[.int .i64 a, .int .i64 b], .bool _] (by rfl) rfl (by (try simp only [List.map_toArray, List.map_cons, List.map_nil]); first | done | rfl | (simp only [List.length_drop, List.length_take]; rfl)) ?_
        (with_reducible refine (writeC a b _ (SB.out.below hHeld.out) HR.out).mono ?_)
        rintro e w_ ⟨X0, x0, X1, x1, X2, x2, rfl, ho_, hb_⟩
        have ho2_ := ho_.lower (show w.heap.size ≤ _ from (below_step HB.out hHeld.out).size); clear ho_
        refine ⟨_, rfl, hb_, fun hH_ => ?_⟩
        have F19 := Aside0.mk (ho2_)
        clear hHeld hb_
        have hHeld := hH_
        clear hH_ hK_
        refine Evt.ol_norm (a' := ?_) ?_ ?_
        rotate_left
        · simp only [Act.put, List.setIfInBounds_toArray, List.set_cons_zero, List.set_cons_succ, i64_w, i32_w]; rfl
        iterate 3 (first | (refine Evt.ol_off (a' := ?_) HT_ rfl rfl (by rfl) (by kernel_rfl) (fun _ _ _ h => h) ?_ ?_; rotate_left; (· (try simp only [Act.put, List.setIfInBounds_toArray, List.set_cons_zero, List.set_cons_succ, i64_w, i32_w]); rfl)) | (refine Evt.ol_pure (a' := ?_) (v := ?_) HT_ rfl rfl rfl (by rfl) (by kernel_rfl) (fun _ _ _ h => h) ?_ ?_ ?_; rotate_left 2; (· intro w'; go_simp; with_reducible rfl); (· (try simp only [Act.put, List.setIfInBounds_toArray, List.set_cons_zero, List.set_cons_succ, i64_w, i32_w]); rfl)) | (refine Evt.ol_load (a' := ?_) (v := ?_) HT_ HW_ hHeld rfl rfl rfl (by rfl) (by kernel_rfl) (fun _ _ _ h => h) ?_ ?_ ?_; rotate_left 2; (· intro w' hS_; obtain ⟨⟨s0, s1, s2, s3, s4, s5, s6, s7, s8, s9⟩, ⟨s10, s11, s12, s13⟩⟩ := KP.out w' hS_.out; go_simp; with_reducible rfl); (· (try simp only [Act.put, List.setIfInBounds_toArray, List.set_cons_zero, List.set_cons_succ, i64_w, i32_w]); rfl)))
        refine Evt.ol_one (i := 23) [(24, none), (25, some 6)] HT_ rfl rfl (by kernel_rfl) (fun K_ hK_ => ?_)
        · refine Evt.k_alloc hK_ hHeld rfl rfl (cs := #[.slice none 0 0, .slice none 0 0, .slice none 0 0]) (t := 24) ?_ ?_
          · first | (go_simp; done) | (go_simp; rfl) | (go_simp; refine ⟨?_, ?_⟩ <;> rfl)
          intro gT23 w_ hg_ hB_ hb_ hH_
          have GE23 := Aside0.mk (show w1.heap.size ≤ gT23 from (by rw [hg_]; exact hHeld.out.size))
          clear hg_
          have n_F19 := Aside0.mk (F19.out.below hb_)
          clear F19
          have F19 := n_F19
          clear n_F19
          have F23 := Aside0.mk hB_
          clear hHeld hb_ hB_
          have hHeld := hH_
          clear hH_ hK_
          refine Evt.ol_norm (a' := ?_) ?_ ?_
          rotate_left
          · simp only [Act.put, List.setIfInBounds_toArray, List.set_cons_zero, List.set_cons_succ, i64_w, i32_w]; rfl
          exact Evt.ol_norm (by simp only [putAll, Act.put, List.setIfInBounds_toArray, List.set_cons_zero, List.set_cons_succ, i64_w, i32_w]; rfl) (JN (X0, x0, X1, x1, X2, x2, gT23) _ hHeld ⟨F19.out, F23.out, GE23.out⟩)
      · refine Evt.k_alloc hK_ hHeld rfl rfl (cs := #[.slice none 0 0, .slice none 0 0, .slice none 0 0]) (t := 24) ?_ ?_
        · first | (go_simp; done) | (go_simp; rfl) | (go_simp; refine ⟨?_, ?_⟩ <;> rfl)
        intro gT23 w_ hg_ hB_ hb_ hH_
        have GE23 := Aside0.mk (show w1.heap.size ≤ gT23 from (by rw [hg_]; exact hHeld.out.size))
        clear hg_
        have F23 := Aside0.mk hB_
        clear hHeld hb_ hB_
        have hHeld := hH_
        clear hH_ hK_
        refine Evt.ol_norm (a' := ?_) ?_ ?_
        rotate_left
        · simp only [Act.put, List.setIfInBounds_toArray, List.set_cons_zero, List.set_cons_succ, i64_w, i32_w]; rfl
        refine Evt.ol_one (i := 19) [(20, some 7), (21, some 28), (22, some 29), (24, none), (25, some 6)] HT_ rfl rfl (by kernel_rfl) (fun K_ hK_ => ?_)
        · refine Evt.k_call hK_ hHeld rfl Try.func20 (by kernel_rfl) rfl #[.agg #[.slice AQ q.length cQ, .slice AM m.length cM, .slice AE e.length cE], .agg #[.int .i64 a, .int .i64 b], .bool _] (by rfl) rfl (by (try simp only [List.map_toArray, List.map_cons, List.map_nil]); first | done | rfl | (simp only [List.length_drop, List.length_take]; rfl)) ?_
          (with_reducible refine (writeC a b _ (SB.out.below hHeld.out) HR.out).mono ?_)
          rintro e w_ ⟨X0, x0, X1, x1, X2, x2, rfl, ho_, hb_⟩
          have ho2_ := ho_.lower (show w.heap.size ≤ _ from (below_step HB.out hHeld.out).size); clear ho_
          refine ⟨_, rfl, hb_, fun hH_ => ?_⟩
          have F19 := Aside0.mk (ho2_)
          have n_F23 := Aside0.mk (F23.out.below hb_)
          clear F23
          have F23 := n_F23
          clear n_F23
          clear hHeld hb_
          have hHeld := hH_
          clear hH_ hK_
          refine Evt.ol_norm (a' := ?_) ?_ ?_
          rotate_left
          · simp only [Act.put, List.setIfInBounds_toArray, List.set_cons_zero, List.set_cons_succ, i64_w, i32_w]; rfl
          iterate 3 (first | (refine Evt.ol_off (a' := ?_) HT_ rfl rfl (by rfl) (by kernel_rfl) (fun _ _ _ h => h) ?_ ?_; rotate_left; (· (try simp only [Act.put, List.setIfInBounds_toArray, List.set_cons_zero, List.set_cons_succ, i64_w, i32_w]); rfl)) | (refine Evt.ol_pure (a' := ?_) (v := ?_) HT_ rfl rfl rfl (by rfl) (by kernel_rfl) (fun _ _ _ h => h) ?_ ?_ ?_; rotate_left 2; (· intro w'; go_simp; with_reducible rfl); (· (try simp only [Act.put, List.setIfInBounds_toArray, List.set_cons_zero, List.set_cons_succ, i64_w, i32_w]); rfl)) | (refine Evt.ol_load (a' := ?_) (v := ?_) HT_ HW_ hHeld rfl rfl rfl (by rfl) (by kernel_rfl) (fun _ _ _ h => h) ?_ ?_ ?_; rotate_left 2; (· intro w' hS_; obtain ⟨⟨s0, s1, s2, s3, s4, s5, s6, s7, s8, s9⟩, ⟨s10, s11, s12, s13⟩⟩ := KP.out w' hS_.out; go_simp; with_reducible rfl); (· (try simp only [Act.put, List.setIfInBounds_toArray, List.set_cons_zero, List.set_cons_succ, i64_w, i32_w]); rfl)))
          exact Evt.ol_norm (by simp only [putAll, Act.put, List.setIfInBounds_toArray, List.set_cons_zero, List.set_cons_succ, i64_w, i32_w]; rfl) (JN (X0, x0, X1, x1, X2, x2, gT23) _ hHeld ⟨F19.out, F23.out, GE23.out⟩)
    rintro ⟨X0, x0, X1, x1, X2, x2, gT23⟩ w_ hHeld ⟨f_F19, f_F23, f_GE23⟩
    have F19 := Aside0.mk f_F19
    have F23 := Aside0.mk f_F23
    have GE23 := Aside0.mk f_GE23
    clear f_F19 f_F23 f_GE23
    refine Evt.ol_norm (a' := ?_) ?_ ?_
    rotate_left
    · simp only [putAll, Act.put, List.setIfInBounds_toArray, List.set_cons_zero, List.set_cons_succ, i64_w, i32_w]; rfl
    refine Evt.ol_setrow (i := 24) [(25, some 6)] HT_ hHeld rfl rfl (by kernel_rfl) (by rfl) F23.out GE23.out 24 (.tmp 5) (.tmp 28) rfl rfl rfl (by kernel_rfl) rfl (by simp [Value.oneCell']) ?_
    intro wa B5_ hg_ hH_
    have O19 := Aside0.mk (Own3.chg F19.out hg_ F23.out)
    have GE5 := Aside0.mk (Nat.le_trans (show w.heap.size ≤ _ from HB.out.size) GE23.out)
    have B5 := Aside0.mk B5_
    have V1 := Aside0.mk (V.out.below hH_.out)
    have BKn := Aside0.mk (BK3.out.below hH_.out)
    have HBn := Aside0.mk (below_step HB.out hH_.out)
    have SBn := Aside0.mk (SB.out.below hH_.out)
    clear F19 F23 GE23 hHeld B5_ hg_ V SB BM BK3 HB KP
    have hHeld := hH_
    clear hH_
    (first | (refine Evt.ol_off (a' := ?_) HT_ rfl rfl (by rfl) (by kernel_rfl) (fun _ _ _ h => h) ?_ ?_; rotate_left; (· (try simp only [Act.put, List.setIfInBounds_toArray, List.set_cons_zero, List.set_cons_succ, i64_w, i32_w]); rfl)) | (refine Evt.ol_pure (a' := ?_) (v := ?_) HT_ rfl rfl rfl (by rfl) (by kernel_rfl) (fun _ _ _ h => h) ?_ ?_ ?_; rotate_left 2; (· intro w'; go_simp; with_reducible rfl); (· (try simp only [Act.put, List.setIfInBounds_toArray, List.set_cons_zero, List.set_cons_succ, i64_w, i32_w]); rfl)) | (refine Evt.ol_load (a' := ?_) (v := ?_) HT_ HW_ hHeld rfl rfl rfl (by rfl) (by kernel_rfl) (fun _ _ _ h => h) ?_ ?_ ?_; rotate_left 2; (· intro w' hS_; obtain ⟨⟨s0, s1, s2, s3, s4, s5, s6, s7, s8, s9⟩, ⟨s10, s11, s12, s13⟩⟩ := KP.out w' hS_.out; go_simp; with_reducible rfl); (· (try simp only [Act.put, List.setIfInBounds_toArray, List.set_cons_zero, List.set_cons_succ, i64_w, i32_w]); rfl)))
    refine Evt.ol_done HT_ (by kernel_rfl) ?_
    clear HT_ HW_ hHeld
    have NU5 := Aside0.mk (show ¬ U gT23 from fun h_ => by have h1_ := (V0.out.ub _ h_).2; have h2_ := GE5.out; omega)
    have HB := Aside0.mk (Below.refl wa.heap.size wa)
    have BM : Aside0 (Bk wa gm 98 #[.slice AC l.length cC, .slice AI li.length cI, .slice AQ q.length cQ, .slice AM m.length cM, .slice AE e.length cE, .int .i64 pc, .bool true, .pointer (some ⟨gt, 0, none⟩), .bool ended, .int .i64 fault]) := Aside0.mk (V1.out.bm)
    have BK3 : Aside0 (Bk wa g3 66 #[.int .i64 k, .int .i64 a, .int .i64 b, .int .i64 j]) := Aside0.mk (BKn.out)
    have BK5 : Aside0 (Bk wa gT23 24 #[.slice X0 r0.length x0, .slice X1 r1.length x1, .slice X2 r2.length x2]) := Aside0.mk (B5.out)
    clear HB BKn B5
    obtain ⟨zBM_0, zBM_1, zBM_2, zBM_3, zBM_4, zBM_5, zBM_6, zBM_7, zBM_8, zBM_9⟩ := BM.out.c10
    obtain ⟨zBK3_0, zBK3_1, zBK3_2, zBK3_3⟩ := BK3.out.c4
    obtain ⟨zBK5_0, zBK5_1, zBK5_2⟩ := BK5.out.c3
    have fBM_2 : wa.frozen? ⟨gm, 2, none⟩ = false := blk_frozen BM.out.blk 2
    have fBM_3 : wa.frozen? ⟨gm, 3, none⟩ = false := blk_frozen BM.out.blk 3
    have fBM_4 : wa.frozen? ⟨gm, 4, none⟩ = false := blk_frozen BM.out.blk 4
    go_wp2
    have V := Aside0.mk (V1.out)
    have SB := Aside0.mk (SBn.out)
    have HB := HBn
    have KP := Aside0.mk (fun w' (hb : Below wa.heap.size wa w') => And.intro ((BM.out.below hb).c10) ((BK3.out.below hb).c4))
    clear zBM_0 zBM_1 zBM_2 zBM_3 zBM_4 zBM_5 zBM_6 zBM_7 zBM_8 zBM_9 zBK3_0 zBK3_1 zBK3_2 zBK3_3 zBK5_0 zBK5_1 zBK5_2 fBM_2 fBM_3 fBM_4
    refine Evt.ol_start (ds := [13]) (w0 := wa) (T := (true, [([], []), ([0], [0]), ([1], [1]), ([2], [2]), ([], []), ([4], [4]), ([], []), ([6], [6]), ([7], [7]), ([3, 5, 8], [3, 5, 8]), ([9], [9]), ([10], [10]), ([10], [10]), ([11, 9, 0, 1, 2, 3, 4, 5, 6, 7, 8, 9, 10, 11], [11])])) (B := [0, 1, 3, 7, 0, 16, 0, 64, 192, 511, 1023, 2047, 2047, 4095]) 14 [(0, some 47), (1, some 48), (2, some 49), (3, some 50), (4, some 51), (5, some 52), (6, some 53), (7, some 54), (8, some 55), (9, some 56), (10, some 46), (11, some 57), (12, some 58), (13, none)] (by kernel_rfl) rfl (by kernel_rfl) (by kernel_rfl) (by kernel_rfl) (by repeat (first | (with_reducible first | exact Below.refl _ _ | apply below_alloc | apply pw_below_drewN | apply below_drew1) | exact Below.refl _ _)) ?_
    intro HT_ HW_ w_ hHeld
    iterate 9 (first | (refine Evt.ol_off (a' := ?_) HT_ rfl rfl (by rfl) (by kernel_rfl) (fun _ _ _ h => h) ?_ ?_; rotate_left; (· (try simp only [Act.put, List.setIfInBounds_toArray, List.set_cons_zero, List.set_cons_succ, i64_w, i32_w]); rfl)) | (refine Evt.ol_pure (a' := ?_) (v := ?_) HT_ rfl rfl rfl (by rfl) (by kernel_rfl) (fun _ _ _ h => h) ?_ ?_ ?_; rotate_left 2; (· intro w'; go_simp; with_reducible rfl); (· (try simp only [Act.put, List.setIfInBounds_toArray, List.set_cons_zero, List.set_cons_succ, i64_w, i32_w]); rfl)) | (refine Evt.ol_load (a' := ?_) (v := ?_) HT_ HW_ hHeld rfl rfl rfl (by rfl) (by kernel_rfl) (fun _ _ _ h => h) ?_ ?_ ?_; rotate_left 2; (· intro w' hS_; obtain ⟨⟨s0, s1, s2, s3, s4, s5, s6, s7, s8, s9⟩, ⟨s10, s11, s12, s13⟩⟩ := KP.out w' hS_.out; go_simp; with_reducible rfl); (· (try simp only [Act.put, List.setIfInBounds_toArray, List.set_cons_zero, List.set_cons_succ, i64_w, i32_w]); rfl)))
    refine Evt.ol_callg HT_ hHeld rfl rfl (by simp) rfl Try.func20 (by kernel_rfl) rfl #[.agg #[.slice AQ q.length cQ, .slice AM m.length cM, .slice AE e.length cE], .agg #[.int .i64 a, .int .i64 b], .bool _] (by kernel_rfl) (by rfl) (by (try simp only [List.map_toArray, List.map_cons, List.map_nil]); first | done | rfl | (simp only [List.length_drop, List.length_take]; rfl)) ?_
    (with_reducible refine (writeC a b _ (SB.out.below hHeld.out) HR.out).mono ?_)
    rintro e_ w_ ⟨Y0, y0, Y1, y1, Y2, y2, rfl, ho_, hb_⟩
    have ho2_ := Aside0.mk ((ho_.lower (show w.heap.size ≤ _ from (below_step HB.out hHeld.out).size))); clear ho_
    refine ⟨_, rfl, hb_, fun hHeld_ => ?_⟩
    clear hHeld hb_
    have hHeld := hHeld_
    clear hHeld_
    refine Evt.ol_norm (a' := ?_) ?_ ?_
    rotate_left
    · simp only [Act.put, List.setIfInBounds_toArray, List.set_cons_zero, List.set_cons_succ, i64_w, i32_w]; rfl
    iterate 3 (first | (refine Evt.ol_off (a' := ?_) HT_ rfl rfl (by rfl) (by kernel_rfl) (fun _ _ _ h => h) ?_ ?_; rotate_left; (· (try simp only [Act.put, List.setIfInBounds_toArray, List.set_cons_zero, List.set_cons_succ, i64_w, i32_w]); rfl)) | (refine Evt.ol_pure (a' := ?_) (v := ?_) HT_ rfl rfl rfl (by rfl) (by kernel_rfl) (fun _ _ _ h => h) ?_ ?_ ?_; rotate_left 2; (· intro w'; go_simp; with_reducible rfl); (· (try simp only [Act.put, List.setIfInBounds_toArray, List.set_cons_zero, List.set_cons_succ, i64_w, i32_w]); rfl)) | (refine Evt.ol_load (a' := ?_) (v := ?_) HT_ HW_ hHeld rfl rfl rfl (by rfl) (by kernel_rfl) (fun _ _ _ h => h) ?_ ?_ ?_; rotate_left 2; (· intro w' hS_; obtain ⟨⟨s0, s1, s2, s3, s4, s5, s6, s7, s8, s9⟩, ⟨s10, s11, s12, s13⟩⟩ := KP.out w' hS_.out; go_simp; with_reducible rfl); (· (try simp only [Act.put, List.setIfInBounds_toArray, List.set_cons_zero, List.set_cons_succ, i64_w, i32_w]); rfl)))
    have B5 := Aside0.mk (BK5.out.below hHeld.out)
    refine Evt.ol_ranrow HT_ rfl rfl (by simp) (by kernel_rfl) (by rfl) B5.out 24 (.tmp 5) (.tmp 57) rfl rfl rfl (by kernel_rfl) rfl (by simp [Value.oneCell']) ?_
    intro wb B5n_ hg_
    have O9 := Aside0.mk (Own3.chg ho2_.out hg_ B5.out)
    have VB := Aside0.mk (((V.out.below hHeld.out)).keep hg_ B5.out NU5.out)
    have HBb := Aside0.mk ((below_step HB.out hHeld.out).grown hg_ (below_step HB.out hHeld.out).size (fun k hk => by cases hk; exact GE5.out))
    have B5b := Aside0.mk B5n_
    clear ho2_ hg_ B5n_ B5 hHeld V SB BM BK3 BK5 HB KP
    refine Evt.ol_done HT_ (by kernel_rfl) ?_
    clear HT_ HW_
    have HB := Aside0.mk (Below.refl wb.heap.size wb)
    have BM : Aside0 (Bk wb gm 98 #[.slice AC l.length cC, .slice AI li.length cI, .slice AQ q.length cQ, .slice AM m.length cM, .slice AE e.length cE, .int .i64 pc, .bool true, .pointer (some ⟨gt, 0, none⟩), .bool ended, .int .i64 fault]) := Aside0.mk (VB.out.bm)
    have BK5 : Aside0 (Bk wb gT23 24 #[.slice Y0 r0.length y0, .slice Y1 r1.length y1, .slice Y2 r2.length y2]) := Aside0.mk (B5b.out)
    clear HB B5b
    obtain ⟨zBM_0, zBM_1, zBM_2, zBM_3, zBM_4, zBM_5, zBM_6, zBM_7, zBM_8, zBM_9⟩ := BM.out.c10
    obtain ⟨zBK5_0, zBK5_1, zBK5_2⟩ := BK5.out.c3
    have fBM_2 : wb.frozen? ⟨gm, 2, none⟩ = false := blk_frozen BM.out.blk 2
    have fBM_3 : wb.frozen? ⟨gm, 3, none⟩ = false := blk_frozen BM.out.blk 3
    have fBM_4 : wb.frozen? ⟨gm, 4, none⟩ = false := blk_frozen BM.out.blk 4
    go_wp2
    go_ret
    exact ⟨rfl, Vm.stpS V0.out HBb.out O9.out LN.out.1 LN.out.2.1 LN.out.2.2⟩
end
end
end Go.Proofs.Ytjohdkbciafpfaa.Vm6
