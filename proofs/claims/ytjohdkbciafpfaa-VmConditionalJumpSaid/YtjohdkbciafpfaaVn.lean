/- Chapter 06: New, walked. -/
import Derived.Test.YtjohdkbciafpfaaVi4
import Derived.Test.YtjohdkbciafpfaaImpl1
namespace Go.Proofs.Ytjohdkbciafpfaa.Vm6
open Go.RowKit Go.Proofs.YtjohdkbciafpfaaW.PrintWords Go.Proofs.YtjohdkbciafpfaaW.PrintMore Go.Proofs.YtjohdkbciafpfaaW.PrintLast Go.Proofs.Ytjohdkbciafpfaa.Chg Go.Proofs.Ytjohdkbciafpfaa.Evt Go.Proofs.Ytjohdkbciafpfaa.Impl
set_option linter.unusedVariables false
set_option linter.unusedSimpArgs false
set_option maxRecDepth 100000
theorem info66 : (Try.prog.info? 66).map (fun i => (i.zero, i.size, i.bytes)) = some (some (.agg #[.int .i64 0, .int .i64 0, .int .i64 0, .int .i64 0]), 4, 32) := by kernel_rfl
theorem k66_KM {w : World} {base : Nat} {ok : Nat → Prop} {x : S66} {cs : List Value} (h : k66.K w x cs) : k66.M w base ok x cs := by
  rw [k66_open h]
  exact k66_mkM w base ok x
section
variable {ops : Array Oper} {rest : List Oper} {o : Oper} {a : Act} {Q : Exit → Act → World → Prop} {w0 W : World}
/-- An empty row of instructions is made. -/
theorem row0_66 (hgd : o.guard = none) {N : Tmp} (_hd : o.dst = some N) (HB : Below w0.heap.size w0 W) (hrun : (execOp a.eval o).run Try.prog W = .ok (.value (.slice (some ⟨W.heap.size, 0, none⟩) 0 0)) (W.alloc (.cells #[] 66 (0, 0))))
    (h : ∀ (v : Value) (w1 : World), Kd.R k66 66 w1 w0.heap.size (fun _ => True) v [] → Below w0.heap.size w0 w1 → wpList Try.prog ops Q rest (a.put o.dst v) w1) : wpList Try.prog ops Q (o :: rest) a W := by
  refine Kd.event_run hgd hrun (h _ _ ?_ (below_step HB (below_alloc (Below.refl _ _) _)))
  refine ⟨fun k hk => trivial, [], ?_, by simp, fun j p hj => by simp at hj⟩
  exact World.ownsRow_lit (base := w0.heap.size) (e := 66) (size := k66.sz) W #[] 0 HB.size (by simp) (by simp)
end
theorem clone66 (w : World) (A : Option Addr) (c : Nat) (xs : List S66) (hC : Kd.C k66 w A xs.length xs) (hlen : xs.length ≤ 20000) :
    Calls Try.prog 55 #[.slice A xs.length c] w fun e w' => ∃ v, e = .returned v ∧ Kd.R k66 66 w' w.heap.size (fun _ => True) v xs ∧ Below w.heap.size w w' := by
  have qT : ∀ (w : World) (a : Option Addr) (n c n' c' : Nat), (binOp .eql 57 (.slice a n c) (.slice none n' c')).run Try.prog w = .ok (.bool a.isNone) w := fun w a n c n' c' => Lib.run_eql_slice_nil w _ _ a n c n' c' Try.underlying57
  have HC := Aside0.mk hC
  cases A with
  | none =>
    have h0 : xs = [] := by
      rcases Nat.eq_zero_or_pos xs.length with h | h
      · exact List.eq_nil_of_length_eq_zero h
      · obtain ⟨ad, e, _⟩ := hC.2.2 h; cases e
    subst h0
    clear hC hlen HC
    go_enter Try.func55, Try.ntmps55
    go_wp2
    go_ret
    exact ⟨_, rfl, Kd.R_nil _ _ _ _ _, Below.refl _ _⟩
  | some a =>
    clear hC
    go_enter Try.func55, Try.ntmps55
    go_wp2_with (first | ((with_reducible refine gate_dst (N := 5) rfl ?_); refine Vm6.row0_66 (w0 := w) ?hg (N := 5) ?hd (Below.refl _ _) ?hr ?_; (case hd => rfl); (case hg => rfl); (case hr => first | (go_simp; done) | (go_simp; rfl)); intro v1 w1 ho hb; have HO := Aside0.mk ho; have HB := Aside0.mk hb; clear ho hb) | ((with_reducible refine gate_builtin (b := .append) (xs := #[.tmp 5, .tmp 6]) rfl ?_); at_builtin; refine Kd.R_append_rows k66 (Rr := k66.K w1) (w0 := w) w.heap.size rfl (.tmp 5) (.tmp 6) 57 66 _ 32 rfl Try.underlying57 info66 rfl (by decide) (by decide) v1 [] xs _ _ _ (fun _ => True) (fun _ => False) rfl rfl HO.out (Kd.C_below HC.out HB.out) (fun _ _ hk => k66_KM hk) (fun _ hk => hk.elim) (fun _ _ => trivial) HB.out HB.out.size (by simp; omega) ?_; intro v2 w2 ho hb hg hat; have HO2 := Aside0.mk ho; have HB2 := Aside0.mk hb; clear ho hb hg hat))
    go_ret
    exact ⟨_, rfl, HO2.out, HB2.out⟩
theorem cloneB (w : World) {A : Option Addr} {c : Nat} {xs : List Bool} (h : Rw Kd.bool w A c xs) (hlen : xs.length ≤ 20000) :
    Calls Try.prog 47 #[.slice A xs.length c] w fun e w' => ∃ v, e = .returned v ∧ Kd.R Kd.bool 4 w' w.heap.size (fun _ => True) v xs ∧ Below w.heap.size w w' :=
  slices_Clone_bool_bool.calls A c xs xs w h.row h.cap (by unfold slices_Clone_bool_bool.f; rw [if_pos (by omega)])
theorem stkNew (w : World) (B : Nat) (hB : B ≤ w.heap.size) : Calls Try.prog 54 #[.int .i64 64] w fun e w' => ∃ gt, e = .returned (.tuple #[.pointer (some ⟨gt, 0, none⟩), .int .i64 0]) ∧ StkBool.St w' B gt (.slice none 0 0) [] 64 0 ∧ Below w.heap.size w w' ∧ w.heap.size ≤ gt :=
  (StkBool.new w 64 (by decide) (by decide) B hB).mono fun e w' ⟨he, hs, hb, _⟩ => ⟨_, he, hs, hb, Nat.le_refl _⟩
section
variable {AC AI AQ AM AE : Option Addr} {cC cI cQ cM cE : Nat} {l : List S66} {li q m e : List Bool}
set_option maxHeartbeats 8000000 in
theorem new_any (w : World) {B : Nat} (hB : B ≤ w.heap.size) (hC : Kd.C k66 w AC l.length l) (hI : Rw Kd.bool w AI cI li) (hS : Sb w AQ cQ AM cM AE cE q m e) (hl : l.length ≤ 20000) (hi : li.length ≤ 20000) :
    Calls Try.prog 36 #[.slice AC l.length cC, .slice AI li.length cI, .agg #[.slice AQ q.length cQ, .slice AM m.length cM, .slice AE e.length cE]] w fun x w' => ∃ gm, x = .returned (.pointer (some ⟨gm, 0, none⟩)) ∧ VmP w' B (fun k => w.heap.size ≤ k ∧ k < w'.heap.size) gm l li (ini q m e) ∧ Below w.heap.size w w' := by
  have HI := Aside0.mk hI
  have HC := Aside0.mk hC
  have HS := Aside0.mk hS
  have HB := Aside0.mk (Below.refl w.heap.size w)
  have SB := Aside0.mk (hS)
  have RI := Aside0.mk (hI)
  clear hC hI hS
  go_enter Try.func36, Try.ntmps36
  go_wp2_with (first | ((with_reducible refine gate_dst (N := 5) rfl ?_); refine box_event ?hg (N := 5) ?hd (cs := #[.slice AQ q.length cQ, .slice AM m.length cM, .slice AE e.length cE]) (t := 24) ?hr ?_; (case hd => rfl); (case hg => rfl); (case hr => first | (go_simp; done) | (go_simp; rfl)); intro g5 hg w1 hbox hb; have hbx : Below w.heap.size w w1 := below_step (by repeat (first | (with_reducible first | exact Below.refl _ _ | apply below_alloc | apply pw_below_drewN | apply below_drew1) | exact Below.refl _ _)) hb; replace SB := Aside0.mk (SB.out.below hbx); replace RI := Aside0.mk (RI.out.below hbx); replace HB := Aside0.mk (below_step HB.out hbx); clear hbx; have BK5 := Aside0.mk (Bk.mk (hbox : Blk w1 g5 24 #[.slice AQ q.length cQ, .slice AM m.length cM, .slice AE e.length cE])); clear hbox hg hb; obtain ⟨zBK5_0, zBK5_1, zBK5_2⟩ := BK5.out.c3) | ((with_reducible refine gate_callee (f := 54) rfl ?_); refine goesL_ (some 10) rfl rfl Try.func54 (by kernel_rfl) rfl #[.int .i64 64] rfl (by (try simp only [List.map_toArray, List.map_cons, List.map_nil]); first | done | rfl | (simp only [List.length_drop, List.length_take]; rfl)) ?_; (with_reducible refine (stkNew _ B (Nat.le_trans hB (below_step HB.out (by repeat (first | (with_reducible first | exact Below.refl _ _ | apply below_alloc | apply pw_below_drewN | apply below_drew1) | exact Below.refl _ _))).size)).mono ?_); rintro e w2 ⟨gt, rfl, hs_, hb, hg_⟩; have hbx : Below w1.heap.size w1 w2 := below_step (by repeat (first | (with_reducible first | exact Below.refl _ _ | apply below_alloc | apply pw_below_drewN | apply below_drew1) | exact Below.refl _ _)) hb; have GT := Aside0.mk (Nat.le_trans (below_step HB.out (by repeat (first | (with_reducible first | exact Below.refl _ _ | apply below_alloc | apply pw_below_drewN | apply below_drew1) | exact Below.refl _ _))).size hg_); clear hg_; clear zBK5_0 zBK5_1 zBK5_2; replace SB := Aside0.mk (SB.out.below hbx); replace RI := Aside0.mk (RI.out.below hbx); replace BK5 := Aside0.mk (BK5.out.below hbx); replace HB := Aside0.mk (below_step HB.out hbx); clear hbx; have ST := Aside0.mk (hs_); clear hb; clear hs_; obtain ⟨zBK5_0, zBK5_1, zBK5_2⟩ := BK5.out.c3; refine ⟨_, rfl, ?_⟩))
  have KP := Aside0.mk (fun w' (hb : Below w2.heap.size w2 w') => (BK5.out.below hb).c3)
  clear zBK5_0 zBK5_1 zBK5_2
  refine Evt.ol_start (ds := []) (w0 := w2) (T := (true, [([], []), ([0], [0]), ([], []), ([2, 1], [2]), ([], []), ([4, 3], [4]), ([], []), ([1, 3, 5, 6], [1, 3, 5, 6]), ([7], [7]), ([8, 5, 0, 1, 2, 3, 4, 5, 6, 7, 8], [8])])) (B := [0, 1, 0, 7, 0, 31, 0, 127, 255, 511]) 10 [(0, some 13), (2, some 15), (4, some 17), (6, some 19), (1, some 14), (3, some 16), (5, some 18), (7, some 20), (8, some 21), (9, some 6)] (by kernel_rfl) rfl (by kernel_rfl) (by kernel_rfl) (by kernel_rfl) (by repeat (first | (with_reducible first | exact Below.refl _ _ | apply below_alloc | apply pw_below_drewN | apply below_drew1) | exact Below.refl _ _)) ?_
  intro HT_ HW_ w_ hHeld
  iterate 4 (first | (refine Evt.ol_off (a' := ?_) HT_ rfl rfl (by rfl) (by kernel_rfl) (fun _ _ _ h => h) ?_ ?_; rotate_left; (· (try simp only [Act.put, List.setIfInBounds_toArray, List.set_cons_zero, List.set_cons_succ, i64_w, i32_w]); rfl)) | (refine Evt.ol_pure (a' := ?_) (v := ?_) HT_ rfl rfl rfl (by rfl) (by kernel_rfl) (fun _ _ _ h => h) ?_ ?_ ?_; rotate_left 2; (· intro w'; go_simp; with_reducible rfl); (· (try simp only [Act.put, List.setIfInBounds_toArray, List.set_cons_zero, List.set_cons_succ, i64_w, i32_w]); rfl)) | (refine Evt.ol_load (a' := ?_) (v := ?_) HT_ HW_ hHeld rfl rfl rfl (by rfl) (by kernel_rfl) (fun _ _ _ h => h) ?_ ?_ ?_; rotate_left 2; (· intro w' hS_; obtain ⟨s0, s1, s2⟩ := KP.out w' hS_.out; go_simp; with_reducible rfl); (· (try simp only [Act.put, List.setIfInBounds_toArray, List.set_cons_zero, List.set_cons_succ, i64_w, i32_w]); rfl)))
  have STr := Aside0.mk (ST.out.below hHeld.out)
  refine Evt.ol_callg HT_ hHeld rfl rfl (by simp) rfl Try.func55 (by kernel_rfl) rfl #[.slice AC l.length cC] (by kernel_rfl) (by rfl) (by (try simp only [List.map_toArray, List.map_cons, List.map_nil]); first | done | rfl | (simp only [List.length_drop, List.length_take]; rfl)) ?_
  (with_reducible refine (clone66 _ AC cC l (Kd.C_below HC.out (below_step HB.out hHeld.out)) hl).mono ?_)
  rintro e_ w_ ⟨vC, rfl, hr_, hb_⟩
  obtain ⟨AC1, nC1, cC1, rfl⟩ : ∃ A n c, vC = .slice A n c := (let ⟨A, c, h⟩ := Kd.R_slice hr_; ⟨A, _, c, h⟩); have RC0 := Aside0.mk (Kd.R_lower hr_ (show w.heap.size ≤ _ from (below_step HB.out hHeld.out).size)); have ST1 := Aside0.mk (STr.out.below hb_); clear hr_ STr
  refine ⟨_, rfl, hb_, fun hHeld_ => ?_⟩
  clear hHeld hb_
  have hHeld := hHeld_
  clear hHeld_
  refine Evt.ol_norm (a' := ?_) ?_ ?_
  rotate_left
  · simp only [Act.put, List.setIfInBounds_toArray, List.set_cons_zero, List.set_cons_succ, i64_w, i32_w]; rfl
  refine Evt.ol_callg HT_ hHeld rfl rfl (by simp) rfl Try.func47 (by kernel_rfl) rfl #[.slice AI li.length cI] (by kernel_rfl) (by rfl) (by (try simp only [List.map_toArray, List.map_cons, List.map_nil]); first | done | rfl | (simp only [List.length_drop, List.length_take]; rfl)) ?_
  (with_reducible refine (cloneB _ (RI.out.below hHeld.out) hi).mono ?_)
  rintro e_ w_ ⟨vI, rfl, hr_, hb_⟩
  obtain ⟨AI1, nI1, cI1, rfl⟩ : ∃ A n c, vI = .slice A n c := (let ⟨A, c, h⟩ := Kd.R_slice hr_; ⟨A, _, c, h⟩); have RI0 := Aside0.mk (Kd.R_lower hr_ (show w.heap.size ≤ _ from (below_step HB.out hHeld.out).size)); have ST2 := Aside0.mk (ST1.out.below hb_); have RC1 := Aside0.mk (Kd.R_below RC0.out hb_); clear hr_ ST1 RC0
  refine ⟨_, rfl, hb_, fun hHeld_ => ?_⟩
  clear hHeld hb_
  have hHeld := hHeld_
  clear hHeld_
  refine Evt.ol_norm (a' := ?_) ?_ ?_
  rotate_left
  · simp only [Act.put, List.setIfInBounds_toArray, List.set_cons_zero, List.set_cons_succ, i64_w, i32_w]; rfl
  refine Evt.ol_callg HT_ hHeld rfl rfl (by simp) rfl Try.func24 (by kernel_rfl) rfl #[.agg #[.slice AQ q.length cQ, .slice AM m.length cM, .slice AE e.length cE]] (by kernel_rfl) (by rfl) (by (try simp only [List.map_toArray, List.map_cons, List.map_nil]); first | done | rfl | (simp only [List.length_drop, List.length_take]; rfl)) ?_
  (with_reducible refine (cloneC (SB.out.below hHeld.out)).mono ?_)
  rintro e_ w_ ⟨X0, x0, X1, x1, X2, x2, rfl, ho_, hb_⟩
  have O3 := Aside0.mk (ho_.lower (show w.heap.size ≤ _ from (below_step HB.out hHeld.out).size)); have APE := Aside0.mk (show ∀ k, (Value.slice X2 e.length x2).ownBlock = some k → (Value.slice AI1 nI1 cI1).ownBlock ≠ some k from fun k hk e_ => by have h1_ := Kd.R_lt RI0.out k e_; have h2_ := Kd.R_base ho_.q2 k hk; omega); have ST3 := Aside0.mk (ST2.out.below hb_); have RC2 := Aside0.mk (Kd.R_below RC1.out hb_); have RI1 := Aside0.mk (Kd.R_below RI0.out hb_); clear ho_ ST2 RC1 RI0
  refine ⟨_, rfl, hb_, fun hHeld_ => ?_⟩
  clear hHeld hb_
  have hHeld := hHeld_
  clear hHeld_
  refine Evt.ol_norm (a' := ?_) ?_ ?_
  rotate_left
  · simp only [Act.put, List.setIfInBounds_toArray, List.set_cons_zero, List.set_cons_succ, i64_w, i32_w]; rfl
  (first | (refine Evt.ol_off (a' := ?_) HT_ rfl rfl (by rfl) (by kernel_rfl) (fun _ _ _ h => h) ?_ ?_; rotate_left; (· (try simp only [Act.put, List.setIfInBounds_toArray, List.set_cons_zero, List.set_cons_succ, i64_w, i32_w]); rfl)) | (refine Evt.ol_pure (a' := ?_) (v := ?_) HT_ rfl rfl rfl (by rfl) (by kernel_rfl) (fun _ _ _ h => h) ?_ ?_ ?_; rotate_left 2; (· intro w'; go_simp; with_reducible rfl); (· (try simp only [Act.put, List.setIfInBounds_toArray, List.set_cons_zero, List.set_cons_succ, i64_w, i32_w]); rfl)) | (refine Evt.ol_load (a' := ?_) (v := ?_) HT_ HW_ hHeld rfl rfl rfl (by rfl) (by kernel_rfl) (fun _ _ _ h => h) ?_ ?_ ?_; rotate_left 2; (· intro w' hS_; obtain ⟨s0, s1, s2⟩ := KP.out w' hS_.out; go_simp; with_reducible rfl); (· (try simp only [Act.put, List.setIfInBounds_toArray, List.set_cons_zero, List.set_cons_succ, i64_w, i32_w]); rfl)))
  have AL_ : w_.heap.size < (w_.alloc (.cells #[.slice AC1 nC1 cC1, .slice AI1 nI1 cI1, .slice X0 q.length x0, .slice X1 m.length x1, .slice X2 e.length x2, .int .i64 0, .bool false, .pointer (some ⟨gt, 0, none⟩), .bool false, .int .i64 0] 98 (0, 0))).heap.size := by simp
  refine Evt.ol_value (a' := ?_) (v := .pointer (some ⟨w_.heap.size, 0, none⟩)) (w1 := w_.alloc (.cells #[.slice AC1 nC1 cC1, .slice AI1 nI1 cI1, .slice X0 q.length x0, .slice X1 m.length x1, .slice X2 e.length x2, .int .i64 0, .bool false, .pointer (some ⟨gt, 0, none⟩), .bool false, .int .i64 0] 98 (0, 0))) HT_ hHeld rfl rfl (by simp) (by rfl) (by kernel_rfl) ?_ (below_alloc (Below.refl _ _) _) ?_ ?_
  rotate_left
  · first | (go_simp; done) | (go_simp; rfl) | (go_simp; refine ⟨?_, ?_⟩ <;> rfl)
  · simp only [Act.put, List.setIfInBounds_toArray, List.set_cons_zero, List.set_cons_succ, i64_w, i32_w]; rfl
  intro hHeld_
  have BZ := Aside0.mk (show Bk (w_.alloc (.cells #[.slice AC1 nC1 cC1, .slice AI1 nI1 cI1, .slice X0 q.length x0, .slice X1 m.length x1, .slice X2 e.length x2, .int .i64 0, .bool false, .pointer (some ⟨gt, 0, none⟩), .bool false, .int .i64 0] 98 (0, 0))) w_.heap.size 98 (mcells (.slice AC1 nC1 cC1) (.slice AI1 nI1 cI1) (.slice X0 q.length x0) (.slice X1 m.length x1) (.slice X2 e.length x2) gt (ini q m e)) from Bk.new_eq rfl)
  have BW := Aside0.mk (show Below w_.heap.size w_ (w_.alloc (.cells #[.slice AC1 nC1 cC1, .slice AI1 nI1 cI1, .slice X0 q.length x0, .slice X1 m.length x1, .slice X2 e.length x2, .int .i64 0, .bool false, .pointer (some ⟨gt, 0, none⟩), .bool false, .int .i64 0] 98 (0, 0))) from below_alloc (Below.refl _ _) _)
  have HB1 := Aside0.mk (below_step HB.out hHeld.out)
  have AL := Aside0.mk AL_
  obtain ⟨gm, hgm⟩ : ∃ gm, w_.heap.size = gm := ⟨_, rfl⟩
  obtain ⟨wz, hwz⟩ : ∃ wz, w_.alloc (.cells #[.slice AC1 nC1 cC1, .slice AI1 nI1 cI1, .slice X0 q.length x0, .slice X1 m.length x1, .slice X2 e.length x2, .int .i64 0, .bool false, .pointer (some ⟨gt, 0, none⟩), .bool false, .int .i64 0] 98 (0, 0)) = wz := ⟨_, rfl⟩
  have GM := Aside0.mk (show w.heap.size ≤ gm from by rw [← hgm]; exact HB1.out.size)
  have HBz := Aside0.mk (below_step HB1.out BW.out)
  rw [hwz] at BZ BW AL HBz
  rw [hwz]
  rw [hgm] at BZ AL
  rw [hgm]
  clear hwz hgm hHeld_ hHeld AL_ HB KP SB RI BK5 ST
  (first | (refine Evt.ol_off (a' := ?_) HT_ rfl rfl (by rfl) (by kernel_rfl) (fun _ _ _ h => h) ?_ ?_; rotate_left; (· (try simp only [Act.put, List.setIfInBounds_toArray, List.set_cons_zero, List.set_cons_succ, i64_w, i32_w]); rfl)) | (refine Evt.ol_pure (a' := ?_) (v := ?_) HT_ rfl rfl rfl (by rfl) (by kernel_rfl) (fun _ _ _ h => h) ?_ ?_ ?_; rotate_left 2; (· intro w'; go_simp; with_reducible rfl); (· (try simp only [Act.put, List.setIfInBounds_toArray, List.set_cons_zero, List.set_cons_succ, i64_w, i32_w]); rfl)) | (refine Evt.ol_load (a' := ?_) (v := ?_) HT_ HW_ hHeld rfl rfl rfl (by rfl) (by kernel_rfl) (fun _ _ _ h => h) ?_ ?_ ?_; rotate_left 2; (· intro w' hS_; go_simp; with_reducible rfl); (· (try simp only [Act.put, List.setIfInBounds_toArray, List.set_cons_zero, List.set_cons_succ, i64_w, i32_w]); rfl)))
  refine Evt.ol_done HT_ (by kernel_rfl) ?_
  go_wp2
  go_ret
  have lo : ∀ {α : Type} {d : Kd α} {e : TypeId} {ok : Nat → Prop} {v : Value} {xs : List α}, d.E = [] → d.R e wz w.heap.size ok v xs → d.R e wz B (fun k => w.heap.size ≤ k ∧ k < wz.heap.size) v xs := fun hE hr => Kd.R_lower (reok hE hr (fun k hk => ⟨Kd.R_base hr k hk, Kd.R_lt hr k hk⟩)) hB
  have O4 := O3.out.below BW.out
  have S4 := ST3.out.below BW.out
  have nil_ : ∀ k, (Value.slice none 0 0).ownBlock ≠ some k := fun k hk => by simp [Value.ownBlock] at hk
  refine ⟨gm, rfl, ⟨gt, .slice AC1 nC1 cC1, .slice AI1 nI1 cI1, .slice X0 q.length x0, .slice X1 m.length x1, .slice X2 e.length x2, .slice none 0 0, 0, ?_⟩, HBz.out⟩
  exact {
    bm := BZ.out
    st := S4
    rc := lo rfl (Kd.R_below RC2.out BW.out)
    ri := lo rfl (Kd.R_below RI1.out BW.out)
    rq := lo rfl O4.q0
    rm := lo rfl O4.q1
    re := lo rfl O4.q2
    ul := fun k hk => absurd hk (nil_ k)
    um := ⟨GM.out, AL.out⟩
    ut := ⟨GT.out, S4.blk.lt⟩
    ub := fun k hk => ⟨Nat.le_trans hB hk.1, hk.2⟩
    ei := APE.out
    eq := fun k hk e_ => (O4.q2.1 k hk).1 e_.symm
    em := fun k hk e_ => (O4.q2.1 k hk).2 e_.symm
    el := fun k _ => nil_ k
    ni := fun k hk => absurd hk (nil_ k)
    nq := fun k hk => absurd hk (nil_ k)
    nm := fun k hk => absurd hk (nil_ k)
    fit := ⟨HS.out.b0, HS.out.b1, HS.out.b2, hi, hl, show (-1 : Int) ≤ 0 by decide, show (0 : Int) ≤ 20000 by decide⟩ }
end
end Go.Proofs.Ytjohdkbciafpfaa.Vm6
