/- Chapter 06: Step, walked. -/
import Derived.Test.YtjohdkbciafpfaaVs
namespace Go.Proofs.Ytjohdkbciafpfaa.Vm6
open Go.RowKit Go.Proofs.YtjohdkbciafpfaaW.PrintWords Go.Proofs.YtjohdkbciafpfaaW.PrintMore Go.Proofs.YtjohdkbciafpfaaW.PrintLast Go.Proofs.Ytjohdkbciafpfaa.Chg Go.Proofs.Ytjohdkbciafpfaa.Evt Go.Proofs.Ytjohdkbciafpfaa.Impl
set_option linter.unusedVariables false
set_option linter.unusedSimpArgs false
set_option maxRecDepth 100000
theorem fop_fn {k : Int} {f : Nat} (h : fop k = some f) : ∃ fn : Func, Try.prog.funcs[f]? = some fn ∧ (fn.name == "runtime.NumGoroutine") = false ∧ fn.body.isSome = true := by
  have : f = 62 ∨ f = 63 ∨ f = 64 ∨ f = 65 ∨ f = 66 ∨ f = 67 ∨ f = 68 := by
    unfold fop at h
    repeat' split at h
    all_goals first | (injection h with h; omega) | cases h
  rcases this with rfl | rfl | rfl | rfl | rfl | rfl | rfl
  · exact ⟨_, Try.func62, by kernel_rfl, rfl⟩
  · exact ⟨_, Try.func63, by kernel_rfl, rfl⟩
  · exact ⟨_, Try.func64, by kernel_rfl, rfl⟩
  · exact ⟨_, Try.func65, by kernel_rfl, rfl⟩
  · exact ⟨_, Try.func66, by kernel_rfl, rfl⟩
  · exact ⟨_, Try.func67, by kernel_rfl, rfl⟩
  · exact ⟨_, Try.func68, by kernel_rfl, rfl⟩
section
variable {w w' w1 w2 : World} {base : Nat} {U U1 : Nat → Prop} {gm gt mo : Nat} {vC vI vQ vM vE vL : Value} {l : List S66} {li : List Bool} {s s2 : MS} {k a b j : Int}
theorem Stp.seq (hc : Chg U w w1) (hu : ∀ k, U1 k → U k ∨ w.heap.size ≤ k) (h : Stp w1 base U1 gm l li s2 w2) : Stp w base U gm l li s2 w2 := by
  obtain ⟨U2, k1, k2, k3⟩ := h.out
  refine ⟨U2, k1, hc.trans k2 hu, fun k hk => ?_⟩
  have := hc.size
  rcases k3 k hk with hk | hk
  · exact hu k hk
  · right; omega
/-- The machine has stopped with an error. -/
theorem Vm.stpF (h : Vm w base U gm gt vC vI vQ vM vE vL mo l li s) (e : Int) : Stp w base U gm l li { s with ended := true, fault := e } ((w.setCell ⟨gm, 8, none⟩ (.bool true)).setCell ⟨gm, 9, none⟩ (.int .i64 e)) :=
  h.stpc ((h.setEnd true).setFault e) (((Chg.refl (fun x => x = gm) w).setCell (p := ⟨gm, 8, none⟩) (.inl rfl) _).setCell (p := ⟨gm, 9, none⟩) (.inl rfl) _)
theorem step_nil (w : World) : Calls Try.prog 38 #[.pointer none] w fun x w' => x = .returned (.tuple #[.bool false, .int .i64 1]) ∧ Below w.heap.size w w' := by
  have HB := Aside0.mk (Below.refl w.heap.size w)
  go_enter Try.func38, Try.ntmps38
  go_wp2
  go_ret2
  exact ⟨rfl, HB.out⟩
section
variable {q m e st : List Bool} {pc fault : Int} {acc ended : Bool}
set_option maxHeartbeats 4000000 in
theorem step_end (h : Vm w base U gm gt vC vI vQ vM vE vL mo l li ⟨q, m, e, pc, acc, st, true, fault⟩) : Calls Try.prog 38 #[.pointer (some ⟨gm, 0, none⟩)] w fun x w' => x = .returned (.tuple #[.bool false, .int .i64 fault]) ∧ Stp w base U gm l li ⟨q, m, e, pc, acc, st, true, fault⟩ w' := by
  have HB := Aside0.mk (Below.refl w.heap.size w)
  have V := Aside0.mk (h)
  have BM : Aside0 (Bk w gm 98 #[vC, vI, vQ, vM, vE, .int .i64 pc, .bool acc, .pointer (some ⟨gt, 0, none⟩), .bool true, .int .i64 fault]) := Aside0.mk (h.bm)
  clear h
  obtain ⟨zBM_0, zBM_1, zBM_2, zBM_3, zBM_4, zBM_5, zBM_6, zBM_7, zBM_8, zBM_9⟩ := BM.out.c10
  go_enter Try.func38, Try.ntmps38
  go_wp2
  have KP := Aside0.mk (fun w' (hb : Below w.heap.size w w') => (BM.out.below hb).c10)
  clear zBM_0 zBM_1 zBM_2 zBM_3 zBM_4 zBM_5 zBM_6 zBM_7 zBM_8 zBM_9
  refine Evt.ow_start (w0 := w) (T := (true, [([], []), ([0], [0]), ([1], [1]), ([2], [2]), ([], []), ([3, 4, 0, 1, 2, 3, 4], [3])])) (B := [0, 1, 3, 7, 0, 31]) 6 [(0, some 16), (1, some 17), (2, some 18), (4, some 2), (3, some 19), (5, some 3)] (by kernel_rfl) rfl (by kernel_rfl) (by kernel_rfl) (by kernel_rfl) (by repeat (first | (with_reducible first | exact Below.refl _ _ | apply below_alloc | apply pw_below_drewN | apply below_drew1) | exact Below.refl _ _)) ?_
  intro HT_ HW_ w_ hHeld
  iterate 6 (first | (refine Evt.ow_off (a' := ?_) HT_ rfl rfl (by rfl) (by kernel_rfl) (fun _ _ _ h => h) ?_ ?_; rotate_left; (· (try simp only [Act.put, List.setIfInBounds_toArray, List.set_cons_zero, List.set_cons_succ, i64_w, i32_w]); rfl)) | (refine Evt.ow_pure (a' := ?_) (v := ?_) HT_ rfl rfl rfl (by rfl) (by kernel_rfl) (fun _ _ _ h => h) ?_ ?_ ?_; rotate_left 2; (· intro w'; go_simp; with_reducible rfl); (· (try simp only [Act.put, List.setIfInBounds_toArray, List.set_cons_zero, List.set_cons_succ, i64_w, i32_w]); rfl)) | (refine Evt.ow_load (a' := ?_) (v := ?_) HT_ HW_ hHeld rfl rfl rfl (by rfl) (by kernel_rfl) (fun _ _ _ h => h) ?_ ?_ ?_; rotate_left 2; (· intro w' hS_; obtain ⟨s0, s1, s2, s3, s4, s5, s6, s7, s8, s9⟩ := KP.out w' hS_.out; go_simp; with_reducible rfl); (· (try simp only [Act.put, List.setIfInBounds_toArray, List.set_cons_zero, List.set_cons_succ, i64_w, i32_w]); rfl)))
  refine Evt.ow_done HT_ (by kernel_rfl) ?_
  refine Evt.gen_any (w0 := w) hHeld.out ?_
  intro w1 hbx
  clear hHeld HT_ HW_ KP
  replace V := Aside0.mk (V.out.below hbx)
  replace BM := Aside0.mk (BM.out.below hbx)
  replace HB := Aside0.mk (below_step HB.out hbx)
  clear hbx
  obtain ⟨zBM_0, zBM_1, zBM_2, zBM_3, zBM_4, zBM_5, zBM_6, zBM_7, zBM_8, zBM_9⟩ := BM.out.c10
  go_wp2
  go_ret2
  exact ⟨rfl, (Stp.here ⟨_, _, _, _, _, _, _, _, V.out⟩).from HB.out⟩
set_option maxHeartbeats 4000000 in
theorem step_short (h : Vm w base U gm gt vC vI vQ vM vE vL mo l li ⟨q, m, e, pc, acc, st, false, fault⟩) (hp : (l.length : Int) ≤ pc) : Calls Try.prog 38 #[.pointer (some ⟨gm, 0, none⟩)] w fun x w' => x = .returned (.tuple #[.bool false, .int .i64 5]) ∧ Stp w base U gm l li ⟨q, m, e, pc, acc, st, true, 5⟩ w' := by
  obtain ⟨AC, cC, AI, cI, AQ, cQ, AM, cM, AE, cE, rfl, rfl, rfl, rfl, rfl⟩ := h.forms
  have p1 : decide ((l.length : Int) ≤ pc) = true := decide_eq_true hp
  have p2 : decide (pc ≥ (l.length : Int)) = true := decide_eq_true hp
  have HB := Aside0.mk (Below.refl w.heap.size w)
  have V := Aside0.mk (h)
  have BM : Aside0 (Bk w gm 98 #[.slice AC l.length cC, .slice AI li.length cI, .slice AQ q.length cQ, .slice AM m.length cM, .slice AE e.length cE, .int .i64 pc, .bool acc, .pointer (some ⟨gt, 0, none⟩), .bool false, .int .i64 fault]) := Aside0.mk (h.bm)
  clear h hp
  obtain ⟨zBM_0, zBM_1, zBM_2, zBM_3, zBM_4, zBM_5, zBM_6, zBM_7, zBM_8, zBM_9⟩ := BM.out.c10
  go_enter Try.func38, Try.ntmps38
  go_wp2
  have KP := Aside0.mk (fun w' (hb : Below w.heap.size w w') => (BM.out.below hb).c10)
  clear zBM_0 zBM_1 zBM_2 zBM_3 zBM_4 zBM_5 zBM_6 zBM_7 zBM_8 zBM_9
  refine Evt.ow_start (w0 := w) (T := (true, [([], []), ([0], [0]), ([1], [1]), ([2], [2]), ([], []), ([4], [4]), ([5], [5]), ([6], [6]), ([7], [7]), ([3, 8], [3, 8]), ([9], [9])])) (B := [0, 1, 3, 7, 0, 16, 48, 112, 240, 511, 1023]) 11 [(0, some 21), (1, some 22), (2, some 23), (4, some 25), (5, some 26), (6, some 27), (3, some 24), (7, some 28), (8, some 29), (9, some 30), (10, some 20)] (by kernel_rfl) rfl (by kernel_rfl) (by kernel_rfl) (by kernel_rfl) (by repeat (first | (with_reducible first | exact Below.refl _ _ | apply below_alloc | apply pw_below_drewN | apply below_drew1) | exact Below.refl _ _)) ?_
  intro HT_ HW_ w_ hHeld
  iterate 11 (first | (refine Evt.ow_off (a' := ?_) HT_ rfl rfl (by rfl) (by kernel_rfl) (fun _ _ _ h => h) ?_ ?_; rotate_left; (· (try simp only [Act.put, List.setIfInBounds_toArray, List.set_cons_zero, List.set_cons_succ, i64_w, i32_w]); rfl)) | (refine Evt.ow_pure (a' := ?_) (v := ?_) HT_ rfl rfl rfl (by rfl) (by kernel_rfl) (fun _ _ _ h => h) ?_ ?_ ?_; rotate_left 2; (· intro w'; go_simp; with_reducible rfl); (· (try simp only [Act.put, List.setIfInBounds_toArray, List.set_cons_zero, List.set_cons_succ, i64_w, i32_w]); rfl)) | (refine Evt.ow_load (a' := ?_) (v := ?_) HT_ HW_ hHeld rfl rfl rfl (by rfl) (by kernel_rfl) (fun _ _ _ h => h) ?_ ?_ ?_; rotate_left 2; (· intro w' hS_; obtain ⟨s0, s1, s2, s3, s4, s5, s6, s7, s8, s9⟩ := KP.out w' hS_.out; go_simp; with_reducible rfl); (· (try simp only [Act.put, List.setIfInBounds_toArray, List.set_cons_zero, List.set_cons_succ, i64_w, i32_w]); rfl)))
  refine Evt.ow_done HT_ (by kernel_rfl) ?_
  refine Evt.gen_any (w0 := w) hHeld.out ?_
  intro w1 hbx
  clear hHeld HT_ HW_ KP
  replace V := Aside0.mk (V.out.below hbx)
  replace BM := Aside0.mk (BM.out.below hbx)
  replace HB := Aside0.mk (below_step HB.out hbx)
  clear hbx
  obtain ⟨zBM_0, zBM_1, zBM_2, zBM_3, zBM_4, zBM_5, zBM_6, zBM_7, zBM_8, zBM_9⟩ := BM.out.c10
  have fBM_8 : w1.frozen? ⟨gm, 8, none⟩ = false := blk_frozen BM.out.blk 8
  have fBM_9 : w1.frozen? ⟨gm, 9, none⟩ = false := blk_frozen BM.out.blk 9
  go_wp2
  clear zBM_0 zBM_1 zBM_2 zBM_3 zBM_4 zBM_5 zBM_6 zBM_7 zBM_8 zBM_9 fBM_8 fBM_9
  have VN := Aside0.mk ((V.out.setEnd true).setFault 5)
  have SN := Aside0.mk (V.out.stpF 5)
  have HB0 := HB
  obtain ⟨wn, hwn⟩ : ∃ wn, (w1.setCell ⟨gm, 8, none⟩ (.bool true)).setCell ⟨gm, 9, none⟩ (.int .i64 5) = wn := ⟨_, rfl⟩
  rw [hwn] at VN SN ⊢
  clear hwn V BM HB
  have HB := Aside0.mk (Below.refl wn.heap.size wn)
  have BM : Aside0 (Bk wn gm 98 #[.slice AC l.length cC, .slice AI li.length cI, .slice AQ q.length cQ, .slice AM m.length cM, .slice AE e.length cE, .int .i64 pc, .bool acc, .pointer (some ⟨gt, 0, none⟩), .bool true, .int .i64 5]) := Aside0.mk (VN.out.bm)
  clear VN
  obtain ⟨zBM_0, zBM_1, zBM_2, zBM_3, zBM_4, zBM_5, zBM_6, zBM_7, zBM_8, zBM_9⟩ := BM.out.c10
  have KP := Aside0.mk (fun w' (hb : Below wn.heap.size wn w') => (BM.out.below hb).c10)
  clear zBM_0 zBM_1 zBM_2 zBM_3 zBM_4 zBM_5 zBM_6 zBM_7 zBM_8 zBM_9
  refine Evt.ow_start (w0 := wn) (T := (true, [([], []), ([0], [0]), ([1], [1]), ([2], [2]), ([], []), ([3, 4, 0, 1, 2, 3, 4], [3])])) (B := [0, 1, 3, 7, 0, 31]) 6 [(0, some 37), (1, some 38), (2, some 39), (4, some 2), (3, some 40), (5, some 3)] (by kernel_rfl) rfl (by kernel_rfl) (by kernel_rfl) (by kernel_rfl) (by repeat (first | (with_reducible first | exact Below.refl _ _ | apply below_alloc | apply pw_below_drewN | apply below_drew1) | exact Below.refl _ _)) ?_
  intro HT_ HW_ w_ hHeld
  iterate 6 (first | (refine Evt.ow_off (a' := ?_) HT_ rfl rfl (by rfl) (by kernel_rfl) (fun _ _ _ h => h) ?_ ?_; rotate_left; (· (try simp only [Act.put, List.setIfInBounds_toArray, List.set_cons_zero, List.set_cons_succ, i64_w, i32_w]); rfl)) | (refine Evt.ow_pure (a' := ?_) (v := ?_) HT_ rfl rfl rfl (by rfl) (by kernel_rfl) (fun _ _ _ h => h) ?_ ?_ ?_; rotate_left 2; (· intro w'; go_simp; with_reducible rfl); (· (try simp only [Act.put, List.setIfInBounds_toArray, List.set_cons_zero, List.set_cons_succ, i64_w, i32_w]); rfl)) | (refine Evt.ow_load (a' := ?_) (v := ?_) HT_ HW_ hHeld rfl rfl rfl (by rfl) (by kernel_rfl) (fun _ _ _ h => h) ?_ ?_ ?_; rotate_left 2; (· intro w' hS_; obtain ⟨s0, s1, s2, s3, s4, s5, s6, s7, s8, s9⟩ := KP.out w' hS_.out; go_simp; with_reducible rfl); (· (try simp only [Act.put, List.setIfInBounds_toArray, List.set_cons_zero, List.set_cons_succ, i64_w, i32_w]); rfl)))
  refine Evt.ow_done HT_ (by kernel_rfl) ?_
  refine Evt.gen_any (w0 := wn) hHeld.out ?_
  intro w1 hbx
  clear hHeld HT_ HW_ KP
  replace BM := Aside0.mk (BM.out.below hbx)
  replace HB := Aside0.mk (below_step HB.out hbx)
  clear hbx
  obtain ⟨zBM_0, zBM_1, zBM_2, zBM_3, zBM_4, zBM_5, zBM_6, zBM_7, zBM_8, zBM_9⟩ := BM.out.c10
  go_wp2
  go_ret2
  exact ⟨rfl, Stp.from HB0.out (SN.out.below HB.out)⟩
/-- How a step ends that carries out an instruction. -/
def StepPost (w : World) (base : Nat) (U : Nat → Prop) (gm : Nat) (l : List S66) (li : List Bool) (er np : Int) (s s1 : MS) (x : Ending) (w' : World) : Prop :=
  (er ≠ 0 ∧ x = .returned (.tuple #[.bool false, .int .i64 er]) ∧ Stp w base U gm l li { s with ended := true, fault := er } w') ∨ (er = 0 ∧ x = .returned (.tuple #[.bool (!s1.ended), .int .i64 0]) ∧ Stp w base U gm l li { s1 with pc := np } w')
set_option maxHeartbeats 16000000 in
theorem step_ins {i : Nat} (h : Vm w base U gm gt vC vI vQ vM vE vL mo l li ⟨q, m, e, (i : Int), acc, st, false, fault⟩) (hp : i < l.length) {er np : Int} {s1 : MS} (hr : core l.length li (rd_T66 l i).f0 (rd_T66 l i).f1.f0 (rd_T66 l i).f1.f1 (rd_T66 l i).f2 ⟨q, m, e, (i : Int), acc, st, false, fault⟩ = (er, np, s1)) (hwf : (Lit.int .i64 (rd_T66 l i).f0).wf = true) (hn0 : 0 ≤ np) (hn1 : np ≤ 20000) :
    Calls Try.prog 38 #[.pointer (some ⟨gm, 0, none⟩)] w fun x w' => StepPost w base U gm l li er np ⟨q, m, e, (i : Int), acc, st, false, fault⟩ s1 x w' := by
  obtain ⟨AC, cC, AI, cI, AQ, cQ, AM, cM, AE, cE, rfl, rfl, rfl, rfl, rfl⟩ := h.forms
  have p1 : decide ((l.length : Int) ≤ (i : Int)) = false := decide_eq_false (by omega)
  have p2 : decide (l.length ≤ i) = false := decide_eq_false (by omega)
  have p3 : decide (i < l.length) = true := decide_eq_true hp
  have p4 : decide ((i : Int) < (l.length : Int)) = true := decide_eq_true (by omega)
  have lb : l.length ≤ 20000 := h.fit.c
  obtain ⟨ad, rfl, y0_, y1_, y2_, y3_⟩ := at_T66 (Kd.R_reads' h.rc).2.2 (i : Int) (by omega) (by omega)
  clear y0_ y1_ y2_ y3_
  obtain ⟨k, a, b, j, K⟩ : ∃ k a b j, Aside0 ((rd_T66 l (i : Int)).f0 = k ∧ (rd_T66 l (i : Int)).f1.f0 = a ∧ (rd_T66 l (i : Int)).f1.f1 = b ∧ (rd_T66 l (i : Int)).f2 = j) := ⟨_, _, _, _, ⟨rfl, rfl, rfl, rfl⟩⟩
  rw [K.out.1, K.out.2.1, K.out.2.2.1, K.out.2.2.2] at hr
  rw [K.out.1] at hwf
  have CELL : Aside0 (∀ W, Vm W base U gm gt (.slice (some ad) l.length cC) (.slice AI li.length cI) (.slice AQ q.length cQ) (.slice AM m.length cM) (.slice AE e.length cE) vL mo l li ⟨q, m, e, (i : Int), acc, st, false, fault⟩ → W.cell? (ad.add (i * 4)) = some (.int .i64 k) ∧ W.cell? ⟨(ad.add (i * 4)).block, (ad.add (i * 4)).off + 1, none⟩ = some (.int .i64 a) ∧ W.cell? ⟨(ad.add (i * 4)).block, (ad.add (i * 4)).off + 2, none⟩ = some (.int .i64 b) ∧ W.cell? ⟨(ad.add (i * 4)).block, (ad.add (i * 4)).off + 3, none⟩ = some (.int .i64 j)) := ⟨fun W hW => by
    obtain ⟨ad', e_, h0, h1, h2, h3⟩ := at_T66 (Kd.R_reads' hW.rc).2.2 (i : Int) (by omega) (by omega)
    injection e_ with e_
    subst e_
    rw [K.out.1, Int.toNat_natCast] at h0
    rw [K.out.2.1, Int.toNat_natCast] at h1
    rw [K.out.2.2.1, Int.toNat_natCast] at h2
    rw [K.out.2.2.2, Int.toNat_natCast] at h3
    exact ⟨h0, h1, h2, h3⟩⟩
  have HR := Aside0.mk hr
  have WF := Aside0.mk hwf
  obtain ⟨fv, okb, LK, HF⟩ : ∃ fv okb, Aside0 (∀ W b n, MF gm W b n fop → (Instr.lookup 104 (.map (some b)) (.int .i64 k) true).run Try.prog W = .ok (.tuple #[fv, .bool okb]) W) ∧ Aside0 ((okb = true ∧ ∃ f, fop k = some f ∧ fv = .func (.func f) #[.pointer (some ⟨gm, 0, none⟩)] #[]) ∨ (okb = false ∧ fop k = none)) := by
    refine ⟨_, _, ⟨fun W b n hM => hM.look hwf⟩, ⟨?_⟩⟩
    cases hf : fop k with
    | none => exact .inr ⟨rfl, rfl⟩
    | some f => exact .inl ⟨rfl, f, rfl, rfl⟩
  have HB := Aside0.mk (Below.refl w.heap.size w)
  have V := Aside0.mk (h)
  have BM : Aside0 (Bk w gm 98 #[.slice (some ad) l.length cC, .slice AI li.length cI, .slice AQ q.length cQ, .slice AM m.length cM, .slice AE e.length cE, .int .i64 (i : Int), .bool acc, .pointer (some ⟨gt, 0, none⟩), .bool false, .int .i64 fault]) := Aside0.mk (h.bm)
  clear h hr hwf
  obtain ⟨zBM_0, zBM_1, zBM_2, zBM_3, zBM_4, zBM_5, zBM_6, zBM_7, zBM_8, zBM_9⟩ := BM.out.c10
  go_enter Try.func38, Try.ntmps38
  go_wp2
  have KP := Aside0.mk (fun w' (hb : Below w.heap.size w w') => (BM.out.below hb).c10)
  clear zBM_0 zBM_1 zBM_2 zBM_3 zBM_4 zBM_5 zBM_6 zBM_7 zBM_8 zBM_9
  refine Evt.ow_start (w0 := w) (T := (true, [([], []), ([0], [0]), ([1], [1]), ([2], [2]), ([], []), ([4], [4]), ([5], [5]), ([6], [6]), ([7], [7]), ([3, 8], [3, 8]), ([9], [9])])) (B := [0, 1, 3, 7, 0, 16, 48, 112, 240, 511, 1023]) 11 [(0, some 21), (1, some 22), (2, some 23), (4, some 25), (5, some 26), (6, some 27), (3, some 24), (7, some 28), (8, some 29), (9, some 30), (10, some 20)] (by kernel_rfl) rfl (by kernel_rfl) (by kernel_rfl) (by kernel_rfl) (by repeat (first | (with_reducible first | exact Below.refl _ _ | apply below_alloc | apply pw_below_drewN | apply below_drew1) | exact Below.refl _ _)) ?_
  intro HT_ HW_ w_ hHeld
  iterate 11 (first | (refine Evt.ow_off (a' := ?_) HT_ rfl rfl (by rfl) (by kernel_rfl) (fun _ _ _ h => h) ?_ ?_; rotate_left; (· (try simp only [Act.put, List.setIfInBounds_toArray, List.set_cons_zero, List.set_cons_succ, i64_w, i32_w]); rfl)) | (refine Evt.ow_pure (a' := ?_) (v := ?_) HT_ rfl rfl rfl (by rfl) (by kernel_rfl) (fun _ _ _ h => h) ?_ ?_ ?_; rotate_left 2; (· intro w'; go_simp; with_reducible rfl); (· (try simp only [Act.put, List.setIfInBounds_toArray, List.set_cons_zero, List.set_cons_succ, i64_w, i32_w]); rfl)) | (refine Evt.ow_load (a' := ?_) (v := ?_) HT_ HW_ hHeld rfl rfl rfl (by rfl) (by kernel_rfl) (fun _ _ _ h => h) ?_ ?_ ?_; rotate_left 2; (· intro w' hS_; obtain ⟨s0, s1, s2, s3, s4, s5, s6, s7, s8, s9⟩ := KP.out w' hS_.out; go_simp; with_reducible rfl); (· (try simp only [Act.put, List.setIfInBounds_toArray, List.set_cons_zero, List.set_cons_succ, i64_w, i32_w]); rfl)))
  refine Evt.ow_done HT_ (by kernel_rfl) ?_
  refine Evt.gen_any (w0 := w) hHeld.out ?_
  intro w1 hbx
  clear hHeld HT_ HW_ KP
  replace V := Aside0.mk (V.out.below hbx)
  replace BM := Aside0.mk (BM.out.below hbx)
  replace HB := Aside0.mk (below_step HB.out hbx)
  clear hbx
  obtain ⟨zBM_0, zBM_1, zBM_2, zBM_3, zBM_4, zBM_5, zBM_6, zBM_7, zBM_8, zBM_9⟩ := BM.out.c10
  go_wp2
  have KP := Aside0.mk (fun w' (hb : Below w1.heap.size w1 w') => (BM.out.below hb).c10)
  clear zBM_0 zBM_1 zBM_2 zBM_3 zBM_4 zBM_5 zBM_6 zBM_7 zBM_8 zBM_9
  refine Evt.ol_start (ds := []) (w0 := w1) (T := (true, [([], []), ([0], [0]), ([1], [1]), ([2], [2]), ([], []), ([4], [4]), ([5], [5]), ([6], [6]), ([3, 7], [3, 7]), ([8], [8]), ([], []), ([10, 9, 0, 1, 2, 3, 4, 5, 6, 7, 8, 9, 10], [9, 10])])) (B := [0, 1, 3, 7, 0, 16, 48, 112, 255, 511, 0, 2047]) 12 [(0, some 41), (1, some 42), (2, some 43), (3, some 44), (4, some 45), (5, some 46), (6, some 47), (7, some 48), (8, some 49), (9, some 50), (10, some 4), (11, none)] (by kernel_rfl) rfl (by kernel_rfl) (by kernel_rfl) (by kernel_rfl) (by repeat (first | (with_reducible first | exact Below.refl _ _ | apply below_alloc | apply pw_below_drewN | apply below_drew1) | exact Below.refl _ _)) ?_
  intro HT_ HW_ w_ hHeld
  iterate 10 (first | (refine Evt.ol_off (a' := ?_) HT_ rfl rfl (by rfl) (by kernel_rfl) (fun _ _ _ h => h) ?_ ?_; rotate_left; (· (try simp only [Act.put, List.setIfInBounds_toArray, List.set_cons_zero, List.set_cons_succ, i64_w, i32_w]); rfl)) | (refine Evt.ol_pure (a' := ?_) (v := ?_) HT_ rfl rfl rfl (by rfl) (by kernel_rfl) (fun _ _ _ h => h) ?_ ?_ ?_; rotate_left 2; (· intro w'; go_simp; with_reducible rfl); (· (try simp only [Act.put, List.setIfInBounds_toArray, List.set_cons_zero, List.set_cons_succ, i64_w, i32_w]); rfl)) | (refine Evt.ol_load (a' := ?_) (v := ?_) HT_ HW_ hHeld rfl rfl rfl (by rfl) (by kernel_rfl) (fun _ _ _ h => h) ?_ ?_ ?_; rotate_left 2; (· intro w' hS_; obtain ⟨s0, s1, s2, s3, s4, s5, s6, s7, s8, s9⟩ := KP.out w' hS_.out; have ⟨y0, y1, y2, y3⟩ := CELL.out w' (V.out.below hS_.out); go_simp; with_reducible rfl); (· (try simp only [Act.put, List.setIfInBounds_toArray, List.set_cons_zero, List.set_cons_succ, i64_w, i32_w]); rfl)))
  refine Evt.ol_join (σ := (Nat)) 1 [(11, none)] (fun s => match s with | gT10 => [(4, .pointer (some ⟨gT10, 0, none⟩))]) (fun s W_ => match s with | gT10 => (Bk W_ gT10 66 #[.int .i64 0, .int .i64 0, .int .i64 0, .int .i64 0]) ∧ (w1.heap.size ≤ gT10)) ?_ ?_
  · intro JN
    refine Evt.ol_one (i := 10) [(11, none)] HT_ rfl rfl (by kernel_rfl) (fun K_ hK_ => ?_)
    · refine Evt.k_alloc hK_ hHeld rfl rfl (cs := #[.int .i64 0, .int .i64 0, .int .i64 0, .int .i64 0]) (t := 66) ?_ ?_
      · first | (go_simp; done) | (go_simp; rfl) | (go_simp; refine ⟨?_, ?_⟩ <;> rfl)
      intro gT10 w_ hg_ hB_ hb_ hH_
      have GE10 := Aside0.mk (show w1.heap.size ≤ gT10 from (by rw [hg_]; exact hHeld.out.size))
      clear hg_
      have F10 := Aside0.mk hB_
      clear hHeld hb_ hB_
      have hHeld := hH_
      clear hH_ hK_
      refine Evt.ol_norm (a' := ?_) ?_ ?_
      rotate_left
      · simp only [Act.put, List.setIfInBounds_toArray, List.set_cons_zero, List.set_cons_succ, i64_w, i32_w]; rfl
      exact Evt.ol_norm (by simp only [putAll, Act.put, List.setIfInBounds_toArray, List.set_cons_zero, List.set_cons_succ, i64_w, i32_w]; rfl) (JN gT10 _ hHeld ⟨F10.out, GE10.out⟩)
  rintro gT10 w_ hHeld ⟨f_F10, f_GE10⟩
  have F10 := Aside0.mk f_F10
  have GE10 := Aside0.mk f_GE10
  clear f_F10 f_GE10
  refine Evt.ol_norm (a' := ?_) ?_ ?_
  rotate_left
  · simp only [putAll, Act.put, List.setIfInBounds_toArray, List.set_cons_zero, List.set_cons_succ, i64_w, i32_w]; rfl
  refine Evt.ol_setrow (i := 11) [] HT_ hHeld rfl rfl (by kernel_rfl) (by rfl) F10.out GE10.out 66 (.tmp 4) (.tmp 50) rfl rfl rfl (by kernel_rfl) rfl (by simp [Value.oneCell']) ?_
  intro wa B4_ hg_ hH_
  have V1 := Aside0.mk (V.out.below hH_.out)
  have B4 := Aside0.mk B4_
  have HB1 := Aside0.mk (below_step HB.out hH_.out)
  refine Evt.ol_done HT_ (by kernel_rfl) ?_
  clear F10 GE10 hHeld B4_ hg_ V BM HB KP hH_ HT_ HW_
  have HB := Aside0.mk (Below.refl wa.heap.size wa)
  clear HB
  have HB := HB1
  clear HB1
  have V := Aside0.mk (V1.out)
  have BM : Aside0 (Bk wa gm 98 #[.slice (some ad) l.length cC, .slice AI li.length cI, .slice AQ q.length cQ, .slice AM m.length cM, .slice AE e.length cE, .int .i64 (i : Int), .bool acc, .pointer (some ⟨gt, 0, none⟩), .bool false, .int .i64 fault]) := Aside0.mk (V1.out.bm)
  have BK4 : Aside0 (Bk wa gT10 66 #[.int .i64 k, .int .i64 a, .int .i64 b, .int .i64 j]) := Aside0.mk (B4.out)
  clear V1 B4
  go_wp2_with fail
  have KP := Aside0.mk (fun w' (hb : Below wa.heap.size wa w') => (BK4.out.below hb).c4)
  refine Evt.ol_start (ds := []) (w0 := wa) (T := (true, [([], []), ([0], [0]), ([], []), ([2], [2]), ([1, 3], [1, 3]), ([4], [4]), ([5], [5]), ([5], [5]), ([6, 1, 0, 1, 2, 3, 4, 5, 6], [6]), ([7, 8, 0, 1, 2, 3, 4, 5, 6, 7, 8], [7])])) (B := [0, 1, 0, 4, 15, 31, 63, 63, 127, 511]) 10 [(0, some 52), (2, some 54), (3, some 55), (1, some 53), (4, some 56), (5, some 51), (6, some 57), (7, some 58), (8, some 5), (9, some 6)] (by kernel_rfl) rfl (by kernel_rfl) (by kernel_rfl) (by kernel_rfl) (by repeat (first | (with_reducible first | exact Below.refl _ _ | apply below_alloc | apply pw_below_drewN | apply below_drew1) | exact Below.refl _ _)) ?_
  intro HT_ HW_ w_ hHeld
  iterate 3 (first | (refine Evt.ol_off (a' := ?_) HT_ rfl rfl (by rfl) (by kernel_rfl) (fun _ _ _ h => h) ?_ ?_; rotate_left; (· (try simp only [Act.put, List.setIfInBounds_toArray, List.set_cons_zero, List.set_cons_succ, i64_w, i32_w]); rfl)) | (refine Evt.ol_pure (a' := ?_) (v := ?_) HT_ rfl rfl rfl (by rfl) (by kernel_rfl) (fun _ _ _ h => h) ?_ ?_ ?_; rotate_left 2; (· intro w'; go_simp; with_reducible rfl); (· (try simp only [Act.put, List.setIfInBounds_toArray, List.set_cons_zero, List.set_cons_succ, i64_w, i32_w]); rfl)) | (refine Evt.ol_load (a' := ?_) (v := ?_) HT_ HW_ hHeld rfl rfl rfl (by rfl) (by kernel_rfl) (fun _ _ _ h => h) ?_ ?_ ?_; rotate_left 2; (· intro w' hS_; obtain ⟨s0, s1, s2, s3⟩ := KP.out w' hS_.out; go_simp; with_reducible rfl); (· (try simp only [Act.put, List.setIfInBounds_toArray, List.set_cons_zero, List.set_cons_succ, i64_w, i32_w]); rfl)))
  refine Evt.ol_callg HT_ hHeld rfl rfl (by simp) rfl Try.func56 (by kernel_rfl) rfl #[.pointer (some ⟨gm, 0, none⟩)] (by kernel_rfl) (by rfl) (by (try simp only [List.map_toArray, List.map_cons, List.map_nil]); first | done | rfl | (simp only [List.length_drop, List.length_take]; rfl)) ?_
  (with_reducible refine (does_any _ gm).mono ?_)
  rintro e_ w_ ⟨mb, mn, mp, rfl, hM_, rfl, hb_⟩
  have MM := Aside0.mk hM_; clear hM_
  refine ⟨_, rfl, hb_, fun hHeld_ => ?_⟩
  clear hHeld hb_
  have hHeld := hHeld_
  clear hHeld_
  refine Evt.ol_norm (a' := ?_) ?_ ?_
  rotate_left
  · simp only [Act.put, List.setIfInBounds_toArray, List.set_cons_zero, List.set_cons_succ, i64_w, i32_w]; rfl
  refine Evt.ol_value (a' := ?_) (v := ?_) (w1 := w_) HT_ hHeld rfl rfl (by simp) (by rfl) (by kernel_rfl) ?_ (Below.refl _ _) ?_ ?_
  rotate_left 2
  · have lk_ := LK.out _ _ _ MM.out; go_simp; rfl
  · simp only [Act.put, List.setIfInBounds_toArray, List.set_cons_zero, List.set_cons_succ, i64_w, i32_w]; rfl
  intro hHeld_
  clear hHeld_ MM
  iterate 5 (first | (refine Evt.ol_off (a' := ?_) HT_ rfl rfl (by rfl) (by kernel_rfl) (fun _ _ _ h => h) ?_ ?_; rotate_left; (· (try simp only [Act.put, List.setIfInBounds_toArray, List.set_cons_zero, List.set_cons_succ, i64_w, i32_w]); rfl)) | (refine Evt.ol_pure (a' := ?_) (v := ?_) HT_ rfl rfl rfl (by rfl) (by kernel_rfl) (fun _ _ _ h => h) ?_ ?_ ?_; rotate_left 2; (· intro w'; go_simp; with_reducible rfl); (· (try simp only [Act.put, List.setIfInBounds_toArray, List.set_cons_zero, List.set_cons_succ, i64_w, i32_w]); rfl)) | (refine Evt.ol_load (a' := ?_) (v := ?_) HT_ HW_ hHeld rfl rfl rfl (by rfl) (by kernel_rfl) (fun _ _ _ h => h) ?_ ?_ ?_; rotate_left 2; (· intro w' hS_; obtain ⟨s0, s1, s2, s3⟩ := KP.out w' hS_.out; go_simp; with_reducible rfl); (· (try simp only [Act.put, List.setIfInBounds_toArray, List.set_cons_zero, List.set_cons_succ, i64_w, i32_w]); rfl)))
  refine Evt.ol_done HT_ (by kernel_rfl) ?_
  have hbx := hHeld.out
  replace V := Aside0.mk (V.out.below hbx)
  replace BM := Aside0.mk (BM.out.below hbx)
  replace BK4 := Aside0.mk (BK4.out.below hbx)
  replace HB := Aside0.mk (below_step HB.out hbx)
  clear hbx
  obtain ⟨zBM_0, zBM_1, zBM_2, zBM_3, zBM_4, zBM_5, zBM_6, zBM_7, zBM_8, zBM_9⟩ := BM.out.c10
  obtain ⟨zBK4_0, zBK4_1, zBK4_2, zBK4_3⟩ := BK4.out.c4
  clear hHeld KP HT_ HW_
  rcases HF.out with ⟨rfl, f, hf, rfl⟩ | ⟨rfl, hf⟩
  · clear LK HF CELL
    obtain ⟨fn, g1, g2, g3⟩ := fop_fn hf
    by_cases he : er = 0
    · subst he
      skip
      go_wp2_with (((refine goesF_ (some 62) rfl rfl rfl rfl g1 g2 g3 #[.pointer (some ⟨gm, 0, none⟩), .agg #[.int .i64 k, .int .i64 a, .int .i64 b, .int .i64 j]] (by first | rfl | (simp only [List.map_toArray, List.map_cons, List.map_nil, List.append_toArray, List.cons_append, List.nil_append]; rfl) | (go_simp; done)) ?_); (with_reducible refine (ins_any (V.out.below (by repeat (first | (with_reducible first | exact Below.refl _ _ | apply below_alloc | apply pw_below_drewN | apply below_drew1) | exact Below.refl _ _))) hf (by simp only; omega) HR.out).mono ?_); rintro e_ w2 ⟨rfl, hs_⟩; obtain ⟨U2, ⟨gt2, vC2, vI2, vQ2, vM2, vE2, vL2, mo2, h2⟩, hc2, hu2⟩ := hs_.out; rw [vfin_ok] at h2; obtain ⟨AC2, cC2, AI2, cI2, AQ2, cQ2, AM2, cM2, AE2, cE2, rfl, rfl, rfl, rfl, rfl⟩ := h2.forms; have V2 := Aside0.mk h2; have HB0 := HB; have C2 := Aside0.mk hc2; have U2_ := Aside0.mk hu2; clear zBM_0 zBM_1 zBM_2 zBM_3 zBM_4 zBM_5 zBM_6 zBM_7 zBM_8 zBM_9 zBK4_0 zBK4_1 zBK4_2 zBK4_3; clear hs_ h2 hc2 hu2 V BM BK4 HB; have HB := Aside0.mk (Below.refl w2.heap.size w2); have BM : Aside0 (Bk w2 gm 98 #[.slice AC2 l.length cC2, .slice AI2 li.length cI2, .slice AQ2 s1.q.length cQ2, .slice AM2 s1.m.length cM2, .slice AE2 s1.e.length cE2, .int .i64 (np - 1), .bool s1.acc, .pointer (some ⟨gt2, 0, none⟩), .bool s1.ended, .int .i64 s1.fault]) := Aside0.mk (V2.out.bm); obtain ⟨zBM_0, zBM_1, zBM_2, zBM_3, zBM_4, zBM_5, zBM_6, zBM_7, zBM_8, zBM_9⟩ := BM.out.c10; have fBM_5 : w2.frozen? ⟨gm, 5, none⟩ = false := blk_frozen BM.out.blk 5; refine ⟨_, rfl, ?_⟩))
      go_ret2
      exact .inr ⟨rfl, rfl, Stp.from HB0.out (Stp.seq C2.out U2_.out (V2.out.stpc (V2.out.setPc np (by omega) hn1) ((Chg.refl (fun x => x = gm) _).setCell (p := ⟨gm, 5, none⟩) (.inl rfl) _)))⟩
      skip
    · have t0 : decide (er = 0) = false := decide_eq_false he
      have t1 : (er == 0) = false := beq_eq_false_iff_ne.mpr he
      have t2 : (er != 0) = true := bne_iff_ne.mpr he
      have HE := Aside0.mk he
      clear he
      skip
      go_wp2_with (((refine goesF_ (some 62) rfl rfl rfl rfl g1 g2 g3 #[.pointer (some ⟨gm, 0, none⟩), .agg #[.int .i64 k, .int .i64 a, .int .i64 b, .int .i64 j]] (by first | rfl | (simp only [List.map_toArray, List.map_cons, List.map_nil, List.append_toArray, List.cons_append, List.nil_append]; rfl) | (go_simp; done)) ?_); (with_reducible refine (ins_any (V.out.below (by repeat (first | (with_reducible first | exact Below.refl _ _ | apply below_alloc | apply pw_below_drewN | apply below_drew1) | exact Below.refl _ _))) hf (by simp only; omega) HR.out).mono ?_); rintro e_ w2 ⟨rfl, hs_⟩; obtain ⟨U2, ⟨gt2, vC2, vI2, vQ2, vM2, vE2, vL2, mo2, h2⟩, hc2, hu2⟩ := hs_.out; rw [vfin_err (by exact HE.out)] at h2; obtain ⟨AC2, cC2, AI2, cI2, AQ2, cQ2, AM2, cM2, AE2, cE2, rfl, rfl, rfl, rfl, rfl⟩ := h2.forms; have V2 := Aside0.mk h2; have HB0 := HB; have C2 := Aside0.mk hc2; have U2_ := Aside0.mk hu2; clear zBM_0 zBM_1 zBM_2 zBM_3 zBM_4 zBM_5 zBM_6 zBM_7 zBM_8 zBM_9 zBK4_0 zBK4_1 zBK4_2 zBK4_3; clear hs_ h2 hc2 hu2 V BM BK4 HB; have HB := Aside0.mk (Below.refl w2.heap.size w2); have BM : Aside0 (Bk w2 gm 98 #[.slice AC2 l.length cC2, .slice AI2 li.length cI2, .slice AQ2 q.length cQ2, .slice AM2 m.length cM2, .slice AE2 e.length cE2, .int .i64 (i : Int), .bool acc, .pointer (some ⟨gt2, 0, none⟩), .bool false, .int .i64 fault]) := Aside0.mk (V2.out.bm); obtain ⟨zBM_0, zBM_1, zBM_2, zBM_3, zBM_4, zBM_5, zBM_6, zBM_7, zBM_8, zBM_9⟩ := BM.out.c10; have fBM_8 : w2.frozen? ⟨gm, 8, none⟩ = false := blk_frozen BM.out.blk 8; have fBM_9 : w2.frozen? ⟨gm, 9, none⟩ = false := blk_frozen BM.out.blk 9; refine ⟨_, rfl, ?_⟩))
      go_ret2
      exact .inl ⟨HE.out, rfl, Stp.from HB0.out (Stp.seq C2.out U2_.out (V2.out.stpF er))⟩
      skip
  · have e_ := HR.out
    rw [core_none hf] at e_
    injection e_ with e1 e2
    subst e1
    clear e2 LK HF CELL hf
    have fBM_8 : w_.frozen? ⟨gm, 8, none⟩ = false := blk_frozen BM.out.blk 8
    have fBM_9 : w_.frozen? ⟨gm, 9, none⟩ = false := blk_frozen BM.out.blk 9
    go_wp2
    go_ret2
    exact .inl ⟨by decide, rfl, Stp.from HB.out (V.out.stpF 8)⟩
end
end
end Go.Proofs.Ytjohdkbciafpfaa.Vm6
