/- Several texts of this session in one (join.py): Rd, Rs. -/
import Derived.Test.YtjohdkbciafpfaaRpx
import Derived.Test.YtjohdkbciafpfaaVw
section
/- Chapter 06: the reference machine's do, walked. Written by gen/rd.py. -/
namespace Go.Proofs.Ytjohdkbciafpfaa.Vm6
open Go.RowKit Go.Proofs.YtjohdkbciafpfaaW.PrintWords Go.Proofs.YtjohdkbciafpfaaW.PrintMore Go.Proofs.YtjohdkbciafpfaaW.PrintLast Go.Proofs.Ytjohdkbciafpfaa.Chg Go.Proofs.Ytjohdkbciafpfaa.Evt Go.Proofs.Ytjohdkbciafpfaa.Impl
set_option linter.unusedVariables false
set_option linter.unusedSimpArgs false
set_option maxRecDepth 100000
section
variable {w w' w1 : World} {base : Nat} {V : Nat → Prop} {gm : Nat} {vC vI vQ vM vE vL : Value} {l : List S66} {li : List Bool} {s : MS} {k a b j : Int}
variable {q m e st : List Bool} {pc fault : Int} {acc ended : Bool}
set_option maxHeartbeats 32000000 in
theorem rdo_call (h : Rm w base V gm vC vI vQ vM vE vL l li ⟨q, m, e, pc, acc, st, ended, fault⟩) {s1 : MS} (hp : s1.pc = pc) {er : Int} (hc : ((0 ≤ k ∧ k ≤ 5) ∧ (∀ w1, Below w.heap.size w w1 → Calls Try.prog 69 #[.pointer (some ⟨gm, 0, none⟩), .agg #[.int .i64 k, .int .i64 a, .int .i64 b, .int .i64 j]] w1 fun x w' => x = .returned (.int .i64 er) ∧ Srp w1 base V gm l li s1 w')) ∨ (k = 6 ∧ (∀ w1, Below w.heap.size w w1 → Calls Try.prog 70 #[.pointer (some ⟨gm, 0, none⟩), .agg #[.int .i64 k, .int .i64 a, .int .i64 b, .int .i64 j]] w1 fun x w' => x = .returned (.int .i64 er) ∧ Srp w1 base V gm l li s1 w')) ∨ (k = 7 ∧ (∀ w1, Below w.heap.size w w1 → Calls Try.prog 70 #[.pointer (some ⟨gm, 0, none⟩), .agg #[.int .i64 k, .int .i64 a, .int .i64 b, .int .i64 j]] w1 fun x w' => x = .returned (.int .i64 er) ∧ Srp w1 base V gm l li s1 w')) ∨ (k = 9 ∧ (∀ w1, Below w.heap.size w w1 → Calls Try.prog 71 #[.pointer (some ⟨gm, 0, none⟩), .agg #[.int .i64 k, .int .i64 a, .int .i64 b, .int .i64 j]] w1 fun x w' => x = .returned (.int .i64 er) ∧ Srp w1 base V gm l li s1 w')) ∨ (k = 10 ∧ (∀ w1, Below w.heap.size w w1 → Calls Try.prog 71 #[.pointer (some ⟨gm, 0, none⟩), .agg #[.int .i64 k, .int .i64 a, .int .i64 b, .int .i64 j]] w1 fun x w' => x = .returned (.int .i64 er) ∧ Srp w1 base V gm l li s1 w')) ∨ ((11 ≤ k ∧ k ≤ 14) ∧ (∀ w1, Below w.heap.size w w1 → Calls Try.prog 72 #[.pointer (some ⟨gm, 0, none⟩), .agg #[.int .i64 k, .int .i64 a, .int .i64 b, .int .i64 j]] w1 fun x w' => x = .returned (.int .i64 er) ∧ Srp w1 base V gm l li s1 w'))) :
    Calls Try.prog 58 #[.pointer (some ⟨gm, 0, none⟩), .agg #[.int .i64 k, .int .i64 a, .int .i64 b, .int .i64 j]] w fun x w' => x = .returned (.tuple #[.int .i64 (pc + 1), .int .i64 er]) ∧ Srp w base V gm l li s1 w' := by
  obtain ⟨AC, cC, AI, cI, AQ, cQ, AM, cM, AE, cE, AL, cL, rfl, rfl, rfl, rfl, rfl, rfl⟩ := h.forms
  have q0 : -1 ≤ pc := h.fit.p0
  have q1 : pc ≤ 20000 := h.fit.p1
  have HP := Aside0.mk hp
  clear hp
  rcases hc with ⟨hk, hc⟩ | ⟨hk, hc⟩ | ⟨hk, hc⟩ | ⟨hk, hc⟩ | ⟨hk, hc⟩ | ⟨hk, hc⟩
  have g0 : decide (0 ≤ k) = true := decide_eq_true (by omega)
  have g5 : decide (k ≤ 5) = true := decide_eq_true (by omega)
  have g11 : decide (11 ≤ k) = false := decide_eq_false (by omega)
  have g6_ : decide (k = 6) = false := decide_eq_false (by omega)
  have g6_' : (k == 6) = false := by simp; omega
  have g7_ : decide (k = 7) = false := decide_eq_false (by omega)
  have g7_' : (k == 7) = false := by simp; omega
  have g8_ : decide (k = 8) = false := decide_eq_false (by omega)
  have g8_' : (k == 8) = false := by simp; omega
  have g9_ : decide (k = 9) = false := decide_eq_false (by omega)
  have g9_' : (k == 9) = false := by simp; omega
  have g10_ : decide (k = 10) = false := decide_eq_false (by omega)
  have g10_' : (k == 10) = false := by simp; omega
  have g15_ : decide (k = 15) = false := decide_eq_false (by omega)
  have g15_' : (k == 15) = false := by simp; omega
  have g16_ : decide (k = 16) = false := decide_eq_false (by omega)
  have g16_' : (k == 16) = false := by simp; omega
  have HC := Aside0.mk hc
  clear hk hc
  rotate_left
  have g0 : decide (0 ≤ k) = true := decide_eq_true (by omega)
  have g5 : decide (k ≤ 5) = false := decide_eq_false (by omega)
  have g11 : decide (11 ≤ k) = false := decide_eq_false (by omega)
  have g6_ : decide (k = 6) = true := decide_eq_true (by omega)
  have g6_' : (k == 6) = true := by simp; omega
  have g7_ : decide (k = 7) = false := decide_eq_false (by omega)
  have g7_' : (k == 7) = false := by simp; omega
  have g8_ : decide (k = 8) = false := decide_eq_false (by omega)
  have g8_' : (k == 8) = false := by simp; omega
  have g9_ : decide (k = 9) = false := decide_eq_false (by omega)
  have g9_' : (k == 9) = false := by simp; omega
  have g10_ : decide (k = 10) = false := decide_eq_false (by omega)
  have g10_' : (k == 10) = false := by simp; omega
  have g15_ : decide (k = 15) = false := decide_eq_false (by omega)
  have g15_' : (k == 15) = false := by simp; omega
  have g16_ : decide (k = 16) = false := decide_eq_false (by omega)
  have g16_' : (k == 16) = false := by simp; omega
  have HC := Aside0.mk hc
  clear hk hc
  rotate_left
  have g0 : decide (0 ≤ k) = true := decide_eq_true (by omega)
  have g5 : decide (k ≤ 5) = false := decide_eq_false (by omega)
  have g11 : decide (11 ≤ k) = false := decide_eq_false (by omega)
  have g6_ : decide (k = 6) = false := decide_eq_false (by omega)
  have g6_' : (k == 6) = false := by simp; omega
  have g7_ : decide (k = 7) = true := decide_eq_true (by omega)
  have g7_' : (k == 7) = true := by simp; omega
  have g8_ : decide (k = 8) = false := decide_eq_false (by omega)
  have g8_' : (k == 8) = false := by simp; omega
  have g9_ : decide (k = 9) = false := decide_eq_false (by omega)
  have g9_' : (k == 9) = false := by simp; omega
  have g10_ : decide (k = 10) = false := decide_eq_false (by omega)
  have g10_' : (k == 10) = false := by simp; omega
  have g15_ : decide (k = 15) = false := decide_eq_false (by omega)
  have g15_' : (k == 15) = false := by simp; omega
  have g16_ : decide (k = 16) = false := decide_eq_false (by omega)
  have g16_' : (k == 16) = false := by simp; omega
  have HC := Aside0.mk hc
  clear hk hc
  rotate_left
  have g0 : decide (0 ≤ k) = true := decide_eq_true (by omega)
  have g5 : decide (k ≤ 5) = false := decide_eq_false (by omega)
  have g11 : decide (11 ≤ k) = false := decide_eq_false (by omega)
  have g6_ : decide (k = 6) = false := decide_eq_false (by omega)
  have g6_' : (k == 6) = false := by simp; omega
  have g7_ : decide (k = 7) = false := decide_eq_false (by omega)
  have g7_' : (k == 7) = false := by simp; omega
  have g8_ : decide (k = 8) = false := decide_eq_false (by omega)
  have g8_' : (k == 8) = false := by simp; omega
  have g9_ : decide (k = 9) = true := decide_eq_true (by omega)
  have g9_' : (k == 9) = true := by simp; omega
  have g10_ : decide (k = 10) = false := decide_eq_false (by omega)
  have g10_' : (k == 10) = false := by simp; omega
  have g15_ : decide (k = 15) = false := decide_eq_false (by omega)
  have g15_' : (k == 15) = false := by simp; omega
  have g16_ : decide (k = 16) = false := decide_eq_false (by omega)
  have g16_' : (k == 16) = false := by simp; omega
  have HC := Aside0.mk hc
  clear hk hc
  rotate_left
  have g0 : decide (0 ≤ k) = true := decide_eq_true (by omega)
  have g5 : decide (k ≤ 5) = false := decide_eq_false (by omega)
  have g11 : decide (11 ≤ k) = false := decide_eq_false (by omega)
  have g6_ : decide (k = 6) = false := decide_eq_false (by omega)
  have g6_' : (k == 6) = false := by simp; omega
  have g7_ : decide (k = 7) = false := decide_eq_false (by omega)
  have g7_' : (k == 7) = false := by simp; omega
  have g8_ : decide (k = 8) = false := decide_eq_false (by omega)
  have g8_' : (k == 8) = false := by simp; omega
  have g9_ : decide (k = 9) = false := decide_eq_false (by omega)
  have g9_' : (k == 9) = false := by simp; omega
  have g10_ : decide (k = 10) = true := decide_eq_true (by omega)
  have g10_' : (k == 10) = true := by simp; omega
  have g15_ : decide (k = 15) = false := decide_eq_false (by omega)
  have g15_' : (k == 15) = false := by simp; omega
  have g16_ : decide (k = 16) = false := decide_eq_false (by omega)
  have g16_' : (k == 16) = false := by simp; omega
  have HC := Aside0.mk hc
  clear hk hc
  rotate_left
  have g0 : decide (0 ≤ k) = true := decide_eq_true (by omega)
  have g5 : decide (k ≤ 5) = false := decide_eq_false (by omega)
  have g11 : decide (11 ≤ k) = true := decide_eq_true (by omega)
  have g14 : decide (k ≤ 14) = true := decide_eq_true (by omega)
  have g6_ : decide (k = 6) = false := decide_eq_false (by omega)
  have g6_' : (k == 6) = false := by simp; omega
  have g7_ : decide (k = 7) = false := decide_eq_false (by omega)
  have g7_' : (k == 7) = false := by simp; omega
  have g8_ : decide (k = 8) = false := decide_eq_false (by omega)
  have g8_' : (k == 8) = false := by simp; omega
  have g9_ : decide (k = 9) = false := decide_eq_false (by omega)
  have g9_' : (k == 9) = false := by simp; omega
  have g10_ : decide (k = 10) = false := decide_eq_false (by omega)
  have g10_' : (k == 10) = false := by simp; omega
  have g15_ : decide (k = 15) = false := decide_eq_false (by omega)
  have g15_' : (k == 15) = false := by simp; omega
  have g16_ : decide (k = 16) = false := decide_eq_false (by omega)
  have g16_' : (k == 16) = false := by simp; omega
  have HC := Aside0.mk hc
  clear hk hc
  rotate_left
  all_goals
    have HB := Aside0.mk (Below.refl w.heap.size w)
    have VV := Aside0.mk (h)
    have BM : Aside0 (Bk w gm 83 #[.slice AC l.length cC, .slice AI li.length cI, .slice AQ q.length cQ, .slice AM m.length cM, .slice AE e.length cE, .int .i64 pc, .bool acc, .slice AL st.length cL, .bool ended, .int .i64 fault]) := Aside0.mk (h.bm)
    clear h
    obtain ⟨zBM_0, zBM_1, zBM_2, zBM_3, zBM_4, zBM_5, zBM_6, zBM_7, zBM_8, zBM_9⟩ := BM.out.c10
    go_enter Try.func58, Try.ntmps58
    go_wp2_with (first | ((with_reducible refine gate_dst (N := 3) rfl ?_); refine box_event ?hg (N := 3) ?hd (cs := #[.int .i64 k, .int .i64 a, .int .i64 b, .int .i64 j]) (t := 66) ?hr ?_; (case hd => rfl); (case hg => rfl); (case hr => first | (go_simp; done) | (go_simp; rfl)); intro g3 hg w1 hbox hb; have hbx : Below w.heap.size w w1 := below_step (by repeat (first | (with_reducible first | exact Below.refl _ _ | apply below_alloc | apply pw_below_drewN | apply below_drew1) | exact Below.refl _ _)) hb; clear zBM_0 zBM_1 zBM_2 zBM_3 zBM_4 zBM_5 zBM_6 zBM_7 zBM_8 zBM_9; replace VV := Aside0.mk (VV.out.below hbx); replace BM := Aside0.mk (BM.out.below hbx); replace HB := Aside0.mk (below_step HB.out hbx); clear hbx; have BK3 := Aside0.mk (Bk.mk (hbox : Blk w1 g3 66 #[.int .i64 k, .int .i64 a, .int .i64 b, .int .i64 j])); clear hbox hg hb; obtain ⟨zBM_0, zBM_1, zBM_2, zBM_3, zBM_4, zBM_5, zBM_6, zBM_7, zBM_8, zBM_9⟩ := BM.out.c10; obtain ⟨zBK3_0, zBK3_1, zBK3_2, zBK3_3⟩ := BK3.out.c4) | (skip; ((with_reducible refine gate_callee (f := 69) rfl ?_); refine goesL_ (some 18) rfl rfl Try.func69 (by kernel_rfl) rfl #[.pointer (some ⟨gm, 0, none⟩), .agg #[.int .i64 k, .int .i64 a, .int .i64 b, .int .i64 j]] rfl (by (try simp only [List.map_toArray, List.map_cons, List.map_nil]); first | done | rfl | (simp only [List.length_drop, List.length_take]; rfl)) ?_; (with_reducible refine (HC.out _ (below_step HB.out (by repeat (first | (with_reducible first | exact Below.refl _ _ | apply below_alloc | apply pw_below_drewN | apply below_drew1) | exact Below.refl _ _)))).mono ?_); rintro e_ w8 ⟨rfl, hs_⟩; have SR := Aside0.mk (Srp.from (below_step HB.out (by repeat (first | (with_reducible first | exact Below.refl _ _ | apply below_alloc | apply pw_below_drewN | apply below_drew1) | exact Below.refl _ _))) hs_); obtain ⟨V8, ⟨vC8, vI8, vQ8, vM8, vE8, vL8, R8⟩, _, _⟩ := hs_.out; have z5 : w8.cell? ⟨gm, 5, none⟩ = some (.int .i64 s1.pc) := R8.bm.blk.cell 5 rfl; rw [HP.out] at z5; clear hs_ R8; refine ⟨_, rfl, ?_⟩)) | (skip; skip; ((with_reducible refine gate_callee (f := 70) rfl ?_); refine goesL_ (some 30) rfl rfl Try.func70 (by kernel_rfl) rfl #[.pointer (some ⟨gm, 0, none⟩), .agg #[.int .i64 k, .int .i64 a, .int .i64 b, .int .i64 j]] rfl (by (try simp only [List.map_toArray, List.map_cons, List.map_nil]); first | done | rfl | (simp only [List.length_drop, List.length_take]; rfl)) ?_; (with_reducible refine (HC.out _ (below_step HB.out (by repeat (first | (with_reducible first | exact Below.refl _ _ | apply below_alloc | apply pw_below_drewN | apply below_drew1) | exact Below.refl _ _)))).mono ?_); rintro e_ w8 ⟨rfl, hs_⟩; have SR := Aside0.mk (Srp.from (below_step HB.out (by repeat (first | (with_reducible first | exact Below.refl _ _ | apply below_alloc | apply pw_below_drewN | apply below_drew1) | exact Below.refl _ _))) hs_); obtain ⟨V8, ⟨vC8, vI8, vQ8, vM8, vE8, vL8, R8⟩, _, _⟩ := hs_.out; have z5 : w8.cell? ⟨gm, 5, none⟩ = some (.int .i64 s1.pc) := R8.bm.blk.cell 5 rfl; rw [HP.out] at z5; clear hs_ R8; refine ⟨_, rfl, ?_⟩)) | (skip; skip; ((with_reducible refine gate_callee (f := 71) rfl ?_); refine goesL_ (some 67) rfl rfl Try.func71 (by kernel_rfl) rfl #[.pointer (some ⟨gm, 0, none⟩), .agg #[.int .i64 k, .int .i64 a, .int .i64 b, .int .i64 j]] rfl (by (try simp only [List.map_toArray, List.map_cons, List.map_nil]); first | done | rfl | (simp only [List.length_drop, List.length_take]; rfl)) ?_; (with_reducible refine (HC.out _ (below_step HB.out (by repeat (first | (with_reducible first | exact Below.refl _ _ | apply below_alloc | apply pw_below_drewN | apply below_drew1) | exact Below.refl _ _)))).mono ?_); rintro e_ w8 ⟨rfl, hs_⟩; have SR := Aside0.mk (Srp.from (below_step HB.out (by repeat (first | (with_reducible first | exact Below.refl _ _ | apply below_alloc | apply pw_below_drewN | apply below_drew1) | exact Below.refl _ _))) hs_); obtain ⟨V8, ⟨vC8, vI8, vQ8, vM8, vE8, vL8, R8⟩, _, _⟩ := hs_.out; have z5 : w8.cell? ⟨gm, 5, none⟩ = some (.int .i64 s1.pc) := R8.bm.blk.cell 5 rfl; rw [HP.out] at z5; clear hs_ R8; refine ⟨_, rfl, ?_⟩)) | (skip; skip; ((with_reducible refine gate_callee (f := 72) rfl ?_); refine goesL_ (some 79) rfl rfl Try.func72 (by kernel_rfl) rfl #[.pointer (some ⟨gm, 0, none⟩), .agg #[.int .i64 k, .int .i64 a, .int .i64 b, .int .i64 j]] rfl (by (try simp only [List.map_toArray, List.map_cons, List.map_nil]); first | done | rfl | (simp only [List.length_drop, List.length_take]; rfl)) ?_; (with_reducible refine (HC.out _ (below_step HB.out (by repeat (first | (with_reducible first | exact Below.refl _ _ | apply below_alloc | apply pw_below_drewN | apply below_drew1) | exact Below.refl _ _)))).mono ?_); rintro e_ w8 ⟨rfl, hs_⟩; have SR := Aside0.mk (Srp.from (below_step HB.out (by repeat (first | (with_reducible first | exact Below.refl _ _ | apply below_alloc | apply pw_below_drewN | apply below_drew1) | exact Below.refl _ _))) hs_); obtain ⟨V8, ⟨vC8, vI8, vQ8, vM8, vE8, vL8, R8⟩, _, _⟩ := hs_.out; have z5 : w8.cell? ⟨gm, 5, none⟩ = some (.int .i64 s1.pc) := R8.bm.blk.cell 5 rfl; rw [HP.out] at z5; clear hs_ R8; refine ⟨_, rfl, ?_⟩)))
    go_ret2
    exact ⟨rfl, SR.out⟩
set_option maxHeartbeats 16000000 in
theorem rdo_full (h : Rm w base V gm vC vI vQ vM vE vL l li ⟨q, m, e, pc, acc, st, ended, fault⟩) (hk : k = 8) (hs : st.length = 64) :
    Calls Try.prog 58 #[.pointer (some ⟨gm, 0, none⟩), .agg #[.int .i64 k, .int .i64 a, .int .i64 b, .int .i64 j]] w fun x w' => x = .returned (.tuple #[.int .i64 0, .int .i64 10]) ∧ Srp w base V gm l li ⟨q, m, e, pc, acc, st, ended, fault⟩ w' := by
  obtain ⟨AC, cC, AI, cI, AQ, cQ, AM, cM, AE, cE, AL, cL, rfl, rfl, rfl, rfl, rfl, rfl⟩ := h.forms
  have g0 : decide (0 ≤ k) = true := decide_eq_true (by omega)
  have g5 : decide (k ≤ 5) = false := decide_eq_false (by omega)
  have g11 : decide (11 ≤ k) = false := decide_eq_false (by omega)
  have g6_ : decide (k = 6) = false := decide_eq_false (by omega)
  have g6_' : (k == 6) = false := by simp; omega
  have g7_ : decide (k = 7) = false := decide_eq_false (by omega)
  have g7_' : (k == 7) = false := by simp; omega
  have g8_ : decide (k = 8) = true := decide_eq_true (by omega)
  have g8_' : (k == 8) = true := by simp; omega
  have g9_ : decide (k = 9) = false := decide_eq_false (by omega)
  have g9_' : (k == 9) = false := by simp; omega
  have g10_ : decide (k = 10) = false := decide_eq_false (by omega)
  have g10_' : (k == 10) = false := by simp; omega
  have g15_ : decide (k = 15) = false := decide_eq_false (by omega)
  have g15_' : (k == 15) = false := by simp; omega
  have g16_ : decide (k = 16) = false := decide_eq_false (by omega)
  have g16_' : (k == 16) = false := by simp; omega
  have f1 : decide (64 ≤ st.length) = true := decide_eq_true (by omega)
  have f2 : decide ((64 : Int) ≤ (st.length : Int)) = true := decide_eq_true (by omega)
  clear hk hs
  have HB := Aside0.mk (Below.refl w.heap.size w)
  have VV := Aside0.mk (h)
  have BM : Aside0 (Bk w gm 83 #[.slice AC l.length cC, .slice AI li.length cI, .slice AQ q.length cQ, .slice AM m.length cM, .slice AE e.length cE, .int .i64 pc, .bool acc, .slice AL st.length cL, .bool ended, .int .i64 fault]) := Aside0.mk (h.bm)
  clear h
  obtain ⟨zBM_0, zBM_1, zBM_2, zBM_3, zBM_4, zBM_5, zBM_6, zBM_7, zBM_8, zBM_9⟩ := BM.out.c10
  go_enter Try.func58, Try.ntmps58
  go_wp2_with (((with_reducible refine gate_dst (N := 3) rfl ?_); refine box_event ?hg (N := 3) ?hd (cs := #[.int .i64 k, .int .i64 a, .int .i64 b, .int .i64 j]) (t := 66) ?hr ?_; (case hd => rfl); (case hg => rfl); (case hr => first | (go_simp; done) | (go_simp; rfl)); intro g3 hg w1 hbox hb; have hbx : Below w.heap.size w w1 := below_step (by repeat (first | (with_reducible first | exact Below.refl _ _ | apply below_alloc | apply pw_below_drewN | apply below_drew1) | exact Below.refl _ _)) hb; clear zBM_0 zBM_1 zBM_2 zBM_3 zBM_4 zBM_5 zBM_6 zBM_7 zBM_8 zBM_9; replace VV := Aside0.mk (VV.out.below hbx); replace BM := Aside0.mk (BM.out.below hbx); replace HB := Aside0.mk (below_step HB.out hbx); clear hbx; have BK3 := Aside0.mk (Bk.mk (hbox : Blk w1 g3 66 #[.int .i64 k, .int .i64 a, .int .i64 b, .int .i64 j])); clear hbox hg hb; obtain ⟨zBM_0, zBM_1, zBM_2, zBM_3, zBM_4, zBM_5, zBM_6, zBM_7, zBM_8, zBM_9⟩ := BM.out.c10; obtain ⟨zBK3_0, zBK3_1, zBK3_2, zBK3_3⟩ := BK3.out.c4))
  go_ret2
  exact ⟨rfl, (Srp.here ⟨_, _, _, _, _, _, VV.out⟩).from HB.out⟩
set_option maxHeartbeats 16000000 in
theorem rdo_bad (h : Rm w base V gm vC vI vQ vM vE vL l li ⟨q, m, e, pc, acc, st, ended, fault⟩) (hk : k < 0 ∨ 16 < k) :
    Calls Try.prog 58 #[.pointer (some ⟨gm, 0, none⟩), .agg #[.int .i64 k, .int .i64 a, .int .i64 b, .int .i64 j]] w fun x w' => x = .returned (.tuple #[.int .i64 0, .int .i64 8]) ∧ Srp w base V gm l li ⟨q, m, e, pc, acc, st, ended, fault⟩ w' := by
  obtain ⟨AC, cC, AI, cI, AQ, cQ, AM, cM, AE, cE, AL, cL, rfl, rfl, rfl, rfl, rfl, rfl⟩ := h.forms
  rcases hk with hk | hk
  have g0 : decide (0 ≤ k) = false := decide_eq_false (by omega)
  have g11 : decide (11 ≤ k) = false := decide_eq_false (by omega)
  have g6_ : decide (k = 6) = false := decide_eq_false (by omega)
  have g6_' : (k == 6) = false := by simp; omega
  have g7_ : decide (k = 7) = false := decide_eq_false (by omega)
  have g7_' : (k == 7) = false := by simp; omega
  have g8_ : decide (k = 8) = false := decide_eq_false (by omega)
  have g8_' : (k == 8) = false := by simp; omega
  have g9_ : decide (k = 9) = false := decide_eq_false (by omega)
  have g9_' : (k == 9) = false := by simp; omega
  have g10_ : decide (k = 10) = false := decide_eq_false (by omega)
  have g10_' : (k == 10) = false := by simp; omega
  have g15_ : decide (k = 15) = false := decide_eq_false (by omega)
  have g15_' : (k == 15) = false := by simp; omega
  have g16_ : decide (k = 16) = false := decide_eq_false (by omega)
  have g16_' : (k == 16) = false := by simp; omega
  clear hk
  rotate_left
  have g0 : decide (0 ≤ k) = true := decide_eq_true (by omega)
  have g5 : decide (k ≤ 5) = false := decide_eq_false (by omega)
  have g11 : decide (11 ≤ k) = true := decide_eq_true (by omega)
  have g14 : decide (k ≤ 14) = false := decide_eq_false (by omega)
  have g6_ : decide (k = 6) = false := decide_eq_false (by omega)
  have g6_' : (k == 6) = false := by simp; omega
  have g7_ : decide (k = 7) = false := decide_eq_false (by omega)
  have g7_' : (k == 7) = false := by simp; omega
  have g8_ : decide (k = 8) = false := decide_eq_false (by omega)
  have g8_' : (k == 8) = false := by simp; omega
  have g9_ : decide (k = 9) = false := decide_eq_false (by omega)
  have g9_' : (k == 9) = false := by simp; omega
  have g10_ : decide (k = 10) = false := decide_eq_false (by omega)
  have g10_' : (k == 10) = false := by simp; omega
  have g15_ : decide (k = 15) = false := decide_eq_false (by omega)
  have g15_' : (k == 15) = false := by simp; omega
  have g16_ : decide (k = 16) = false := decide_eq_false (by omega)
  have g16_' : (k == 16) = false := by simp; omega
  clear hk
  rotate_left
  all_goals
    have HB := Aside0.mk (Below.refl w.heap.size w)
    have VV := Aside0.mk (h)
    have BM : Aside0 (Bk w gm 83 #[.slice AC l.length cC, .slice AI li.length cI, .slice AQ q.length cQ, .slice AM m.length cM, .slice AE e.length cE, .int .i64 pc, .bool acc, .slice AL st.length cL, .bool ended, .int .i64 fault]) := Aside0.mk (h.bm)
    clear h
    obtain ⟨zBM_0, zBM_1, zBM_2, zBM_3, zBM_4, zBM_5, zBM_6, zBM_7, zBM_8, zBM_9⟩ := BM.out.c10
    go_enter Try.func58, Try.ntmps58
    go_wp2_with (((with_reducible refine gate_dst (N := 3) rfl ?_); refine box_event ?hg (N := 3) ?hd (cs := #[.int .i64 k, .int .i64 a, .int .i64 b, .int .i64 j]) (t := 66) ?hr ?_; (case hd => rfl); (case hg => rfl); (case hr => first | (go_simp; done) | (go_simp; rfl)); intro g3 hg w1 hbox hb; have hbx : Below w.heap.size w w1 := below_step (by repeat (first | (with_reducible first | exact Below.refl _ _ | apply below_alloc | apply pw_below_drewN | apply below_drew1) | exact Below.refl _ _)) hb; clear zBM_0 zBM_1 zBM_2 zBM_3 zBM_4 zBM_5 zBM_6 zBM_7 zBM_8 zBM_9; replace VV := Aside0.mk (VV.out.below hbx); replace BM := Aside0.mk (BM.out.below hbx); replace HB := Aside0.mk (below_step HB.out hbx); clear hbx; have BK3 := Aside0.mk (Bk.mk (hbox : Blk w1 g3 66 #[.int .i64 k, .int .i64 a, .int .i64 b, .int .i64 j])); clear hbox hg hb; obtain ⟨zBM_0, zBM_1, zBM_2, zBM_3, zBM_4, zBM_5, zBM_6, zBM_7, zBM_8, zBM_9⟩ := BM.out.c10; obtain ⟨zBK3_0, zBK3_1, zBK3_2, zBK3_3⟩ := BK3.out.c4))
    go_ret2
    exact ⟨rfl, (Srp.here ⟨_, _, _, _, _, _, VV.out⟩).from HB.out⟩
set_option maxHeartbeats 16000000 in
theorem rdo_end (h : Rm w base V gm vC vI vQ vM vE vL l li ⟨q, m, e, pc, acc, st, ended, fault⟩) (hk : k = 16) :
    Calls Try.prog 58 #[.pointer (some ⟨gm, 0, none⟩), .agg #[.int .i64 k, .int .i64 a, .int .i64 b, .int .i64 j]] w fun x w' => x = .returned (.tuple #[.int .i64 pc, .int .i64 0]) ∧ Srp w base V gm l li ⟨q, m, e, pc, acc, st, true, fault⟩ w' := by
  obtain ⟨AC, cC, AI, cI, AQ, cQ, AM, cM, AE, cE, AL, cL, rfl, rfl, rfl, rfl, rfl, rfl⟩ := h.forms
  have q0 : -1 ≤ pc := h.fit.p0
  have q1 : pc ≤ 20000 := h.fit.p1
  have g0 : decide (0 ≤ k) = true := decide_eq_true (by omega)
  have g5 : decide (k ≤ 5) = false := decide_eq_false (by omega)
  have g11 : decide (11 ≤ k) = true := decide_eq_true (by omega)
  have g14 : decide (k ≤ 14) = false := decide_eq_false (by omega)
  have g6_ : decide (k = 6) = false := decide_eq_false (by omega)
  have g6_' : (k == 6) = false := by simp; omega
  have g7_ : decide (k = 7) = false := decide_eq_false (by omega)
  have g7_' : (k == 7) = false := by simp; omega
  have g8_ : decide (k = 8) = false := decide_eq_false (by omega)
  have g8_' : (k == 8) = false := by simp; omega
  have g9_ : decide (k = 9) = false := decide_eq_false (by omega)
  have g9_' : (k == 9) = false := by simp; omega
  have g10_ : decide (k = 10) = false := decide_eq_false (by omega)
  have g10_' : (k == 10) = false := by simp; omega
  have g15_ : decide (k = 15) = false := decide_eq_false (by omega)
  have g15_' : (k == 15) = false := by simp; omega
  have g16_ : decide (k = 16) = true := decide_eq_true (by omega)
  have g16_' : (k == 16) = true := by simp; omega
  clear hk
  have HB := Aside0.mk (Below.refl w.heap.size w)
  have VV := Aside0.mk (h)
  have BM : Aside0 (Bk w gm 83 #[.slice AC l.length cC, .slice AI li.length cI, .slice AQ q.length cQ, .slice AM m.length cM, .slice AE e.length cE, .int .i64 pc, .bool acc, .slice AL st.length cL, .bool ended, .int .i64 fault]) := Aside0.mk (h.bm)
  clear h
  obtain ⟨zBM_0, zBM_1, zBM_2, zBM_3, zBM_4, zBM_5, zBM_6, zBM_7, zBM_8, zBM_9⟩ := BM.out.c10
  go_enter Try.func58, Try.ntmps58
  go_wp2_with (((with_reducible refine gate_dst (N := 3) rfl ?_); refine box_event ?hg (N := 3) ?hd (cs := #[.int .i64 k, .int .i64 a, .int .i64 b, .int .i64 j]) (t := 66) ?hr ?_; (case hd => rfl); (case hg => rfl); (case hr => first | (go_simp; done) | (go_simp; rfl)); intro g3 hg w1 hbox hb; have hbx : Below w.heap.size w w1 := below_step (by repeat (first | (with_reducible first | exact Below.refl _ _ | apply below_alloc | apply pw_below_drewN | apply below_drew1) | exact Below.refl _ _)) hb; clear zBM_0 zBM_1 zBM_2 zBM_3 zBM_4 zBM_5 zBM_6 zBM_7 zBM_8 zBM_9; replace VV := Aside0.mk (VV.out.below hbx); replace BM := Aside0.mk (BM.out.below hbx); replace HB := Aside0.mk (below_step HB.out hbx); clear hbx; have BK3 := Aside0.mk (Bk.mk (hbox : Blk w1 g3 66 #[.int .i64 k, .int .i64 a, .int .i64 b, .int .i64 j])); clear hbox hg hb; obtain ⟨zBM_0, zBM_1, zBM_2, zBM_3, zBM_4, zBM_5, zBM_6, zBM_7, zBM_8, zBM_9⟩ := BM.out.c10; obtain ⟨zBK3_0, zBK3_1, zBK3_2, zBK3_3⟩ := BK3.out.c4); have fBM_8 : w1.frozen? ⟨gm, 8, none⟩ = false := blk_frozen BM.out.blk 8)
  go_ret2
  exact ⟨rfl, Srp.from HB.out (VV.out.wEnd true)⟩
set_option maxHeartbeats 16000000 in
theorem rdo_out (h : Rm w base V gm vC vI vQ vM vE vL l li ⟨q, m, e, pc, acc, st, ended, fault⟩) (hk : k = 15) (hj : ¬ (0 ≤ j ∧ j < l.length)) :
    Calls Try.prog 58 #[.pointer (some ⟨gm, 0, none⟩), .agg #[.int .i64 k, .int .i64 a, .int .i64 b, .int .i64 j]] w fun x w' => x = .returned (.tuple #[.int .i64 0, .int .i64 3]) ∧ Srp w base V gm l li ⟨q, m, e, pc, acc, st, ended, fault⟩ w' := by
  obtain ⟨AC, cC, AI, cI, AQ, cQ, AM, cM, AE, cE, AL, cL, rfl, rfl, rfl, rfl, rfl, rfl⟩ := h.forms
  have g0 : decide (0 ≤ k) = true := decide_eq_true (by omega)
  have g5 : decide (k ≤ 5) = false := decide_eq_false (by omega)
  have g11 : decide (11 ≤ k) = true := decide_eq_true (by omega)
  have g14 : decide (k ≤ 14) = false := decide_eq_false (by omega)
  have g6_ : decide (k = 6) = false := decide_eq_false (by omega)
  have g6_' : (k == 6) = false := by simp; omega
  have g7_ : decide (k = 7) = false := decide_eq_false (by omega)
  have g7_' : (k == 7) = false := by simp; omega
  have g8_ : decide (k = 8) = false := decide_eq_false (by omega)
  have g8_' : (k == 8) = false := by simp; omega
  have g9_ : decide (k = 9) = false := decide_eq_false (by omega)
  have g9_' : (k == 9) = false := by simp; omega
  have g10_ : decide (k = 10) = false := decide_eq_false (by omega)
  have g10_' : (k == 10) = false := by simp; omega
  have g15_ : decide (k = 15) = true := decide_eq_true (by omega)
  have g15_' : (k == 15) = true := by simp; omega
  have g16_ : decide (k = 16) = false := decide_eq_false (by omega)
  have g16_' : (k == 16) = false := by simp; omega
  by_cases hj0 : j < 0
  case' pos => have j0 : decide (j < 0) = true := decide_eq_true hj0
  case' neg =>
    have j0 : decide (j < 0) = false := decide_eq_false hj0
    have j1 : decide ((l.length : Int) ≤ j) = true := decide_eq_true (by omega)
  all_goals
    clear hk hj hj0
    have HB := Aside0.mk (Below.refl w.heap.size w)
    have VV := Aside0.mk (h)
    have BM : Aside0 (Bk w gm 83 #[.slice AC l.length cC, .slice AI li.length cI, .slice AQ q.length cQ, .slice AM m.length cM, .slice AE e.length cE, .int .i64 pc, .bool acc, .slice AL st.length cL, .bool ended, .int .i64 fault]) := Aside0.mk (h.bm)
    clear h
    obtain ⟨zBM_0, zBM_1, zBM_2, zBM_3, zBM_4, zBM_5, zBM_6, zBM_7, zBM_8, zBM_9⟩ := BM.out.c10
    go_enter Try.func58, Try.ntmps58
    go_wp2_with (((with_reducible refine gate_dst (N := 3) rfl ?_); refine box_event ?hg (N := 3) ?hd (cs := #[.int .i64 k, .int .i64 a, .int .i64 b, .int .i64 j]) (t := 66) ?hr ?_; (case hd => rfl); (case hg => rfl); (case hr => first | (go_simp; done) | (go_simp; rfl)); intro g3 hg w1 hbox hb; have hbx : Below w.heap.size w w1 := below_step (by repeat (first | (with_reducible first | exact Below.refl _ _ | apply below_alloc | apply pw_below_drewN | apply below_drew1) | exact Below.refl _ _)) hb; clear zBM_0 zBM_1 zBM_2 zBM_3 zBM_4 zBM_5 zBM_6 zBM_7 zBM_8 zBM_9; replace VV := Aside0.mk (VV.out.below hbx); replace BM := Aside0.mk (BM.out.below hbx); replace HB := Aside0.mk (below_step HB.out hbx); clear hbx; have BK3 := Aside0.mk (Bk.mk (hbox : Blk w1 g3 66 #[.int .i64 k, .int .i64 a, .int .i64 b, .int .i64 j])); clear hbox hg hb; obtain ⟨zBM_0, zBM_1, zBM_2, zBM_3, zBM_4, zBM_5, zBM_6, zBM_7, zBM_8, zBM_9⟩ := BM.out.c10; obtain ⟨zBK3_0, zBK3_1, zBK3_2, zBK3_3⟩ := BK3.out.c4))
    have KP := Aside0.mk (fun w' (hb : Below w1.heap.size w1 w') => And.intro ((BM.out.below hb).c10) ((BK3.out.below hb).c4))
    clear zBM_0 zBM_1 zBM_2 zBM_3 zBM_4 zBM_5 zBM_6 zBM_7 zBM_8 zBM_9 zBK3_0 zBK3_1 zBK3_2 zBK3_3
    refine Evt.ow_start (w0 := w1) (T := (true, [([], []), ([0], [0]), ([1], [1]), ([2], [2]), ([3], [3]), ([4, 3], [3, 4]), ([3], [3]), ([6, 3], [3, 6]), ([7, 3], [3, 7]), ([8, 3], [3, 8]), ([9, 3], [3, 9]), ([5, 10, 3], [3, 5, 10]), ([3, 11], [3, 11])])) (B := [0, 1, 3, 7, 15, 31, 15, 79, 207, 463, 975, 2047, 4095]) 13 [(0, some 84), (1, some 85), (2, some 86), (3, some 87), (4, some 88), (6, some 90), (7, some 91), (8, some 92), (5, some 89), (9, some 93), (10, some 94), (11, some 95), (12, some 96)] (by kernel_rfl) rfl (by kernel_rfl) (by kernel_rfl) (by kernel_rfl) (by repeat (first | (with_reducible first | exact Below.refl _ _ | apply below_alloc | apply pw_below_drewN | apply below_drew1) | exact Below.refl _ _)) ?_
    intro HT_ HW_ w_ hHeld
    iterate 13 (first | (refine Evt.ow_off (a' := ?_) HT_ rfl rfl (by rfl) (by kernel_rfl) (fun _ _ _ h => h) ?_ ?_; rotate_left; (· (try simp only [Act.put, List.setIfInBounds_toArray, List.set_cons_zero, List.set_cons_succ, i64_w, i32_w]); rfl)) | (refine Evt.ow_pure (a' := ?_) (v := ?_) HT_ rfl rfl rfl (by rfl) (by kernel_rfl) (fun _ _ _ h => h) ?_ ?_ ?_; rotate_left 2; (· intro w'; go_simp; with_reducible rfl); (· (try simp only [Act.put, List.setIfInBounds_toArray, List.set_cons_zero, List.set_cons_succ, i64_w, i32_w]); rfl)) | (refine Evt.ow_load (a' := ?_) (v := ?_) HT_ HW_ hHeld rfl rfl rfl (by rfl) (by kernel_rfl) (fun _ _ _ h => h) ?_ ?_ ?_; rotate_left 2; (· intro w' hS_; obtain ⟨⟨s0, s1, s2, s3, s4, s5, s6, s7, s8, s9⟩, ⟨s10, s11, s12, s13⟩⟩ := KP.out w' hS_.out; go_simp; with_reducible rfl); (· (try simp only [Act.put, List.setIfInBounds_toArray, List.set_cons_zero, List.set_cons_succ, i64_w, i32_w]); rfl)))
    refine Evt.ow_done HT_ (by kernel_rfl) ?_
    refine Evt.gen_any (w0 := w1) hHeld.out ?_
    intro w2 hbx
    clear hHeld HT_ HW_ KP
    replace VV := Aside0.mk (VV.out.below hbx)
    replace BM := Aside0.mk (BM.out.below hbx)
    replace BK3 := Aside0.mk (BK3.out.below hbx)
    replace HB := Aside0.mk (below_step HB.out hbx)
    clear hbx
    obtain ⟨zBM_0, zBM_1, zBM_2, zBM_3, zBM_4, zBM_5, zBM_6, zBM_7, zBM_8, zBM_9⟩ := BM.out.c10
    obtain ⟨zBK3_0, zBK3_1, zBK3_2, zBK3_3⟩ := BK3.out.c4
    go_wp2
    go_ret2
    exact ⟨rfl, (Srp.here ⟨_, _, _, _, _, _, VV.out⟩).from HB.out⟩
set_option maxHeartbeats 16000000 in
theorem rdo_in (h : Rm w base V gm vC vI vQ vM vE vL l li ⟨q, m, e, pc, acc, st, ended, fault⟩) (hk : k = 15) (hj : 0 ≤ j ∧ j < l.length) {np er : Int} (hp : (j ≤ pc ∧ np = 0 ∧ er = 17) ∨ (pc < j ∧ np = (if acc = true then j else pc + 1) ∧ er = 0)) :
    Calls Try.prog 58 #[.pointer (some ⟨gm, 0, none⟩), .agg #[.int .i64 k, .int .i64 a, .int .i64 b, .int .i64 j]] w fun x w' => x = .returned (.tuple #[.int .i64 np, .int .i64 er]) ∧ Srp w base V gm l li ⟨q, m, e, pc, acc, st, ended, fault⟩ w' := by
  obtain ⟨AC, cC, AI, cI, AQ, cQ, AM, cM, AE, cE, AL, cL, rfl, rfl, rfl, rfl, rfl, rfl⟩ := h.forms
  have q0 : -1 ≤ pc := h.fit.p0
  have q1 : pc ≤ 20000 := h.fit.p1
  have g0 : decide (0 ≤ k) = true := decide_eq_true (by omega)
  have g5 : decide (k ≤ 5) = false := decide_eq_false (by omega)
  have g11 : decide (11 ≤ k) = true := decide_eq_true (by omega)
  have g14 : decide (k ≤ 14) = false := decide_eq_false (by omega)
  have g6_ : decide (k = 6) = false := decide_eq_false (by omega)
  have g6_' : (k == 6) = false := by simp; omega
  have g7_ : decide (k = 7) = false := decide_eq_false (by omega)
  have g7_' : (k == 7) = false := by simp; omega
  have g8_ : decide (k = 8) = false := decide_eq_false (by omega)
  have g8_' : (k == 8) = false := by simp; omega
  have g9_ : decide (k = 9) = false := decide_eq_false (by omega)
  have g9_' : (k == 9) = false := by simp; omega
  have g10_ : decide (k = 10) = false := decide_eq_false (by omega)
  have g10_' : (k == 10) = false := by simp; omega
  have g15_ : decide (k = 15) = true := decide_eq_true (by omega)
  have g15_' : (k == 15) = true := by simp; omega
  have g16_ : decide (k = 16) = false := decide_eq_false (by omega)
  have g16_' : (k == 16) = false := by simp; omega
  have j0 : decide (j < 0) = false := decide_eq_false (by omega)
  have j1 : decide ((l.length : Int) ≤ j) = false := decide_eq_false (by omega)
  obtain ⟨sX, SX⟩ : ∃ sX, Aside0 ((⟨q, m, e, pc, acc, st, ended, fault⟩ : MS) = sX) := ⟨_, ⟨rfl⟩⟩
  rw [SX.out]
  rcases hp with ⟨hp, rfl, rfl⟩ | ⟨hp, rfl, rfl⟩
  case' inl => have j2 : decide (j ≤ pc) = true := decide_eq_true hp
  case' inr => have j2 : decide (j ≤ pc) = false := decide_eq_false (by omega)
  all_goals
    clear hk hj hp
    have HB := Aside0.mk (Below.refl w.heap.size w)
    have VV := Aside0.mk (h)
    have BM : Aside0 (Bk w gm 83 #[.slice AC l.length cC, .slice AI li.length cI, .slice AQ q.length cQ, .slice AM m.length cM, .slice AE e.length cE, .int .i64 pc, .bool acc, .slice AL st.length cL, .bool ended, .int .i64 fault]) := Aside0.mk (h.bm)
    clear h
    obtain ⟨zBM_0, zBM_1, zBM_2, zBM_3, zBM_4, zBM_5, zBM_6, zBM_7, zBM_8, zBM_9⟩ := BM.out.c10
    go_enter Try.func58, Try.ntmps58
    go_wp2_with (((with_reducible refine gate_dst (N := 3) rfl ?_); refine box_event ?hg (N := 3) ?hd (cs := #[.int .i64 k, .int .i64 a, .int .i64 b, .int .i64 j]) (t := 66) ?hr ?_; (case hd => rfl); (case hg => rfl); (case hr => first | (go_simp; done) | (go_simp; rfl)); intro g3 hg w1 hbox hb; have hbx : Below w.heap.size w w1 := below_step (by repeat (first | (with_reducible first | exact Below.refl _ _ | apply below_alloc | apply pw_below_drewN | apply below_drew1) | exact Below.refl _ _)) hb; clear zBM_0 zBM_1 zBM_2 zBM_3 zBM_4 zBM_5 zBM_6 zBM_7 zBM_8 zBM_9; replace VV := Aside0.mk (VV.out.below hbx); replace BM := Aside0.mk (BM.out.below hbx); replace HB := Aside0.mk (below_step HB.out hbx); clear hbx; have BK3 := Aside0.mk (Bk.mk (hbox : Blk w1 g3 66 #[.int .i64 k, .int .i64 a, .int .i64 b, .int .i64 j])); clear hbox hg hb; obtain ⟨zBM_0, zBM_1, zBM_2, zBM_3, zBM_4, zBM_5, zBM_6, zBM_7, zBM_8, zBM_9⟩ := BM.out.c10; obtain ⟨zBK3_0, zBK3_1, zBK3_2, zBK3_3⟩ := BK3.out.c4))
    have KP := Aside0.mk (fun w' (hb : Below w1.heap.size w1 w') => And.intro ((BM.out.below hb).c10) ((BK3.out.below hb).c4))
    clear zBM_0 zBM_1 zBM_2 zBM_3 zBM_4 zBM_5 zBM_6 zBM_7 zBM_8 zBM_9 zBK3_0 zBK3_1 zBK3_2 zBK3_3
    refine Evt.ow_start (w0 := w1) (T := (true, [([], []), ([0], [0]), ([1], [1]), ([2], [2]), ([3], [3]), ([4, 3], [3, 4]), ([3], [3]), ([6, 3], [3, 6]), ([7, 3], [3, 7]), ([8, 3], [3, 8]), ([9, 3], [3, 9]), ([5, 10, 3], [3, 5, 10]), ([3, 11], [3, 11])])) (B := [0, 1, 3, 7, 15, 31, 15, 79, 207, 463, 975, 2047, 4095]) 13 [(0, some 84), (1, some 85), (2, some 86), (3, some 87), (4, some 88), (6, some 90), (7, some 91), (8, some 92), (5, some 89), (9, some 93), (10, some 94), (11, some 95), (12, some 96)] (by kernel_rfl) rfl (by kernel_rfl) (by kernel_rfl) (by kernel_rfl) (by repeat (first | (with_reducible first | exact Below.refl _ _ | apply below_alloc | apply pw_below_drewN | apply below_drew1) | exact Below.refl _ _)) ?_
    intro HT_ HW_ w_ hHeld
    iterate 13 (first | (refine Evt.ow_off (a' := ?_) HT_ rfl rfl (by rfl) (by kernel_rfl) (fun _ _ _ h => h) ?_ ?_; rotate_left; (· (try simp only [Act.put, List.setIfInBounds_toArray, List.set_cons_zero, List.set_cons_succ, i64_w, i32_w]); rfl)) | (refine Evt.ow_pure (a' := ?_) (v := ?_) HT_ rfl rfl rfl (by rfl) (by kernel_rfl) (fun _ _ _ h => h) ?_ ?_ ?_; rotate_left 2; (· intro w'; go_simp; with_reducible rfl); (· (try simp only [Act.put, List.setIfInBounds_toArray, List.set_cons_zero, List.set_cons_succ, i64_w, i32_w]); rfl)) | (refine Evt.ow_load (a' := ?_) (v := ?_) HT_ HW_ hHeld rfl rfl rfl (by rfl) (by kernel_rfl) (fun _ _ _ h => h) ?_ ?_ ?_; rotate_left 2; (· intro w' hS_; obtain ⟨⟨s0, s1, s2, s3, s4, s5, s6, s7, s8, s9⟩, ⟨s10, s11, s12, s13⟩⟩ := KP.out w' hS_.out; go_simp; with_reducible rfl); (· (try simp only [Act.put, List.setIfInBounds_toArray, List.set_cons_zero, List.set_cons_succ, i64_w, i32_w]); rfl)))
    refine Evt.ow_done HT_ (by kernel_rfl) ?_
    refine Evt.gen_any (w0 := w1) hHeld.out ?_
    intro w2 hbx
    clear hHeld HT_ HW_ KP
    replace VV := Aside0.mk (VV.out.below hbx)
    replace BM := Aside0.mk (BM.out.below hbx)
    replace BK3 := Aside0.mk (BK3.out.below hbx)
    replace HB := Aside0.mk (below_step HB.out hbx)
    clear hbx
    obtain ⟨zBM_0, zBM_1, zBM_2, zBM_3, zBM_4, zBM_5, zBM_6, zBM_7, zBM_8, zBM_9⟩ := BM.out.c10
    obtain ⟨zBK3_0, zBK3_1, zBK3_2, zBK3_3⟩ := BK3.out.c4
    go_wp2
    have KP := Aside0.mk (fun w' (hb : Below w2.heap.size w2 w') => And.intro ((BM.out.below hb).c10) ((BK3.out.below hb).c4))
    clear zBM_0 zBM_1 zBM_2 zBM_3 zBM_4 zBM_5 zBM_6 zBM_7 zBM_8 zBM_9 zBK3_0 zBK3_1 zBK3_2 zBK3_3
    refine Evt.ow_start (w0 := w2) (T := (true, [([], []), ([0], [0]), ([], []), ([2], [2]), ([3], [3]), ([4], [4]), ([1, 5], [1, 5])])) (B := [0, 1, 0, 4, 12, 28, 63]) 7 [(0, some 97), (2, some 99), (3, some 100), (4, some 101), (1, some 98), (5, some 102), (6, some 103)] (by kernel_rfl) rfl (by kernel_rfl) (by kernel_rfl) (by kernel_rfl) (by repeat (first | (with_reducible first | exact Below.refl _ _ | apply below_alloc | apply pw_below_drewN | apply below_drew1) | exact Below.refl _ _)) ?_
    intro HT_ HW_ w_ hHeld
    iterate 7 (first | (refine Evt.ow_off (a' := ?_) HT_ rfl rfl (by rfl) (by kernel_rfl) (fun _ _ _ h => h) ?_ ?_; rotate_left; (· (try simp only [Act.put, List.setIfInBounds_toArray, List.set_cons_zero, List.set_cons_succ, i64_w, i32_w]); rfl)) | (refine Evt.ow_pure (a' := ?_) (v := ?_) HT_ rfl rfl rfl (by rfl) (by kernel_rfl) (fun _ _ _ h => h) ?_ ?_ ?_; rotate_left 2; (· intro w'; go_simp; with_reducible rfl); (· (try simp only [Act.put, List.setIfInBounds_toArray, List.set_cons_zero, List.set_cons_succ, i64_w, i32_w]); rfl)) | (refine Evt.ow_load (a' := ?_) (v := ?_) HT_ HW_ hHeld rfl rfl rfl (by rfl) (by kernel_rfl) (fun _ _ _ h => h) ?_ ?_ ?_; rotate_left 2; (· intro w' hS_; obtain ⟨⟨s0, s1, s2, s3, s4, s5, s6, s7, s8, s9⟩, ⟨s10, s11, s12, s13⟩⟩ := KP.out w' hS_.out; go_simp; with_reducible rfl); (· (try simp only [Act.put, List.setIfInBounds_toArray, List.set_cons_zero, List.set_cons_succ, i64_w, i32_w]); rfl)))
    refine Evt.ow_done HT_ (by kernel_rfl) ?_
    refine Evt.gen_any (w0 := w2) hHeld.out ?_
    intro w3 hbx
    clear hHeld HT_ HW_ KP
    replace VV := Aside0.mk (VV.out.below hbx)
    replace BM := Aside0.mk (BM.out.below hbx)
    replace BK3 := Aside0.mk (BK3.out.below hbx)
    replace HB := Aside0.mk (below_step HB.out hbx)
    clear hbx
    obtain ⟨zBM_0, zBM_1, zBM_2, zBM_3, zBM_4, zBM_5, zBM_6, zBM_7, zBM_8, zBM_9⟩ := BM.out.c10
    obtain ⟨zBK3_0, zBK3_1, zBK3_2, zBK3_3⟩ := BK3.out.c4
    go_wp2
  all_goals
    go_ret2
    refine ⟨by first | rfl | simp [*], ?_⟩
    rw [← SX.out]
    exact (Srp.here ⟨_, _, _, _, _, _, VV.out⟩).from HB.out
set_option maxHeartbeats 32000000 in
theorem rdo_push (h : Rm w base V gm vC vI vQ vM vE vL l li ⟨q, m, e, pc, acc, st, ended, fault⟩) (hk : k = 8) (hs : st.length < 64) :
    Calls Try.prog 58 #[.pointer (some ⟨gm, 0, none⟩), .agg #[.int .i64 k, .int .i64 a, .int .i64 b, .int .i64 j]] w fun x w' => x = .returned (.tuple #[.int .i64 (pc + 1), .int .i64 0]) ∧ Srp w base V gm l li ⟨q, m, e, pc, acc, st ++ [acc], ended, fault⟩ w' := by
  obtain ⟨AC, cC, AI, cI, AQ, cQ, AM, cM, AE, cE, AL, cL, rfl, rfl, rfl, rfl, rfl, rfl⟩ := h.forms
  have q0 : -1 ≤ pc := h.fit.p0
  have q1 : pc ≤ 20000 := h.fit.p1
  have g0 : decide (0 ≤ k) = true := decide_eq_true (by omega)
  have g5 : decide (k ≤ 5) = false := decide_eq_false (by omega)
  have g11 : decide (11 ≤ k) = false := decide_eq_false (by omega)
  have g6_ : decide (k = 6) = false := decide_eq_false (by omega)
  have g6_' : (k == 6) = false := by simp; omega
  have g7_ : decide (k = 7) = false := decide_eq_false (by omega)
  have g7_' : (k == 7) = false := by simp; omega
  have g8_ : decide (k = 8) = true := decide_eq_true (by omega)
  have g8_' : (k == 8) = true := by simp; omega
  have g9_ : decide (k = 9) = false := decide_eq_false (by omega)
  have g9_' : (k == 9) = false := by simp; omega
  have g10_ : decide (k = 10) = false := decide_eq_false (by omega)
  have g10_' : (k == 10) = false := by simp; omega
  have g15_ : decide (k = 15) = false := decide_eq_false (by omega)
  have g15_' : (k == 15) = false := by simp; omega
  have g16_ : decide (k = 16) = false := decide_eq_false (by omega)
  have g16_' : (k == 16) = false := by simp; omega
  have f1 : decide (64 ≤ st.length) = false := decide_eq_false (by omega)
  have f2 : decide ((64 : Int) ≤ (st.length : Int)) = false := decide_eq_false (by omega)
  have HS := Aside0.mk hs
  clear hk hs
  have HB := Aside0.mk (Below.refl w.heap.size w)
  have VV := Aside0.mk (h)
  have BM : Aside0 (Bk w gm 83 #[.slice AC l.length cC, .slice AI li.length cI, .slice AQ q.length cQ, .slice AM m.length cM, .slice AE e.length cE, .int .i64 pc, .bool acc, .slice AL st.length cL, .bool ended, .int .i64 fault]) := Aside0.mk (h.bm)
  clear h
  obtain ⟨zBM_0, zBM_1, zBM_2, zBM_3, zBM_4, zBM_5, zBM_6, zBM_7, zBM_8, zBM_9⟩ := BM.out.c10
  go_enter Try.func58, Try.ntmps58
  go_wp2_with (((with_reducible refine gate_dst (N := 3) rfl ?_); refine box_event ?hg (N := 3) ?hd (cs := #[.int .i64 k, .int .i64 a, .int .i64 b, .int .i64 j]) (t := 66) ?hr ?_; (case hd => rfl); (case hg => rfl); (case hr => first | (go_simp; done) | (go_simp; rfl)); intro g3 hg w1 hbox hb; have hbx : Below w.heap.size w w1 := below_step (by repeat (first | (with_reducible first | exact Below.refl _ _ | apply below_alloc | apply pw_below_drewN | apply below_drew1) | exact Below.refl _ _)) hb; clear zBM_0 zBM_1 zBM_2 zBM_3 zBM_4 zBM_5 zBM_6 zBM_7 zBM_8 zBM_9; replace VV := Aside0.mk (VV.out.below hbx); replace BM := Aside0.mk (BM.out.below hbx); replace HB := Aside0.mk (below_step HB.out hbx); clear hbx; have BK3 := Aside0.mk (Bk.mk (hbox : Blk w1 g3 66 #[.int .i64 k, .int .i64 a, .int .i64 b, .int .i64 j])); clear hbox hg hb; obtain ⟨zBM_0, zBM_1, zBM_2, zBM_3, zBM_4, zBM_5, zBM_6, zBM_7, zBM_8, zBM_9⟩ := BM.out.c10; obtain ⟨zBK3_0, zBK3_1, zBK3_2, zBK3_3⟩ := BK3.out.c4))
  have KP := Aside0.mk (fun w' (hb : Below w1.heap.size w1 w') => (BM.out.below hb).c10)
  clear zBM_0 zBM_1 zBM_2 zBM_3 zBM_4 zBM_5 zBM_6 zBM_7 zBM_8 zBM_9 zBK3_0 zBK3_1 zBK3_2 zBK3_3
  refine Evt.ol_start (ds := [15]) (w0 := w1) (T := (true, [([], []), ([], []), ([], []), ([2], [2]), ([3], [3]), ([4], [4]), ([1, 5], [1, 5]), ([], []), ([7], [7]), ([8], [8]), ([9], [9]), ([10], [10]), ([6, 11, 6], [6, 11]), ([0, 0, 1, 2, 3, 4, 5, 6, 7, 8, 9, 10, 11, 12], [0]), ([13, 0, 1, 2, 3, 4, 5, 6, 7, 8, 9, 10, 11, 12], [13]), ([14, 12, 12, 0, 1, 2, 3, 4, 5, 6, 7, 8, 9, 10, 11, 12], [12, 14])])) (B := [0, 0, 0, 4, 12, 28, 62, 0, 128, 384, 896, 1920, 4094, 8191, 16383, 32767]) 16 [(0, some 41), (2, some 43), (3, some 44), (4, some 45), (5, some 46), (7, some 48), (8, some 49), (9, some 50), (10, some 51), (1, some 42), (6, some 47), (11, some 52), (12, some 53), (13, some 54), (14, some 55), (15, none)] (by kernel_rfl) rfl (by kernel_rfl) (by kernel_rfl) (by kernel_rfl) (by repeat (first | (with_reducible first | exact Below.refl _ _ | apply below_alloc | apply pw_below_drewN | apply below_drew1) | exact Below.refl _ _)) ?_
  intro HT_ HW_ w_ hHeld
  iterate 9 (first | (refine Evt.ol_off (a' := ?_) HT_ rfl rfl (by rfl) (by kernel_rfl) (fun _ _ _ h => h) ?_ ?_; rotate_left; (· (try simp only [Act.put, List.setIfInBounds_toArray, List.set_cons_zero, List.set_cons_succ, i64_w, i32_w]); rfl)) | (refine Evt.ol_pure (a' := ?_) (v := ?_) HT_ rfl rfl rfl (by rfl) (by kernel_rfl) (fun _ _ _ h => h) ?_ ?_ ?_; rotate_left 2; (· intro w'; go_simp; with_reducible rfl); (· (try simp only [Act.put, List.setIfInBounds_toArray, List.set_cons_zero, List.set_cons_succ, i64_w, i32_w]); rfl)) | (refine Evt.ol_load (a' := ?_) (v := ?_) HT_ HW_ hHeld rfl rfl rfl (by rfl) (by kernel_rfl) (fun _ _ _ h => h) ?_ ?_ ?_; rotate_left 2; (· intro w' hS_; obtain ⟨s0, s1, s2, s3, s4, s5, s6, s7, s8, s9⟩ := KP.out w' hS_.out; go_simp; with_reducible rfl); (· (try simp only [Act.put, List.setIfInBounds_toArray, List.set_cons_zero, List.set_cons_succ, i64_w, i32_w]); rfl)))
  refine Evt.od_join (σ := Value × Value × Nat) 4 [(12, some 53), (13, some 54), (14, some 55), (15, none)] (fun s => [(42, s.1), (47, s.2.1), (52, (.slice (some ⟨s.2.2, 0, none⟩) 1 1))]) (fun s w' => Evt.Ro Kd.bool 4 w1 w' s.2.1 (st) ∧ (Evt.Bk w' s.2.2 4 #[.bool acc] ∧ w1.heap.size ≤ s.2.2) ∧ Evt.Apart s.2.1 (.slice (some ⟨s.2.2, 0, none⟩) 1 1)) ?_ ?_
  · intro J_1_6_11
    refine Evt.od_join (σ := Value × Value × Nat) 5 [(11, some 52), (12, some 53), (13, some 54), (14, some 55), (15, none)] (fun s => [(42, s.1), (47, s.2.1)]) (fun s w' => Evt.Ro Kd.bool 4 w1 w' s.2.1 (st)) ?_ ?_
    rotate_left
    · rintro ⟨o0, n0, g1⟩ w_ hHeld f0
      refine Evt.ol_norm (a' := ?_) ?_ ?_
      rotate_left
      · simp only [putAll, Act.put, List.setIfInBounds_toArray, List.set_cons_zero, List.set_cons_succ, i64_w, i32_w]; rfl
      refine Evt.od_one (i := 11) [(12, some 53), (13, some 54), (14, some 55), (15, none)] HT_ rfl rfl (by simp) (by kernel_rfl) (fun K_ hK_ => ?_)
      · refine Evt.d_slice hK_ hHeld (by rfl) rfl (cs := #[.bool acc]) (t := 4) (ln := 1) ?_ ?_
        · first | (go_simp; done) | (go_simp; rfl) | (go_simp; refine ⟨?_, ?_⟩ <;> rfl)
        intro g_ w1_ hg_ hB_ hb_ hH_
        exact Evt.ol_norm (by simp only [putAll, Act.put, List.setIfInBounds_toArray, List.set_cons_zero, List.set_cons_succ, i64_w, i32_w]; rfl) (J_1_6_11 (o0, n0, g_) _ hH_ ⟨f0.below hb_, ⟨hB_, by rw [hg_]; exact hHeld.out.size⟩, (Evt.Apart.fresh f0.lt ⟨g_, rfl, by rw [hg_]; exact Nat.le_refl _⟩).symm⟩)
    intro J_1_6
    refine Evt.od_join (σ := Value × Value × Nat) 5 [(6, some 47), (12, some 53), (13, some 54), (14, some 55), (15, none)] (fun s => [(42, s.1), (52, (.slice (some ⟨s.2.2, 0, none⟩) 1 1))]) (fun s w' => Evt.Ro Kd.bool 4 w1 w' s.1 ([]) ∧ (Evt.Bk w' s.2.2 4 #[.bool acc] ∧ w1.heap.size ≤ s.2.2) ∧ Evt.Apart s.1 (.slice (some ⟨s.2.2, 0, none⟩) 1 1)) ?_ ?_
    rotate_left
    · rintro ⟨o0, n0, g1⟩ w_ hHeld ⟨f0, f1, p0_1⟩
      refine Evt.ol_norm (a' := ?_) ?_ ?_
      rotate_left
      · simp only [putAll, Act.put, List.setIfInBounds_toArray, List.set_cons_zero, List.set_cons_succ, i64_w, i32_w]; rfl
      refine Evt.od_one (i := 6) [(12, some 53), (13, some 54), (14, some 55), (15, none)] HT_ rfl rfl (by simp) (by kernel_rfl) (fun K_ hK_ => ?_)
      · refine Evt.d_app Evt.rkB hK_ hHeld (by rfl) rfl (.tmp 42) (.tmp 46) rfl o0 [] (st) (AL) (st.length) (cL) rfl rfl f0 ((Rw.of_R (VV.out.below hHeld.out).rl).row) (by have := HS.out; simp; omega) ?_
        intro v_ w1_ ho_ hg_ hat_ hH_
        exact Evt.ol_norm (by simp only [putAll, Act.put, List.setIfInBounds_toArray, List.set_cons_zero, List.set_cons_succ, i64_w, i32_w]; rfl) (J_1_6_11 (o0, v_, g1) _ hH_ ⟨ho_, ⟨Evt.Bk.other f1.1 hg_ p0_1, f1.2⟩, (Evt.Apart.moved p0_1 f1.1.slt hat_)⟩)
    intro J_1_11
    refine Evt.od_join (σ := Value × Value × Nat) 6 [(6, some 47), (11, some 52), (12, some 53), (13, some 54), (14, some 55), (15, none)] (fun s => [(42, s.1)]) (fun s w' => Evt.Ro Kd.bool 4 w1 w' s.1 ([])) ?_ ?_
    rotate_left
    · rintro ⟨o0, n0, g1⟩ w_ hHeld f0
      refine Evt.ol_norm (a' := ?_) ?_ ?_
      rotate_left
      · simp only [putAll, Act.put, List.setIfInBounds_toArray, List.set_cons_zero, List.set_cons_succ, i64_w, i32_w]; rfl
      refine Evt.od_two (i := 6) (j := 11) [(11, some 52), (12, some 53), (13, some 54), (14, some 55), (15, none)] [(6, some 47), (12, some 53), (13, some 54), (14, some 55), (15, none)] HT_ rfl rfl rfl rfl (by simp) (by kernel_rfl) (fun K_ hK_ => ?_) (fun K_ hK_ => ?_)
      · refine Evt.d_app Evt.rkB hK_ hHeld (by rfl) rfl (.tmp 42) (.tmp 46) rfl o0 [] (st) (AL) (st.length) (cL) rfl rfl f0 ((Rw.of_R (VV.out.below hHeld.out).rl).row) (by have := HS.out; simp; omega) ?_
        intro v_ w1_ ho_ hg_ hat_ hH_
        exact Evt.ol_norm (by simp only [putAll, Act.put, List.setIfInBounds_toArray, List.set_cons_zero, List.set_cons_succ, i64_w, i32_w]; rfl) (J_1_6 (o0, v_, 0) _ hH_ ho_)
      · refine Evt.d_slice hK_ hHeld (by rfl) rfl (cs := #[.bool acc]) (t := 4) (ln := 1) ?_ ?_
        · first | (go_simp; done) | (go_simp; rfl) | (go_simp; refine ⟨?_, ?_⟩ <;> rfl)
        intro g_ w1_ hg_ hB_ hb_ hH_
        exact Evt.ol_norm (by simp only [putAll, Act.put, List.setIfInBounds_toArray, List.set_cons_zero, List.set_cons_succ, i64_w, i32_w]; rfl) (J_1_11 (o0, undef, g_) _ hH_ ⟨f0.below hb_, ⟨hB_, by rw [hg_]; exact hHeld.out.size⟩, (Evt.Apart.fresh f0.lt ⟨g_, rfl, by rw [hg_]; exact Nat.le_refl _⟩).symm⟩)
    intro J_1
    refine Evt.od_join (σ := Value × Value × Nat) 6 [(1, some 42), (6, some 47), (12, some 53), (13, some 54), (14, some 55), (15, none)] (fun s => [(52, (.slice (some ⟨s.2.2, 0, none⟩) 1 1))]) (fun s w' => (Evt.Bk w' s.2.2 4 #[.bool acc] ∧ w1.heap.size ≤ s.2.2)) ?_ ?_
    rotate_left
    · rintro ⟨o0, n0, g1⟩ w_ hHeld f1
      refine Evt.ol_norm (a' := ?_) ?_ ?_
      rotate_left
      · simp only [putAll, Act.put, List.setIfInBounds_toArray, List.set_cons_zero, List.set_cons_succ, i64_w, i32_w]; rfl
      refine Evt.od_one (i := 1) [(6, some 47), (12, some 53), (13, some 54), (14, some 55), (15, none)] HT_ rfl rfl (by simp) (by kernel_rfl) (fun K_ hK_ => ?_)
      · refine Evt.d_row0 (d := Kd.bool) (e := 4) hK_ hHeld (by rfl) rfl ?_ ?_
        · first | (go_simp; done) | (go_simp; rfl) | (go_simp; refine ⟨?_, ?_⟩ <;> rfl)
        intro v_ w1_ ho_ hn_ hb_ hH_
        exact Evt.ol_norm (by simp only [putAll, Act.put, List.setIfInBounds_toArray, List.set_cons_zero, List.set_cons_succ, i64_w, i32_w]; rfl) (J_1_11 (v_, undef, g1) _ hH_ ⟨ho_, ⟨f1.1.below hb_, f1.2⟩, (Evt.Apart.fresh f1.1.slt hn_)⟩)
    intro J_11
    refine Evt.od_two (i := 1) (j := 11) [(6, some 47), (11, some 52), (12, some 53), (13, some 54), (14, some 55), (15, none)] [(1, some 42), (6, some 47), (12, some 53), (13, some 54), (14, some 55), (15, none)] HT_ rfl rfl rfl rfl (by simp) (by kernel_rfl) (fun K_ hK_ => ?_) (fun K_ hK_ => ?_)
    · refine Evt.d_row0 (d := Kd.bool) (e := 4) hK_ hHeld (by rfl) rfl ?_ ?_
      · first | (go_simp; done) | (go_simp; rfl) | (go_simp; refine ⟨?_, ?_⟩ <;> rfl)
      intro v_ w1_ ho_ hn_ hb_ hH_
      exact Evt.ol_norm (by simp only [putAll, Act.put, List.setIfInBounds_toArray, List.set_cons_zero, List.set_cons_succ, i64_w, i32_w]; rfl) (J_1 (v_, undef, 0) _ hH_ ho_)
    · refine Evt.d_slice hK_ hHeld (by rfl) rfl (cs := #[.bool acc]) (t := 4) (ln := 1) ?_ ?_
      · first | (go_simp; done) | (go_simp; rfl) | (go_simp; refine ⟨?_, ?_⟩ <;> rfl)
      intro g_ w1_ hg_ hB_ hb_ hH_
      exact Evt.ol_norm (by simp only [putAll, Act.put, List.setIfInBounds_toArray, List.set_cons_zero, List.set_cons_succ, i64_w, i32_w]; rfl) (J_11 (undef, undef, g_) _ hH_ ⟨hB_, by rw [hg_]; exact hHeld.out.size⟩)
  rintro ⟨o0, n0, g1⟩ w_ hHeld ⟨f0, f1, p0_1⟩
  have F0 := Aside0.mk f0
  have F1 := Aside0.mk f1
  have P0_1 := Aside0.mk p0_1
  clear f0 f1 p0_1
  refine Evt.ol_norm (a' := ?_) ?_ ?_
  rotate_left
  · simp only [putAll, Act.put, List.setIfInBounds_toArray, List.set_cons_zero, List.set_cons_succ, i64_w, i32_w]; rfl
  refine Evt.od_one (i := 12) [(13, some 54), (14, some 55), (15, none)] HT_ rfl rfl (by simp) (by kernel_rfl) (fun K_ hK_ => ?_)
  refine Evt.d_app Evt.rkB hK_ hHeld (by rfl) rfl (.tmp 47) (.tmp 52) rfl n0 st [acc] (some ⟨g1, 0, none⟩) 1 1 rfl rfl F0.out (Rw_of_blk (l := [acc]) (c := 1) F1.out.1 (by simp) (by simp)).row (by have := HS.out; simp; omega) ?_
  intro v_ w9 ho_ hg_ hat_ hH_
  have RN := Aside0.mk ho_.row
  clear hHeld ho_ hg_ hat_ hK_ F0 F1 P0_1
  have hHeld := hH_
  clear hH_
  refine Evt.ol_norm (a' := ?_) ?_ ?_
  rotate_left
  · simp only [putAll, Act.put, List.setIfInBounds_toArray, List.set_cons_zero, List.set_cons_succ, i64_w, i32_w]; rfl
  obtain ⟨X, x0, rfl⟩ := Kd.R_slice RN.out
  iterate 2 (first | (refine Evt.ol_off (a' := ?_) HT_ rfl rfl (by rfl) (by kernel_rfl) (fun _ _ _ h => h) ?_ ?_; rotate_left; (· (try simp only [Act.put, List.setIfInBounds_toArray, List.set_cons_zero, List.set_cons_succ, i64_w, i32_w]); rfl)) | (refine Evt.ol_pure (a' := ?_) (v := ?_) HT_ rfl rfl rfl (by rfl) (by kernel_rfl) (fun _ _ _ h => h) ?_ ?_ ?_; rotate_left 2; (· intro w'; go_simp; with_reducible rfl); (· (try simp only [Act.put, List.setIfInBounds_toArray, List.set_cons_zero, List.set_cons_succ, i64_w, i32_w]); rfl)) | (refine Evt.ol_load (a' := ?_) (v := ?_) HT_ HW_ hHeld rfl rfl rfl (by rfl) (by kernel_rfl) (fun _ _ _ h => h) ?_ ?_ ?_; rotate_left 2; (· intro w' hS_; obtain ⟨s0, s1, s2, s3, s4, s5, s6, s7, s8, s9⟩ := KP.out w' hS_.out; go_simp; with_reducible rfl); (· (try simp only [Act.put, List.setIfInBounds_toArray, List.set_cons_zero, List.set_cons_succ, i64_w, i32_w]); rfl)))
  have BMn := BM.out.below hHeld.out
  have zf : w9.frozen? ⟨gm, 7, none⟩ = false := blk_frozen BMn.blk 7
  have zc : w9.cell? ⟨gm, 7, none⟩ = some (.slice AL st.length cL) := BMn.blk.cell 7 rfl
  refine Evt.ol_rancell HT_ rfl rfl (by simp) (by kernel_rfl) (by rfl) BMn 7 (.slice X (st ++ [acc]).length x0) ?hrun ?_
  case hrun => (first | (go_simp; done) | (go_simp; rfl))
  intro wa bz_ hg_
  have hw_ := hHeld.out
  have SR : Aside0 (Srp w1 base V gm l li ⟨q, m, e, pc, acc, st ++ [acc], ended, fault⟩ wa) := ⟨VV.out.turn (s' := ⟨q, m, e, pc, acc, st ++ [acc], ended, fault⟩) hw_ hg_ bz_ (RowOk.old VV.out.rq hw_) (RowOk.old VV.out.rm hw_) (RowOk.old VV.out.re hw_) (RowOk.new RN.out VV.out.hbase) ⟨VV.out.fit.q, VV.out.fit.m, VV.out.fit.e, VV.out.fit.i, VV.out.fit.c, VV.out.fit.p0, VV.out.fit.p1⟩ (by show (st ++ [acc]).length ≤ 64; have := HS.out; simp; omega)⟩
  have z5 : wa.cell? ⟨gm, 5, none⟩ = some (.int .i64 pc) := bz_.blk.cell 5 rfl
  have HB0 := HB
  clear bz_ hg_ zf zc BMn hw_ hHeld RN VV BM BK3 HB
  refine Evt.ol_done HT_ (by kernel_rfl) ?_
  clear HT_ HW_
  go_wp2
  go_ret2
  exact ⟨rfl, Srp.from HB0.out SR.out⟩
end
end Go.Proofs.Ytjohdkbciafpfaa.Vm6
end
section
/- Chapter 06: the reference machine's do, said plainly. -/
namespace Go.Proofs.Ytjohdkbciafpfaa.Vm6
open Go.RowKit Go.Proofs.YtjohdkbciafpfaaW.PrintWords Go.Proofs.YtjohdkbciafpfaaW.PrintMore Go.Proofs.YtjohdkbciafpfaaW.PrintLast Go.Proofs.Ytjohdkbciafpfaa.Chg Go.Proofs.Ytjohdkbciafpfaa.Evt Go.Proofs.Ytjohdkbciafpfaa.Impl
set_option linter.unusedVariables false
set_option linter.unusedSimpArgs false
section
variable {w w' w1 : World} {base : Nat} {V : Nat → Prop} {gm : Nat} {vC vI vQ vM vE vL : Value} {l : List S66} {li : List Bool} {s : MS} {k a b j : Int}
variable {q m e st : List Bool} {pc fault : Int} {acc ended : Bool}
theorem pair3 {α β γ : Type} {a a' : α} {b b' : β} {c c' : γ} (h : (a, b, c) = (a', b', c')) : a = a' ∧ b = b' ∧ c = c' := by
  injection h with h1 h2
  injection h2 with h2 h3
  exact ⟨h1, h2, h3⟩
theorem rdo_any (h : Rm w base V gm vC vI vQ vM vE vL l li ⟨q, m, e, pc, acc, st, ended, fault⟩) {er np : Int} {s1 : MS} (hr : core l.length li k a b j ⟨q, m, e, pc, acc, st, ended, fault⟩ = (er, np, s1)) :
    Calls Try.prog 58 #[.pointer (some ⟨gm, 0, none⟩), .agg #[.int .i64 k, .int .i64 a, .int .i64 b, .int .i64 j]] w fun x w' => x = .returned (.tuple #[.int .i64 np, .int .i64 er]) ∧ Srp w base V gm l li s1 w' := by
  unfold core at hr
  by_cases cA : 0 ≤ k ∧ k ≤ 5
  · rw [if_pos cA] at hr
    obtain ⟨⟨v, e0⟩, hv⟩ : ∃ p, rdv li q m a b = p := ⟨_, rfl⟩
    simp only [hv] at hr
    by_cases h0 : e0 = 0
    · subst h0
      rw [if_pos rfl] at hr
      obtain ⟨rfl, rfl, rfl⟩ := pair3 hr
      exact rdo_call h rfl (.inl ⟨cA, fun w1 hb => rlogic_ok (h.below hb) cA hv⟩)
    · rw [if_neg h0] at hr
      obtain ⟨rfl, rfl, rfl⟩ := pair3 hr
      exact rdo_call h rfl (.inl ⟨cA, fun w1 hb => rlogic_err (h.below hb) hv h0⟩)
  rw [if_neg cA] at hr
  by_cases cB : k = 6 ∨ k = 7
  · rw [if_pos cB] at hr
    obtain ⟨⟨v, e0⟩, hv⟩ : ∃ p, rdv li q m a b = p := ⟨_, rfl⟩
    simp only [hv] at hr
    by_cases h0 : e0 = 0
    · subst h0
      rw [if_pos rfl] at hr
      by_cases hj : 0 ≤ j ∧ j < e.length
      · rw [if_pos hj] at hr
        obtain ⟨rfl, rfl, rfl⟩ := pair3 hr
        obtain ⟨i, rfl⟩ : ∃ i : Nat, j = i := ⟨j.toNat, by omega⟩
        have hc : ∀ w1, Below w.heap.size w w1 → Calls Try.prog 70 #[.pointer (some ⟨gm, 0, none⟩), .agg #[.int .i64 k, .int .i64 a, .int .i64 b, .int .i64 (i : Int)]] w1 fun x w' => x = .returned (.int .i64 0) ∧ Srp w1 base V gm l li ⟨q, m, e.set i v, pc, (v != e.getD i false) && (v == (k == 6)), st, ended, fault⟩ w' := fun w1 hb => redge_ok (h.below hb) cB hv (i := i) (by omega) rfl
        have e1 : rdOf false e ((i : Nat) : Int) = e.getD i false := by unfold rdOf; rw [Int.toNat_natCast]
        simp only [e1, Int.toNat_natCast]
        rcases cB with hk | hk
        · exact rdo_call h rfl (.inr (.inl ⟨hk, hc⟩))
        · exact rdo_call h rfl (.inr (.inr (.inl ⟨hk, hc⟩)))
      · rw [if_neg hj] at hr
        obtain ⟨rfl, rfl, rfl⟩ := pair3 hr
        rcases cB with hk | hk
        · exact rdo_call h rfl (.inr (.inl ⟨hk, fun w1 hb => redge_out (h.below hb) hv hj⟩))
        · exact rdo_call h rfl (.inr (.inr (.inl ⟨hk, fun w1 hb => redge_out (h.below hb) hv hj⟩)))
    · rw [if_neg h0] at hr
      obtain ⟨rfl, rfl, rfl⟩ := pair3 hr
      rcases cB with hk | hk
      · exact rdo_call h rfl (.inr (.inl ⟨hk, fun w1 hb => redge_err (h.below hb) hv h0⟩))
      · exact rdo_call h rfl (.inr (.inr (.inl ⟨hk, fun w1 hb => redge_err (h.below hb) hv h0⟩)))
  rw [if_neg cB] at hr
  by_cases c8 : k = 8
  · rw [if_pos c8] at hr
    have sl := h.sl
    by_cases hs : st.length = 64
    · rw [if_pos hs] at hr
      obtain ⟨rfl, rfl, rfl⟩ := pair3 hr
      exact rdo_full h c8 hs
    · rw [if_neg hs] at hr
      obtain ⟨rfl, rfl, rfl⟩ := pair3 hr
      have hs2 : ¬ st.length = 64 := hs
      have sl2 : st.length ≤ 64 := sl
      have hlt : st.length < 64 := by omega
      exact rdo_push h c8 hlt
  rw [if_neg c8] at hr
  by_cases cP : k = 9 ∨ k = 10
  · rw [if_pos cP] at hr
    rcases List.eq_nil_or_concat st with rfl | ⟨t, y, rfl⟩
    · obtain ⟨rfl, rfl, rfl⟩ := pair3 hr
      rcases cP with hk | hk
      · exact rdo_call h rfl (.inr (.inr (.inr (.inl ⟨hk, fun w1 hb => rpop_nil (h.below hb)⟩))))
      · exact rdo_call h rfl (.inr (.inr (.inr (.inr (.inl ⟨hk, fun w1 hb => rpop_nil (h.below hb)⟩)))))
    · simp only [List.concat_eq_append, List.getLast?_append, List.getLast?_singleton, Option.some_or, List.dropLast_concat] at hr h ⊢
      obtain ⟨rfl, rfl, rfl⟩ := pair3 hr
      rcases cP with hk | hk
      · exact rdo_call h rfl (.inr (.inr (.inr (.inl ⟨hk, fun w1 hb => rpop_ok (h.below hb) (.inl hk)⟩))))
      · exact rdo_call h rfl (.inr (.inr (.inr (.inr (.inl ⟨hk, fun w1 hb => rpop_ok (h.below hb) (.inr hk)⟩)))))
  rw [if_neg cP] at hr
  by_cases cE : 11 ≤ k ∧ k ≤ 14
  · rw [if_pos cE] at hr
    obtain ⟨⟨r0, r1, r2, e0⟩, hv⟩ : ∃ p, wrv q m e a b (cv k acc) = p := ⟨_, rfl⟩
    simp only [hv] at hr
    by_cases h0 : e0 = 0
    · subst h0
      rw [if_pos rfl] at hr
      obtain ⟨rfl, rfl, hs⟩ := pair3 hr
      refine rdo_call h (by rw [← hs]; split <;> rfl) (.inr (.inr (.inr (.inr (.inr ⟨cE, fun w1 hb => (rcoil_any (h.below hb) cE hv).mono fun x w' ⟨h1, h2, h3⟩ => ⟨h1, ?_⟩⟩)))))
      rw [← hs]
      by_cases hw : cw k acc = true
      · rw [if_pos hw]; exact h2 ⟨rfl, hw⟩
      · rw [if_neg hw]; exact h3 (fun hc => hw hc.2)
    · rw [if_neg h0] at hr
      obtain ⟨rfl, rfl, rfl⟩ := pair3 hr
      exact rdo_call h rfl (.inr (.inr (.inr (.inr (.inr ⟨cE, fun w1 hb => (rcoil_any (h.below hb) cE hv).mono fun x w' ⟨h1, h2, h3⟩ => ⟨h1, h3 (fun hc => h0 hc.1)⟩⟩)))))
  rw [if_neg cE] at hr
  by_cases c15 : k = 15
  · rw [if_pos c15] at hr
    by_cases hj : 0 ≤ j ∧ j < l.length
    · rw [if_pos hj] at hr
      by_cases hp : pc < j
      · rw [if_pos hp] at hr
        obtain ⟨rfl, rfl, rfl⟩ := pair3 hr
        exact rdo_in h c15 hj (.inr ⟨hp, rfl, rfl⟩)
      · rw [if_neg hp] at hr
        obtain ⟨rfl, rfl, rfl⟩ := pair3 hr
        have hp2 : ¬ pc < j := hp
        exact rdo_in h c15 hj (.inl ⟨by omega, rfl, rfl⟩)
    · rw [if_neg hj] at hr
      obtain ⟨rfl, rfl, rfl⟩ := pair3 hr
      exact rdo_out h c15 hj
  rw [if_neg c15] at hr
  by_cases c16 : k = 16
  · rw [if_pos c16] at hr
    obtain ⟨rfl, rfl, rfl⟩ := pair3 hr
    exact rdo_end h c16
  · rw [if_neg c16] at hr
    obtain ⟨rfl, rfl, rfl⟩ := pair3 hr
    exact rdo_bad h (by omega)
end
end Go.Proofs.Ytjohdkbciafpfaa.Vm6
end
