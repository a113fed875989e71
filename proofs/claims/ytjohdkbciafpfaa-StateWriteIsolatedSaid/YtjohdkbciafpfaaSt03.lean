/- Chapter 03: the functions over an array of rows, walked. -/
import Derived.Test.YtjohdkbciafpfaaImpl7
import Derived.Test.YtjohdkbciafpfaaImpl16
import Derived.Test.YtjohdkbciafpfaaEv
import Derived.Deep.RegionHeld3
import Derived.Deep.DeepCutAuto
import Derived.LoopN
namespace Go.Proofs.Ytjohdkbciafpfaa.St03
open Go.RowKit Go.Proofs.YtjohdkbciafpfaaW.PrintWords Go.Proofs.YtjohdkbciafpfaaW.PrintMore Go.Proofs.YtjohdkbciafpfaaW.PrintLast Go.Proofs.Ytjohdkbciafpfaa.Chg Go.Proofs.Ytjohdkbciafpfaa.Evt Go.Proofs.Ytjohdkbciafpfaa.Impl
set_option linter.unusedVariables false
set_option linter.unusedSimpArgs false
set_option maxRecDepth 100000
theorem images_any (A0 : Option Addr) (n0 c0 : Nat) (A1 : Option Addr) (n1 c1 : Nat) (A2 : Option Addr) (n2 c2 : Nat) (w : World) :
    Calls Try.prog 49 #[.agg #[.slice A0 n0 c0, .slice A1 n1 c1, .slice A2 n2 c2]] w fun e w' => e = .returned (.agg #[.slice A0 n0 c0, .slice A1 n1 c1, .slice A2 n2 c2]) ∧ Below w.heap.size w w' := by
  go_enter Try.func49, Try.ntmps49
  go_wp2
  refine bodyPost_ret (results_cell_row rfl _ _ (w.heap.size + 1) 85 _ (0, 0) _ rfl (heap_alloc2_new _ _ _) Try.underlying85 rfl (by kernel_rfl)) rfl ?_
  exact ⟨rfl, below_alloc (below_alloc (Below.refl _ _) _) _⟩
theorem ix_0 (w : World) (v0 v1 v2 : Value) : (Instr.index 85 (.agg #[v0, v1, v2]) (.int .i64 0)).run Try.prog w = .ok v0 w := by kernel_rfl
theorem ix_1 (w : World) (v0 v1 v2 : Value) : (Instr.index 85 (.agg #[v0, v1, v2]) (.int .i64 1)).run Try.prog w = .ok v1 w := by kernel_rfl
theorem ix_2 (w : World) (v0 v1 v2 : Value) : (Instr.index 85 (.agg #[v0, v1, v2]) (.int .i64 2)).run Try.prog w = .ok v2 w := by kernel_rfl
theorem ix3_0 (w : World) (v0 v1 v2 : Value) : (Instr.index 93 (.agg #[v0, v1, v2]) (.int .i64 0)).run Try.prog w = .ok v0 w := by kernel_rfl
theorem ix3_1 (w : World) (v0 v1 v2 : Value) : (Instr.index 93 (.agg #[v0, v1, v2]) (.int .i64 1)).run Try.prog w = .ok v1 w := by kernel_rfl
theorem ix3_2 (w : World) (v0 v1 v2 : Value) : (Instr.index 93 (.agg #[v0, v1, v2]) (.int .i64 2)).run Try.prog w = .ok v2 w := by kernel_rfl
theorem images_exact (A0 : Option Addr) (n0 c0 : Nat) (A1 : Option Addr) (n1 c1 : Nat) (A2 : Option Addr) (n2 c2 : Nat) (w : World) :
    Calls Try.prog 49 #[.agg #[.slice A0 n0 c0, .slice A1 n1 c1, .slice A2 n2 c2]] w fun e w' => e = .returned (.agg #[.slice A0 n0 c0, .slice A1 n1 c1, .slice A2 n2 c2]) ∧ w' = (w.alloc (.cells #[.slice A0 n0 c0, .slice A1 n1 c1, .slice A2 n2 c2] 24)).alloc (.cells #[.slice A0 n0 c0, .slice A1 n1 c1, .slice A2 n2 c2] 85) := by
  go_enter Try.func49, Try.ntmps49
  go_wp2
  refine bodyPost_ret (results_cell_row rfl _ _ (w.heap.size + 1) 85 _ (0, 0) _ rfl (heap_alloc2_new _ _ _) Try.underlying85 rfl (by kernel_rfl)) rfl ?_
  exact ⟨rfl, rfl⟩
section
variable {A0 A1 A2 B0 B1 B2 : Option Addr} {c0 c1 c2 d0 d1 d2 : Nat} {l0 l1 l2 m0 m1 m2 : List Bool}
set_option maxHeartbeats 2000000 in
theorem format_any (k : Nat) (a b c : ByteArray) (w : World) (h : Sr Kd.bool w A0 c0 A1 c1 A2 c2 l0 l1 l2) (ha : image_Format.f k l0 = some a) (hb : image_Format.f k l1 = some b) (hc : image_Format.f k l2 = some c) (hs : a.size + b.size + c.size + 2 ≤ 9223372036854775807) :
    Calls Try.prog 30 #[.agg #[.slice A0 l0.length c0, .slice A1 l1.length c1, .slice A2 l2.length c2]] w fun e w' => e = .returned (.string (a ++ ⟨#[32]⟩ ++ b ++ ⟨#[32]⟩ ++ c)) ∧ Below w.heap.size w w' := by
  have FA := Aside0.mk ha
  have FB := Aside0.mk hb
  have FC := Aside0.mk hc
  have R := Aside0.mk h
  have HB := Aside0.mk (Below.refl w.heap.size w)
  have R0 := Aside0.mk (h.r0)
  have R1 := Aside0.mk (h.r1)
  have R2 := Aside0.mk (h.r2)
  clear ha hb hc h R
  have s1 : (9223372036854775807 < a.size) = False := eq_false (by omega)
  have s2 : (9223372036854775807 < a.size + 1) = False := eq_false (by omega)
  have s3 : (9223372036854775807 < a.size + 1 + b.size) = False := eq_false (by omega)
  have s4 : (9223372036854775807 < a.size + 1 + b.size + 1) = False := eq_false (by omega)
  have s5 : (9223372036854775807 < a.size + 1 + b.size + 1 + c.size) = False := eq_false (by omega)
  clear hs
  have e0 : (⟨#[]⟩ : ByteArray) ++ a = a := ByteArray.empty_append
  have i0 : ∀ w : World, (Instr.index 85 (.agg #[.slice A0 l0.length c0, .slice A1 l1.length c1, .slice A2 l2.length c2]) (.int .i64 0)).run Try.prog w = .ok (.slice A0 l0.length c0) w := fun w => ix_0 w _ _ _
  have i1 : ∀ w : World, (Instr.index 85 (.agg #[.slice A0 l0.length c0, .slice A1 l1.length c1, .slice A2 l2.length c2]) (.int .i64 1)).run Try.prog w = .ok (.slice A1 l1.length c1) w := fun w => ix_1 w _ _ _
  have i2 : ∀ w : World, (Instr.index 85 (.agg #[.slice A0 l0.length c0, .slice A1 l1.length c1, .slice A2 l2.length c2]) (.int .i64 2)).run Try.prog w = .ok (.slice A2 l2.length c2) w := fun w => ix_2 w _ _ _
  go_enter Try.func30, Try.ntmps30
  go_wp2_with (first | ((with_reducible refine gate_dst (N := 1) rfl ?_); refine box_event ?hg (N := 1) ?hd (cs := #[.slice A0 l0.length c0, .slice A1 l1.length c1, .slice A2 l2.length c2]) (t := 24) ?hr ?_; (case hd => rfl); (case hg => rfl); (case hr => first | (go_simp; done) | (go_simp; rfl)); intro g1 hg w1 hbox hb; have hbx : Below w.heap.size w w1 := below_step (by repeat (first | (with_reducible first | exact Below.refl _ _ | apply below_alloc | apply pw_below_drewN | apply below_drew1) | exact Below.refl _ _)) hb; have n_R0 := Aside0.mk (R0.out.below hbx); have n_R1 := Aside0.mk (R1.out.below hbx); have n_R2 := Aside0.mk (R2.out.below hbx); have n_HB := Aside0.mk (below_step HB.out hbx); clear HB R0 R1 R2; have R0 := n_R0; have R1 := n_R1; have R2 := n_R2; have HB := n_HB; clear hbx n_R0 n_R1 n_R2 n_HB; have BK1 := Aside0.mk (Bk.mk (hbox : Blk w1 g1 24 #[.slice A0 l0.length c0, .slice A1 l1.length c1, .slice A2 l2.length c2])); clear hbox hg hb; have zBK1_0 : w1.cell? ⟨g1, 0, none⟩ = some (.slice A0 l0.length c0) := (blk_cell BK1.out.blk 0).trans rfl; have zBK1_1 : w1.cell? ⟨g1, 1, none⟩ = some (.slice A1 l1.length c1) := (blk_cell BK1.out.blk 1).trans rfl; have zBK1_2 : w1.cell? ⟨g1, 2, none⟩ = some (.slice A2 l2.length c2) := (blk_cell BK1.out.blk 2).trans rfl) | ((with_reducible refine gate_callee (f := 49) rfl ?_); refine goesL_ (some 7) rfl rfl Try.func49 (by kernel_rfl) rfl #[.agg #[.slice A0 l0.length c0, .slice A1 l1.length c1, .slice A2 l2.length c2]] rfl (by (try simp only [List.map_toArray, List.map_cons, List.map_nil]); first | done | rfl | (simp only [List.length_drop, List.length_take]; rfl)) ?_; (with_reducible refine (images_any _ _ _ _ _ _ _ _ _ _).mono ?_); rintro e w2 ⟨rfl, hb⟩; have hbx : Below w1.heap.size w1 w2 := below_step (by repeat (first | (with_reducible first | exact Below.refl _ _ | apply below_alloc | apply pw_below_drewN | apply below_drew1) | exact Below.refl _ _)) hb; clear zBK1_0 zBK1_1 zBK1_2; have n_R0 := Aside0.mk (R0.out.below hbx); have n_R1 := Aside0.mk (R1.out.below hbx); have n_R2 := Aside0.mk (R2.out.below hbx); have n_BK1 := Aside0.mk (BK1.out.below hbx); have n_HB := Aside0.mk (below_step HB.out hbx); clear HB R0 R1 R2 BK1; have R0 := n_R0; have R1 := n_R1; have R2 := n_R2; have BK1 := n_BK1; have HB := n_HB; clear hbx n_R0 n_R1 n_R2 n_BK1 n_HB; clear hb; have zBK1_0 : w2.cell? ⟨g1, 0, none⟩ = some (.slice A0 l0.length c0) := (blk_cell BK1.out.blk 0).trans rfl; have zBK1_1 : w2.cell? ⟨g1, 1, none⟩ = some (.slice A1 l1.length c1) := (blk_cell BK1.out.blk 1).trans rfl; have zBK1_2 : w2.cell? ⟨g1, 2, none⟩ = some (.slice A2 l2.length c2) := (blk_cell BK1.out.blk 2).trans rfl; refine ⟨_, rfl, ?_⟩))
  refine wp_loop_rounds 4 ?_
  rw [rounds_succ]
  go_wp2_with (((with_reducible refine gate_callee (f := 52) rfl ?_); refine goesL_ (some 18) rfl rfl Try.func52 (by kernel_rfl) rfl #[.slice A0 l0.length c0] rfl (by (try simp only [List.map_toArray, List.map_cons, List.map_nil]); first | done | rfl | (simp only [List.length_drop, List.length_take]; rfl)) ?_; (with_reducible refine (image_Format.calls k _ _ l0 a _ (R0.out.below (by repeat (first | (with_reducible first | exact Below.refl _ _ | apply below_alloc | apply pw_below_drewN | apply below_drew1) | exact Below.refl _ _))).row (R0.out.below (by repeat (first | (with_reducible first | exact Below.refl _ _ | apply below_alloc | apply pw_below_drewN | apply below_drew1) | exact Below.refl _ _))).cap FA.out).mono ?_); rintro e w3 ⟨rfl, hb⟩; have hbx : Below w2.heap.size w2 w3 := below_step (by repeat (first | (with_reducible first | exact Below.refl _ _ | apply below_alloc | apply pw_below_drewN | apply below_drew1) | exact Below.refl _ _)) hb; clear zBK1_0 zBK1_1 zBK1_2; have n_R0 := Aside0.mk (R0.out.below hbx); have n_R1 := Aside0.mk (R1.out.below hbx); have n_R2 := Aside0.mk (R2.out.below hbx); have n_BK1 := Aside0.mk (BK1.out.below hbx); have n_HB := Aside0.mk (below_step HB.out hbx); clear HB R0 R1 R2 BK1; have R0 := n_R0; have R1 := n_R1; have R2 := n_R2; have BK1 := n_BK1; have HB := n_HB; clear hbx n_R0 n_R1 n_R2 n_BK1 n_HB; clear hb; have zBK1_0 : w3.cell? ⟨g1, 0, none⟩ = some (.slice A0 l0.length c0) := (blk_cell BK1.out.blk 0).trans rfl; have zBK1_1 : w3.cell? ⟨g1, 1, none⟩ = some (.slice A1 l1.length c1) := (blk_cell BK1.out.blk 1).trans rfl; have zBK1_2 : w3.cell? ⟨g1, 2, none⟩ = some (.slice A2 l2.length c2) := (blk_cell BK1.out.blk 2).trans rfl; refine ⟨_, rfl, ?_⟩))
  rw [rounds_succ]
  go_wp2_with (((with_reducible refine gate_callee (f := 52) rfl ?_); refine goesL_ (some 18) rfl rfl Try.func52 (by kernel_rfl) rfl #[.slice A1 l1.length c1] rfl (by (try simp only [List.map_toArray, List.map_cons, List.map_nil]); first | done | rfl | (simp only [List.length_drop, List.length_take]; rfl)) ?_; (with_reducible refine (image_Format.calls k _ _ l1 b _ (R1.out.below (by repeat (first | (with_reducible first | exact Below.refl _ _ | apply below_alloc | apply pw_below_drewN | apply below_drew1) | exact Below.refl _ _))).row (R1.out.below (by repeat (first | (with_reducible first | exact Below.refl _ _ | apply below_alloc | apply pw_below_drewN | apply below_drew1) | exact Below.refl _ _))).cap FB.out).mono ?_); rintro e w4 ⟨rfl, hb⟩; have hbx : Below w3.heap.size w3 w4 := below_step (by repeat (first | (with_reducible first | exact Below.refl _ _ | apply below_alloc | apply pw_below_drewN | apply below_drew1) | exact Below.refl _ _)) hb; clear zBK1_0 zBK1_1 zBK1_2; have n_R0 := Aside0.mk (R0.out.below hbx); have n_R1 := Aside0.mk (R1.out.below hbx); have n_R2 := Aside0.mk (R2.out.below hbx); have n_BK1 := Aside0.mk (BK1.out.below hbx); have n_HB := Aside0.mk (below_step HB.out hbx); clear HB R0 R1 R2 BK1; have R0 := n_R0; have R1 := n_R1; have R2 := n_R2; have BK1 := n_BK1; have HB := n_HB; clear hbx n_R0 n_R1 n_R2 n_BK1 n_HB; clear hb; have zBK1_0 : w4.cell? ⟨g1, 0, none⟩ = some (.slice A0 l0.length c0) := (blk_cell BK1.out.blk 0).trans rfl; have zBK1_1 : w4.cell? ⟨g1, 1, none⟩ = some (.slice A1 l1.length c1) := (blk_cell BK1.out.blk 1).trans rfl; have zBK1_2 : w4.cell? ⟨g1, 2, none⟩ = some (.slice A2 l2.length c2) := (blk_cell BK1.out.blk 2).trans rfl; refine ⟨_, rfl, ?_⟩))
  rw [rounds_succ]
  go_wp2_with (((with_reducible refine gate_callee (f := 52) rfl ?_); refine goesL_ (some 18) rfl rfl Try.func52 (by kernel_rfl) rfl #[.slice A2 l2.length c2] rfl (by (try simp only [List.map_toArray, List.map_cons, List.map_nil]); first | done | rfl | (simp only [List.length_drop, List.length_take]; rfl)) ?_; (with_reducible refine (image_Format.calls k _ _ l2 c _ (R2.out.below (by repeat (first | (with_reducible first | exact Below.refl _ _ | apply below_alloc | apply pw_below_drewN | apply below_drew1) | exact Below.refl _ _))).row (R2.out.below (by repeat (first | (with_reducible first | exact Below.refl _ _ | apply below_alloc | apply pw_below_drewN | apply below_drew1) | exact Below.refl _ _))).cap FC.out).mono ?_); rintro e w5 ⟨rfl, hb⟩; have hbx : Below w4.heap.size w4 w5 := below_step (by repeat (first | (with_reducible first | exact Below.refl _ _ | apply below_alloc | apply pw_below_drewN | apply below_drew1) | exact Below.refl _ _)) hb; clear zBK1_0 zBK1_1 zBK1_2; have n_R0 := Aside0.mk (R0.out.below hbx); have n_R1 := Aside0.mk (R1.out.below hbx); have n_R2 := Aside0.mk (R2.out.below hbx); have n_BK1 := Aside0.mk (BK1.out.below hbx); have n_HB := Aside0.mk (below_step HB.out hbx); clear HB R0 R1 R2 BK1; have R0 := n_R0; have R1 := n_R1; have R2 := n_R2; have BK1 := n_BK1; have HB := n_HB; clear hbx n_R0 n_R1 n_R2 n_BK1 n_HB; clear hb; have zBK1_0 : w5.cell? ⟨g1, 0, none⟩ = some (.slice A0 l0.length c0) := (blk_cell BK1.out.blk 0).trans rfl; have zBK1_1 : w5.cell? ⟨g1, 1, none⟩ = some (.slice A1 l1.length c1) := (blk_cell BK1.out.blk 1).trans rfl; have zBK1_2 : w5.cell? ⟨g1, 2, none⟩ = some (.slice A2 l2.length c2) := (blk_cell BK1.out.blk 2).trans rfl; refine ⟨_, rfl, ?_⟩))
  rw [rounds_succ]
  go_wp2
  go_ret
  exact ⟨rfl, HB.out⟩
set_option maxHeartbeats 4000000 in
theorem equal_any (k : Nat) (r0 r1 r2 : Bool) (w : World) (h : Sr Kd.bool w A0 c0 A1 c1 A2 c2 l0 l1 l2) (h' : Sr Kd.bool w B0 d0 B1 d1 B2 d2 m0 m1 m2) (e0 : image_Equal.f k l0 m0 = some r0) (e1 : image_Equal.f k l1 m1 = some r1) (e2 : image_Equal.f k l2 m2 = some r2) :
    Calls Try.prog 29 #[.agg #[.slice A0 l0.length c0, .slice A1 l1.length c1, .slice A2 l2.length c2], .agg #[.slice B0 m0.length d0, .slice B1 m1.length d1, .slice B2 m2.length d2]] w fun e w' => e = .returned (.bool (r0 && r1 && r2)) ∧ Below w.heap.size w w' := by
  have E0 := Aside0.mk e0
  have E1 := Aside0.mk e1
  have E2 := Aside0.mk e2
  have R := Aside0.mk h
  have R' := Aside0.mk h'
  have HB := Aside0.mk (Below.refl w.heap.size w)
  clear e0 e1 e2 h h'
  go_enter Try.func29, Try.ntmps29
  go_upto_region 1 with (first | ((with_reducible refine gate_dst (N := 2) rfl ?_); refine box_event ?hg (N := 2) ?hd (cs := #[.slice A0 l0.length c0, .slice A1 l1.length c1, .slice A2 l2.length c2]) (t := 24) ?hr ?_; (case hd => rfl); (case hg => rfl); (case hr => first | (go_simp; done) | (go_simp; rfl)); intro g2 hg w1 hbox hb; have hbx : Below w.heap.size w w1 := below_step (by repeat (first | (with_reducible first | exact Below.refl _ _ | apply below_alloc | apply pw_below_drewN | apply below_drew1) | exact Below.refl _ _)) hb; have n_HB := Aside0.mk (below_step HB.out hbx); clear HB ; have HB := n_HB; clear hbx n_HB; have BK2 := Aside0.mk (Bk.mk (hbox : Blk w1 g2 24 #[.slice A0 l0.length c0, .slice A1 l1.length c1, .slice A2 l2.length c2])); clear hbox hg hb; have zBK2_0 : w1.cell? ⟨g2, 0, none⟩ = some (.slice A0 l0.length c0) := (blk_cell BK2.out.blk 0).trans rfl; have zBK2_1 : w1.cell? ⟨g2, 1, none⟩ = some (.slice A1 l1.length c1) := (blk_cell BK2.out.blk 1).trans rfl; have zBK2_2 : w1.cell? ⟨g2, 2, none⟩ = some (.slice A2 l2.length c2) := (blk_cell BK2.out.blk 2).trans rfl) | ((with_reducible refine gate_dst (N := 3) rfl ?_); refine box_event ?hg (N := 3) ?hd (cs := #[.slice B0 m0.length d0, .slice B1 m1.length d1, .slice B2 m2.length d2]) (t := 24) ?hr ?_; (case hd => rfl); (case hg => rfl); (case hr => first | (go_simp; done) | (go_simp; rfl)); intro g3 hg w2 hbox hb; have hbx : Below w1.heap.size w1 w2 := below_step (by repeat (first | (with_reducible first | exact Below.refl _ _ | apply below_alloc | apply pw_below_drewN | apply below_drew1) | exact Below.refl _ _)) hb; clear zBK2_0 zBK2_1 zBK2_2; have n_BK2 := Aside0.mk (BK2.out.below hbx); have n_HB := Aside0.mk (below_step HB.out hbx); clear HB BK2; have BK2 := n_BK2; have HB := n_HB; clear hbx n_BK2 n_HB; have BK3 := Aside0.mk (Bk.mk (hbox : Blk w2 g3 24 #[.slice B0 m0.length d0, .slice B1 m1.length d1, .slice B2 m2.length d2])); clear hbox hg hb; have zBK2_0 : w2.cell? ⟨g2, 0, none⟩ = some (.slice A0 l0.length c0) := (blk_cell BK2.out.blk 0).trans rfl; have zBK2_1 : w2.cell? ⟨g2, 1, none⟩ = some (.slice A1 l1.length c1) := (blk_cell BK2.out.blk 1).trans rfl; have zBK2_2 : w2.cell? ⟨g2, 2, none⟩ = some (.slice A2 l2.length c2) := (blk_cell BK2.out.blk 2).trans rfl; have zBK3_0 : w2.cell? ⟨g3, 0, none⟩ = some (.slice B0 m0.length d0) := (blk_cell BK3.out.blk 0).trans rfl; have zBK3_1 : w2.cell? ⟨g3, 1, none⟩ = some (.slice B1 m1.length d1) := (blk_cell BK3.out.blk 1).trans rfl; have zBK3_2 : w2.cell? ⟨g3, 2, none⟩ = some (.slice B2 m2.length d2) := (blk_cell BK3.out.blk 2).trans rfl))
  go_cut [5, 6] (fun v5 v6 wc => ∃ g5 g6, v5 = .pointer (some ⟨g5, 0, none⟩) ∧ v6 = .pointer (some ⟨g6, 0, none⟩) ∧ Aside0 (Bk wc g5 85 #[.slice A0 l0.length c0, .slice A1 l1.length c1, .slice A2 l2.length c2]) ∧ Aside0 (Bk wc g6 85 #[.slice B0 m0.length d0, .slice B1 m1.length d1, .slice B2 m2.length d2]) ∧ Aside0 (Below w.heap.size w wc))
  case first =>
    have KP : Aside0 (∀ w', Below w2.heap.size w2 w' → w'.cell? ⟨g2, 0, none⟩ = some (.slice A0 l0.length c0) ∧ w'.cell? ⟨g2, 1, none⟩ = some (.slice A1 l1.length c1) ∧ w'.cell? ⟨g2, 2, none⟩ = some (.slice A2 l2.length c2) ∧ w'.cell? ⟨g3, 0, none⟩ = some (.slice B0 m0.length d0) ∧ w'.cell? ⟨g3, 1, none⟩ = some (.slice B1 m1.length d1) ∧ w'.cell? ⟨g3, 2, none⟩ = some (.slice B2 m2.length d2)) := Aside0.mk (fun w' hb => ⟨(blk_cell (BK2.out.below hb).blk 0).trans rfl, (blk_cell (BK2.out.below hb).blk 1).trans rfl, (blk_cell (BK2.out.below hb).blk 2).trans rfl, (blk_cell (BK3.out.below hb).blk 0).trans rfl, (blk_cell (BK3.out.below hb).blk 1).trans rfl, (blk_cell (BK3.out.below hb).blk 2).trans rfl⟩)
    go_region_held3 (fun w' => w'.cell? ⟨g2, 0, none⟩ = some (.slice A0 l0.length c0) ∧ w'.cell? ⟨g2, 1, none⟩ = some (.slice A1 l1.length c1) ∧ w'.cell? ⟨g2, 2, none⟩ = some (.slice A2 l2.length c2) ∧ w'.cell? ⟨g3, 0, none⟩ = some (.slice B0 m0.length d0) ∧ w'.cell? ⟨g3, 1, none⟩ = some (.slice B1 m1.length d1) ∧ w'.cell? ⟨g3, 2, none⟩ = some (.slice B2 m2.length d2)) (exact KP.out _ (by repeat (first | (with_reducible first | exact Below.refl _ _ | apply below_alloc | apply pw_below_drewN | apply below_drew1 | refine below_set ?_ (by simp; try omega)) | exact Below.refl _ _))) (first | (go_at_call 49; refine (images_exact _ _ _ _ _ _ _ _ _ _).mono ?_; rintro e w' ⟨rfl, rfl⟩))
    all_goals go_wp2
    all_goals go_meet
    all_goals refine ⟨_, _, rfl, rfl, ?_, ?_, ?_⟩
    all_goals (refine Aside0.mk ?_)
    all_goals first | exact below_step HB.out (by repeat (first | (with_reducible first | exact Below.refl _ _ | apply below_alloc | apply pw_below_drewN | apply below_drew1) | exact Below.refl _ _)) | (repeat (first | (refine Bk.new_eq ?_; simp; done) | refine Bk.drew ?_ | refine Bk.drewN ?_ _ | refine Bk.alloc ?_ _))
  case rest =>
    obtain ⟨g5, g6, rfl, rfl, Q5, Q6, HBc⟩ := hcut
    clear HB
    have R5 := Aside0.mk (R.out.below HBc.out)
    have R6 := Aside0.mk (R'.out.below HBc.out)
    (try clear R0 R1 R2 R3 R4 R5 BK2 BK3)
    (try clear zBK2_0 zBK2_1 zBK2_2 zBK3_0 zBK3_1 zBK3_2)
    have HB := Aside0.mk (Below.refl wc.heap.size wc)
    clear HB
    have HB := HBc
    have Q5 : Aside0 (Bk wc g5 85 #[.slice A0 l0.length c0, .slice A1 l1.length c1, .slice A2 l2.length c2]) := Aside0.mk (Q5.out)
    have Q6 : Aside0 (Bk wc g6 85 #[.slice B0 m0.length d0, .slice B1 m1.length d1, .slice B2 m2.length d2]) := Aside0.mk (Q6.out)
    have zQ5_0 : wc.cell? ⟨g5, 0, none⟩ = some (.slice A0 l0.length c0) := (blk_cell Q5.out.blk 0).trans rfl
    have zQ5_1 : wc.cell? ⟨g5, 1, none⟩ = some (.slice A1 l1.length c1) := (blk_cell Q5.out.blk 1).trans rfl
    have zQ5_2 : wc.cell? ⟨g5, 2, none⟩ = some (.slice A2 l2.length c2) := (blk_cell Q5.out.blk 2).trans rfl
    have zQ6_0 : wc.cell? ⟨g6, 0, none⟩ = some (.slice B0 m0.length d0) := (blk_cell Q6.out.blk 0).trans rfl
    have zQ6_1 : wc.cell? ⟨g6, 1, none⟩ = some (.slice B1 m1.length d1) := (blk_cell Q6.out.blk 1).trans rfl
    have zQ6_2 : wc.cell? ⟨g6, 2, none⟩ = some (.slice B2 m2.length d2) := (blk_cell Q6.out.blk 2).trans rfl
    go_wp2_with fail
    refine wp_loop_rounds 4 ?_
    cases r0 with
    | false =>
      skip
      rw [rounds_succ]
      go_wp2_with fail
      have KP : Aside0 (∀ w', Below wc.heap.size wc w' → (w'.cell? ⟨g5, 0, none⟩ = some (.slice A0 l0.length c0) ∧ w'.cell? ⟨g5, 1, none⟩ = some (.slice A1 l1.length c1) ∧ w'.cell? ⟨g5, 2, none⟩ = some (.slice A2 l2.length c2) ∧ w'.cell? ⟨g6, 0, none⟩ = some (.slice B0 m0.length d0) ∧ w'.cell? ⟨g6, 1, none⟩ = some (.slice B1 m1.length d1) ∧ w'.cell? ⟨g6, 2, none⟩ = some (.slice B2 m2.length d2))) := Aside0.mk (fun w' hb => ⟨(blk_cell (Q5.out.below hb).blk 0).trans rfl, (blk_cell (Q5.out.below hb).blk 1).trans rfl, (blk_cell (Q5.out.below hb).blk 2).trans rfl, (blk_cell (Q6.out.below hb).blk 0).trans rfl, (blk_cell (Q6.out.below hb).blk 1).trans rfl, (blk_cell (Q6.out.below hb).blk 2).trans rfl⟩)
      have HBR := Aside0.mk (Below.refl wc.heap.size wc)
      clear zQ5_0 zQ5_1 zQ5_2 zQ6_0 zQ6_1 zQ6_2
      go_region_held3 (fun w' => w'.cell? ⟨g5, 0, none⟩ = some (.slice A0 l0.length c0) ∧ w'.cell? ⟨g5, 1, none⟩ = some (.slice A1 l1.length c1) ∧ w'.cell? ⟨g5, 2, none⟩ = some (.slice A2 l2.length c2) ∧ w'.cell? ⟨g6, 0, none⟩ = some (.slice B0 m0.length d0) ∧ w'.cell? ⟨g6, 1, none⟩ = some (.slice B1 m1.length d1) ∧ w'.cell? ⟨g6, 2, none⟩ = some (.slice B2 m2.length d2)) (exact KP.out _ (by repeat (first | (with_reducible first | exact HBR.out | apply below_alloc | apply pw_below_drewN | apply below_drew1) | exact HBR.out))) (first | (go_at_call 51; (with_reducible refine (image_Equal.calls k _ _ l0 _ _ m0 false _ (R.out.r0.below (below_step HB.out (by repeat (first | (with_reducible first | exact HBR.out | apply below_alloc | apply pw_below_drewN | apply below_drew1) | exact HBR.out)))).row (R.out.r0.below (below_step HB.out (by repeat (first | (with_reducible first | exact HBR.out | apply below_alloc | apply pw_below_drewN | apply below_drew1) | exact HBR.out)))).cap (R'.out.r0.below (below_step HB.out (by repeat (first | (with_reducible first | exact HBR.out | apply below_alloc | apply pw_below_drewN | apply below_drew1) | exact HBR.out)))).row (R'.out.r0.below (below_step HB.out (by repeat (first | (with_reducible first | exact HBR.out | apply below_alloc | apply pw_below_drewN | apply below_drew1) | exact HBR.out)))).cap E0.out).mono ?_); rintro e w_ ⟨rfl, ⟨nd, rfl⟩⟩))
      refine Evt.gen_any (w0 := wc) (by repeat (first | (with_reducible first | exact HBR.out | apply below_alloc | apply pw_below_drewN | apply below_drew1) | exact HBR.out)) ?_
      intro w1 hbx
      clear HBR KP
      have n_Q5 := Aside0.mk (Q5.out.below hbx)
      have n_Q6 := Aside0.mk (Q6.out.below hbx)
      have n_HB := Aside0.mk (below_step HB.out hbx)
      clear HB Q5 Q6
      have Q5 := n_Q5
      have Q6 := n_Q6
      have HB := n_HB
      clear hbx n_Q5 n_Q6 n_HB
      have zQ5_0 : w1.cell? ⟨g5, 0, none⟩ = some (.slice A0 l0.length c0) := (blk_cell Q5.out.blk 0).trans rfl
      have zQ5_1 : w1.cell? ⟨g5, 1, none⟩ = some (.slice A1 l1.length c1) := (blk_cell Q5.out.blk 1).trans rfl
      have zQ5_2 : w1.cell? ⟨g5, 2, none⟩ = some (.slice A2 l2.length c2) := (blk_cell Q5.out.blk 2).trans rfl
      have zQ6_0 : w1.cell? ⟨g6, 0, none⟩ = some (.slice B0 m0.length d0) := (blk_cell Q6.out.blk 0).trans rfl
      have zQ6_1 : w1.cell? ⟨g6, 1, none⟩ = some (.slice B1 m1.length d1) := (blk_cell Q6.out.blk 1).trans rfl
      have zQ6_2 : w1.cell? ⟨g6, 2, none⟩ = some (.slice B2 m2.length d2) := (blk_cell Q6.out.blk 2).trans rfl
      go_wp2
      go_ret
      exact ⟨rfl, HB.out⟩
      skip
    | true =>
      rw [rounds_succ]
      go_wp2_with fail
      have KP : Aside0 (∀ w', Below wc.heap.size wc w' → (w'.cell? ⟨g5, 0, none⟩ = some (.slice A0 l0.length c0) ∧ w'.cell? ⟨g5, 1, none⟩ = some (.slice A1 l1.length c1) ∧ w'.cell? ⟨g5, 2, none⟩ = some (.slice A2 l2.length c2) ∧ w'.cell? ⟨g6, 0, none⟩ = some (.slice B0 m0.length d0) ∧ w'.cell? ⟨g6, 1, none⟩ = some (.slice B1 m1.length d1) ∧ w'.cell? ⟨g6, 2, none⟩ = some (.slice B2 m2.length d2))) := Aside0.mk (fun w' hb => ⟨(blk_cell (Q5.out.below hb).blk 0).trans rfl, (blk_cell (Q5.out.below hb).blk 1).trans rfl, (blk_cell (Q5.out.below hb).blk 2).trans rfl, (blk_cell (Q6.out.below hb).blk 0).trans rfl, (blk_cell (Q6.out.below hb).blk 1).trans rfl, (blk_cell (Q6.out.below hb).blk 2).trans rfl⟩)
      have HBR := Aside0.mk (Below.refl wc.heap.size wc)
      clear zQ5_0 zQ5_1 zQ5_2 zQ6_0 zQ6_1 zQ6_2
      go_region_held3 (fun w' => w'.cell? ⟨g5, 0, none⟩ = some (.slice A0 l0.length c0) ∧ w'.cell? ⟨g5, 1, none⟩ = some (.slice A1 l1.length c1) ∧ w'.cell? ⟨g5, 2, none⟩ = some (.slice A2 l2.length c2) ∧ w'.cell? ⟨g6, 0, none⟩ = some (.slice B0 m0.length d0) ∧ w'.cell? ⟨g6, 1, none⟩ = some (.slice B1 m1.length d1) ∧ w'.cell? ⟨g6, 2, none⟩ = some (.slice B2 m2.length d2)) (exact KP.out _ (by repeat (first | (with_reducible first | exact HBR.out | apply below_alloc | apply pw_below_drewN | apply below_drew1) | exact HBR.out))) (first | (go_at_call 51; (with_reducible refine (image_Equal.calls k _ _ l0 _ _ m0 true _ (R.out.r0.below (below_step HB.out (by repeat (first | (with_reducible first | exact HBR.out | apply below_alloc | apply pw_below_drewN | apply below_drew1) | exact HBR.out)))).row (R.out.r0.below (below_step HB.out (by repeat (first | (with_reducible first | exact HBR.out | apply below_alloc | apply pw_below_drewN | apply below_drew1) | exact HBR.out)))).cap (R'.out.r0.below (below_step HB.out (by repeat (first | (with_reducible first | exact HBR.out | apply below_alloc | apply pw_below_drewN | apply below_drew1) | exact HBR.out)))).row (R'.out.r0.below (below_step HB.out (by repeat (first | (with_reducible first | exact HBR.out | apply below_alloc | apply pw_below_drewN | apply below_drew1) | exact HBR.out)))).cap E0.out).mono ?_); rintro e w_ ⟨rfl, ⟨nd, rfl⟩⟩))
      refine Evt.gen_any (w0 := wc) (by repeat (first | (with_reducible first | exact HBR.out | apply below_alloc | apply pw_below_drewN | apply below_drew1) | exact HBR.out)) ?_
      intro w1 hbx
      clear HBR KP
      have n_Q5 := Aside0.mk (Q5.out.below hbx)
      have n_Q6 := Aside0.mk (Q6.out.below hbx)
      have n_HB := Aside0.mk (below_step HB.out hbx)
      clear HB Q5 Q6
      have Q5 := n_Q5
      have Q6 := n_Q6
      have HB := n_HB
      clear hbx n_Q5 n_Q6 n_HB
      have zQ5_0 : w1.cell? ⟨g5, 0, none⟩ = some (.slice A0 l0.length c0) := (blk_cell Q5.out.blk 0).trans rfl
      have zQ5_1 : w1.cell? ⟨g5, 1, none⟩ = some (.slice A1 l1.length c1) := (blk_cell Q5.out.blk 1).trans rfl
      have zQ5_2 : w1.cell? ⟨g5, 2, none⟩ = some (.slice A2 l2.length c2) := (blk_cell Q5.out.blk 2).trans rfl
      have zQ6_0 : w1.cell? ⟨g6, 0, none⟩ = some (.slice B0 m0.length d0) := (blk_cell Q6.out.blk 0).trans rfl
      have zQ6_1 : w1.cell? ⟨g6, 1, none⟩ = some (.slice B1 m1.length d1) := (blk_cell Q6.out.blk 1).trans rfl
      have zQ6_2 : w1.cell? ⟨g6, 2, none⟩ = some (.slice B2 m2.length d2) := (blk_cell Q6.out.blk 2).trans rfl
      go_wp2
      cases r1 with
      | false =>
        skip
        rw [rounds_succ]
        go_wp2_with fail
        have KP : Aside0 (∀ w', Below w1.heap.size w1 w' → (w'.cell? ⟨g5, 0, none⟩ = some (.slice A0 l0.length c0) ∧ w'.cell? ⟨g5, 1, none⟩ = some (.slice A1 l1.length c1) ∧ w'.cell? ⟨g5, 2, none⟩ = some (.slice A2 l2.length c2) ∧ w'.cell? ⟨g6, 0, none⟩ = some (.slice B0 m0.length d0) ∧ w'.cell? ⟨g6, 1, none⟩ = some (.slice B1 m1.length d1) ∧ w'.cell? ⟨g6, 2, none⟩ = some (.slice B2 m2.length d2))) := Aside0.mk (fun w' hb => ⟨(blk_cell (Q5.out.below hb).blk 0).trans rfl, (blk_cell (Q5.out.below hb).blk 1).trans rfl, (blk_cell (Q5.out.below hb).blk 2).trans rfl, (blk_cell (Q6.out.below hb).blk 0).trans rfl, (blk_cell (Q6.out.below hb).blk 1).trans rfl, (blk_cell (Q6.out.below hb).blk 2).trans rfl⟩)
        have HBR := Aside0.mk (Below.refl w1.heap.size w1)
        clear zQ5_0 zQ5_1 zQ5_2 zQ6_0 zQ6_1 zQ6_2
        go_region_held3 (fun w' => w'.cell? ⟨g5, 0, none⟩ = some (.slice A0 l0.length c0) ∧ w'.cell? ⟨g5, 1, none⟩ = some (.slice A1 l1.length c1) ∧ w'.cell? ⟨g5, 2, none⟩ = some (.slice A2 l2.length c2) ∧ w'.cell? ⟨g6, 0, none⟩ = some (.slice B0 m0.length d0) ∧ w'.cell? ⟨g6, 1, none⟩ = some (.slice B1 m1.length d1) ∧ w'.cell? ⟨g6, 2, none⟩ = some (.slice B2 m2.length d2)) (exact KP.out _ (by repeat (first | (with_reducible first | exact HBR.out | apply below_alloc | apply pw_below_drewN | apply below_drew1) | exact HBR.out))) (first | (go_at_call 51; (with_reducible refine (image_Equal.calls k _ _ l1 _ _ m1 false _ (R.out.r1.below (below_step HB.out (by repeat (first | (with_reducible first | exact HBR.out | apply below_alloc | apply pw_below_drewN | apply below_drew1) | exact HBR.out)))).row (R.out.r1.below (below_step HB.out (by repeat (first | (with_reducible first | exact HBR.out | apply below_alloc | apply pw_below_drewN | apply below_drew1) | exact HBR.out)))).cap (R'.out.r1.below (below_step HB.out (by repeat (first | (with_reducible first | exact HBR.out | apply below_alloc | apply pw_below_drewN | apply below_drew1) | exact HBR.out)))).row (R'.out.r1.below (below_step HB.out (by repeat (first | (with_reducible first | exact HBR.out | apply below_alloc | apply pw_below_drewN | apply below_drew1) | exact HBR.out)))).cap E1.out).mono ?_); rintro e w_ ⟨rfl, ⟨nd, rfl⟩⟩))
        refine Evt.gen_any (w0 := w1) (by repeat (first | (with_reducible first | exact HBR.out | apply below_alloc | apply pw_below_drewN | apply below_drew1) | exact HBR.out)) ?_
        intro w2 hbx
        clear HBR KP
        have n_Q5 := Aside0.mk (Q5.out.below hbx)
        have n_Q6 := Aside0.mk (Q6.out.below hbx)
        have n_HB := Aside0.mk (below_step HB.out hbx)
        clear HB Q5 Q6
        have Q5 := n_Q5
        have Q6 := n_Q6
        have HB := n_HB
        clear hbx n_Q5 n_Q6 n_HB
        have zQ5_0 : w2.cell? ⟨g5, 0, none⟩ = some (.slice A0 l0.length c0) := (blk_cell Q5.out.blk 0).trans rfl
        have zQ5_1 : w2.cell? ⟨g5, 1, none⟩ = some (.slice A1 l1.length c1) := (blk_cell Q5.out.blk 1).trans rfl
        have zQ5_2 : w2.cell? ⟨g5, 2, none⟩ = some (.slice A2 l2.length c2) := (blk_cell Q5.out.blk 2).trans rfl
        have zQ6_0 : w2.cell? ⟨g6, 0, none⟩ = some (.slice B0 m0.length d0) := (blk_cell Q6.out.blk 0).trans rfl
        have zQ6_1 : w2.cell? ⟨g6, 1, none⟩ = some (.slice B1 m1.length d1) := (blk_cell Q6.out.blk 1).trans rfl
        have zQ6_2 : w2.cell? ⟨g6, 2, none⟩ = some (.slice B2 m2.length d2) := (blk_cell Q6.out.blk 2).trans rfl
        go_wp2
        go_ret
        exact ⟨rfl, HB.out⟩
        skip
      | true =>
        rw [rounds_succ]
        go_wp2_with fail
        have KP : Aside0 (∀ w', Below w1.heap.size w1 w' → (w'.cell? ⟨g5, 0, none⟩ = some (.slice A0 l0.length c0) ∧ w'.cell? ⟨g5, 1, none⟩ = some (.slice A1 l1.length c1) ∧ w'.cell? ⟨g5, 2, none⟩ = some (.slice A2 l2.length c2) ∧ w'.cell? ⟨g6, 0, none⟩ = some (.slice B0 m0.length d0) ∧ w'.cell? ⟨g6, 1, none⟩ = some (.slice B1 m1.length d1) ∧ w'.cell? ⟨g6, 2, none⟩ = some (.slice B2 m2.length d2))) := Aside0.mk (fun w' hb => ⟨(blk_cell (Q5.out.below hb).blk 0).trans rfl, (blk_cell (Q5.out.below hb).blk 1).trans rfl, (blk_cell (Q5.out.below hb).blk 2).trans rfl, (blk_cell (Q6.out.below hb).blk 0).trans rfl, (blk_cell (Q6.out.below hb).blk 1).trans rfl, (blk_cell (Q6.out.below hb).blk 2).trans rfl⟩)
        have HBR := Aside0.mk (Below.refl w1.heap.size w1)
        clear zQ5_0 zQ5_1 zQ5_2 zQ6_0 zQ6_1 zQ6_2
        go_region_held3 (fun w' => w'.cell? ⟨g5, 0, none⟩ = some (.slice A0 l0.length c0) ∧ w'.cell? ⟨g5, 1, none⟩ = some (.slice A1 l1.length c1) ∧ w'.cell? ⟨g5, 2, none⟩ = some (.slice A2 l2.length c2) ∧ w'.cell? ⟨g6, 0, none⟩ = some (.slice B0 m0.length d0) ∧ w'.cell? ⟨g6, 1, none⟩ = some (.slice B1 m1.length d1) ∧ w'.cell? ⟨g6, 2, none⟩ = some (.slice B2 m2.length d2)) (exact KP.out _ (by repeat (first | (with_reducible first | exact HBR.out | apply below_alloc | apply pw_below_drewN | apply below_drew1) | exact HBR.out))) (first | (go_at_call 51; (with_reducible refine (image_Equal.calls k _ _ l1 _ _ m1 true _ (R.out.r1.below (below_step HB.out (by repeat (first | (with_reducible first | exact HBR.out | apply below_alloc | apply pw_below_drewN | apply below_drew1) | exact HBR.out)))).row (R.out.r1.below (below_step HB.out (by repeat (first | (with_reducible first | exact HBR.out | apply below_alloc | apply pw_below_drewN | apply below_drew1) | exact HBR.out)))).cap (R'.out.r1.below (below_step HB.out (by repeat (first | (with_reducible first | exact HBR.out | apply below_alloc | apply pw_below_drewN | apply below_drew1) | exact HBR.out)))).row (R'.out.r1.below (below_step HB.out (by repeat (first | (with_reducible first | exact HBR.out | apply below_alloc | apply pw_below_drewN | apply below_drew1) | exact HBR.out)))).cap E1.out).mono ?_); rintro e w_ ⟨rfl, ⟨nd, rfl⟩⟩))
        refine Evt.gen_any (w0 := w1) (by repeat (first | (with_reducible first | exact HBR.out | apply below_alloc | apply pw_below_drewN | apply below_drew1) | exact HBR.out)) ?_
        intro w2 hbx
        clear HBR KP
        have n_Q5 := Aside0.mk (Q5.out.below hbx)
        have n_Q6 := Aside0.mk (Q6.out.below hbx)
        have n_HB := Aside0.mk (below_step HB.out hbx)
        clear HB Q5 Q6
        have Q5 := n_Q5
        have Q6 := n_Q6
        have HB := n_HB
        clear hbx n_Q5 n_Q6 n_HB
        have zQ5_0 : w2.cell? ⟨g5, 0, none⟩ = some (.slice A0 l0.length c0) := (blk_cell Q5.out.blk 0).trans rfl
        have zQ5_1 : w2.cell? ⟨g5, 1, none⟩ = some (.slice A1 l1.length c1) := (blk_cell Q5.out.blk 1).trans rfl
        have zQ5_2 : w2.cell? ⟨g5, 2, none⟩ = some (.slice A2 l2.length c2) := (blk_cell Q5.out.blk 2).trans rfl
        have zQ6_0 : w2.cell? ⟨g6, 0, none⟩ = some (.slice B0 m0.length d0) := (blk_cell Q6.out.blk 0).trans rfl
        have zQ6_1 : w2.cell? ⟨g6, 1, none⟩ = some (.slice B1 m1.length d1) := (blk_cell Q6.out.blk 1).trans rfl
        have zQ6_2 : w2.cell? ⟨g6, 2, none⟩ = some (.slice B2 m2.length d2) := (blk_cell Q6.out.blk 2).trans rfl
        go_wp2
        cases r2 with
        | false =>
          skip
          rw [rounds_succ]
          go_wp2_with fail
          have KP : Aside0 (∀ w', Below w2.heap.size w2 w' → (w'.cell? ⟨g5, 0, none⟩ = some (.slice A0 l0.length c0) ∧ w'.cell? ⟨g5, 1, none⟩ = some (.slice A1 l1.length c1) ∧ w'.cell? ⟨g5, 2, none⟩ = some (.slice A2 l2.length c2) ∧ w'.cell? ⟨g6, 0, none⟩ = some (.slice B0 m0.length d0) ∧ w'.cell? ⟨g6, 1, none⟩ = some (.slice B1 m1.length d1) ∧ w'.cell? ⟨g6, 2, none⟩ = some (.slice B2 m2.length d2))) := Aside0.mk (fun w' hb => ⟨(blk_cell (Q5.out.below hb).blk 0).trans rfl, (blk_cell (Q5.out.below hb).blk 1).trans rfl, (blk_cell (Q5.out.below hb).blk 2).trans rfl, (blk_cell (Q6.out.below hb).blk 0).trans rfl, (blk_cell (Q6.out.below hb).blk 1).trans rfl, (blk_cell (Q6.out.below hb).blk 2).trans rfl⟩)
          have HBR := Aside0.mk (Below.refl w2.heap.size w2)
          clear zQ5_0 zQ5_1 zQ5_2 zQ6_0 zQ6_1 zQ6_2
          go_region_held3 (fun w' => w'.cell? ⟨g5, 0, none⟩ = some (.slice A0 l0.length c0) ∧ w'.cell? ⟨g5, 1, none⟩ = some (.slice A1 l1.length c1) ∧ w'.cell? ⟨g5, 2, none⟩ = some (.slice A2 l2.length c2) ∧ w'.cell? ⟨g6, 0, none⟩ = some (.slice B0 m0.length d0) ∧ w'.cell? ⟨g6, 1, none⟩ = some (.slice B1 m1.length d1) ∧ w'.cell? ⟨g6, 2, none⟩ = some (.slice B2 m2.length d2)) (exact KP.out _ (by repeat (first | (with_reducible first | exact HBR.out | apply below_alloc | apply pw_below_drewN | apply below_drew1) | exact HBR.out))) (first | (go_at_call 51; (with_reducible refine (image_Equal.calls k _ _ l2 _ _ m2 false _ (R.out.r2.below (below_step HB.out (by repeat (first | (with_reducible first | exact HBR.out | apply below_alloc | apply pw_below_drewN | apply below_drew1) | exact HBR.out)))).row (R.out.r2.below (below_step HB.out (by repeat (first | (with_reducible first | exact HBR.out | apply below_alloc | apply pw_below_drewN | apply below_drew1) | exact HBR.out)))).cap (R'.out.r2.below (below_step HB.out (by repeat (first | (with_reducible first | exact HBR.out | apply below_alloc | apply pw_below_drewN | apply below_drew1) | exact HBR.out)))).row (R'.out.r2.below (below_step HB.out (by repeat (first | (with_reducible first | exact HBR.out | apply below_alloc | apply pw_below_drewN | apply below_drew1) | exact HBR.out)))).cap E2.out).mono ?_); rintro e w_ ⟨rfl, ⟨nd, rfl⟩⟩))
          refine Evt.gen_any (w0 := w2) (by repeat (first | (with_reducible first | exact HBR.out | apply below_alloc | apply pw_below_drewN | apply below_drew1) | exact HBR.out)) ?_
          intro w3 hbx
          clear HBR KP
          have n_Q5 := Aside0.mk (Q5.out.below hbx)
          have n_Q6 := Aside0.mk (Q6.out.below hbx)
          have n_HB := Aside0.mk (below_step HB.out hbx)
          clear HB Q5 Q6
          have Q5 := n_Q5
          have Q6 := n_Q6
          have HB := n_HB
          clear hbx n_Q5 n_Q6 n_HB
          have zQ5_0 : w3.cell? ⟨g5, 0, none⟩ = some (.slice A0 l0.length c0) := (blk_cell Q5.out.blk 0).trans rfl
          have zQ5_1 : w3.cell? ⟨g5, 1, none⟩ = some (.slice A1 l1.length c1) := (blk_cell Q5.out.blk 1).trans rfl
          have zQ5_2 : w3.cell? ⟨g5, 2, none⟩ = some (.slice A2 l2.length c2) := (blk_cell Q5.out.blk 2).trans rfl
          have zQ6_0 : w3.cell? ⟨g6, 0, none⟩ = some (.slice B0 m0.length d0) := (blk_cell Q6.out.blk 0).trans rfl
          have zQ6_1 : w3.cell? ⟨g6, 1, none⟩ = some (.slice B1 m1.length d1) := (blk_cell Q6.out.blk 1).trans rfl
          have zQ6_2 : w3.cell? ⟨g6, 2, none⟩ = some (.slice B2 m2.length d2) := (blk_cell Q6.out.blk 2).trans rfl
          go_wp2
          go_ret
          exact ⟨rfl, HB.out⟩
          skip
        | true =>
          rw [rounds_succ]
          go_wp2_with fail
          have KP : Aside0 (∀ w', Below w2.heap.size w2 w' → (w'.cell? ⟨g5, 0, none⟩ = some (.slice A0 l0.length c0) ∧ w'.cell? ⟨g5, 1, none⟩ = some (.slice A1 l1.length c1) ∧ w'.cell? ⟨g5, 2, none⟩ = some (.slice A2 l2.length c2) ∧ w'.cell? ⟨g6, 0, none⟩ = some (.slice B0 m0.length d0) ∧ w'.cell? ⟨g6, 1, none⟩ = some (.slice B1 m1.length d1) ∧ w'.cell? ⟨g6, 2, none⟩ = some (.slice B2 m2.length d2))) := Aside0.mk (fun w' hb => ⟨(blk_cell (Q5.out.below hb).blk 0).trans rfl, (blk_cell (Q5.out.below hb).blk 1).trans rfl, (blk_cell (Q5.out.below hb).blk 2).trans rfl, (blk_cell (Q6.out.below hb).blk 0).trans rfl, (blk_cell (Q6.out.below hb).blk 1).trans rfl, (blk_cell (Q6.out.below hb).blk 2).trans rfl⟩)
          have HBR := Aside0.mk (Below.refl w2.heap.size w2)
          clear zQ5_0 zQ5_1 zQ5_2 zQ6_0 zQ6_1 zQ6_2
          go_region_held3 (fun w' => w'.cell? ⟨g5, 0, none⟩ = some (.slice A0 l0.length c0) ∧ w'.cell? ⟨g5, 1, none⟩ = some (.slice A1 l1.length c1) ∧ w'.cell? ⟨g5, 2, none⟩ = some (.slice A2 l2.length c2) ∧ w'.cell? ⟨g6, 0, none⟩ = some (.slice B0 m0.length d0) ∧ w'.cell? ⟨g6, 1, none⟩ = some (.slice B1 m1.length d1) ∧ w'.cell? ⟨g6, 2, none⟩ = some (.slice B2 m2.length d2)) (exact KP.out _ (by repeat (first | (with_reducible first | exact HBR.out | apply below_alloc | apply pw_below_drewN | apply below_drew1) | exact HBR.out))) (first | (go_at_call 51; (with_reducible refine (image_Equal.calls k _ _ l2 _ _ m2 true _ (R.out.r2.below (below_step HB.out (by repeat (first | (with_reducible first | exact HBR.out | apply below_alloc | apply pw_below_drewN | apply below_drew1) | exact HBR.out)))).row (R.out.r2.below (below_step HB.out (by repeat (first | (with_reducible first | exact HBR.out | apply below_alloc | apply pw_below_drewN | apply below_drew1) | exact HBR.out)))).cap (R'.out.r2.below (below_step HB.out (by repeat (first | (with_reducible first | exact HBR.out | apply below_alloc | apply pw_below_drewN | apply below_drew1) | exact HBR.out)))).row (R'.out.r2.below (below_step HB.out (by repeat (first | (with_reducible first | exact HBR.out | apply below_alloc | apply pw_below_drewN | apply below_drew1) | exact HBR.out)))).cap E2.out).mono ?_); rintro e w_ ⟨rfl, ⟨nd, rfl⟩⟩))
          refine Evt.gen_any (w0 := w2) (by repeat (first | (with_reducible first | exact HBR.out | apply below_alloc | apply pw_below_drewN | apply below_drew1) | exact HBR.out)) ?_
          intro w3 hbx
          clear HBR KP
          have n_Q5 := Aside0.mk (Q5.out.below hbx)
          have n_Q6 := Aside0.mk (Q6.out.below hbx)
          have n_HB := Aside0.mk (below_step HB.out hbx)
          clear HB Q5 Q6
          have Q5 := n_Q5
          have Q6 := n_Q6
          have HB := n_HB
          clear hbx n_Q5 n_Q6 n_HB
          have zQ5_0 : w3.cell? ⟨g5, 0, none⟩ = some (.slice A0 l0.length c0) := (blk_cell Q5.out.blk 0).trans rfl
          have zQ5_1 : w3.cell? ⟨g5, 1, none⟩ = some (.slice A1 l1.length c1) := (blk_cell Q5.out.blk 1).trans rfl
          have zQ5_2 : w3.cell? ⟨g5, 2, none⟩ = some (.slice A2 l2.length c2) := (blk_cell Q5.out.blk 2).trans rfl
          have zQ6_0 : w3.cell? ⟨g6, 0, none⟩ = some (.slice B0 m0.length d0) := (blk_cell Q6.out.blk 0).trans rfl
          have zQ6_1 : w3.cell? ⟨g6, 1, none⟩ = some (.slice B1 m1.length d1) := (blk_cell Q6.out.blk 1).trans rfl
          have zQ6_2 : w3.cell? ⟨g6, 2, none⟩ = some (.slice B2 m2.length d2) := (blk_cell Q6.out.blk 2).trans rfl
          go_wp2
          rw [rounds_succ]
          go_wp2
          go_ret
          exact ⟨rfl, HB.out⟩
end
end Go.Proofs.Ytjohdkbciafpfaa.St03
