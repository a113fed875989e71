/- Chapter 06: what it uses of chapter 03: states read, written, cloned, said in plain Lean. -/
import Derived.Test.YtjohdkbciafpfaaImpl2
import Derived.Test.YtjohdkbciafpfaaImpl3
import Derived.Test.YtjohdkbciafpfaaImpl7
import Derived.Test.YtjohdkbciafpfaaPim3
import Derived.Test.YtjohdkbciafpfaaEv
import Derived.Deep.RegionHeld3
namespace Go.Proofs.Ytjohdkbciafpfaa.Vm6
open Go.RowKit Go.Proofs.YtjohdkbciafpfaaW.PrintWords Go.Proofs.YtjohdkbciafpfaaW.PrintMore Go.Proofs.YtjohdkbciafpfaaW.PrintLast Go.Proofs.Ytjohdkbciafpfaa.Chg Go.Proofs.Ytjohdkbciafpfaa.Evt Go.Proofs.Ytjohdkbciafpfaa.Impl Go.Proofs.Ytjohdkbciafpfaa.Pimg
set_option linter.unusedVariables false
set_option linter.unusedSimpArgs false
set_option maxRecDepth 100000
theorem cloneP (l0 l1 l2 : List Bool) (h0 : l0.length ≤ 20000) (h1 : l1.length ≤ 20000) (h2 : l2.length ≤ 20000) : state_Clone.f l0 l1 l2 = some (l0, l1, l2) := by
  unfold state_Clone.f slices_Clone_bool_bool.f
  rw [if_pos (by omega), if_pos (by omega), if_pos (by omega)]
  rfl
def rdv (l l0 l1 : List Bool) (s n : Int) : Bool × Int :=
  if s = 0 then (if 0 ≤ n ∧ n < l.length then (rdOf false l n, 0) else (false, 3)) else if s = 1 then (if 0 ≤ n ∧ n < l0.length then (rdOf false l0 n, 0) else (false, 3)) else if s = 2 then (if 0 ≤ n ∧ n < l1.length then (rdOf false l1 n, 0) else (false, 3)) else (false, 8)
theorem getP (l : List Bool) (n : Int) : image_Get.f l n = some (if 0 ≤ n ∧ n < l.length then (rdOf false l n, 0) else (false, 3)) := by
  by_cases h : 0 ≤ n ∧ n < l.length
  · obtain ⟨j, rfl⟩ : ∃ j : Nat, n = j := ⟨n.toNat, by omega⟩
    rw [if_pos h, get_in l j (by omega), rdOf_lt _ _ _ (by omega)]
  · rw [if_neg h, get_out l n (by omega)]
def wrv (l0 l1 l2 : List Bool) (s n : Int) (v : Bool) : List Bool × List Bool × List Bool × Int :=
  if s = 1 then (if 0 ≤ n ∧ n < l0.length then (l0.set n.toNat v, l1, l2, 0) else ([], [], [], 3)) else if s = 2 then (if 0 ≤ n ∧ n < l1.length then (l0, l1.set n.toNat v, l2, 0) else ([], [], [], 3)) else ([], [], [], 8)
theorem setP (l : List Bool) (n : Int) (v : Bool) (h : l.length ≤ 20000) : image_Set.f l n v = some (if 0 ≤ n ∧ n < l.length then (l.set n.toNat v, 0) else ([], 3)) := by
  by_cases hc : 0 ≤ n ∧ n < l.length
  · obtain ⟨j, rfl⟩ : ∃ j : Nat, n = j := ⟨n.toNat, by omega⟩
    rw [if_pos hc, set_in l j v (by omega) (by omega), Int.toNat_natCast]
  · rw [if_neg hc, set_out l n v (by omega)]
section
variable {A A0 A1 A2 B0 B1 B2 : Option Addr} {c c0 c1 c2 d0 d1 d2 : Nat} {l l0 l1 l2 m0 m1 m2 : List Bool}
set_option maxHeartbeats 4000000 in
theorem read_any (s n : Int) (w : World) (h : Rw Kd.bool w A c l) (h' : Sr Kd.bool w A0 c0 A1 c1 A2 c2 l0 l1 l2) (r : Bool) (e : Int)
    (h0 : s = 0 → image_Get.f l n = some (r, e)) (h1 : s = 1 → image_Get.f l0 n = some (r, e)) (h2 : s = 2 → image_Get.f l1 n = some (r, e)) (h3 : (s < 0 ∨ 2 < s) → r = false ∧ e = 8) :
    Calls Try.prog 18 #[.slice A l.length c, .agg #[.slice A0 l0.length c0, .slice A1 l1.length c1, .slice A2 l2.length c2], .agg #[.int .i64 s, .int .i64 n]] w fun x w' => x = .returned (.tuple #[.bool r, .int .i64 e]) ∧ Below w.heap.size w w' := by
  have R := Aside0.mk h
  have R' := Aside0.mk h'
  have H0 := Aside0.mk h0
  have H1 := Aside0.mk h1
  have H2 := Aside0.mk h2
  have HB := Aside0.mk (Below.refl w.heap.size w)
  clear h h' h0 h1 h2
  by_cases c0_ : s < 0
  case pos =>
    obtain ⟨rfl, rfl⟩ := h3 (.inl c0_)
    have t0 : decide (s < 0) = true := decide_eq_true c0_
    clear h3 c0_
    skip
    go_enter Try.func18, Try.ntmps18
    go_wp2_with (first | ((with_reducible refine gate_dst (N := 4) rfl ?_); refine box_event ?hg (N := 4) ?hd (cs := #[.slice A0 l0.length c0, .slice A1 l1.length c1, .slice A2 l2.length c2]) (t := 24) ?hr ?_; (case hd => rfl); (case hg => rfl); (case hr => first | (go_simp; done) | (go_simp; rfl)); intro g4 hg w1 hbox hb; have hbx : Below w.heap.size w w1 := below_step (by repeat (first | (with_reducible first | exact Below.refl _ _ | apply below_alloc | apply pw_below_drewN | apply below_drew1) | exact Below.refl _ _)) hb; replace HB := Aside0.mk (below_step HB.out hbx); clear hbx; have BK4 := Aside0.mk (Bk.mk (hbox : Blk w1 g4 24 #[.slice A0 l0.length c0, .slice A1 l1.length c1, .slice A2 l2.length c2])); clear hbox hg hb; obtain ⟨zBK4_0, zBK4_1, zBK4_2⟩ := BK4.out.c3) | ((with_reducible refine gate_dst (N := 5) rfl ?_); refine box_event ?hg (N := 5) ?hd (cs := #[.int .i64 s, .int .i64 n]) (t := 26) ?hr ?_; (case hd => rfl); (case hg => rfl); (case hr => first | (go_simp; done) | (go_simp; rfl)); intro g5 hg w2 hbox hb; have hbx : Below w1.heap.size w1 w2 := below_step (by repeat (first | (with_reducible first | exact Below.refl _ _ | apply below_alloc | apply pw_below_drewN | apply below_drew1) | exact Below.refl _ _)) hb; clear zBK4_0 zBK4_1 zBK4_2; replace BK4 := Aside0.mk (BK4.out.below hbx); replace HB := Aside0.mk (below_step HB.out hbx); clear hbx; have BK5 := Aside0.mk (Bk.mk (hbox : Blk w2 g5 26 #[.int .i64 s, .int .i64 n])); clear hbox hg hb; obtain ⟨zBK4_0, zBK4_1, zBK4_2⟩ := BK4.out.c3; obtain ⟨zBK5_0, zBK5_1⟩ := BK5.out.c2) | ((with_reducible refine gate_dst (N := 8) rfl ?_); refine Evt.box2 ?hg (N := 8) ?hd (z := #[.slice none 0 0, .slice none 0 0, .slice none 0 0]) (cs := #[.slice A l.length c, .slice A0 l0.length c0, .slice A1 l1.length c1]) (T := 85) ?hr ?hg2 (.tmp 14) ?ho2 ?hd2 ?hy ?hx ?hi ?hz ?h1 ?_; (case hd => rfl); (case hg => rfl); (case hr => first | (go_simp; done) | (go_simp; rfl)); (case hg2 => rfl); (case ho2 => rfl); (case hd2 => rfl); (case hy => first | rfl | (go_simp; done)); (case hx => first | rfl | (go_simp; done)); (case hi => kernel_rfl); (case hz => rfl); (case h1 => first | rfl | (simp [Value.oneCell'])); intro g8 hg w3 hbox hb; have hbx : Below w2.heap.size w2 w3 := below_step (by repeat (first | (with_reducible first | exact Below.refl _ _ | apply below_alloc | apply pw_below_drewN | apply below_drew1) | exact Below.refl _ _)) hb; clear zBK4_0 zBK4_1 zBK4_2 zBK5_0 zBK5_1; replace BK4 := Aside0.mk (BK4.out.below hbx); replace BK5 := Aside0.mk (BK5.out.below hbx); replace HB := Aside0.mk (below_step HB.out hbx); clear hbx; have BK8 := Aside0.mk (Bk.mk (hbox : Blk w3 g8 85 #[.slice A l.length c, .slice A0 l0.length c0, .slice A1 l1.length c1])); clear hbox hg hb; obtain ⟨zBK4_0, zBK4_1, zBK4_2⟩ := BK4.out.c3; obtain ⟨zBK5_0, zBK5_1⟩ := BK5.out.c2; obtain ⟨zBK8_0, zBK8_1, zBK8_2⟩ := BK8.out.c3))
    go_ret2
    exact ⟨rfl, HB.out⟩
    skip
  case neg =>
    have t0 : decide (s < 0) = false := decide_eq_false c0_
    by_cases c3_ : 3 ≤ s
    case pos =>
      obtain ⟨rfl, rfl⟩ := h3 (.inr (by omega))
      have t3 : decide (3 ≤ s) = true := decide_eq_true c3_
      clear h3 c0_ c3_
      skip
      go_enter Try.func18, Try.ntmps18
      go_wp2_with (first | ((with_reducible refine gate_dst (N := 4) rfl ?_); refine box_event ?hg (N := 4) ?hd (cs := #[.slice A0 l0.length c0, .slice A1 l1.length c1, .slice A2 l2.length c2]) (t := 24) ?hr ?_; (case hd => rfl); (case hg => rfl); (case hr => first | (go_simp; done) | (go_simp; rfl)); intro g4 hg w1 hbox hb; have hbx : Below w.heap.size w w1 := below_step (by repeat (first | (with_reducible first | exact Below.refl _ _ | apply below_alloc | apply pw_below_drewN | apply below_drew1) | exact Below.refl _ _)) hb; replace HB := Aside0.mk (below_step HB.out hbx); clear hbx; have BK4 := Aside0.mk (Bk.mk (hbox : Blk w1 g4 24 #[.slice A0 l0.length c0, .slice A1 l1.length c1, .slice A2 l2.length c2])); clear hbox hg hb; obtain ⟨zBK4_0, zBK4_1, zBK4_2⟩ := BK4.out.c3) | ((with_reducible refine gate_dst (N := 5) rfl ?_); refine box_event ?hg (N := 5) ?hd (cs := #[.int .i64 s, .int .i64 n]) (t := 26) ?hr ?_; (case hd => rfl); (case hg => rfl); (case hr => first | (go_simp; done) | (go_simp; rfl)); intro g5 hg w2 hbox hb; have hbx : Below w1.heap.size w1 w2 := below_step (by repeat (first | (with_reducible first | exact Below.refl _ _ | apply below_alloc | apply pw_below_drewN | apply below_drew1) | exact Below.refl _ _)) hb; clear zBK4_0 zBK4_1 zBK4_2; replace BK4 := Aside0.mk (BK4.out.below hbx); replace HB := Aside0.mk (below_step HB.out hbx); clear hbx; have BK5 := Aside0.mk (Bk.mk (hbox : Blk w2 g5 26 #[.int .i64 s, .int .i64 n])); clear hbox hg hb; obtain ⟨zBK4_0, zBK4_1, zBK4_2⟩ := BK4.out.c3; obtain ⟨zBK5_0, zBK5_1⟩ := BK5.out.c2) | ((with_reducible refine gate_dst (N := 8) rfl ?_); refine Evt.box2 ?hg (N := 8) ?hd (z := #[.slice none 0 0, .slice none 0 0, .slice none 0 0]) (cs := #[.slice A l.length c, .slice A0 l0.length c0, .slice A1 l1.length c1]) (T := 85) ?hr ?hg2 (.tmp 14) ?ho2 ?hd2 ?hy ?hx ?hi ?hz ?h1 ?_; (case hd => rfl); (case hg => rfl); (case hr => first | (go_simp; done) | (go_simp; rfl)); (case hg2 => rfl); (case ho2 => rfl); (case hd2 => rfl); (case hy => first | rfl | (go_simp; done)); (case hx => first | rfl | (go_simp; done)); (case hi => kernel_rfl); (case hz => rfl); (case h1 => first | rfl | (simp [Value.oneCell'])); intro g8 hg w3 hbox hb; have hbx : Below w2.heap.size w2 w3 := below_step (by repeat (first | (with_reducible first | exact Below.refl _ _ | apply below_alloc | apply pw_below_drewN | apply below_drew1) | exact Below.refl _ _)) hb; clear zBK4_0 zBK4_1 zBK4_2 zBK5_0 zBK5_1; replace BK4 := Aside0.mk (BK4.out.below hbx); replace BK5 := Aside0.mk (BK5.out.below hbx); replace HB := Aside0.mk (below_step HB.out hbx); clear hbx; have BK8 := Aside0.mk (Bk.mk (hbox : Blk w3 g8 85 #[.slice A l.length c, .slice A0 l0.length c0, .slice A1 l1.length c1])); clear hbox hg hb; obtain ⟨zBK4_0, zBK4_1, zBK4_2⟩ := BK4.out.c3; obtain ⟨zBK5_0, zBK5_1⟩ := BK5.out.c2; obtain ⟨zBK8_0, zBK8_1, zBK8_2⟩ := BK8.out.c3))
      go_ret2
      exact ⟨rfl, HB.out⟩
      skip
    case neg =>
      obtain rfl | rfl | rfl : s = 0 ∨ s = 1 ∨ s = 2 := by omega
      · clear h3 c0_ c3_ t0
        have G := Aside0.mk (H0.out rfl)
        clear H0 H1 H2
        skip
        go_enter Try.func18, Try.ntmps18
        go_wp2_with (first | ((with_reducible refine gate_dst (N := 4) rfl ?_); refine box_event ?hg (N := 4) ?hd (cs := #[.slice A0 l0.length c0, .slice A1 l1.length c1, .slice A2 l2.length c2]) (t := 24) ?hr ?_; (case hd => rfl); (case hg => rfl); (case hr => first | (go_simp; done) | (go_simp; rfl)); intro g4 hg w1 hbox hb; have hbx : Below w.heap.size w w1 := below_step (by repeat (first | (with_reducible first | exact Below.refl _ _ | apply below_alloc | apply pw_below_drewN | apply below_drew1) | exact Below.refl _ _)) hb; replace HB := Aside0.mk (below_step HB.out hbx); clear hbx; have BK4 := Aside0.mk (Bk.mk (hbox : Blk w1 g4 24 #[.slice A0 l0.length c0, .slice A1 l1.length c1, .slice A2 l2.length c2])); clear hbox hg hb; obtain ⟨zBK4_0, zBK4_1, zBK4_2⟩ := BK4.out.c3) | ((with_reducible refine gate_dst (N := 5) rfl ?_); refine box_event ?hg (N := 5) ?hd (cs := #[.int .i64 0, .int .i64 n]) (t := 26) ?hr ?_; (case hd => rfl); (case hg => rfl); (case hr => first | (go_simp; done) | (go_simp; rfl)); intro g5 hg w2 hbox hb; have hbx : Below w1.heap.size w1 w2 := below_step (by repeat (first | (with_reducible first | exact Below.refl _ _ | apply below_alloc | apply pw_below_drewN | apply below_drew1) | exact Below.refl _ _)) hb; clear zBK4_0 zBK4_1 zBK4_2; replace BK4 := Aside0.mk (BK4.out.below hbx); replace HB := Aside0.mk (below_step HB.out hbx); clear hbx; have BK5 := Aside0.mk (Bk.mk (hbox : Blk w2 g5 26 #[.int .i64 0, .int .i64 n])); clear hbox hg hb; obtain ⟨zBK4_0, zBK4_1, zBK4_2⟩ := BK4.out.c3; obtain ⟨zBK5_0, zBK5_1⟩ := BK5.out.c2) | ((with_reducible refine gate_dst (N := 8) rfl ?_); refine Evt.box2 ?hg (N := 8) ?hd (z := #[.slice none 0 0, .slice none 0 0, .slice none 0 0]) (cs := #[.slice A l.length c, .slice A0 l0.length c0, .slice A1 l1.length c1]) (T := 85) ?hr ?hg2 (.tmp 14) ?ho2 ?hd2 ?hy ?hx ?hi ?hz ?h1 ?_; (case hd => rfl); (case hg => rfl); (case hr => first | (go_simp; done) | (go_simp; rfl)); (case hg2 => rfl); (case ho2 => rfl); (case hd2 => rfl); (case hy => first | rfl | (go_simp; done)); (case hx => first | rfl | (go_simp; done)); (case hi => kernel_rfl); (case hz => rfl); (case h1 => first | rfl | (simp [Value.oneCell'])); intro g8 hg w3 hbox hb; have hbx : Below w2.heap.size w2 w3 := below_step (by repeat (first | (with_reducible first | exact Below.refl _ _ | apply below_alloc | apply pw_below_drewN | apply below_drew1) | exact Below.refl _ _)) hb; clear zBK4_0 zBK4_1 zBK4_2 zBK5_0 zBK5_1; replace BK4 := Aside0.mk (BK4.out.below hbx); replace BK5 := Aside0.mk (BK5.out.below hbx); replace HB := Aside0.mk (below_step HB.out hbx); clear hbx; have BK8 := Aside0.mk (Bk.mk (hbox : Blk w3 g8 85 #[.slice A l.length c, .slice A0 l0.length c0, .slice A1 l1.length c1])); clear hbox hg hb; obtain ⟨zBK4_0, zBK4_1, zBK4_2⟩ := BK4.out.c3; obtain ⟨zBK5_0, zBK5_1⟩ := BK5.out.c2; obtain ⟨zBK8_0, zBK8_1, zBK8_2⟩ := BK8.out.c3))
        have KP : Aside0 (∀ w', Below w3.heap.size w3 w' → (w'.cell? ⟨g4, 0, none⟩ = some (.slice A0 l0.length c0) ∧ w'.cell? ⟨g4, 1, none⟩ = some (.slice A1 l1.length c1) ∧ w'.cell? ⟨g4, 2, none⟩ = some (.slice A2 l2.length c2) ∧ w'.cell? ⟨g5, 0, none⟩ = some (.int .i64 0) ∧ w'.cell? ⟨g5, 1, none⟩ = some (.int .i64 n) ∧ w'.cell? ⟨g8, 0, none⟩ = some (.slice A l.length c) ∧ w'.cell? ⟨g8, 1, none⟩ = some (.slice A0 l0.length c0) ∧ w'.cell? ⟨g8, 2, none⟩ = some (.slice A1 l1.length c1))) := Aside0.mk (fun w' hb => ⟨(blk_cell (BK4.out.below hb).blk 0).trans rfl, (blk_cell (BK4.out.below hb).blk 1).trans rfl, (blk_cell (BK4.out.below hb).blk 2).trans rfl, (blk_cell (BK5.out.below hb).blk 0).trans rfl, (blk_cell (BK5.out.below hb).blk 1).trans rfl, (blk_cell (BK8.out.below hb).blk 0).trans rfl, (blk_cell (BK8.out.below hb).blk 1).trans rfl, (blk_cell (BK8.out.below hb).blk 2).trans rfl⟩)
        have HBR := Aside0.mk (Below.refl w3.heap.size w3)
        clear zBK4_0 zBK4_1 zBK4_2 zBK5_0 zBK5_1 zBK8_0 zBK8_1 zBK8_2
        go_region_held3 (fun w' => w'.cell? ⟨g4, 0, none⟩ = some (.slice A0 l0.length c0) ∧ w'.cell? ⟨g4, 1, none⟩ = some (.slice A1 l1.length c1) ∧ w'.cell? ⟨g4, 2, none⟩ = some (.slice A2 l2.length c2) ∧ w'.cell? ⟨g5, 0, none⟩ = some (.int .i64 0) ∧ w'.cell? ⟨g5, 1, none⟩ = some (.int .i64 n) ∧ w'.cell? ⟨g8, 0, none⟩ = some (.slice A l.length c) ∧ w'.cell? ⟨g8, 1, none⟩ = some (.slice A0 l0.length c0) ∧ w'.cell? ⟨g8, 2, none⟩ = some (.slice A1 l1.length c1)) (exact KP.out _ (by repeat (first | (with_reducible first | exact HBR.out | apply below_alloc | apply pw_below_drewN | apply below_drew1) | exact HBR.out))) (first | (go_at_call 44; (with_reducible refine (image_Get.calls _ _ l n r e _ (R.out.below (below_step HB.out (by repeat (first | (with_reducible first | exact HBR.out | apply below_alloc | apply pw_below_drewN | apply below_drew1) | exact HBR.out)))).row (R.out.below (below_step HB.out (by repeat (first | (with_reducible first | exact HBR.out | apply below_alloc | apply pw_below_drewN | apply below_drew1) | exact HBR.out)))).cap G.out).mono ?_); rintro e w_ ⟨rfl, ⟨nd, rfl⟩⟩))
        refine Evt.gen_any (w0 := w3) (by repeat (first | (with_reducible first | exact HBR.out | apply below_alloc | apply pw_below_drewN | apply below_drew1) | exact HBR.out)) ?_
        intro w4 hbx
        clear HBR KP
        replace BK4 := Aside0.mk (BK4.out.below hbx)
        replace BK5 := Aside0.mk (BK5.out.below hbx)
        replace BK8 := Aside0.mk (BK8.out.below hbx)
        replace HB := Aside0.mk (below_step HB.out hbx)
        clear hbx
        obtain ⟨zBK4_0, zBK4_1, zBK4_2⟩ := BK4.out.c3
        obtain ⟨zBK5_0, zBK5_1⟩ := BK5.out.c2
        obtain ⟨zBK8_0, zBK8_1, zBK8_2⟩ := BK8.out.c3
        go_wp2
        go_ret2
        exact ⟨rfl, HB.out⟩
        skip
      · clear h3 c0_ c3_ t0
        have G := Aside0.mk (H1.out rfl)
        clear H0 H1 H2
        skip
        go_enter Try.func18, Try.ntmps18
        go_wp2_with (first | ((with_reducible refine gate_dst (N := 4) rfl ?_); refine box_event ?hg (N := 4) ?hd (cs := #[.slice A0 l0.length c0, .slice A1 l1.length c1, .slice A2 l2.length c2]) (t := 24) ?hr ?_; (case hd => rfl); (case hg => rfl); (case hr => first | (go_simp; done) | (go_simp; rfl)); intro g4 hg w1 hbox hb; have hbx : Below w.heap.size w w1 := below_step (by repeat (first | (with_reducible first | exact Below.refl _ _ | apply below_alloc | apply pw_below_drewN | apply below_drew1) | exact Below.refl _ _)) hb; replace HB := Aside0.mk (below_step HB.out hbx); clear hbx; have BK4 := Aside0.mk (Bk.mk (hbox : Blk w1 g4 24 #[.slice A0 l0.length c0, .slice A1 l1.length c1, .slice A2 l2.length c2])); clear hbox hg hb; obtain ⟨zBK4_0, zBK4_1, zBK4_2⟩ := BK4.out.c3) | ((with_reducible refine gate_dst (N := 5) rfl ?_); refine box_event ?hg (N := 5) ?hd (cs := #[.int .i64 1, .int .i64 n]) (t := 26) ?hr ?_; (case hd => rfl); (case hg => rfl); (case hr => first | (go_simp; done) | (go_simp; rfl)); intro g5 hg w2 hbox hb; have hbx : Below w1.heap.size w1 w2 := below_step (by repeat (first | (with_reducible first | exact Below.refl _ _ | apply below_alloc | apply pw_below_drewN | apply below_drew1) | exact Below.refl _ _)) hb; clear zBK4_0 zBK4_1 zBK4_2; replace BK4 := Aside0.mk (BK4.out.below hbx); replace HB := Aside0.mk (below_step HB.out hbx); clear hbx; have BK5 := Aside0.mk (Bk.mk (hbox : Blk w2 g5 26 #[.int .i64 1, .int .i64 n])); clear hbox hg hb; obtain ⟨zBK4_0, zBK4_1, zBK4_2⟩ := BK4.out.c3; obtain ⟨zBK5_0, zBK5_1⟩ := BK5.out.c2) | ((with_reducible refine gate_dst (N := 8) rfl ?_); refine Evt.box2 ?hg (N := 8) ?hd (z := #[.slice none 0 0, .slice none 0 0, .slice none 0 0]) (cs := #[.slice A l.length c, .slice A0 l0.length c0, .slice A1 l1.length c1]) (T := 85) ?hr ?hg2 (.tmp 14) ?ho2 ?hd2 ?hy ?hx ?hi ?hz ?h1 ?_; (case hd => rfl); (case hg => rfl); (case hr => first | (go_simp; done) | (go_simp; rfl)); (case hg2 => rfl); (case ho2 => rfl); (case hd2 => rfl); (case hy => first | rfl | (go_simp; done)); (case hx => first | rfl | (go_simp; done)); (case hi => kernel_rfl); (case hz => rfl); (case h1 => first | rfl | (simp [Value.oneCell'])); intro g8 hg w3 hbox hb; have hbx : Below w2.heap.size w2 w3 := below_step (by repeat (first | (with_reducible first | exact Below.refl _ _ | apply below_alloc | apply pw_below_drewN | apply below_drew1) | exact Below.refl _ _)) hb; clear zBK4_0 zBK4_1 zBK4_2 zBK5_0 zBK5_1; replace BK4 := Aside0.mk (BK4.out.below hbx); replace BK5 := Aside0.mk (BK5.out.below hbx); replace HB := Aside0.mk (below_step HB.out hbx); clear hbx; have BK8 := Aside0.mk (Bk.mk (hbox : Blk w3 g8 85 #[.slice A l.length c, .slice A0 l0.length c0, .slice A1 l1.length c1])); clear hbox hg hb; obtain ⟨zBK4_0, zBK4_1, zBK4_2⟩ := BK4.out.c3; obtain ⟨zBK5_0, zBK5_1⟩ := BK5.out.c2; obtain ⟨zBK8_0, zBK8_1, zBK8_2⟩ := BK8.out.c3))
        have KP : Aside0 (∀ w', Below w3.heap.size w3 w' → (w'.cell? ⟨g4, 0, none⟩ = some (.slice A0 l0.length c0) ∧ w'.cell? ⟨g4, 1, none⟩ = some (.slice A1 l1.length c1) ∧ w'.cell? ⟨g4, 2, none⟩ = some (.slice A2 l2.length c2) ∧ w'.cell? ⟨g5, 0, none⟩ = some (.int .i64 1) ∧ w'.cell? ⟨g5, 1, none⟩ = some (.int .i64 n) ∧ w'.cell? ⟨g8, 0, none⟩ = some (.slice A l.length c) ∧ w'.cell? ⟨g8, 1, none⟩ = some (.slice A0 l0.length c0) ∧ w'.cell? ⟨g8, 2, none⟩ = some (.slice A1 l1.length c1))) := Aside0.mk (fun w' hb => ⟨(blk_cell (BK4.out.below hb).blk 0).trans rfl, (blk_cell (BK4.out.below hb).blk 1).trans rfl, (blk_cell (BK4.out.below hb).blk 2).trans rfl, (blk_cell (BK5.out.below hb).blk 0).trans rfl, (blk_cell (BK5.out.below hb).blk 1).trans rfl, (blk_cell (BK8.out.below hb).blk 0).trans rfl, (blk_cell (BK8.out.below hb).blk 1).trans rfl, (blk_cell (BK8.out.below hb).blk 2).trans rfl⟩)
        have HBR := Aside0.mk (Below.refl w3.heap.size w3)
        clear zBK4_0 zBK4_1 zBK4_2 zBK5_0 zBK5_1 zBK8_0 zBK8_1 zBK8_2
        go_region_held3 (fun w' => w'.cell? ⟨g4, 0, none⟩ = some (.slice A0 l0.length c0) ∧ w'.cell? ⟨g4, 1, none⟩ = some (.slice A1 l1.length c1) ∧ w'.cell? ⟨g4, 2, none⟩ = some (.slice A2 l2.length c2) ∧ w'.cell? ⟨g5, 0, none⟩ = some (.int .i64 1) ∧ w'.cell? ⟨g5, 1, none⟩ = some (.int .i64 n) ∧ w'.cell? ⟨g8, 0, none⟩ = some (.slice A l.length c) ∧ w'.cell? ⟨g8, 1, none⟩ = some (.slice A0 l0.length c0) ∧ w'.cell? ⟨g8, 2, none⟩ = some (.slice A1 l1.length c1)) (exact KP.out _ (by repeat (first | (with_reducible first | exact HBR.out | apply below_alloc | apply pw_below_drewN | apply below_drew1) | exact HBR.out))) (first | (go_at_call 44; (with_reducible refine (image_Get.calls _ _ l0 n r e _ (R'.out.r0.below (below_step HB.out (by repeat (first | (with_reducible first | exact HBR.out | apply below_alloc | apply pw_below_drewN | apply below_drew1) | exact HBR.out)))).row (R'.out.r0.below (below_step HB.out (by repeat (first | (with_reducible first | exact HBR.out | apply below_alloc | apply pw_below_drewN | apply below_drew1) | exact HBR.out)))).cap G.out).mono ?_); rintro e w_ ⟨rfl, ⟨nd, rfl⟩⟩))
        refine Evt.gen_any (w0 := w3) (by repeat (first | (with_reducible first | exact HBR.out | apply below_alloc | apply pw_below_drewN | apply below_drew1) | exact HBR.out)) ?_
        intro w4 hbx
        clear HBR KP
        replace BK4 := Aside0.mk (BK4.out.below hbx)
        replace BK5 := Aside0.mk (BK5.out.below hbx)
        replace BK8 := Aside0.mk (BK8.out.below hbx)
        replace HB := Aside0.mk (below_step HB.out hbx)
        clear hbx
        obtain ⟨zBK4_0, zBK4_1, zBK4_2⟩ := BK4.out.c3
        obtain ⟨zBK5_0, zBK5_1⟩ := BK5.out.c2
        obtain ⟨zBK8_0, zBK8_1, zBK8_2⟩ := BK8.out.c3
        go_wp2
        go_ret2
        exact ⟨rfl, HB.out⟩
        skip
      · clear h3 c0_ c3_ t0
        have G := Aside0.mk (H2.out rfl)
        clear H0 H1 H2
        skip
        go_enter Try.func18, Try.ntmps18
        go_wp2_with (first | ((with_reducible refine gate_dst (N := 4) rfl ?_); refine box_event ?hg (N := 4) ?hd (cs := #[.slice A0 l0.length c0, .slice A1 l1.length c1, .slice A2 l2.length c2]) (t := 24) ?hr ?_; (case hd => rfl); (case hg => rfl); (case hr => first | (go_simp; done) | (go_simp; rfl)); intro g4 hg w1 hbox hb; have hbx : Below w.heap.size w w1 := below_step (by repeat (first | (with_reducible first | exact Below.refl _ _ | apply below_alloc | apply pw_below_drewN | apply below_drew1) | exact Below.refl _ _)) hb; replace HB := Aside0.mk (below_step HB.out hbx); clear hbx; have BK4 := Aside0.mk (Bk.mk (hbox : Blk w1 g4 24 #[.slice A0 l0.length c0, .slice A1 l1.length c1, .slice A2 l2.length c2])); clear hbox hg hb; obtain ⟨zBK4_0, zBK4_1, zBK4_2⟩ := BK4.out.c3) | ((with_reducible refine gate_dst (N := 5) rfl ?_); refine box_event ?hg (N := 5) ?hd (cs := #[.int .i64 2, .int .i64 n]) (t := 26) ?hr ?_; (case hd => rfl); (case hg => rfl); (case hr => first | (go_simp; done) | (go_simp; rfl)); intro g5 hg w2 hbox hb; have hbx : Below w1.heap.size w1 w2 := below_step (by repeat (first | (with_reducible first | exact Below.refl _ _ | apply below_alloc | apply pw_below_drewN | apply below_drew1) | exact Below.refl _ _)) hb; clear zBK4_0 zBK4_1 zBK4_2; replace BK4 := Aside0.mk (BK4.out.below hbx); replace HB := Aside0.mk (below_step HB.out hbx); clear hbx; have BK5 := Aside0.mk (Bk.mk (hbox : Blk w2 g5 26 #[.int .i64 2, .int .i64 n])); clear hbox hg hb; obtain ⟨zBK4_0, zBK4_1, zBK4_2⟩ := BK4.out.c3; obtain ⟨zBK5_0, zBK5_1⟩ := BK5.out.c2) | ((with_reducible refine gate_dst (N := 8) rfl ?_); refine Evt.box2 ?hg (N := 8) ?hd (z := #[.slice none 0 0, .slice none 0 0, .slice none 0 0]) (cs := #[.slice A l.length c, .slice A0 l0.length c0, .slice A1 l1.length c1]) (T := 85) ?hr ?hg2 (.tmp 14) ?ho2 ?hd2 ?hy ?hx ?hi ?hz ?h1 ?_; (case hd => rfl); (case hg => rfl); (case hr => first | (go_simp; done) | (go_simp; rfl)); (case hg2 => rfl); (case ho2 => rfl); (case hd2 => rfl); (case hy => first | rfl | (go_simp; done)); (case hx => first | rfl | (go_simp; done)); (case hi => kernel_rfl); (case hz => rfl); (case h1 => first | rfl | (simp [Value.oneCell'])); intro g8 hg w3 hbox hb; have hbx : Below w2.heap.size w2 w3 := below_step (by repeat (first | (with_reducible first | exact Below.refl _ _ | apply below_alloc | apply pw_below_drewN | apply below_drew1) | exact Below.refl _ _)) hb; clear zBK4_0 zBK4_1 zBK4_2 zBK5_0 zBK5_1; replace BK4 := Aside0.mk (BK4.out.below hbx); replace BK5 := Aside0.mk (BK5.out.below hbx); replace HB := Aside0.mk (below_step HB.out hbx); clear hbx; have BK8 := Aside0.mk (Bk.mk (hbox : Blk w3 g8 85 #[.slice A l.length c, .slice A0 l0.length c0, .slice A1 l1.length c1])); clear hbox hg hb; obtain ⟨zBK4_0, zBK4_1, zBK4_2⟩ := BK4.out.c3; obtain ⟨zBK5_0, zBK5_1⟩ := BK5.out.c2; obtain ⟨zBK8_0, zBK8_1, zBK8_2⟩ := BK8.out.c3))
        have KP : Aside0 (∀ w', Below w3.heap.size w3 w' → (w'.cell? ⟨g4, 0, none⟩ = some (.slice A0 l0.length c0) ∧ w'.cell? ⟨g4, 1, none⟩ = some (.slice A1 l1.length c1) ∧ w'.cell? ⟨g4, 2, none⟩ = some (.slice A2 l2.length c2) ∧ w'.cell? ⟨g5, 0, none⟩ = some (.int .i64 2) ∧ w'.cell? ⟨g5, 1, none⟩ = some (.int .i64 n) ∧ w'.cell? ⟨g8, 0, none⟩ = some (.slice A l.length c) ∧ w'.cell? ⟨g8, 1, none⟩ = some (.slice A0 l0.length c0) ∧ w'.cell? ⟨g8, 2, none⟩ = some (.slice A1 l1.length c1))) := Aside0.mk (fun w' hb => ⟨(blk_cell (BK4.out.below hb).blk 0).trans rfl, (blk_cell (BK4.out.below hb).blk 1).trans rfl, (blk_cell (BK4.out.below hb).blk 2).trans rfl, (blk_cell (BK5.out.below hb).blk 0).trans rfl, (blk_cell (BK5.out.below hb).blk 1).trans rfl, (blk_cell (BK8.out.below hb).blk 0).trans rfl, (blk_cell (BK8.out.below hb).blk 1).trans rfl, (blk_cell (BK8.out.below hb).blk 2).trans rfl⟩)
        have HBR := Aside0.mk (Below.refl w3.heap.size w3)
        clear zBK4_0 zBK4_1 zBK4_2 zBK5_0 zBK5_1 zBK8_0 zBK8_1 zBK8_2
        go_region_held3 (fun w' => w'.cell? ⟨g4, 0, none⟩ = some (.slice A0 l0.length c0) ∧ w'.cell? ⟨g4, 1, none⟩ = some (.slice A1 l1.length c1) ∧ w'.cell? ⟨g4, 2, none⟩ = some (.slice A2 l2.length c2) ∧ w'.cell? ⟨g5, 0, none⟩ = some (.int .i64 2) ∧ w'.cell? ⟨g5, 1, none⟩ = some (.int .i64 n) ∧ w'.cell? ⟨g8, 0, none⟩ = some (.slice A l.length c) ∧ w'.cell? ⟨g8, 1, none⟩ = some (.slice A0 l0.length c0) ∧ w'.cell? ⟨g8, 2, none⟩ = some (.slice A1 l1.length c1)) (exact KP.out _ (by repeat (first | (with_reducible first | exact HBR.out | apply below_alloc | apply pw_below_drewN | apply below_drew1) | exact HBR.out))) (first | (go_at_call 44; (with_reducible refine (image_Get.calls _ _ l1 n r e _ (R'.out.r1.below (below_step HB.out (by repeat (first | (with_reducible first | exact HBR.out | apply below_alloc | apply pw_below_drewN | apply below_drew1) | exact HBR.out)))).row (R'.out.r1.below (below_step HB.out (by repeat (first | (with_reducible first | exact HBR.out | apply below_alloc | apply pw_below_drewN | apply below_drew1) | exact HBR.out)))).cap G.out).mono ?_); rintro e w_ ⟨rfl, ⟨nd, rfl⟩⟩))
        refine Evt.gen_any (w0 := w3) (by repeat (first | (with_reducible first | exact HBR.out | apply below_alloc | apply pw_below_drewN | apply below_drew1) | exact HBR.out)) ?_
        intro w4 hbx
        clear HBR KP
        replace BK4 := Aside0.mk (BK4.out.below hbx)
        replace BK5 := Aside0.mk (BK5.out.below hbx)
        replace BK8 := Aside0.mk (BK8.out.below hbx)
        replace HB := Aside0.mk (below_step HB.out hbx)
        clear hbx
        obtain ⟨zBK4_0, zBK4_1, zBK4_2⟩ := BK4.out.c3
        obtain ⟨zBK5_0, zBK5_1⟩ := BK5.out.c2
        obtain ⟨zBK8_0, zBK8_1, zBK8_2⟩ := BK8.out.c3
        go_wp2
        go_ret2
        exact ⟨rfl, HB.out⟩
        skip
end
/-- Three rows, none very long, at hand in w. -/
structure Sb (w : World) (A0 : Option Addr) (c0 : Nat) (A1 : Option Addr) (c1 : Nat) (A2 : Option Addr) (c2 : Nat) (l0 l1 l2 : List Bool) : Prop where
  sr : Sr Kd.bool w A0 c0 A1 c1 A2 c2 l0 l1 l2
  b0 : l0.length ≤ 20000
  b1 : l1.length ≤ 20000
  b2 : l2.length ≤ 20000
section
variable {A A0 A1 A2 B0 B1 B2 : Option Addr} {c c0 c1 c2 d0 d1 d2 : Nat} {l l0 l1 l2 m0 m1 m2 : List Bool} {w w' : World}
theorem Sb.below (h : Sb w A0 c0 A1 c1 A2 c2 l0 l1 l2) (hb : Below w.heap.size w w') : Sb w' A0 c0 A1 c1 A2 c2 l0 l1 l2 := ⟨h.sr.below hb, h.b0, h.b1, h.b2⟩
theorem readC (s n : Int) (h : Rw Kd.bool w A c l) (h' : Sb w A0 c0 A1 c1 A2 c2 l0 l1 l2) :
    Calls Try.prog 18 #[.slice A l.length c, .agg #[.slice A0 l0.length c0, .slice A1 l1.length c1, .slice A2 l2.length c2], .agg #[.int .i64 s, .int .i64 n]] w fun x w' => x = .returned (.tuple #[.bool (rdv l l0 l1 s n).1, .int .i64 (rdv l l0 l1 s n).2]) ∧ Below w.heap.size w w' := by
  refine read_any s n w h h'.sr _ _ ?_ ?_ ?_ ?_
  · rintro rfl; rw [getP]; rfl
  · rintro rfl; rw [getP]; rfl
  · rintro rfl; rw [getP]; rfl
  · intro hs
    unfold rdv
    rw [if_neg (by omega), if_neg (by omega), if_neg (by omega)]
    exact ⟨rfl, rfl⟩
/-- Three rows of one's own, apart. -/
structure Own3 (w : World) (base : Nat) (v0 v1 v2 : Value) (l0 l1 l2 : List Bool) : Prop where
  q0 : Kd.R Kd.bool 4 w base (fun k_ => some k_ ≠ v1.ownBlock ∧ some k_ ≠ v2.ownBlock) v0 l0
  q1 : Kd.R Kd.bool 4 w base (fun k_ => some k_ ≠ v0.ownBlock ∧ some k_ ≠ v2.ownBlock) v1 l1
  q2 : Kd.R Kd.bool 4 w base (fun k_ => some k_ ≠ v0.ownBlock ∧ some k_ ≠ v1.ownBlock) v2 l2
theorem Own3.form {base : Nat} {v0 v1 v2 : Value} (h : Own3 w base v0 v1 v2 l0 l1 l2) : ∃ X0 x0 X1 x1 X2 x2, v0 = .slice X0 l0.length x0 ∧ v1 = .slice X1 l1.length x1 ∧ v2 = .slice X2 l2.length x2 := by
  obtain ⟨X0, x0, h0⟩ := Kd.R_slice h.q0
  obtain ⟨X1, x1, h1⟩ := Kd.R_slice h.q1
  obtain ⟨X2, x2, h2⟩ := Kd.R_slice h.q2
  exact ⟨X0, x0, X1, x1, X2, x2, h0, h1, h2⟩
theorem Own3.sr {base : Nat} {X0 X1 X2 : Option Addr} {x0 x1 x2 : Nat} (h : Own3 w base (.slice X0 l0.length x0) (.slice X1 l1.length x1) (.slice X2 l2.length x2) l0 l1 l2) : Sr Kd.bool w X0 x0 X1 x1 X2 x2 l0 l1 l2 := ⟨Rw.of_R h.q0, Rw.of_R h.q1, Rw.of_R h.q2⟩
/-- What makes a state answers: the three rows, and an error's number. -/
abbrev Gives (w : World) (x : Ending) (w' : World) (l0 l1 l2 : List Bool) (e : Int) : Prop := ∃ X0 x0 X1 x1 X2 x2, x = .returned (.tuple #[.agg #[.slice X0 l0.length x0, .slice X1 l1.length x1, .slice X2 l2.length x2], .int .i64 e]) ∧ Own3 w' w.heap.size (.slice X0 l0.length x0) (.slice X1 l1.length x1) (.slice X2 l2.length x2) l0 l1 l2 ∧ Below w.heap.size w w'
abbrev Gives1 (w : World) (x : Ending) (w' : World) (l0 l1 l2 : List Bool) : Prop := ∃ X0 x0 X1 x1 X2 x2, x = .returned (.agg #[.slice X0 l0.length x0, .slice X1 l1.length x1, .slice X2 l2.length x2]) ∧ Own3 w' w.heap.size (.slice X0 l0.length x0) (.slice X1 l1.length x1) (.slice X2 l2.length x2) l0 l1 l2 ∧ Below w.heap.size w w'
theorem cloneC (h : Sb w A0 c0 A1 c1 A2 c2 l0 l1 l2) : Calls Try.prog 24 #[.agg #[.slice A0 l0.length c0, .slice A1 l1.length c1, .slice A2 l2.length c2]] w fun x w' => Gives1 w x w' l0 l1 l2 :=
  (state_Clone.calls _ _ l0 _ _ l1 _ _ l2 _ _ _ w h.sr.r0.row h.sr.r0.cap h.sr.r1.row h.sr.r1.cap h.sr.r2.row h.sr.r2.cap (cloneP l0 l1 l2 h.b0 h.b1 h.b2)).mono fun x w' ⟨v0, v1, v2, hx, q0, q1, q2, hb⟩ => by
    have ho : Own3 w' w.heap.size v0 v1 v2 _ _ _ := ⟨q0, q1, q2⟩
    obtain ⟨X0, x0, X1, x1, X2, x2, rfl, rfl, rfl⟩ := ho.form
    exact ⟨_, _, _, _, _, _, hx, ho, hb⟩
end
end Go.Proofs.Ytjohdkbciafpfaa.Vm6
