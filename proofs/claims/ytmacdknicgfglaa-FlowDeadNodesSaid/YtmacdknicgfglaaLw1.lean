/- GraphNodesMatchReference, walked. -/
import Derived.Test.YtmacdknicgfglaaAl
import Derived.Test.YtmacdknicgfglaaTl
import Derived.Test.YtmacdknicgfglaaIm0
namespace Go.Proofs.Ytmacdknicgfglaa.Gw
open Go.RowKit Go.Shelf Go.Proofs.YtmacdknicgfglaaW.PrintWords Go.Proofs.YtmacdknicgfglaaW.PrintMore Go.Proofs.YtmacdknicgfglaaW.PrintLast Go.Proofs.Ytmacdknicgfglaa.Chg Go.Proofs.Ytmacdknicgfglaa.Evt Go.Proofs.Ytmacdknicgfglaa.Impl Go.Proofs.Ytmacdknicgfglaa.Gp Go.Proofs.Ytmacdknicgfglaa.Mp Go.Proofs.Ytmacdknicgfglaa.Open
open Go.Proofs.Ytmacdknicgfglaa.Pe (tl)
set_option linter.unusedVariables false
set_option linter.unusedSimpArgs false
set_option maxRecDepth 100000
theorem eqI_any (A0 : Option Addr) (c0 : Nat) (l0 : List Int) (A1 : Option Addr) (c1 : Nat) (l1 : List Int) (w : World) (h0 : Rw (Kd.int .i64) w A0 c0 l0) (h1 : Rw (Kd.int .i64) w A1 c1 l1) (hn : l0.length ≤ 1000000) {r : Bool} (hr : decide (l0 = l1) = r) :
    Calls Try.prog 20 #[.slice A0 l0.length c0, .slice A1 l1.length c1] w fun e w' => e = .returned (.bool r) ∧ Below w.heap.size w w' := by
  subst hr
  obtain ⟨k, hk⟩ := (Pe.eqI_ev l0 l1 (by omega)).rounds
  exact (slices_Equal_int_int.calls k A0 c0 l0 A1 c1 l1 _ w h0.row h0.cap h1.row h1.cap hk).mono (by rintro e w' ⟨rfl, ⟨n, rfl⟩⟩; exact ⟨rfl, pw_below_drewN (Below.refl _ _) n⟩)
section
variable {A1 A2 : Option Addr} {c1 c2 : Nat} {l1 : List S41} {l2 : List S101} {a0 a3 s : ByteArray}
set_option maxHeartbeats 4000000 in
theorem nmr_core (w : World) (h : Rg w A1 c1 l1 A2 c2 l2) (hz : SzR l1) : Calls Try.prog 3 #[.agg #[.string a0, .slice A1 l1.length c1, .slice A2 l2.length c2, .string a3], .string s] w fun x w' => x = .returned (.bool true) ∧ Below w.heap.size w w' := by
  have SZ := Aside0.mk hz
  have HB := Aside0.mk (Below.refl w.heap.size w)
  have R := Aside0.mk (h)
  clear h hz
  by_cases hb : tl (es l1) ≤ 0
  · have OK := Aside0.mk (Pe.tl_ok hb).1
    have LN : l1.length ≤ 1000 := by have := (Pe.tl_ok hb).2; rw [es_len] at this; omega
    have LO : Aside0 ((outL (es l1) s).length ≤ 1000000) := ⟨by have := idxs_len (fun c => decide (c.1 = s)) (es l1); rw [es_len] at this; unfold outL; omega⟩
    have LI : Aside0 ((inL (es l1) s).length ≤ 1000000) := ⟨by have := idxs_len (fun c => decide (c.2 = s)) (es l1); rw [es_len] at this; unfold inL; omega⟩
    have LL : Aside0 ((nodesL (es l1)).length ≤ 1000000) := ⟨by have := nodesL_len (es l1); rw [es_len] at this; omega⟩
    have TL : Aside0 (tl (es l1) = 0) := ⟨by unfold tl at hb ⊢; split at hb; omega; rename_i hh; rw [if_neg hh]⟩
    clear hb
    skip
    go_enter Try.func3, Try.ntmps3
    go_wp2_with (first | ((with_reducible refine gate_dst (N := 2) rfl ?_); refine box_event ?hg (N := 2) ?hd (cs := #[.string a0, .slice A1 l1.length c1, .slice A2 l2.length c2, .string a3]) (t := 25) ?hr ?_; (case hd => rfl); (case hg => rfl); (case hr => first | (go_simp; done) | (go_simp; rfl)); intro g2 hg w1 hbox hb; have hbx : Below w.heap.size w w1 := below_step (by repeat (first | (with_reducible first | exact Below.refl _ _ | apply below_alloc | apply pw_below_drewN | apply below_drew1) | exact Below.refl _ _)) hb; have n_R := Aside0.mk (R.out.below hbx); have n_HB := Aside0.mk (below_step HB.out hbx); clear HB R; have R := n_R; have HB := n_HB; clear hbx n_R n_HB; have BK2 := Aside0.mk (Bk.mk (hbox : Blk w1 g2 25 #[.string a0, .slice A1 l1.length c1, .slice A2 l2.length c2, .string a3])); clear hbox hg hb; have zBK2_0 : w1.cell? ⟨g2, 0, none⟩ = some (.string a0) := (blk_cell BK2.out.blk 0).trans rfl; have zBK2_1 : w1.cell? ⟨g2, 1, none⟩ = some (.slice A1 l1.length c1) := (blk_cell BK2.out.blk 1).trans rfl; have zBK2_2 : w1.cell? ⟨g2, 2, none⟩ = some (.slice A2 l2.length c2) := (blk_cell BK2.out.blk 2).trans rfl; have zBK2_3 : w1.cell? ⟨g2, 3, none⟩ = some (.string a3) := (blk_cell BK2.out.blk 3).trans rfl) | ((with_reducible refine gate_callee (f := 15) rfl ?_); refine goesL_ (some 6) rfl rfl Try.func15 (by kernel_rfl) rfl #[.agg #[.string a0, .slice A1 l1.length c1, .slice A2 l2.length c2, .string a3]] rfl (by (try simp only [List.map_toArray, List.map_cons, List.map_nil]); first | done | rfl | (simp only [List.length_drop, List.length_take]; rfl)) ?_; (with_reducible refine (Pe.tl_any _ (R.out.below (by repeat (first | (with_reducible first | exact Below.refl _ _ | apply below_alloc | apply pw_below_drewN | apply below_drew1) | exact Below.refl _ _))) SZ.out TL.out).mono ?_); rintro e w2 ⟨rfl, hb⟩; have hbx : Below w1.heap.size w1 w2 := below_step (by repeat (first | (with_reducible first | exact Below.refl _ _ | apply below_alloc | apply pw_below_drewN | apply below_drew1) | exact Below.refl _ _)) hb; clear zBK2_0 zBK2_1 zBK2_2 zBK2_3; have n_R := Aside0.mk (R.out.below hbx); have n_BK2 := Aside0.mk (BK2.out.below hbx); have n_HB := Aside0.mk (below_step HB.out hbx); clear HB R BK2; have R := n_R; have BK2 := n_BK2; have HB := n_HB; clear hbx n_R n_BK2 n_HB; clear hb; have zBK2_0 : w2.cell? ⟨g2, 0, none⟩ = some (.string a0) := (blk_cell BK2.out.blk 0).trans rfl; have zBK2_1 : w2.cell? ⟨g2, 1, none⟩ = some (.slice A1 l1.length c1) := (blk_cell BK2.out.blk 1).trans rfl; have zBK2_2 : w2.cell? ⟨g2, 2, none⟩ = some (.slice A2 l2.length c2) := (blk_cell BK2.out.blk 2).trans rfl; have zBK2_3 : w2.cell? ⟨g2, 3, none⟩ = some (.string a3) := (blk_cell BK2.out.blk 3).trans rfl; refine ⟨_, rfl, ?_⟩))
    have KP : Aside0 (∀ w', Below w2.heap.size w2 w' → (w'.cell? ⟨g2, 0, none⟩ = some (.string a0) ∧ w'.cell? ⟨g2, 1, none⟩ = some (.slice A1 l1.length c1) ∧ w'.cell? ⟨g2, 2, none⟩ = some (.slice A2 l2.length c2) ∧ w'.cell? ⟨g2, 3, none⟩ = some (.string a3))) := Aside0.mk (fun w' hb => ⟨(blk_cell (BK2.out.below hb).blk 0).trans rfl, (blk_cell (BK2.out.below hb).blk 1).trans rfl, (blk_cell (BK2.out.below hb).blk 2).trans rfl, (blk_cell (BK2.out.below hb).blk 3).trans rfl⟩)
    clear zBK2_0 zBK2_1 zBK2_2 zBK2_3
    refine Evt.ow_start (w0 := w2) (T := (true, [([], []), ([0, 0], [0]), ([1], [1]), ([2, 1, 1], [1, 2]), ([1], [1]), ([4, 3, 1], [1, 4]), ([3, 5, 5, 1], [1, 3, 5]), ([1, 6], [1, 6]), ([7, 6], [7]), ([8], [8]), ([8], [8]), ([9, 10, 8, 8], [8, 9, 10]), ([8], [8]), ([8], [8]), ([12, 13, 11, 8], [8, 12, 13]), ([11, 14, 14, 8], [8, 11, 14]), ([8, 15], [8, 15]), ([16, 15], [16]), ([17], [17]), ([17], [17]), ([18, 19, 17, 17], [17, 18, 19]), ([17], [17]), ([17], [17]), ([21, 22, 20, 17], [17, 21, 22]), ([20, 23, 23, 17], [17, 20, 23]), ([17, 24], [17, 24]), ([25, 24, 0, 1, 2, 3, 4, 5, 6, 7, 8, 9, 10, 11, 12, 13, 14, 15, 16, 17, 18, 19, 20, 21, 22, 23, 24, 25], [25])])) (B := [0, 1, 3, 7, 3, 31, 63, 127, 255, 511, 511, 2047, 511, 511, 16383, 32767, 65535, 131071, 262143, 262143, 1048575, 262143, 262143, 8388607, 16777215, 33554431, 67108863]) 27 [(0, some 9), (1, some 10), (2, some 11), (4, some 13), (3, some 12), (5, some 14), (6, some 15), (7, some 16), (8, some 17), (10, some 19), (13, some 22), (9, some 18), (12, some 21), (11, some 20), (14, some 23), (15, some 24), (16, some 25), (17, some 26), (19, some 28), (22, some 31), (18, some 27), (21, some 30), (20, some 29), (23, some 32), (24, some 33), (25, some 34), (26, some 4)] (by kernel_rfl) rfl (by kernel_rfl) (by kernel_rfl) (by kernel_rfl) (by repeat (first | (with_reducible first | exact Below.refl _ _ | apply below_alloc | apply pw_below_drewN | apply below_drew1) | exact Below.refl _ _)) ?_
    intro HT_ HW_ w_ hHeld
    refine Evt.ow_call HT_ hHeld rfl rfl rfl (by kernel_rfl) Try.func16 (by kernel_rfl) rfl #[] (by rfl) (by (try simp only [List.map_toArray, List.map_cons, List.map_nil]); first | done | rfl | (simp only [List.length_drop, List.length_take]; rfl)) ?_
    (with_reducible refine (alive_any _).mono ?_)
    rintro e w_ ⟨rfl, hb⟩
    refine ⟨_, rfl, hb, fun hHeld_ => ?_⟩
    clear hHeld hb
    have hHeld := hHeld_
    clear hHeld_
    refine Evt.ow_norm (a' := ?_) ?_ ?_
    rotate_left
    · simp only [Act.put, List.setIfInBounds_toArray, List.set_cons_zero, List.set_cons_succ, i64_w, i32_w]; rfl
    iterate 3 (first | (refine Evt.ow_off (a' := ?_) HT_ rfl rfl (by rfl) (by kernel_rfl) (fun _ _ _ h => h) ?_ ?_; rotate_left; (· (try simp only [Act.put, List.setIfInBounds_toArray, List.set_cons_zero, List.set_cons_succ, i64_w, i32_w]); rfl)) | (refine Evt.ow_pure (a' := ?_) (v := ?_) HT_ rfl rfl rfl (by rfl) (by kernel_rfl) (fun _ _ _ h => h) ?_ ?_ ?_; rotate_left 2; (· intro w'; go_simp; with_reducible rfl); (· (try simp only [Act.put, List.setIfInBounds_toArray, List.set_cons_zero, List.set_cons_succ, i64_w, i32_w]); rfl)) | (refine Evt.ow_load (a' := ?_) (v := ?_) HT_ HW_ hHeld rfl rfl rfl (by rfl) (by kernel_rfl) (fun _ _ _ h => h) ?_ ?_ ?_; rotate_left 2; (· intro w' hS_; obtain ⟨s0, s1, s2, s3⟩ := KP.out w' hS_.out; go_simp; with_reducible rfl); (· (try simp only [Act.put, List.setIfInBounds_toArray, List.set_cons_zero, List.set_cons_succ, i64_w, i32_w]); rfl)))
    refine Evt.ow_call HT_ hHeld rfl rfl rfl (by kernel_rfl) Try.func18 (by kernel_rfl) rfl #[.agg #[.string a0, .slice A1 l1.length c1, .slice A2 l2.length c2, .string a3]] (by rfl) (by (try simp only [List.map_toArray, List.map_cons, List.map_nil]); first | done | rfl | (simp only [List.length_drop, List.length_take]; rfl)) ?_
    (with_reducible refine (nodes_any _ (R.out.below hHeld.out) OK.out).mono ?_)
    rintro e w_ ⟨v, rfl, ho, hb⟩
    obtain ⟨X1, x1, rfl, N1⟩ := Ro.sliceS ho; clear ho
    refine ⟨_, rfl, hb, fun hHeld_ => ?_⟩
    clear hHeld hb
    have hHeld := hHeld_
    clear hHeld_
    refine Evt.ow_norm (a' := ?_) ?_ ?_
    rotate_left
    · simp only [Act.put, List.setIfInBounds_toArray, List.set_cons_zero, List.set_cons_succ, i64_w, i32_w]; rfl
    refine Evt.ow_call HT_ hHeld rfl rfl rfl (by kernel_rfl) Try.func19 (by kernel_rfl) rfl #[.agg #[.string a0, .slice A1 l1.length c1, .slice A2 l2.length c2, .string a3]] (by rfl) (by (try simp only [List.map_toArray, List.map_cons, List.map_nil]); first | done | rfl | (simp only [List.length_drop, List.length_take]; rfl)) ?_
    (with_reducible refine (Pe.refnodes_any _ (R.out.below hHeld.out) LN).mono ?_)
    rintro e w_ ⟨v, rfl, ho, hb⟩
    obtain ⟨X2, x2, rfl, N2⟩ := Ro.sliceS ho; clear ho; have n_ := Aside0.mk (N1.out.below hb); clear N1; have N1 := n_; clear n_
    refine ⟨_, rfl, hb, fun hHeld_ => ?_⟩
    clear hHeld hb
    have hHeld := hHeld_
    clear hHeld_
    refine Evt.ow_norm (a' := ?_) ?_ ?_
    rotate_left
    · simp only [Act.put, List.setIfInBounds_toArray, List.set_cons_zero, List.set_cons_succ, i64_w, i32_w]; rfl
    refine Evt.ow_call HT_ hHeld rfl rfl rfl (by kernel_rfl) Try.func17 (by kernel_rfl) rfl #[.slice X1 (nodesL (es l1)).length x1, .slice X2 (nodesL (es l1)).length x2] (by rfl) (by (try simp only [List.map_toArray, List.map_cons, List.map_nil]); first | done | rfl | (simp only [List.length_drop, List.length_take]; rfl)) ?_
    (with_reducible refine (eqS_any X1 x1 _ X2 x2 _ _ N1.out N2.out LL.out (decide_eq_true rfl)).mono ?_)
    rintro e w_ ⟨rfl, hb⟩
    refine ⟨_, rfl, hb, fun hHeld_ => ?_⟩
    clear hHeld hb
    have hHeld := hHeld_
    clear hHeld_
    refine Evt.ow_norm (a' := ?_) ?_ ?_
    rotate_left
    · simp only [Act.put, List.setIfInBounds_toArray, List.set_cons_zero, List.set_cons_succ, i64_w, i32_w]; rfl
    iterate 6 (first | (refine Evt.ow_off (a' := ?_) HT_ rfl rfl (by rfl) (by kernel_rfl) (fun _ _ _ h => h) ?_ ?_; rotate_left; (· (try simp only [Act.put, List.setIfInBounds_toArray, List.set_cons_zero, List.set_cons_succ, i64_w, i32_w]); rfl)) | (refine Evt.ow_pure (a' := ?_) (v := ?_) HT_ rfl rfl rfl (by rfl) (by kernel_rfl) (fun _ _ _ h => h) ?_ ?_ ?_; rotate_left 2; (· intro w'; go_simp; with_reducible rfl); (· (try simp only [Act.put, List.setIfInBounds_toArray, List.set_cons_zero, List.set_cons_succ, i64_w, i32_w]); rfl)) | (refine Evt.ow_load (a' := ?_) (v := ?_) HT_ HW_ hHeld rfl rfl rfl (by rfl) (by kernel_rfl) (fun _ _ _ h => h) ?_ ?_ ?_; rotate_left 2; (· intro w' hS_; obtain ⟨s0, s1, s2, s3⟩ := KP.out w' hS_.out; go_simp; with_reducible rfl); (· (try simp only [Act.put, List.setIfInBounds_toArray, List.set_cons_zero, List.set_cons_succ, i64_w, i32_w]); rfl)))
    refine Evt.ow_call HT_ hHeld rfl rfl rfl (by kernel_rfl) Try.func21 (by kernel_rfl) rfl #[.agg #[.string a0, .slice A1 l1.length c1, .slice A2 l2.length c2, .string a3], .string s] (by rfl) (by (try simp only [List.map_toArray, List.map_cons, List.map_nil]); first | done | rfl | (simp only [List.length_drop, List.length_take]; rfl)) ?_
    (with_reducible refine (outgoing_any _ (R.out.below hHeld.out) LN s).mono ?_)
    rintro e w_ ⟨v, rfl, ho, hb⟩
    obtain ⟨X3, x3, rfl, N3⟩ := Ro.sliceI ho; clear ho
    refine ⟨_, rfl, hb, fun hHeld_ => ?_⟩
    clear hHeld hb
    have hHeld := hHeld_
    clear hHeld_
    refine Evt.ow_norm (a' := ?_) ?_ ?_
    rotate_left
    · simp only [Act.put, List.setIfInBounds_toArray, List.set_cons_zero, List.set_cons_succ, i64_w, i32_w]; rfl
    refine Evt.ow_call HT_ hHeld rfl rfl rfl (by kernel_rfl) Try.func22 (by kernel_rfl) rfl #[.agg #[.string a0, .slice A1 l1.length c1, .slice A2 l2.length c2, .string a3], .string s] (by rfl) (by (try simp only [List.map_toArray, List.map_cons, List.map_nil]); first | done | rfl | (simp only [List.length_drop, List.length_take]; rfl)) ?_
    (with_reducible refine (Pe.refout_any _ (R.out.below hHeld.out) LN).mono ?_)
    rintro e w_ ⟨v, rfl, ho, hb⟩
    obtain ⟨X4, x4, rfl, N4⟩ := Ro.sliceI ho; clear ho; have n_ := Aside0.mk (N3.out.below hb); clear N3; have N3 := n_; clear n_
    refine ⟨_, rfl, hb, fun hHeld_ => ?_⟩
    clear hHeld hb
    have hHeld := hHeld_
    clear hHeld_
    refine Evt.ow_norm (a' := ?_) ?_ ?_
    rotate_left
    · simp only [Act.put, List.setIfInBounds_toArray, List.set_cons_zero, List.set_cons_succ, i64_w, i32_w]; rfl
    refine Evt.ow_call HT_ hHeld rfl rfl rfl (by kernel_rfl) Try.func20 (by kernel_rfl) rfl #[.slice X3 (outL (es l1) s).length x3, .slice X4 (outL (es l1) s).length x4] (by rfl) (by (try simp only [List.map_toArray, List.map_cons, List.map_nil]); first | done | rfl | (simp only [List.length_drop, List.length_take]; rfl)) ?_
    (with_reducible refine (eqI_any X3 x3 _ X4 x4 _ _ N3.out N4.out LO.out (decide_eq_true rfl)).mono ?_)
    rintro e w_ ⟨rfl, hb⟩
    refine ⟨_, rfl, hb, fun hHeld_ => ?_⟩
    clear hHeld hb
    have hHeld := hHeld_
    clear hHeld_
    refine Evt.ow_norm (a' := ?_) ?_ ?_
    rotate_left
    · simp only [Act.put, List.setIfInBounds_toArray, List.set_cons_zero, List.set_cons_succ, i64_w, i32_w]; rfl
    iterate 6 (first | (refine Evt.ow_off (a' := ?_) HT_ rfl rfl (by rfl) (by kernel_rfl) (fun _ _ _ h => h) ?_ ?_; rotate_left; (· (try simp only [Act.put, List.setIfInBounds_toArray, List.set_cons_zero, List.set_cons_succ, i64_w, i32_w]); rfl)) | (refine Evt.ow_pure (a' := ?_) (v := ?_) HT_ rfl rfl rfl (by rfl) (by kernel_rfl) (fun _ _ _ h => h) ?_ ?_ ?_; rotate_left 2; (· intro w'; go_simp; with_reducible rfl); (· (try simp only [Act.put, List.setIfInBounds_toArray, List.set_cons_zero, List.set_cons_succ, i64_w, i32_w]); rfl)) | (refine Evt.ow_load (a' := ?_) (v := ?_) HT_ HW_ hHeld rfl rfl rfl (by rfl) (by kernel_rfl) (fun _ _ _ h => h) ?_ ?_ ?_; rotate_left 2; (· intro w' hS_; obtain ⟨s0, s1, s2, s3⟩ := KP.out w' hS_.out; go_simp; with_reducible rfl); (· (try simp only [Act.put, List.setIfInBounds_toArray, List.set_cons_zero, List.set_cons_succ, i64_w, i32_w]); rfl)))
    refine Evt.ow_call HT_ hHeld rfl rfl rfl (by kernel_rfl) Try.func23 (by kernel_rfl) rfl #[.agg #[.string a0, .slice A1 l1.length c1, .slice A2 l2.length c2, .string a3], .string s] (by rfl) (by (try simp only [List.map_toArray, List.map_cons, List.map_nil]); first | done | rfl | (simp only [List.length_drop, List.length_take]; rfl)) ?_
    (with_reducible refine (incoming_any _ (R.out.below hHeld.out) LN s).mono ?_)
    rintro e w_ ⟨v, rfl, ho, hb⟩
    obtain ⟨X5, x5, rfl, N5⟩ := Ro.sliceI ho; clear ho
    refine ⟨_, rfl, hb, fun hHeld_ => ?_⟩
    clear hHeld hb
    have hHeld := hHeld_
    clear hHeld_
    refine Evt.ow_norm (a' := ?_) ?_ ?_
    rotate_left
    · simp only [Act.put, List.setIfInBounds_toArray, List.set_cons_zero, List.set_cons_succ, i64_w, i32_w]; rfl
    refine Evt.ow_call HT_ hHeld rfl rfl rfl (by kernel_rfl) Try.func24 (by kernel_rfl) rfl #[.agg #[.string a0, .slice A1 l1.length c1, .slice A2 l2.length c2, .string a3], .string s] (by rfl) (by (try simp only [List.map_toArray, List.map_cons, List.map_nil]); first | done | rfl | (simp only [List.length_drop, List.length_take]; rfl)) ?_
    (with_reducible refine (Pe.refin_any _ (R.out.below hHeld.out) LN).mono ?_)
    rintro e w_ ⟨v, rfl, ho, hb⟩
    obtain ⟨X6, x6, rfl, N6⟩ := Ro.sliceI ho; clear ho; have n_ := Aside0.mk (N5.out.below hb); clear N5; have N5 := n_; clear n_
    refine ⟨_, rfl, hb, fun hHeld_ => ?_⟩
    clear hHeld hb
    have hHeld := hHeld_
    clear hHeld_
    refine Evt.ow_norm (a' := ?_) ?_ ?_
    rotate_left
    · simp only [Act.put, List.setIfInBounds_toArray, List.set_cons_zero, List.set_cons_succ, i64_w, i32_w]; rfl
    refine Evt.ow_call HT_ hHeld rfl rfl rfl (by kernel_rfl) Try.func20 (by kernel_rfl) rfl #[.slice X5 (inL (es l1) s).length x5, .slice X6 (inL (es l1) s).length x6] (by rfl) (by (try simp only [List.map_toArray, List.map_cons, List.map_nil]); first | done | rfl | (simp only [List.length_drop, List.length_take]; rfl)) ?_
    (with_reducible refine (eqI_any X5 x5 _ X6 x6 _ _ N5.out N6.out LI.out (decide_eq_true rfl)).mono ?_)
    rintro e w_ ⟨rfl, hb⟩
    refine ⟨_, rfl, hb, fun hHeld_ => ?_⟩
    clear hHeld hb
    have hHeld := hHeld_
    clear hHeld_
    refine Evt.ow_norm (a' := ?_) ?_ ?_
    rotate_left
    · simp only [Act.put, List.setIfInBounds_toArray, List.set_cons_zero, List.set_cons_succ, i64_w, i32_w]; rfl
    iterate 2 (first | (refine Evt.ow_off (a' := ?_) HT_ rfl rfl (by rfl) (by kernel_rfl) (fun _ _ _ h => h) ?_ ?_; rotate_left; (· (try simp only [Act.put, List.setIfInBounds_toArray, List.set_cons_zero, List.set_cons_succ, i64_w, i32_w]); rfl)) | (refine Evt.ow_pure (a' := ?_) (v := ?_) HT_ rfl rfl rfl (by rfl) (by kernel_rfl) (fun _ _ _ h => h) ?_ ?_ ?_; rotate_left 2; (· intro w'; go_simp; with_reducible rfl); (· (try simp only [Act.put, List.setIfInBounds_toArray, List.set_cons_zero, List.set_cons_succ, i64_w, i32_w]); rfl)) | (refine Evt.ow_load (a' := ?_) (v := ?_) HT_ HW_ hHeld rfl rfl rfl (by rfl) (by kernel_rfl) (fun _ _ _ h => h) ?_ ?_ ?_; rotate_left 2; (· intro w' hS_; obtain ⟨s0, s1, s2, s3⟩ := KP.out w' hS_.out; go_simp; with_reducible rfl); (· (try simp only [Act.put, List.setIfInBounds_toArray, List.set_cons_zero, List.set_cons_succ, i64_w, i32_w]); rfl)))
    refine Evt.ow_done HT_ (by kernel_rfl) ?_
    refine Evt.gen_any (w0 := w2) hHeld.out ?_
    intro w3 hbx
    clear hHeld HT_ HW_ KP
    have n_R := Aside0.mk (R.out.below hbx)
    have n_BK2 := Aside0.mk (BK2.out.below hbx)
    have n_HB := Aside0.mk (below_step HB.out hbx)
    clear HB R BK2
    have R := n_R
    have BK2 := n_BK2
    have HB := n_HB
    clear hbx n_R n_BK2 n_HB
    have zBK2_0 : w3.cell? ⟨g2, 0, none⟩ = some (.string a0) := (blk_cell BK2.out.blk 0).trans rfl
    have zBK2_1 : w3.cell? ⟨g2, 1, none⟩ = some (.slice A1 l1.length c1) := (blk_cell BK2.out.blk 1).trans rfl
    have zBK2_2 : w3.cell? ⟨g2, 2, none⟩ = some (.slice A2 l2.length c2) := (blk_cell BK2.out.blk 2).trans rfl
    have zBK2_3 : w3.cell? ⟨g2, 3, none⟩ = some (.string a3) := (blk_cell BK2.out.blk 3).trans rfl
    go_wp2
    go_ret
    exact ⟨rfl, HB.out⟩
    skip
  · have TL : Aside0 (tl (es l1) = 1) := ⟨by unfold tl at hb ⊢; split at hb; rename_i hh; rw [if_pos hh]; omega⟩
    clear hb
    go_enter Try.func3, Try.ntmps3
    go_wp2_with (first | ((with_reducible refine gate_dst (N := 2) rfl ?_); refine box_event ?hg (N := 2) ?hd (cs := #[.string a0, .slice A1 l1.length c1, .slice A2 l2.length c2, .string a3]) (t := 25) ?hr ?_; (case hd => rfl); (case hg => rfl); (case hr => first | (go_simp; done) | (go_simp; rfl)); intro g2 hg w1 hbox hb; have hbx : Below w.heap.size w w1 := below_step (by repeat (first | (with_reducible first | exact Below.refl _ _ | apply below_alloc | apply pw_below_drewN | apply below_drew1) | exact Below.refl _ _)) hb; have n_R := Aside0.mk (R.out.below hbx); have n_HB := Aside0.mk (below_step HB.out hbx); clear HB R; have R := n_R; have HB := n_HB; clear hbx n_R n_HB; have BK2 := Aside0.mk (Bk.mk (hbox : Blk w1 g2 25 #[.string a0, .slice A1 l1.length c1, .slice A2 l2.length c2, .string a3])); clear hbox hg hb; have zBK2_0 : w1.cell? ⟨g2, 0, none⟩ = some (.string a0) := (blk_cell BK2.out.blk 0).trans rfl; have zBK2_1 : w1.cell? ⟨g2, 1, none⟩ = some (.slice A1 l1.length c1) := (blk_cell BK2.out.blk 1).trans rfl; have zBK2_2 : w1.cell? ⟨g2, 2, none⟩ = some (.slice A2 l2.length c2) := (blk_cell BK2.out.blk 2).trans rfl; have zBK2_3 : w1.cell? ⟨g2, 3, none⟩ = some (.string a3) := (blk_cell BK2.out.blk 3).trans rfl) | ((with_reducible refine gate_callee (f := 15) rfl ?_); refine goesL_ (some 6) rfl rfl Try.func15 (by kernel_rfl) rfl #[.agg #[.string a0, .slice A1 l1.length c1, .slice A2 l2.length c2, .string a3]] rfl (by (try simp only [List.map_toArray, List.map_cons, List.map_nil]); first | done | rfl | (simp only [List.length_drop, List.length_take]; rfl)) ?_; (with_reducible refine (Pe.tl_any _ (R.out.below (by repeat (first | (with_reducible first | exact Below.refl _ _ | apply below_alloc | apply pw_below_drewN | apply below_drew1) | exact Below.refl _ _))) SZ.out TL.out).mono ?_); rintro e w2 ⟨rfl, hb⟩; have hbx : Below w1.heap.size w1 w2 := below_step (by repeat (first | (with_reducible first | exact Below.refl _ _ | apply below_alloc | apply pw_below_drewN | apply below_drew1) | exact Below.refl _ _)) hb; clear zBK2_0 zBK2_1 zBK2_2 zBK2_3; have n_R := Aside0.mk (R.out.below hbx); have n_BK2 := Aside0.mk (BK2.out.below hbx); have n_HB := Aside0.mk (below_step HB.out hbx); clear HB R BK2; have R := n_R; have BK2 := n_BK2; have HB := n_HB; clear hbx n_R n_BK2 n_HB; clear hb; have zBK2_0 : w2.cell? ⟨g2, 0, none⟩ = some (.string a0) := (blk_cell BK2.out.blk 0).trans rfl; have zBK2_1 : w2.cell? ⟨g2, 1, none⟩ = some (.slice A1 l1.length c1) := (blk_cell BK2.out.blk 1).trans rfl; have zBK2_2 : w2.cell? ⟨g2, 2, none⟩ = some (.slice A2 l2.length c2) := (blk_cell BK2.out.blk 2).trans rfl; have zBK2_3 : w2.cell? ⟨g2, 3, none⟩ = some (.string a3) := (blk_cell BK2.out.blk 3).trans rfl; refine ⟨_, rfl, ?_⟩) | ((with_reducible refine gate_callee (f := 16) rfl ?_); refine goesL_ (some 8) rfl rfl Try.func16 (by kernel_rfl) rfl #[] rfl (by (try simp only [List.map_toArray, List.map_cons, List.map_nil]); first | done | rfl | (simp only [List.length_drop, List.length_take]; rfl)) ?_; (with_reducible refine (alive_any _).mono ?_); rintro e w3 ⟨rfl, hb⟩; have hbx : Below w2.heap.size w2 w3 := below_step (by repeat (first | (with_reducible first | exact Below.refl _ _ | apply below_alloc | apply pw_below_drewN | apply below_drew1) | exact Below.refl _ _)) hb; clear zBK2_0 zBK2_1 zBK2_2 zBK2_3; have n_R := Aside0.mk (R.out.below hbx); have n_BK2 := Aside0.mk (BK2.out.below hbx); have n_HB := Aside0.mk (below_step HB.out hbx); clear HB R BK2; have R := n_R; have BK2 := n_BK2; have HB := n_HB; clear hbx n_R n_BK2 n_HB; clear hb; have zBK2_0 : w3.cell? ⟨g2, 0, none⟩ = some (.string a0) := (blk_cell BK2.out.blk 0).trans rfl; have zBK2_1 : w3.cell? ⟨g2, 1, none⟩ = some (.slice A1 l1.length c1) := (blk_cell BK2.out.blk 1).trans rfl; have zBK2_2 : w3.cell? ⟨g2, 2, none⟩ = some (.slice A2 l2.length c2) := (blk_cell BK2.out.blk 2).trans rfl; have zBK2_3 : w3.cell? ⟨g2, 3, none⟩ = some (.string a3) := (blk_cell BK2.out.blk 3).trans rfl; refine ⟨_, rfl, ?_⟩))
    go_ret
    exact ⟨rfl, HB.out⟩
theorem nmr_walk (w : World) (k1 : List Value) (y1 : ByteArray × List S41 × List S101 × ByteArray) (h1 : KRung.K w y1 k1) (hq : QRung y1) (s : ByteArray) (_ : s.size ≤ maxLen) :
    Calls Try.prog 3 #[.agg k1.toArray, .string s] w fun x w' => x = .returned (.bool true) ∧ Below w.heap.size w w' := by
  obtain ⟨A1, c1, A2, c2, rfl, r1, hz⟩ := rung_form h1 hq
  exact nmr_core w r1 hz
end
end Go.Proofs.Ytmacdknicgfglaa.Gw
