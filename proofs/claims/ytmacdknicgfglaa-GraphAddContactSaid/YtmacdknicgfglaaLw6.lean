/- GraphAddContact, walked. -/
import Derived.Test.YtmacdknicgfglaaLw2
import Derived.Test.YtmacdknicgfglaaRq
import Derived.Test.YtmacdknicgfglaaPa
import Derived.Test.YtmacdknicgfglaaOr5
namespace Go.Proofs.Ytmacdknicgfglaa.Gw
open Go.RowKit Go.Shelf Go.Proofs.YtmacdknicgfglaaW.PrintWords Go.Proofs.YtmacdknicgfglaaW.PrintMore Go.Proofs.YtmacdknicgfglaaW.PrintLast Go.Proofs.Ytmacdknicgfglaa.Chg Go.Proofs.Ytmacdknicgfglaa.Evt Go.Proofs.Ytmacdknicgfglaa.Impl Go.Proofs.Ytmacdknicgfglaa.Gp Go.Proofs.Ytmacdknicgfglaa.Mp Go.Proofs.Ytmacdknicgfglaa.Open
open Go.Proofs.Ytmacdknicgfglaa.Pe (tl)
set_option linter.unusedVariables false
set_option linter.unusedSimpArgs false
set_option maxRecDepth 100000
section
variable {A1 A2 : Option Addr} {c1 c2 : Nat} {l1 : List S41} {l2 : List S101} {a0 a3 t0 t1 s : ByteArray}
set_option maxHeartbeats 16000000 in
theorem add_small (w : World) (h : Rg w A1 c1 l1 A2 c2 l2) (hz : SzR l1) (hb : tl (es l1) ≤ 0) (ht : t0.size + t1.size ≤ 100) : Calls Try.prog 5 #[.agg #[.string a0, .slice A1 l1.length c1, .slice A2 l2.length c2, .string a3], .agg #[.string t0, .string t1], .string s] w fun x w' => x = .returned (.bool true) ∧ Below w.heap.size w w' := by
  have SZ := Aside0.mk hz
  have O12 := Aside0.mk (Ok12.of hb)
  have TL := Aside0.mk (tl_0 hb)
  have LN : l1.length ≤ 60 := O12.out.ln
  have s0 : wrap64 ((t0.size : Int) + (t1.size : Int)) = (t0.size : Int) + (t1.size : Int) := by unfold wrap64; omega
  have s1 : decide ((t0.size : Int) + (t1.size : Int) > 100) = false := decide_eq_false (by omega)
  have s2 : decide (100 < (t0.size : Int) + (t1.size : Int)) = false := decide_eq_false (by omega)
  have HB := Aside0.mk (Below.refl w.heap.size w)
  have R := Aside0.mk (h)
  clear h hz hb
  go_enter Try.func5, Try.ntmps5
  go_wp2_with (first | ((with_reducible refine gate_dst (N := 3) rfl ?_); refine box_event ?hg (N := 3) ?hd (cs := #[.string a0, .slice A1 l1.length c1, .slice A2 l2.length c2, .string a3]) (t := 25) ?hr ?_; (case hd => rfl); (case hg => rfl); (case hr => first | (go_simp; done) | (go_simp; rfl)); intro g3 hg w1 hbox hb; have hbx : Below w.heap.size w w1 := below_step (by repeat (first | (with_reducible first | exact Below.refl _ _ | apply below_alloc | apply pw_below_drewN | apply below_drew1) | exact Below.refl _ _)) hb; have n_R := Aside0.mk (R.out.below hbx); have n_HB := Aside0.mk (below_step HB.out hbx); clear HB R; have R := n_R; have HB := n_HB; clear hbx n_R n_HB; have BK3 := Aside0.mk (Bk.mk (hbox : Blk w1 g3 25 #[.string a0, .slice A1 l1.length c1, .slice A2 l2.length c2, .string a3])); clear hbox hg hb; have zBK3_0 : w1.cell? ⟨g3, 0, none⟩ = some (.string a0) := (blk_cell BK3.out.blk 0).trans rfl; have zBK3_1 : w1.cell? ⟨g3, 1, none⟩ = some (.slice A1 l1.length c1) := (blk_cell BK3.out.blk 1).trans rfl; have zBK3_2 : w1.cell? ⟨g3, 2, none⟩ = some (.slice A2 l2.length c2) := (blk_cell BK3.out.blk 2).trans rfl; have zBK3_3 : w1.cell? ⟨g3, 3, none⟩ = some (.string a3) := (blk_cell BK3.out.blk 3).trans rfl) | ((with_reducible refine gate_dst (N := 4) rfl ?_); refine box_event ?hg (N := 4) ?hd (cs := #[.string t0, .string t1]) (t := 47) ?hr ?_; (case hd => rfl); (case hg => rfl); (case hr => first | (go_simp; done) | (go_simp; rfl)); intro g4 hg w2 hbox hb; have hbx : Below w1.heap.size w1 w2 := below_step (by repeat (first | (with_reducible first | exact Below.refl _ _ | apply below_alloc | apply pw_below_drewN | apply below_drew1) | exact Below.refl _ _)) hb; clear zBK3_0 zBK3_1 zBK3_2 zBK3_3; have n_R := Aside0.mk (R.out.below hbx); have n_BK3 := Aside0.mk (BK3.out.below hbx); have n_HB := Aside0.mk (below_step HB.out hbx); clear HB R BK3; have R := n_R; have BK3 := n_BK3; have HB := n_HB; clear hbx n_R n_BK3 n_HB; have BK4 := Aside0.mk (Bk.mk (hbox : Blk w2 g4 47 #[.string t0, .string t1])); clear hbox hg hb; have zBK3_0 : w2.cell? ⟨g3, 0, none⟩ = some (.string a0) := (blk_cell BK3.out.blk 0).trans rfl; have zBK3_1 : w2.cell? ⟨g3, 1, none⟩ = some (.slice A1 l1.length c1) := (blk_cell BK3.out.blk 1).trans rfl; have zBK3_2 : w2.cell? ⟨g3, 2, none⟩ = some (.slice A2 l2.length c2) := (blk_cell BK3.out.blk 2).trans rfl; have zBK3_3 : w2.cell? ⟨g3, 3, none⟩ = some (.string a3) := (blk_cell BK3.out.blk 3).trans rfl; have zBK4_0 : w2.cell? ⟨g4, 0, none⟩ = some (.string t0) := (blk_cell BK4.out.blk 0).trans rfl; have zBK4_1 : w2.cell? ⟨g4, 1, none⟩ = some (.string t1) := (blk_cell BK4.out.blk 1).trans rfl) | ((with_reducible refine gate_callee (f := 15) rfl ?_); refine goesL_ (some 14) rfl rfl Try.func15 (by kernel_rfl) rfl #[.agg #[.string a0, .slice A1 l1.length c1, .slice A2 l2.length c2, .string a3]] rfl (by (try simp only [List.map_toArray, List.map_cons, List.map_nil]); first | done | rfl | (simp only [List.length_drop, List.length_take]; rfl)) ?_; (with_reducible refine (Pe.tl_any _ (R.out.below (by repeat (first | (with_reducible first | exact Below.refl _ _ | apply below_alloc | apply pw_below_drewN | apply below_drew1) | exact Below.refl _ _))) SZ.out TL.out).mono ?_); rintro e w3 ⟨rfl, hb⟩; have hbx : Below w2.heap.size w2 w3 := below_step (by repeat (first | (with_reducible first | exact Below.refl _ _ | apply below_alloc | apply pw_below_drewN | apply below_drew1) | exact Below.refl _ _)) hb; clear zBK3_0 zBK3_1 zBK3_2 zBK3_3 zBK4_0 zBK4_1; have n_R := Aside0.mk (R.out.below hbx); have n_BK3 := Aside0.mk (BK3.out.below hbx); have n_BK4 := Aside0.mk (BK4.out.below hbx); have n_HB := Aside0.mk (below_step HB.out hbx); clear HB R BK3 BK4; have R := n_R; have BK3 := n_BK3; have BK4 := n_BK4; have HB := n_HB; clear hbx n_R n_BK3 n_BK4 n_HB; clear hb; have zBK3_0 : w3.cell? ⟨g3, 0, none⟩ = some (.string a0) := (blk_cell BK3.out.blk 0).trans rfl; have zBK3_1 : w3.cell? ⟨g3, 1, none⟩ = some (.slice A1 l1.length c1) := (blk_cell BK3.out.blk 1).trans rfl; have zBK3_2 : w3.cell? ⟨g3, 2, none⟩ = some (.slice A2 l2.length c2) := (blk_cell BK3.out.blk 2).trans rfl; have zBK3_3 : w3.cell? ⟨g3, 3, none⟩ = some (.string a3) := (blk_cell BK3.out.blk 3).trans rfl; have zBK4_0 : w3.cell? ⟨g4, 0, none⟩ = some (.string t0) := (blk_cell BK4.out.blk 0).trans rfl; have zBK4_1 : w3.cell? ⟨g4, 1, none⟩ = some (.string t1) := (blk_cell BK4.out.blk 1).trans rfl; refine ⟨_, rfl, ?_⟩))
  obtain ⟨lq, LQ⟩ : ∃ lq, Aside0 (([] ++ l1) ++ [mkC (t0, t1)] = lq) := ⟨_, ⟨rfl⟩⟩
  have KP : Aside0 (∀ w', Below w3.heap.size w3 w' → (w'.cell? ⟨g3, 0, none⟩ = some (.string a0) ∧ w'.cell? ⟨g3, 1, none⟩ = some (.slice A1 l1.length c1) ∧ w'.cell? ⟨g3, 2, none⟩ = some (.slice A2 l2.length c2) ∧ w'.cell? ⟨g3, 3, none⟩ = some (.string a3) ∧ w'.cell? ⟨g4, 0, none⟩ = some (.string t0) ∧ w'.cell? ⟨g4, 1, none⟩ = some (.string t1))) := Aside0.mk (fun w' hb => ⟨(blk_cell (BK3.out.below hb).blk 0).trans rfl, (blk_cell (BK3.out.below hb).blk 1).trans rfl, (blk_cell (BK3.out.below hb).blk 2).trans rfl, (blk_cell (BK3.out.below hb).blk 3).trans rfl, (blk_cell (BK4.out.below hb).blk 0).trans rfl, (blk_cell (BK4.out.below hb).blk 1).trans rfl⟩)
  clear zBK3_0 zBK3_1 zBK3_2 zBK3_3 zBK4_0 zBK4_1
  refine Evt.ol_start (ds := []) (w0 := w3) (T := (true, [([], []), ([], []), ([1], [1]), ([0, 2], [0, 2]), ([], []), ([4], [4]), ([], []), ([6], [6]), ([5, 7], [5, 7]), ([8], [8]), ([3, 9, 3], [3, 9]), ([10], [10]), ([], []), ([12, 11, 10, 0, 1, 2, 3, 4, 5, 6, 7, 8, 9, 10, 11, 12], [11, 12])])) (B := [0, 0, 2, 7, 0, 16, 0, 64, 240, 496, 1023, 2047, 0, 8191]) 14 [(1, some 28), (2, some 29), (4, some 31), (5, some 32), (6, some 33), (7, some 34), (8, some 35), (0, some 27), (3, some 30), (9, some 36), (10, some 37), (11, some 38), (12, some 7), (13, none)] (by kernel_rfl) rfl (by kernel_rfl) (by kernel_rfl) (by kernel_rfl) (by repeat (first | (with_reducible first | exact Below.refl _ _ | apply below_alloc | apply pw_below_drewN | apply below_drew1) | exact Below.refl _ _)) ?_
  intro HT_ HW_ w_ hHeld
  iterate 7 (first | (refine Evt.ol_off (a' := ?_) HT_ rfl rfl (by rfl) (by kernel_rfl) (fun _ _ _ h => h) ?_ ?_; rotate_left; (· (try simp only [Act.put, List.setIfInBounds_toArray, List.set_cons_zero, List.set_cons_succ, i64_w, i32_w]); rfl)) | (refine Evt.ol_pure (a' := ?_) (v := ?_) HT_ rfl rfl rfl (by rfl) (by kernel_rfl) (fun _ _ _ h => h) ?_ ?_ ?_; rotate_left 2; (· intro w'; go_simp; with_reducible rfl); (· (try simp only [Act.put, List.setIfInBounds_toArray, List.set_cons_zero, List.set_cons_succ, i64_w, i32_w]); rfl)) | (refine Evt.ol_load (a' := ?_) (v := ?_) HT_ HW_ hHeld rfl rfl rfl (by rfl) (by kernel_rfl) (fun _ _ _ h => h) ?_ ?_ ?_; rotate_left 2; (· intro w' hS_; obtain ⟨s0, s1, s2, s3, s4, s5⟩ := KP.out w' hS_.out; go_simp; with_reducible rfl); (· (try simp only [Act.put, List.setIfInBounds_toArray, List.set_cons_zero, List.set_cons_succ, i64_w, i32_w]); rfl)))
  refine Evt.ol_join (σ := (Value) × (Value) × (Nat) × (Option Addr) × (Nat) × (Nat)) 1 [(13, none)] (fun s => match s with | (vR0, vR3, gT9, AR10, cR10, gT12) => [(27, vR0), (30, vR3), (36, .slice (some ⟨gT9, 0, none⟩) 1 1), (37, .slice AR10 (lq).length cR10), (38, .agg #[.string ⟨#[]⟩, .slice AR10 (lq).length cR10, .slice none 0 0, .string ⟨#[]⟩]), (7, .pointer (some ⟨gT12, 0, none⟩))]) (fun s W_ => match s with | (vR0, vR3, gT9, AR10, cR10, gT12) => (Evt.Ro k41 41 w3 W_ (.slice AR10 (lq).length cR10) (lq)) ∧ (Bk W_ gT12 25 #[.string ⟨#[]⟩, .slice none 0 0, .slice none 0 0, .string ⟨#[]⟩]) ∧ (w3.heap.size ≤ gT12)) ?_ ?_
  · intro JN
    refine Evt.ol_three (i := 0) (j := 9) (k := 12) [(3, some 30), (9, some 36), (10, some 37), (11, some 38), (12, some 7), (13, none)] [(0, some 27), (3, some 30), (10, some 37), (11, some 38), (12, some 7), (13, none)] [(0, some 27), (3, some 30), (9, some 36), (10, some 37), (11, some 38), (13, none)] HT_ rfl rfl rfl rfl rfl rfl (by kernel_rfl) (fun K_ hK_ => ?_) (fun K_ hK_ => ?_) (fun K_ hK_ => ?_)
    · refine Evt.k_row0 hK_ hHeld rfl rfl ?_ ?_
      · first | (go_simp; done) | (go_simp; rfl) | (go_simp; refine ⟨?_, ?_⟩ <;> rfl)
      intro vR0 w_ hR_ hO_ hb_ hH_
      clear hO_
      have F0 := Aside0.mk hR_
      clear hHeld hb_ hR_
      have hHeld := hH_
      clear hH_ hK_
      refine Evt.ol_norm (a' := ?_) ?_ ?_
      rotate_left
      · simp only [Act.put, List.setIfInBounds_toArray, List.set_cons_zero, List.set_cons_succ, i64_w, i32_w]; rfl
      refine Evt.ol_three (i := 3) (j := 9) (k := 12) [(9, some 36), (10, some 37), (11, some 38), (12, some 7), (13, none)] [(3, some 30), (10, some 37), (11, some 38), (12, some 7), (13, none)] [(3, some 30), (9, some 36), (10, some 37), (11, some 38), (13, none)] HT_ rfl rfl rfl rfl rfl rfl (by kernel_rfl) (fun K_ hK_ => ?_) (fun K_ hK_ => ?_) (fun K_ hK_ => ?_)
      · refine Evt.k_appc hK_ hHeld rfl rfl (.tmp 27) (.tmp 29) rfl vR0 ([]) (l1) A1 l1.length c1 rfl rfl F0.out (R.out.below hHeld.out).r1 (by simp; omega) ?_
        intro vR3 w_ hR_ hg_ hat_ hH_
        clear F0
        have F3 := Aside0.mk hR_
        clear hHeld hR_ hg_ hat_
        have hHeld := hH_
        clear hH_ hK_
        refine Evt.ol_norm (a' := ?_) ?_ ?_
        rotate_left
        · simp only [Act.put, List.setIfInBounds_toArray, List.set_cons_zero, List.set_cons_succ, i64_w, i32_w]; rfl
        refine Evt.ol_two (i := 9) (j := 12) [(10, some 37), (11, some 38), (12, some 7), (13, none)] [(9, some 36), (10, some 37), (11, some 38), (13, none)] HT_ rfl rfl rfl rfl (by kernel_rfl) (fun K_ hK_ => ?_) (fun K_ hK_ => ?_)
        · refine Evt.k_slice hK_ hHeld rfl rfl (cs := #[.int .i64 0, .int .i64 0, .int .i64 0, .string t0, .string t1]) (t := 41) (ln := 1) ?_ ?_
          · first | (go_simp; done) | (go_simp; rfl) | (go_simp; refine ⟨?_, ?_⟩ <;> rfl)
          intro gT9 w_ hg_ hB_ hb_ hH_
          have GE9 := Aside0.mk (show w3.heap.size ≤ gT9 from (by rw [hg_]; exact hHeld.out.size))
          have NR9 := Aside0.mk (show some gT9 ≠ vR3.ownBlock from (by rw [hg_]; intro e_; have h_ := Kd.R_lt F3.out.row _ e_.symm; omega))
          clear hg_
          have n_F3 := Aside0.mk (F3.out.below hb_)
          clear F3
          have F3 := n_F3
          clear n_F3
          have F9 := Aside0.mk hB_
          clear hHeld hb_ hB_
          have hHeld := hH_
          clear hH_ hK_
          refine Evt.ol_norm (a' := ?_) ?_ ?_
          rotate_left
          · simp only [Act.put, List.setIfInBounds_toArray, List.set_cons_zero, List.set_cons_succ, i64_w, i32_w]; rfl
          refine Evt.ol_two (i := 10) (j := 12) [(11, some 38), (12, some 7), (13, none)] [(10, some 37), (11, some 38), (13, none)] HT_ rfl rfl rfl rfl (by kernel_rfl) (fun K_ hK_ => ?_) (fun K_ hK_ => ?_)
          · refine Evt.k_appc hK_ hHeld rfl rfl (.tmp 30) (.tmp 36) rfl vR3 ([] ++ l1) ([mkC (t0, t1)]) (some ⟨gT9, 0, none⟩) 1 1 rfl rfl F3.out (Rg.of_blk (l := [(t0, t1)]) F9.out (by simp)).r1 (by simp; omega) ?_
            intro vR10 w_ hR_ hg_ hat_ hH_
            have n_NR := Aside0.mk (show some gT9 ≠ vR10.ownBlock from (by rcases hat_ with e_ | ⟨k_, e_, hk_⟩; (rw [e_]; exact NR9.out); (rw [e_]; intro e2_; injection e2_ with e2_; have h_ := F9.out.blk.lt; omega)))
            have n_F9 := Aside0.mk (F9.out.grown hg_ NR9.out)
            clear F9 NR9
            have F9 := n_F9
            have NR9 := n_NR
            clear n_F9 n_NR
            rw [LQ.out] at hR_
            obtain ⟨AR10, cR10, rfl⟩ := Kd.R_slice hR_.row
            clear F3
            have F10 := Aside0.mk hR_
            clear hHeld hR_ hg_ hat_
            have hHeld := hH_
            clear hH_ hK_
            refine Evt.ol_norm (a' := ?_) ?_ ?_
            rotate_left
            · simp only [Act.put, List.setIfInBounds_toArray, List.set_cons_zero, List.set_cons_succ, i64_w, i32_w]; rfl
            (first | (refine Evt.ol_off (a' := ?_) HT_ rfl rfl (by rfl) (by kernel_rfl) (fun _ _ _ h => h) ?_ ?_; rotate_left; (· (try simp only [Act.put, List.setIfInBounds_toArray, List.set_cons_zero, List.set_cons_succ, i64_w, i32_w]); rfl)) | (refine Evt.ol_pure (a' := ?_) (v := ?_) HT_ rfl rfl rfl (by rfl) (by kernel_rfl) (fun _ _ _ h => h) ?_ ?_ ?_; rotate_left 2; (· intro w'; go_simp; with_reducible rfl); (· (try simp only [Act.put, List.setIfInBounds_toArray, List.set_cons_zero, List.set_cons_succ, i64_w, i32_w]); rfl)) | (refine Evt.ol_load (a' := ?_) (v := ?_) HT_ HW_ hHeld rfl rfl rfl (by rfl) (by kernel_rfl) (fun _ _ _ h => h) ?_ ?_ ?_; rotate_left 2; (· intro w' hS_; obtain ⟨s0, s1, s2, s3, s4, s5⟩ := KP.out w' hS_.out; go_simp; with_reducible rfl); (· (try simp only [Act.put, List.setIfInBounds_toArray, List.set_cons_zero, List.set_cons_succ, i64_w, i32_w]); rfl)))
            refine Evt.ol_one (i := 12) [(13, none)] HT_ rfl rfl (by kernel_rfl) (fun K_ hK_ => ?_)
            · refine Evt.k_alloc hK_ hHeld rfl rfl (cs := #[.string ⟨#[]⟩, .slice none 0 0, .slice none 0 0, .string ⟨#[]⟩]) (t := 25) ?_ ?_
              · first | (go_simp; done) | (go_simp; rfl) | (go_simp; refine ⟨?_, ?_⟩ <;> rfl)
              intro gT12 w_ hg_ hB_ hb_ hH_
              have GE12 := Aside0.mk (show w3.heap.size ≤ gT12 from (by rw [hg_]; exact hHeld.out.size))
              have NE_9_12 := Aside0.mk (show gT9 ≠ gT12 from (by have h_ := F9.out.blk.lt; omega))
              clear hg_
              have n_F9 := Aside0.mk (F9.out.below hb_)
              have n_F10 := Aside0.mk (F10.out.below hb_)
              clear F9 F10
              have F9 := n_F9
              have F10 := n_F10
              clear n_F9 n_F10
              have F12 := Aside0.mk hB_
              clear hHeld hb_ hB_
              have hHeld := hH_
              clear hH_ hK_
              refine Evt.ol_norm (a' := ?_) ?_ ?_
              rotate_left
              · simp only [Act.put, List.setIfInBounds_toArray, List.set_cons_zero, List.set_cons_succ, i64_w, i32_w]; rfl
              exact Evt.ol_norm (by simp only [putAll, Act.put, List.setIfInBounds_toArray, List.set_cons_zero, List.set_cons_succ, i64_w, i32_w]; rfl) (JN (vR0, vR3, gT9, AR10, cR10, gT12) _ hHeld ⟨F10.out, F12.out, GE12.out⟩)
          · refine Evt.k_alloc hK_ hHeld rfl rfl (cs := #[.string ⟨#[]⟩, .slice none 0 0, .slice none 0 0, .string ⟨#[]⟩]) (t := 25) ?_ ?_
            · first | (go_simp; done) | (go_simp; rfl) | (go_simp; refine ⟨?_, ?_⟩ <;> rfl)
            intro gT12 w_ hg_ hB_ hb_ hH_
            have GE12 := Aside0.mk (show w3.heap.size ≤ gT12 from (by rw [hg_]; exact hHeld.out.size))
            have NE_9_12 := Aside0.mk (show gT9 ≠ gT12 from (by have h_ := F9.out.blk.lt; omega))
            clear hg_
            have n_F3 := Aside0.mk (F3.out.below hb_)
            have n_F9 := Aside0.mk (F9.out.below hb_)
            clear F3 F9
            have F3 := n_F3
            have F9 := n_F9
            clear n_F3 n_F9
            have F12 := Aside0.mk hB_
            clear hHeld hb_ hB_
            have hHeld := hH_
            clear hH_ hK_
            refine Evt.ol_norm (a' := ?_) ?_ ?_
            rotate_left
            · simp only [Act.put, List.setIfInBounds_toArray, List.set_cons_zero, List.set_cons_succ, i64_w, i32_w]; rfl
            refine Evt.ol_one (i := 10) [(11, some 38), (13, none)] HT_ rfl rfl (by kernel_rfl) (fun K_ hK_ => ?_)
            · refine Evt.k_appc hK_ hHeld rfl rfl (.tmp 30) (.tmp 36) rfl vR3 ([] ++ l1) ([mkC (t0, t1)]) (some ⟨gT9, 0, none⟩) 1 1 rfl rfl F3.out (Rg.of_blk (l := [(t0, t1)]) F9.out (by simp)).r1 (by simp; omega) ?_
              intro vR10 w_ hR_ hg_ hat_ hH_
              have n_NR := Aside0.mk (show some gT9 ≠ vR10.ownBlock from (by rcases hat_ with e_ | ⟨k_, e_, hk_⟩; (rw [e_]; exact NR9.out); (rw [e_]; intro e2_; injection e2_ with e2_; have h_ := F9.out.blk.lt; omega)))
              have n_F9 := Aside0.mk (F9.out.grown hg_ NR9.out)
              clear F9 NR9
              have F9 := n_F9
              have NR9 := n_NR
              clear n_F9 n_NR
              have n_F12 := Aside0.mk (F12.out.grown hg_ (row_ne F3.out.row F12.out.blk (by decide)))
              clear F12
              have F12 := n_F12
              clear n_F12
              rw [LQ.out] at hR_
              obtain ⟨AR10, cR10, rfl⟩ := Kd.R_slice hR_.row
              clear F3
              have F10 := Aside0.mk hR_
              clear hHeld hR_ hg_ hat_
              have hHeld := hH_
              clear hH_ hK_
              refine Evt.ol_norm (a' := ?_) ?_ ?_
              rotate_left
              · simp only [Act.put, List.setIfInBounds_toArray, List.set_cons_zero, List.set_cons_succ, i64_w, i32_w]; rfl
              (first | (refine Evt.ol_off (a' := ?_) HT_ rfl rfl (by rfl) (by kernel_rfl) (fun _ _ _ h => h) ?_ ?_; rotate_left; (· (try simp only [Act.put, List.setIfInBounds_toArray, List.set_cons_zero, List.set_cons_succ, i64_w, i32_w]); rfl)) | (refine Evt.ol_pure (a' := ?_) (v := ?_) HT_ rfl rfl rfl (by rfl) (by kernel_rfl) (fun _ _ _ h => h) ?_ ?_ ?_; rotate_left 2; (· intro w'; go_simp; with_reducible rfl); (· (try simp only [Act.put, List.setIfInBounds_toArray, List.set_cons_zero, List.set_cons_succ, i64_w, i32_w]); rfl)) | (refine Evt.ol_load (a' := ?_) (v := ?_) HT_ HW_ hHeld rfl rfl rfl (by rfl) (by kernel_rfl) (fun _ _ _ h => h) ?_ ?_ ?_; rotate_left 2; (· intro w' hS_; obtain ⟨s0, s1, s2, s3, s4, s5⟩ := KP.out w' hS_.out; go_simp; with_reducible rfl); (· (try simp only [Act.put, List.setIfInBounds_toArray, List.set_cons_zero, List.set_cons_succ, i64_w, i32_w]); rfl)))
              exact Evt.ol_norm (by simp only [putAll, Act.put, List.setIfInBounds_toArray, List.set_cons_zero, List.set_cons_succ, i64_w, i32_w]; rfl) (JN (vR0, vR3, gT9, AR10, cR10, gT12) _ hHeld ⟨F10.out, F12.out, GE12.out⟩)
        · refine Evt.k_alloc hK_ hHeld rfl rfl (cs := #[.string ⟨#[]⟩, .slice none 0 0, .slice none 0 0, .string ⟨#[]⟩]) (t := 25) ?_ ?_
          · first | (go_simp; done) | (go_simp; rfl) | (go_simp; refine ⟨?_, ?_⟩ <;> rfl)
          intro gT12 w_ hg_ hB_ hb_ hH_
          have GE12 := Aside0.mk (show w3.heap.size ≤ gT12 from (by rw [hg_]; exact hHeld.out.size))
          clear hg_
          have n_F3 := Aside0.mk (F3.out.below hb_)
          clear F3
          have F3 := n_F3
          clear n_F3
          have F12 := Aside0.mk hB_
          clear hHeld hb_ hB_
          have hHeld := hH_
          clear hH_ hK_
          refine Evt.ol_norm (a' := ?_) ?_ ?_
          rotate_left
          · simp only [Act.put, List.setIfInBounds_toArray, List.set_cons_zero, List.set_cons_succ, i64_w, i32_w]; rfl
          refine Evt.ol_one (i := 9) [(10, some 37), (11, some 38), (13, none)] HT_ rfl rfl (by kernel_rfl) (fun K_ hK_ => ?_)
          · refine Evt.k_slice hK_ hHeld rfl rfl (cs := #[.int .i64 0, .int .i64 0, .int .i64 0, .string t0, .string t1]) (t := 41) (ln := 1) ?_ ?_
            · first | (go_simp; done) | (go_simp; rfl) | (go_simp; refine ⟨?_, ?_⟩ <;> rfl)
            intro gT9 w_ hg_ hB_ hb_ hH_
            have GE9 := Aside0.mk (show w3.heap.size ≤ gT9 from (by rw [hg_]; exact hHeld.out.size))
            have NE_9_12 := Aside0.mk (show gT9 ≠ gT12 from (by have h_ := F12.out.blk.lt; omega))
            have NR9 := Aside0.mk (show some gT9 ≠ vR3.ownBlock from (by rw [hg_]; intro e_; have h_ := Kd.R_lt F3.out.row _ e_.symm; omega))
            clear hg_
            have n_F3 := Aside0.mk (F3.out.below hb_)
            have n_F12 := Aside0.mk (F12.out.below hb_)
            clear F3 F12
            have F3 := n_F3
            have F12 := n_F12
            clear n_F3 n_F12
            have F9 := Aside0.mk hB_
            clear hHeld hb_ hB_
            have hHeld := hH_
            clear hH_ hK_
            refine Evt.ol_norm (a' := ?_) ?_ ?_
            rotate_left
            · simp only [Act.put, List.setIfInBounds_toArray, List.set_cons_zero, List.set_cons_succ, i64_w, i32_w]; rfl
            refine Evt.ol_one (i := 10) [(11, some 38), (13, none)] HT_ rfl rfl (by kernel_rfl) (fun K_ hK_ => ?_)
            · refine Evt.k_appc hK_ hHeld rfl rfl (.tmp 30) (.tmp 36) rfl vR3 ([] ++ l1) ([mkC (t0, t1)]) (some ⟨gT9, 0, none⟩) 1 1 rfl rfl F3.out (Rg.of_blk (l := [(t0, t1)]) F9.out (by simp)).r1 (by simp; omega) ?_
              intro vR10 w_ hR_ hg_ hat_ hH_
              have n_NR := Aside0.mk (show some gT9 ≠ vR10.ownBlock from (by rcases hat_ with e_ | ⟨k_, e_, hk_⟩; (rw [e_]; exact NR9.out); (rw [e_]; intro e2_; injection e2_ with e2_; have h_ := F9.out.blk.lt; omega)))
              have n_F9 := Aside0.mk (F9.out.grown hg_ NR9.out)
              clear F9 NR9
              have F9 := n_F9
              have NR9 := n_NR
              clear n_F9 n_NR
              have n_F12 := Aside0.mk (F12.out.grown hg_ (row_ne F3.out.row F12.out.blk (by decide)))
              clear F12
              have F12 := n_F12
              clear n_F12
              rw [LQ.out] at hR_
              obtain ⟨AR10, cR10, rfl⟩ := Kd.R_slice hR_.row
              clear F3
              have F10 := Aside0.mk hR_
              clear hHeld hR_ hg_ hat_
              have hHeld := hH_
              clear hH_ hK_
              refine Evt.ol_norm (a' := ?_) ?_ ?_
              rotate_left
              · simp only [Act.put, List.setIfInBounds_toArray, List.set_cons_zero, List.set_cons_succ, i64_w, i32_w]; rfl
              (first | (refine Evt.ol_off (a' := ?_) HT_ rfl rfl (by rfl) (by kernel_rfl) (fun _ _ _ h => h) ?_ ?_; rotate_left; (· (try simp only [Act.put, List.setIfInBounds_toArray, List.set_cons_zero, List.set_cons_succ, i64_w, i32_w]); rfl)) | (refine Evt.ol_pure (a' := ?_) (v := ?_) HT_ rfl rfl rfl (by rfl) (by kernel_rfl) (fun _ _ _ h => h) ?_ ?_ ?_; rotate_left 2; (· intro w'; go_simp; with_reducible rfl); (· (try simp only [Act.put, List.setIfInBounds_toArray, List.set_cons_zero, List.set_cons_succ, i64_w, i32_w]); rfl)) | (refine Evt.ol_load (a' := ?_) (v := ?_) HT_ HW_ hHeld rfl rfl rfl (by rfl) (by kernel_rfl) (fun _ _ _ h => h) ?_ ?_ ?_; rotate_left 2; (· intro w' hS_; obtain ⟨s0, s1, s2, s3, s4, s5⟩ := KP.out w' hS_.out; go_simp; with_reducible rfl); (· (try simp only [Act.put, List.setIfInBounds_toArray, List.set_cons_zero, List.set_cons_succ, i64_w, i32_w]); rfl)))
              exact Evt.ol_norm (by simp only [putAll, Act.put, List.setIfInBounds_toArray, List.set_cons_zero, List.set_cons_succ, i64_w, i32_w]; rfl) (JN (vR0, vR3, gT9, AR10, cR10, gT12) _ hHeld ⟨F10.out, F12.out, GE12.out⟩)
      · refine Evt.k_slice hK_ hHeld rfl rfl (cs := #[.int .i64 0, .int .i64 0, .int .i64 0, .string t0, .string t1]) (t := 41) (ln := 1) ?_ ?_
        · first | (go_simp; done) | (go_simp; rfl) | (go_simp; refine ⟨?_, ?_⟩ <;> rfl)
        intro gT9 w_ hg_ hB_ hb_ hH_
        have GE9 := Aside0.mk (show w3.heap.size ≤ gT9 from (by rw [hg_]; exact hHeld.out.size))
        have NR9 := Aside0.mk (show some gT9 ≠ vR0.ownBlock from (by rw [hg_]; intro e_; have h_ := Kd.R_lt F0.out.row _ e_.symm; omega))
        clear hg_
        have n_F0 := Aside0.mk (F0.out.below hb_)
        clear F0
        have F0 := n_F0
        clear n_F0
        have F9 := Aside0.mk hB_
        clear hHeld hb_ hB_
        have hHeld := hH_
        clear hH_ hK_
        refine Evt.ol_norm (a' := ?_) ?_ ?_
        rotate_left
        · simp only [Act.put, List.setIfInBounds_toArray, List.set_cons_zero, List.set_cons_succ, i64_w, i32_w]; rfl
        refine Evt.ol_two (i := 3) (j := 12) [(10, some 37), (11, some 38), (12, some 7), (13, none)] [(3, some 30), (10, some 37), (11, some 38), (13, none)] HT_ rfl rfl rfl rfl (by kernel_rfl) (fun K_ hK_ => ?_) (fun K_ hK_ => ?_)
        · refine Evt.k_appc hK_ hHeld rfl rfl (.tmp 27) (.tmp 29) rfl vR0 ([]) (l1) A1 l1.length c1 rfl rfl F0.out (R.out.below hHeld.out).r1 (by simp; omega) ?_
          intro vR3 w_ hR_ hg_ hat_ hH_
          have n_NR := Aside0.mk (show some gT9 ≠ vR3.ownBlock from (by rcases hat_ with e_ | ⟨k_, e_, hk_⟩; (rw [e_]; exact NR9.out); (rw [e_]; intro e2_; injection e2_ with e2_; have h_ := F9.out.blk.lt; omega)))
          have n_F9 := Aside0.mk (F9.out.grown hg_ NR9.out)
          clear F9 NR9
          have F9 := n_F9
          have NR9 := n_NR
          clear n_F9 n_NR
          clear F0
          have F3 := Aside0.mk hR_
          clear hHeld hR_ hg_ hat_
          have hHeld := hH_
          clear hH_ hK_
          refine Evt.ol_norm (a' := ?_) ?_ ?_
          rotate_left
          · simp only [Act.put, List.setIfInBounds_toArray, List.set_cons_zero, List.set_cons_succ, i64_w, i32_w]; rfl
          refine Evt.ol_two (i := 10) (j := 12) [(11, some 38), (12, some 7), (13, none)] [(10, some 37), (11, some 38), (13, none)] HT_ rfl rfl rfl rfl (by kernel_rfl) (fun K_ hK_ => ?_) (fun K_ hK_ => ?_)
          · refine Evt.k_appc hK_ hHeld rfl rfl (.tmp 30) (.tmp 36) rfl vR3 ([] ++ l1) ([mkC (t0, t1)]) (some ⟨gT9, 0, none⟩) 1 1 rfl rfl F3.out (Rg.of_blk (l := [(t0, t1)]) F9.out (by simp)).r1 (by simp; omega) ?_
            intro vR10 w_ hR_ hg_ hat_ hH_
            have n_NR := Aside0.mk (show some gT9 ≠ vR10.ownBlock from (by rcases hat_ with e_ | ⟨k_, e_, hk_⟩; (rw [e_]; exact NR9.out); (rw [e_]; intro e2_; injection e2_ with e2_; have h_ := F9.out.blk.lt; omega)))
            have n_F9 := Aside0.mk (F9.out.grown hg_ NR9.out)
            clear F9 NR9
            have F9 := n_F9
            have NR9 := n_NR
            clear n_F9 n_NR
            rw [LQ.out] at hR_
            obtain ⟨AR10, cR10, rfl⟩ := Kd.R_slice hR_.row
            clear F3
            have F10 := Aside0.mk hR_
            clear hHeld hR_ hg_ hat_
            have hHeld := hH_
            clear hH_ hK_
            refine Evt.ol_norm (a' := ?_) ?_ ?_
            rotate_left
            · simp only [Act.put, List.setIfInBounds_toArray, List.set_cons_zero, List.set_cons_succ, i64_w, i32_w]; rfl
            (first | (refine Evt.ol_off (a' := ?_) HT_ rfl rfl (by rfl) (by kernel_rfl) (fun _ _ _ h => h) ?_ ?_; rotate_left; (· (try simp only [Act.put, List.setIfInBounds_toArray, List.set_cons_zero, List.set_cons_succ, i64_w, i32_w]); rfl)) | (refine Evt.ol_pure (a' := ?_) (v := ?_) HT_ rfl rfl rfl (by rfl) (by kernel_rfl) (fun _ _ _ h => h) ?_ ?_ ?_; rotate_left 2; (· intro w'; go_simp; with_reducible rfl); (· (try simp only [Act.put, List.setIfInBounds_toArray, List.set_cons_zero, List.set_cons_succ, i64_w, i32_w]); rfl)) | (refine Evt.ol_load (a' := ?_) (v := ?_) HT_ HW_ hHeld rfl rfl rfl (by rfl) (by kernel_rfl) (fun _ _ _ h => h) ?_ ?_ ?_; rotate_left 2; (· intro w' hS_; obtain ⟨s0, s1, s2, s3, s4, s5⟩ := KP.out w' hS_.out; go_simp; with_reducible rfl); (· (try simp only [Act.put, List.setIfInBounds_toArray, List.set_cons_zero, List.set_cons_succ, i64_w, i32_w]); rfl)))
            refine Evt.ol_one (i := 12) [(13, none)] HT_ rfl rfl (by kernel_rfl) (fun K_ hK_ => ?_)
            · refine Evt.k_alloc hK_ hHeld rfl rfl (cs := #[.string ⟨#[]⟩, .slice none 0 0, .slice none 0 0, .string ⟨#[]⟩]) (t := 25) ?_ ?_
              · first | (go_simp; done) | (go_simp; rfl) | (go_simp; refine ⟨?_, ?_⟩ <;> rfl)
              intro gT12 w_ hg_ hB_ hb_ hH_
              have GE12 := Aside0.mk (show w3.heap.size ≤ gT12 from (by rw [hg_]; exact hHeld.out.size))
              have NE_9_12 := Aside0.mk (show gT9 ≠ gT12 from (by have h_ := F9.out.blk.lt; omega))
              clear hg_
              have n_F9 := Aside0.mk (F9.out.below hb_)
              have n_F10 := Aside0.mk (F10.out.below hb_)
              clear F9 F10
              have F9 := n_F9
              have F10 := n_F10
              clear n_F9 n_F10
              have F12 := Aside0.mk hB_
              clear hHeld hb_ hB_
              have hHeld := hH_
              clear hH_ hK_
              refine Evt.ol_norm (a' := ?_) ?_ ?_
              rotate_left
              · simp only [Act.put, List.setIfInBounds_toArray, List.set_cons_zero, List.set_cons_succ, i64_w, i32_w]; rfl
              exact Evt.ol_norm (by simp only [putAll, Act.put, List.setIfInBounds_toArray, List.set_cons_zero, List.set_cons_succ, i64_w, i32_w]; rfl) (JN (vR0, vR3, gT9, AR10, cR10, gT12) _ hHeld ⟨F10.out, F12.out, GE12.out⟩)
          · refine Evt.k_alloc hK_ hHeld rfl rfl (cs := #[.string ⟨#[]⟩, .slice none 0 0, .slice none 0 0, .string ⟨#[]⟩]) (t := 25) ?_ ?_
            · first | (go_simp; done) | (go_simp; rfl) | (go_simp; refine ⟨?_, ?_⟩ <;> rfl)
            intro gT12 w_ hg_ hB_ hb_ hH_
            have GE12 := Aside0.mk (show w3.heap.size ≤ gT12 from (by rw [hg_]; exact hHeld.out.size))
            have NE_9_12 := Aside0.mk (show gT9 ≠ gT12 from (by have h_ := F9.out.blk.lt; omega))
            clear hg_
            have n_F9 := Aside0.mk (F9.out.below hb_)
            have n_F3 := Aside0.mk (F3.out.below hb_)
            clear F9 F3
            have F9 := n_F9
            have F3 := n_F3
            clear n_F9 n_F3
            have F12 := Aside0.mk hB_
            clear hHeld hb_ hB_
            have hHeld := hH_
            clear hH_ hK_
            refine Evt.ol_norm (a' := ?_) ?_ ?_
            rotate_left
            · simp only [Act.put, List.setIfInBounds_toArray, List.set_cons_zero, List.set_cons_succ, i64_w, i32_w]; rfl
            refine Evt.ol_one (i := 10) [(11, some 38), (13, none)] HT_ rfl rfl (by kernel_rfl) (fun K_ hK_ => ?_)
            · refine Evt.k_appc hK_ hHeld rfl rfl (.tmp 30) (.tmp 36) rfl vR3 ([] ++ l1) ([mkC (t0, t1)]) (some ⟨gT9, 0, none⟩) 1 1 rfl rfl F3.out (Rg.of_blk (l := [(t0, t1)]) F9.out (by simp)).r1 (by simp; omega) ?_
              intro vR10 w_ hR_ hg_ hat_ hH_
              have n_NR := Aside0.mk (show some gT9 ≠ vR10.ownBlock from (by rcases hat_ with e_ | ⟨k_, e_, hk_⟩; (rw [e_]; exact NR9.out); (rw [e_]; intro e2_; injection e2_ with e2_; have h_ := F9.out.blk.lt; omega)))
              have n_F9 := Aside0.mk (F9.out.grown hg_ NR9.out)
              clear F9 NR9
              have F9 := n_F9
              have NR9 := n_NR
              clear n_F9 n_NR
              have n_F12 := Aside0.mk (F12.out.grown hg_ (row_ne F3.out.row F12.out.blk (by decide)))
              clear F12
              have F12 := n_F12
              clear n_F12
              rw [LQ.out] at hR_
              obtain ⟨AR10, cR10, rfl⟩ := Kd.R_slice hR_.row
              clear F3
              have F10 := Aside0.mk hR_
              clear hHeld hR_ hg_ hat_
              have hHeld := hH_
              clear hH_ hK_
              refine Evt.ol_norm (a' := ?_) ?_ ?_
              rotate_left
              · simp only [Act.put, List.setIfInBounds_toArray, List.set_cons_zero, List.set_cons_succ, i64_w, i32_w]; rfl
              (first | (refine Evt.ol_off (a' := ?_) HT_ rfl rfl (by rfl) (by kernel_rfl) (fun _ _ _ h => h) ?_ ?_; rotate_left; (· (try simp only [Act.put, List.setIfInBounds_toArray, List.set_cons_zero, List.set_cons_succ, i64_w, i32_w]); rfl)) | (refine Evt.ol_pure (a' := ?_) (v := ?_) HT_ rfl rfl rfl (by rfl) (by kernel_rfl) (fun _ _ _ h => h) ?_ ?_ ?_; rotate_left 2; (· intro w'; go_simp; with_reducible rfl); (· (try simp only [Act.put, List.setIfInBounds_toArray, List.set_cons_zero, List.set_cons_succ, i64_w, i32_w]); rfl)) | (refine Evt.ol_load (a' := ?_) (v := ?_) HT_ HW_ hHeld rfl rfl rfl (by rfl) (by kernel_rfl) (fun _ _ _ h => h) ?_ ?_ ?_; rotate_left 2; (· intro w' hS_; obtain ⟨s0, s1, s2, s3, s4, s5⟩ := KP.out w' hS_.out; go_simp; with_reducible rfl); (· (try simp only [Act.put, List.setIfInBounds_toArray, List.set_cons_zero, List.set_cons_succ, i64_w, i32_w]); rfl)))
              exact Evt.ol_norm (by simp only [putAll, Act.put, List.setIfInBounds_toArray, List.set_cons_zero, List.set_cons_succ, i64_w, i32_w]; rfl) (JN (vR0, vR3, gT9, AR10, cR10, gT12) _ hHeld ⟨F10.out, F12.out, GE12.out⟩)
        · refine Evt.k_alloc hK_ hHeld rfl rfl (cs := #[.string ⟨#[]⟩, .slice none 0 0, .slice none 0 0, .string ⟨#[]⟩]) (t := 25) ?_ ?_
          · first | (go_simp; done) | (go_simp; rfl) | (go_simp; refine ⟨?_, ?_⟩ <;> rfl)
          intro gT12 w_ hg_ hB_ hb_ hH_
          have GE12 := Aside0.mk (show w3.heap.size ≤ gT12 from (by rw [hg_]; exact hHeld.out.size))
          have NE_9_12 := Aside0.mk (show gT9 ≠ gT12 from (by have h_ := F9.out.blk.lt; omega))
          clear hg_
          have n_F0 := Aside0.mk (F0.out.below hb_)
          have n_F9 := Aside0.mk (F9.out.below hb_)
          clear F0 F9
          have F0 := n_F0
          have F9 := n_F9
          clear n_F0 n_F9
          have F12 := Aside0.mk hB_
          clear hHeld hb_ hB_
          have hHeld := hH_
          clear hH_ hK_
          refine Evt.ol_norm (a' := ?_) ?_ ?_
          rotate_left
          · simp only [Act.put, List.setIfInBounds_toArray, List.set_cons_zero, List.set_cons_succ, i64_w, i32_w]; rfl
          refine Evt.ol_one (i := 3) [(10, some 37), (11, some 38), (13, none)] HT_ rfl rfl (by kernel_rfl) (fun K_ hK_ => ?_)
          · refine Evt.k_appc hK_ hHeld rfl rfl (.tmp 27) (.tmp 29) rfl vR0 ([]) (l1) A1 l1.length c1 rfl rfl F0.out (R.out.below hHeld.out).r1 (by simp; omega) ?_
            intro vR3 w_ hR_ hg_ hat_ hH_
            have n_NR := Aside0.mk (show some gT9 ≠ vR3.ownBlock from (by rcases hat_ with e_ | ⟨k_, e_, hk_⟩; (rw [e_]; exact NR9.out); (rw [e_]; intro e2_; injection e2_ with e2_; have h_ := F9.out.blk.lt; omega)))
            have n_F9 := Aside0.mk (F9.out.grown hg_ NR9.out)
            clear F9 NR9
            have F9 := n_F9
            have NR9 := n_NR
            clear n_F9 n_NR
            have n_F12 := Aside0.mk (F12.out.grown hg_ (row_ne F0.out.row F12.out.blk (by decide)))
            clear F12
            have F12 := n_F12
            clear n_F12
            clear F0
            have F3 := Aside0.mk hR_
            clear hHeld hR_ hg_ hat_
            have hHeld := hH_
            clear hH_ hK_
            refine Evt.ol_norm (a' := ?_) ?_ ?_
            rotate_left
            · simp only [Act.put, List.setIfInBounds_toArray, List.set_cons_zero, List.set_cons_succ, i64_w, i32_w]; rfl
            refine Evt.ol_one (i := 10) [(11, some 38), (13, none)] HT_ rfl rfl (by kernel_rfl) (fun K_ hK_ => ?_)
            · refine Evt.k_appc hK_ hHeld rfl rfl (.tmp 30) (.tmp 36) rfl vR3 ([] ++ l1) ([mkC (t0, t1)]) (some ⟨gT9, 0, none⟩) 1 1 rfl rfl F3.out (Rg.of_blk (l := [(t0, t1)]) F9.out (by simp)).r1 (by simp; omega) ?_
              intro vR10 w_ hR_ hg_ hat_ hH_
              have n_NR := Aside0.mk (show some gT9 ≠ vR10.ownBlock from (by rcases hat_ with e_ | ⟨k_, e_, hk_⟩; (rw [e_]; exact NR9.out); (rw [e_]; intro e2_; injection e2_ with e2_; have h_ := F9.out.blk.lt; omega)))
              have n_F9 := Aside0.mk (F9.out.grown hg_ NR9.out)
              clear F9 NR9
              have F9 := n_F9
              have NR9 := n_NR
              clear n_F9 n_NR
              have n_F12 := Aside0.mk (F12.out.grown hg_ (row_ne F3.out.row F12.out.blk (by decide)))
              clear F12
              have F12 := n_F12
              clear n_F12
              rw [LQ.out] at hR_
              obtain ⟨AR10, cR10, rfl⟩ := Kd.R_slice hR_.row
              clear F3
              have F10 := Aside0.mk hR_
              clear hHeld hR_ hg_ hat_
              have hHeld := hH_
              clear hH_ hK_
              refine Evt.ol_norm (a' := ?_) ?_ ?_
              rotate_left
              · simp only [Act.put, List.setIfInBounds_toArray, List.set_cons_zero, List.set_cons_succ, i64_w, i32_w]; rfl
              (first | (refine Evt.ol_off (a' := ?_) HT_ rfl rfl (by rfl) (by kernel_rfl) (fun _ _ _ h => h) ?_ ?_; rotate_left; (· (try simp only [Act.put, List.setIfInBounds_toArray, List.set_cons_zero, List.set_cons_succ, i64_w, i32_w]); rfl)) | (refine Evt.ol_pure (a' := ?_) (v := ?_) HT_ rfl rfl rfl (by rfl) (by kernel_rfl) (fun _ _ _ h => h) ?_ ?_ ?_; rotate_left 2; (· intro w'; go_simp; with_reducible rfl); (· (try simp only [Act.put, List.setIfInBounds_toArray, List.set_cons_zero, List.set_cons_succ, i64_w, i32_w]); rfl)) | (refine Evt.ol_load (a' := ?_) (v := ?_) HT_ HW_ hHeld rfl rfl rfl (by rfl) (by kernel_rfl) (fun _ _ _ h => h) ?_ ?_ ?_; rotate_left 2; (· intro w' hS_; obtain ⟨s0, s1, s2, s3, s4, s5⟩ := KP.out w' hS_.out; go_simp; with_reducible rfl); (· (try simp only [Act.put, List.setIfInBounds_toArray, List.set_cons_zero, List.set_cons_succ, i64_w, i32_w]); rfl)))
              exact Evt.ol_norm (by simp only [putAll, Act.put, List.setIfInBounds_toArray, List.set_cons_zero, List.set_cons_succ, i64_w, i32_w]; rfl) (JN (vR0, vR3, gT9, AR10, cR10, gT12) _ hHeld ⟨F10.out, F12.out, GE12.out⟩)
      · refine Evt.k_alloc hK_ hHeld rfl rfl (cs := #[.string ⟨#[]⟩, .slice none 0 0, .slice none 0 0, .string ⟨#[]⟩]) (t := 25) ?_ ?_
        · first | (go_simp; done) | (go_simp; rfl) | (go_simp; refine ⟨?_, ?_⟩ <;> rfl)
        intro gT12 w_ hg_ hB_ hb_ hH_
        have GE12 := Aside0.mk (show w3.heap.size ≤ gT12 from (by rw [hg_]; exact hHeld.out.size))
        clear hg_
        have n_F0 := Aside0.mk (F0.out.below hb_)
        clear F0
        have F0 := n_F0
        clear n_F0
        have F12 := Aside0.mk hB_
        clear hHeld hb_ hB_
        have hHeld := hH_
        clear hH_ hK_
        refine Evt.ol_norm (a' := ?_) ?_ ?_
        rotate_left
        · simp only [Act.put, List.setIfInBounds_toArray, List.set_cons_zero, List.set_cons_succ, i64_w, i32_w]; rfl
        refine Evt.ol_two (i := 3) (j := 9) [(9, some 36), (10, some 37), (11, some 38), (13, none)] [(3, some 30), (10, some 37), (11, some 38), (13, none)] HT_ rfl rfl rfl rfl (by kernel_rfl) (fun K_ hK_ => ?_) (fun K_ hK_ => ?_)
        · refine Evt.k_appc hK_ hHeld rfl rfl (.tmp 27) (.tmp 29) rfl vR0 ([]) (l1) A1 l1.length c1 rfl rfl F0.out (R.out.below hHeld.out).r1 (by simp; omega) ?_
          intro vR3 w_ hR_ hg_ hat_ hH_
          have n_F12 := Aside0.mk (F12.out.grown hg_ (row_ne F0.out.row F12.out.blk (by decide)))
          clear F12
          have F12 := n_F12
          clear n_F12
          clear F0
          have F3 := Aside0.mk hR_
          clear hHeld hR_ hg_ hat_
          have hHeld := hH_
          clear hH_ hK_
          refine Evt.ol_norm (a' := ?_) ?_ ?_
          rotate_left
          · simp only [Act.put, List.setIfInBounds_toArray, List.set_cons_zero, List.set_cons_succ, i64_w, i32_w]; rfl
          refine Evt.ol_one (i := 9) [(10, some 37), (11, some 38), (13, none)] HT_ rfl rfl (by kernel_rfl) (fun K_ hK_ => ?_)
          · refine Evt.k_slice hK_ hHeld rfl rfl (cs := #[.int .i64 0, .int .i64 0, .int .i64 0, .string t0, .string t1]) (t := 41) (ln := 1) ?_ ?_
            · first | (go_simp; done) | (go_simp; rfl) | (go_simp; refine ⟨?_, ?_⟩ <;> rfl)
            intro gT9 w_ hg_ hB_ hb_ hH_
            have GE9 := Aside0.mk (show w3.heap.size ≤ gT9 from (by rw [hg_]; exact hHeld.out.size))
            have NE_9_12 := Aside0.mk (show gT9 ≠ gT12 from (by have h_ := F12.out.blk.lt; omega))
            have NR9 := Aside0.mk (show some gT9 ≠ vR3.ownBlock from (by rw [hg_]; intro e_; have h_ := Kd.R_lt F3.out.row _ e_.symm; omega))
            clear hg_
            have n_F12 := Aside0.mk (F12.out.below hb_)
            have n_F3 := Aside0.mk (F3.out.below hb_)
            clear F12 F3
            have F12 := n_F12
            have F3 := n_F3
            clear n_F12 n_F3
            have F9 := Aside0.mk hB_
            clear hHeld hb_ hB_
            have hHeld := hH_
            clear hH_ hK_
            refine Evt.ol_norm (a' := ?_) ?_ ?_
            rotate_left
            · simp only [Act.put, List.setIfInBounds_toArray, List.set_cons_zero, List.set_cons_succ, i64_w, i32_w]; rfl
            refine Evt.ol_one (i := 10) [(11, some 38), (13, none)] HT_ rfl rfl (by kernel_rfl) (fun K_ hK_ => ?_)
            · refine Evt.k_appc hK_ hHeld rfl rfl (.tmp 30) (.tmp 36) rfl vR3 ([] ++ l1) ([mkC (t0, t1)]) (some ⟨gT9, 0, none⟩) 1 1 rfl rfl F3.out (Rg.of_blk (l := [(t0, t1)]) F9.out (by simp)).r1 (by simp; omega) ?_
              intro vR10 w_ hR_ hg_ hat_ hH_
              have n_NR := Aside0.mk (show some gT9 ≠ vR10.ownBlock from (by rcases hat_ with e_ | ⟨k_, e_, hk_⟩; (rw [e_]; exact NR9.out); (rw [e_]; intro e2_; injection e2_ with e2_; have h_ := F9.out.blk.lt; omega)))
              have n_F9 := Aside0.mk (F9.out.grown hg_ NR9.out)
              clear F9 NR9
              have F9 := n_F9
              have NR9 := n_NR
              clear n_F9 n_NR
              have n_F12 := Aside0.mk (F12.out.grown hg_ (row_ne F3.out.row F12.out.blk (by decide)))
              clear F12
              have F12 := n_F12
              clear n_F12
              rw [LQ.out] at hR_
              obtain ⟨AR10, cR10, rfl⟩ := Kd.R_slice hR_.row
              clear F3
              have F10 := Aside0.mk hR_
              clear hHeld hR_ hg_ hat_
              have hHeld := hH_
              clear hH_ hK_
              refine Evt.ol_norm (a' := ?_) ?_ ?_
              rotate_left
              · simp only [Act.put, List.setIfInBounds_toArray, List.set_cons_zero, List.set_cons_succ, i64_w, i32_w]; rfl
              (first | (refine Evt.ol_off (a' := ?_) HT_ rfl rfl (by rfl) (by kernel_rfl) (fun _ _ _ h => h) ?_ ?_; rotate_left; (· (try simp only [Act.put, List.setIfInBounds_toArray, List.set_cons_zero, List.set_cons_succ, i64_w, i32_w]); rfl)) | (refine Evt.ol_pure (a' := ?_) (v := ?_) HT_ rfl rfl rfl (by rfl) (by kernel_rfl) (fun _ _ _ h => h) ?_ ?_ ?_; rotate_left 2; (· intro w'; go_simp; with_reducible rfl); (· (try simp only [Act.put, List.setIfInBounds_toArray, List.set_cons_zero, List.set_cons_succ, i64_w, i32_w]); rfl)) | (refine Evt.ol_load (a' := ?_) (v := ?_) HT_ HW_ hHeld rfl rfl rfl (by rfl) (by kernel_rfl) (fun _ _ _ h => h) ?_ ?_ ?_; rotate_left 2; (· intro w' hS_; obtain ⟨s0, s1, s2, s3, s4, s5⟩ := KP.out w' hS_.out; go_simp; with_reducible rfl); (· (try simp only [Act.put, List.setIfInBounds_toArray, List.set_cons_zero, List.set_cons_succ, i64_w, i32_w]); rfl)))
              exact Evt.ol_norm (by simp only [putAll, Act.put, List.setIfInBounds_toArray, List.set_cons_zero, List.set_cons_succ, i64_w, i32_w]; rfl) (JN (vR0, vR3, gT9, AR10, cR10, gT12) _ hHeld ⟨F10.out, F12.out, GE12.out⟩)
        · refine Evt.k_slice hK_ hHeld rfl rfl (cs := #[.int .i64 0, .int .i64 0, .int .i64 0, .string t0, .string t1]) (t := 41) (ln := 1) ?_ ?_
          · first | (go_simp; done) | (go_simp; rfl) | (go_simp; refine ⟨?_, ?_⟩ <;> rfl)
          intro gT9 w_ hg_ hB_ hb_ hH_
          have GE9 := Aside0.mk (show w3.heap.size ≤ gT9 from (by rw [hg_]; exact hHeld.out.size))
          have NE_9_12 := Aside0.mk (show gT9 ≠ gT12 from (by have h_ := F12.out.blk.lt; omega))
          have NR9 := Aside0.mk (show some gT9 ≠ vR0.ownBlock from (by rw [hg_]; intro e_; have h_ := Kd.R_lt F0.out.row _ e_.symm; omega))
          clear hg_
          have n_F0 := Aside0.mk (F0.out.below hb_)
          have n_F12 := Aside0.mk (F12.out.below hb_)
          clear F0 F12
          have F0 := n_F0
          have F12 := n_F12
          clear n_F0 n_F12
          have F9 := Aside0.mk hB_
          clear hHeld hb_ hB_
          have hHeld := hH_
          clear hH_ hK_
          refine Evt.ol_norm (a' := ?_) ?_ ?_
          rotate_left
          · simp only [Act.put, List.setIfInBounds_toArray, List.set_cons_zero, List.set_cons_succ, i64_w, i32_w]; rfl
          refine Evt.ol_one (i := 3) [(10, some 37), (11, some 38), (13, none)] HT_ rfl rfl (by kernel_rfl) (fun K_ hK_ => ?_)
          · refine Evt.k_appc hK_ hHeld rfl rfl (.tmp 27) (.tmp 29) rfl vR0 ([]) (l1) A1 l1.length c1 rfl rfl F0.out (R.out.below hHeld.out).r1 (by simp; omega) ?_
            intro vR3 w_ hR_ hg_ hat_ hH_
            have n_NR := Aside0.mk (show some gT9 ≠ vR3.ownBlock from (by rcases hat_ with e_ | ⟨k_, e_, hk_⟩; (rw [e_]; exact NR9.out); (rw [e_]; intro e2_; injection e2_ with e2_; have h_ := F9.out.blk.lt; omega)))
            have n_F9 := Aside0.mk (F9.out.grown hg_ NR9.out)
            clear F9 NR9
            have F9 := n_F9
            have NR9 := n_NR
            clear n_F9 n_NR
            have n_F12 := Aside0.mk (F12.out.grown hg_ (row_ne F0.out.row F12.out.blk (by decide)))
            clear F12
            have F12 := n_F12
            clear n_F12
            clear F0
            have F3 := Aside0.mk hR_
            clear hHeld hR_ hg_ hat_
            have hHeld := hH_
            clear hH_ hK_
            refine Evt.ol_norm (a' := ?_) ?_ ?_
            rotate_left
            · simp only [Act.put, List.setIfInBounds_toArray, List.set_cons_zero, List.set_cons_succ, i64_w, i32_w]; rfl
            refine Evt.ol_one (i := 10) [(11, some 38), (13, none)] HT_ rfl rfl (by kernel_rfl) (fun K_ hK_ => ?_)
            · refine Evt.k_appc hK_ hHeld rfl rfl (.tmp 30) (.tmp 36) rfl vR3 ([] ++ l1) ([mkC (t0, t1)]) (some ⟨gT9, 0, none⟩) 1 1 rfl rfl F3.out (Rg.of_blk (l := [(t0, t1)]) F9.out (by simp)).r1 (by simp; omega) ?_
              intro vR10 w_ hR_ hg_ hat_ hH_
              have n_NR := Aside0.mk (show some gT9 ≠ vR10.ownBlock from (by rcases hat_ with e_ | ⟨k_, e_, hk_⟩; (rw [e_]; exact NR9.out); (rw [e_]; intro e2_; injection e2_ with e2_; have h_ := F9.out.blk.lt; omega)))
              have n_F9 := Aside0.mk (F9.out.grown hg_ NR9.out)
              clear F9 NR9
              have F9 := n_F9
              have NR9 := n_NR
              clear n_F9 n_NR
              have n_F12 := Aside0.mk (F12.out.grown hg_ (row_ne F3.out.row F12.out.blk (by decide)))
              clear F12
              have F12 := n_F12
              clear n_F12
              rw [LQ.out] at hR_
              obtain ⟨AR10, cR10, rfl⟩ := Kd.R_slice hR_.row
              clear F3
              have F10 := Aside0.mk hR_
              clear hHeld hR_ hg_ hat_
              have hHeld := hH_
              clear hH_ hK_
              refine Evt.ol_norm (a' := ?_) ?_ ?_
              rotate_left
              · simp only [Act.put, List.setIfInBounds_toArray, List.set_cons_zero, List.set_cons_succ, i64_w, i32_w]; rfl
              (first | (refine Evt.ol_off (a' := ?_) HT_ rfl rfl (by rfl) (by kernel_rfl) (fun _ _ _ h => h) ?_ ?_; rotate_left; (· (try simp only [Act.put, List.setIfInBounds_toArray, List.set_cons_zero, List.set_cons_succ, i64_w, i32_w]); rfl)) | (refine Evt.ol_pure (a' := ?_) (v := ?_) HT_ rfl rfl rfl (by rfl) (by kernel_rfl) (fun _ _ _ h => h) ?_ ?_ ?_; rotate_left 2; (· intro w'; go_simp; with_reducible rfl); (· (try simp only [Act.put, List.setIfInBounds_toArray, List.set_cons_zero, List.set_cons_succ, i64_w, i32_w]); rfl)) | (refine Evt.ol_load (a' := ?_) (v := ?_) HT_ HW_ hHeld rfl rfl rfl (by rfl) (by kernel_rfl) (fun _ _ _ h => h) ?_ ?_ ?_; rotate_left 2; (· intro w' hS_; obtain ⟨s0, s1, s2, s3, s4, s5⟩ := KP.out w' hS_.out; go_simp; with_reducible rfl); (· (try simp only [Act.put, List.setIfInBounds_toArray, List.set_cons_zero, List.set_cons_succ, i64_w, i32_w]); rfl)))
              exact Evt.ol_norm (by simp only [putAll, Act.put, List.setIfInBounds_toArray, List.set_cons_zero, List.set_cons_succ, i64_w, i32_w]; rfl) (JN (vR0, vR3, gT9, AR10, cR10, gT12) _ hHeld ⟨F10.out, F12.out, GE12.out⟩)
    · refine Evt.k_slice hK_ hHeld rfl rfl (cs := #[.int .i64 0, .int .i64 0, .int .i64 0, .string t0, .string t1]) (t := 41) (ln := 1) ?_ ?_
      · first | (go_simp; done) | (go_simp; rfl) | (go_simp; refine ⟨?_, ?_⟩ <;> rfl)
      intro gT9 w_ hg_ hB_ hb_ hH_
      have GE9 := Aside0.mk (show w3.heap.size ≤ gT9 from (by rw [hg_]; exact hHeld.out.size))
      clear hg_
      have F9 := Aside0.mk hB_
      clear hHeld hb_ hB_
      have hHeld := hH_
      clear hH_ hK_
      refine Evt.ol_norm (a' := ?_) ?_ ?_
      rotate_left
      · simp only [Act.put, List.setIfInBounds_toArray, List.set_cons_zero, List.set_cons_succ, i64_w, i32_w]; rfl
      refine Evt.ol_two (i := 0) (j := 12) [(3, some 30), (10, some 37), (11, some 38), (12, some 7), (13, none)] [(0, some 27), (3, some 30), (10, some 37), (11, some 38), (13, none)] HT_ rfl rfl rfl rfl (by kernel_rfl) (fun K_ hK_ => ?_) (fun K_ hK_ => ?_)
      · refine Evt.k_row0 hK_ hHeld rfl rfl ?_ ?_
        · first | (go_simp; done) | (go_simp; rfl) | (go_simp; refine ⟨?_, ?_⟩ <;> rfl)
        intro vR0 w_ hR_ hO_ hb_ hH_
        have NR9 := Aside0.mk (show some gT9 ≠ vR0.ownBlock from (by rw [hO_]; have h_ := F9.out.blk.lt; intro e_; injection e_ with e_; omega))
        clear hO_
        have n_F9 := Aside0.mk (F9.out.below hb_)
        clear F9
        have F9 := n_F9
        clear n_F9
        have F0 := Aside0.mk hR_
        clear hHeld hb_ hR_
        have hHeld := hH_
        clear hH_ hK_
        refine Evt.ol_norm (a' := ?_) ?_ ?_
        rotate_left
        · simp only [Act.put, List.setIfInBounds_toArray, List.set_cons_zero, List.set_cons_succ, i64_w, i32_w]; rfl
        refine Evt.ol_two (i := 3) (j := 12) [(10, some 37), (11, some 38), (12, some 7), (13, none)] [(3, some 30), (10, some 37), (11, some 38), (13, none)] HT_ rfl rfl rfl rfl (by kernel_rfl) (fun K_ hK_ => ?_) (fun K_ hK_ => ?_)
        · refine Evt.k_appc hK_ hHeld rfl rfl (.tmp 27) (.tmp 29) rfl vR0 ([]) (l1) A1 l1.length c1 rfl rfl F0.out (R.out.below hHeld.out).r1 (by simp; omega) ?_
          intro vR3 w_ hR_ hg_ hat_ hH_
          have n_NR := Aside0.mk (show some gT9 ≠ vR3.ownBlock from (by rcases hat_ with e_ | ⟨k_, e_, hk_⟩; (rw [e_]; exact NR9.out); (rw [e_]; intro e2_; injection e2_ with e2_; have h_ := F9.out.blk.lt; omega)))
          have n_F9 := Aside0.mk (F9.out.grown hg_ NR9.out)
          clear F9 NR9
          have F9 := n_F9
          have NR9 := n_NR
          clear n_F9 n_NR
          clear F0
          have F3 := Aside0.mk hR_
          clear hHeld hR_ hg_ hat_
          have hHeld := hH_
          clear hH_ hK_
          refine Evt.ol_norm (a' := ?_) ?_ ?_
          rotate_left
          · simp only [Act.put, List.setIfInBounds_toArray, List.set_cons_zero, List.set_cons_succ, i64_w, i32_w]; rfl
          refine Evt.ol_two (i := 10) (j := 12) [(11, some 38), (12, some 7), (13, none)] [(10, some 37), (11, some 38), (13, none)] HT_ rfl rfl rfl rfl (by kernel_rfl) (fun K_ hK_ => ?_) (fun K_ hK_ => ?_)
          · refine Evt.k_appc hK_ hHeld rfl rfl (.tmp 30) (.tmp 36) rfl vR3 ([] ++ l1) ([mkC (t0, t1)]) (some ⟨gT9, 0, none⟩) 1 1 rfl rfl F3.out (Rg.of_blk (l := [(t0, t1)]) F9.out (by simp)).r1 (by simp; omega) ?_
            intro vR10 w_ hR_ hg_ hat_ hH_
            have n_NR := Aside0.mk (show some gT9 ≠ vR10.ownBlock from (by rcases hat_ with e_ | ⟨k_, e_, hk_⟩; (rw [e_]; exact NR9.out); (rw [e_]; intro e2_; injection e2_ with e2_; have h_ := F9.out.blk.lt; omega)))
            have n_F9 := Aside0.mk (F9.out.grown hg_ NR9.out)
            clear F9 NR9
            have F9 := n_F9
            have NR9 := n_NR
            clear n_F9 n_NR
            rw [LQ.out] at hR_
            obtain ⟨AR10, cR10, rfl⟩ := Kd.R_slice hR_.row
            clear F3
            have F10 := Aside0.mk hR_
            clear hHeld hR_ hg_ hat_
            have hHeld := hH_
            clear hH_ hK_
            refine Evt.ol_norm (a' := ?_) ?_ ?_
            rotate_left
            · simp only [Act.put, List.setIfInBounds_toArray, List.set_cons_zero, List.set_cons_succ, i64_w, i32_w]; rfl
            (first | (refine Evt.ol_off (a' := ?_) HT_ rfl rfl (by rfl) (by kernel_rfl) (fun _ _ _ h => h) ?_ ?_; rotate_left; (· (try simp only [Act.put, List.setIfInBounds_toArray, List.set_cons_zero, List.set_cons_succ, i64_w, i32_w]); rfl)) | (refine Evt.ol_pure (a' := ?_) (v := ?_) HT_ rfl rfl rfl (by rfl) (by kernel_rfl) (fun _ _ _ h => h) ?_ ?_ ?_; rotate_left 2; (· intro w'; go_simp; with_reducible rfl); (· (try simp only [Act.put, List.setIfInBounds_toArray, List.set_cons_zero, List.set_cons_succ, i64_w, i32_w]); rfl)) | (refine Evt.ol_load (a' := ?_) (v := ?_) HT_ HW_ hHeld rfl rfl rfl (by rfl) (by kernel_rfl) (fun _ _ _ h => h) ?_ ?_ ?_; rotate_left 2; (· intro w' hS_; obtain ⟨s0, s1, s2, s3, s4, s5⟩ := KP.out w' hS_.out; go_simp; with_reducible rfl); (· (try simp only [Act.put, List.setIfInBounds_toArray, List.set_cons_zero, List.set_cons_succ, i64_w, i32_w]); rfl)))
            refine Evt.ol_one (i := 12) [(13, none)] HT_ rfl rfl (by kernel_rfl) (fun K_ hK_ => ?_)
            · refine Evt.k_alloc hK_ hHeld rfl rfl (cs := #[.string ⟨#[]⟩, .slice none 0 0, .slice none 0 0, .string ⟨#[]⟩]) (t := 25) ?_ ?_
              · first | (go_simp; done) | (go_simp; rfl) | (go_simp; refine ⟨?_, ?_⟩ <;> rfl)
              intro gT12 w_ hg_ hB_ hb_ hH_
              have GE12 := Aside0.mk (show w3.heap.size ≤ gT12 from (by rw [hg_]; exact hHeld.out.size))
              have NE_9_12 := Aside0.mk (show gT9 ≠ gT12 from (by have h_ := F9.out.blk.lt; omega))
              clear hg_
              have n_F9 := Aside0.mk (F9.out.below hb_)
              have n_F10 := Aside0.mk (F10.out.below hb_)
              clear F9 F10
              have F9 := n_F9
              have F10 := n_F10
              clear n_F9 n_F10
              have F12 := Aside0.mk hB_
              clear hHeld hb_ hB_
              have hHeld := hH_
              clear hH_ hK_
              refine Evt.ol_norm (a' := ?_) ?_ ?_
              rotate_left
              · simp only [Act.put, List.setIfInBounds_toArray, List.set_cons_zero, List.set_cons_succ, i64_w, i32_w]; rfl
              exact Evt.ol_norm (by simp only [putAll, Act.put, List.setIfInBounds_toArray, List.set_cons_zero, List.set_cons_succ, i64_w, i32_w]; rfl) (JN (vR0, vR3, gT9, AR10, cR10, gT12) _ hHeld ⟨F10.out, F12.out, GE12.out⟩)
          · refine Evt.k_alloc hK_ hHeld rfl rfl (cs := #[.string ⟨#[]⟩, .slice none 0 0, .slice none 0 0, .string ⟨#[]⟩]) (t := 25) ?_ ?_
            · first | (go_simp; done) | (go_simp; rfl) | (go_simp; refine ⟨?_, ?_⟩ <;> rfl)
            intro gT12 w_ hg_ hB_ hb_ hH_
            have GE12 := Aside0.mk (show w3.heap.size ≤ gT12 from (by rw [hg_]; exact hHeld.out.size))
            have NE_9_12 := Aside0.mk (show gT9 ≠ gT12 from (by have h_ := F9.out.blk.lt; omega))
            clear hg_
            have n_F9 := Aside0.mk (F9.out.below hb_)
            have n_F3 := Aside0.mk (F3.out.below hb_)
            clear F9 F3
            have F9 := n_F9
            have F3 := n_F3
            clear n_F9 n_F3
            have F12 := Aside0.mk hB_
            clear hHeld hb_ hB_
            have hHeld := hH_
            clear hH_ hK_
            refine Evt.ol_norm (a' := ?_) ?_ ?_
            rotate_left
            · simp only [Act.put, List.setIfInBounds_toArray, List.set_cons_zero, List.set_cons_succ, i64_w, i32_w]; rfl
            refine Evt.ol_one (i := 10) [(11, some 38), (13, none)] HT_ rfl rfl (by kernel_rfl) (fun K_ hK_ => ?_)
            · refine Evt.k_appc hK_ hHeld rfl rfl (.tmp 30) (.tmp 36) rfl vR3 ([] ++ l1) ([mkC (t0, t1)]) (some ⟨gT9, 0, none⟩) 1 1 rfl rfl F3.out (Rg.of_blk (l := [(t0, t1)]) F9.out (by simp)).r1 (by simp; omega) ?_
              intro vR10 w_ hR_ hg_ hat_ hH_
              have n_NR := Aside0.mk (show some gT9 ≠ vR10.ownBlock from (by rcases hat_ with e_ | ⟨k_, e_, hk_⟩; (rw [e_]; exact NR9.out); (rw [e_]; intro e2_; injection e2_ with e2_; have h_ := F9.out.blk.lt; omega)))
              have n_F9 := Aside0.mk (F9.out.grown hg_ NR9.out)
              clear F9 NR9
              have F9 := n_F9
              have NR9 := n_NR
              clear n_F9 n_NR
              have n_F12 := Aside0.mk (F12.out.grown hg_ (row_ne F3.out.row F12.out.blk (by decide)))
              clear F12
              have F12 := n_F12
              clear n_F12
              rw [LQ.out] at hR_
              obtain ⟨AR10, cR10, rfl⟩ := Kd.R_slice hR_.row
              clear F3
              have F10 := Aside0.mk hR_
              clear hHeld hR_ hg_ hat_
              have hHeld := hH_
              clear hH_ hK_
              refine Evt.ol_norm (a' := ?_) ?_ ?_
              rotate_left
              · simp only [Act.put, List.setIfInBounds_toArray, List.set_cons_zero, List.set_cons_succ, i64_w, i32_w]; rfl
              (first | (refine Evt.ol_off (a' := ?_) HT_ rfl rfl (by rfl) (by kernel_rfl) (fun _ _ _ h => h) ?_ ?_; rotate_left; (· (try simp only [Act.put, List.setIfInBounds_toArray, List.set_cons_zero, List.set_cons_succ, i64_w, i32_w]); rfl)) | (refine Evt.ol_pure (a' := ?_) (v := ?_) HT_ rfl rfl rfl (by rfl) (by kernel_rfl) (fun _ _ _ h => h) ?_ ?_ ?_; rotate_left 2; (· intro w'; go_simp; with_reducible rfl); (· (try simp only [Act.put, List.setIfInBounds_toArray, List.set_cons_zero, List.set_cons_succ, i64_w, i32_w]); rfl)) | (refine Evt.ol_load (a' := ?_) (v := ?_) HT_ HW_ hHeld rfl rfl rfl (by rfl) (by kernel_rfl) (fun _ _ _ h => h) ?_ ?_ ?_; rotate_left 2; (· intro w' hS_; obtain ⟨s0, s1, s2, s3, s4, s5⟩ := KP.out w' hS_.out; go_simp; with_reducible rfl); (· (try simp only [Act.put, List.setIfInBounds_toArray, List.set_cons_zero, List.set_cons_succ, i64_w, i32_w]); rfl)))
              exact Evt.ol_norm (by simp only [putAll, Act.put, List.setIfInBounds_toArray, List.set_cons_zero, List.set_cons_succ, i64_w, i32_w]; rfl) (JN (vR0, vR3, gT9, AR10, cR10, gT12) _ hHeld ⟨F10.out, F12.out, GE12.out⟩)
        · refine Evt.k_alloc hK_ hHeld rfl rfl (cs := #[.string ⟨#[]⟩, .slice none 0 0, .slice none 0 0, .string ⟨#[]⟩]) (t := 25) ?_ ?_
          · first | (go_simp; done) | (go_simp; rfl) | (go_simp; refine ⟨?_, ?_⟩ <;> rfl)
          intro gT12 w_ hg_ hB_ hb_ hH_
          have GE12 := Aside0.mk (show w3.heap.size ≤ gT12 from (by rw [hg_]; exact hHeld.out.size))
          have NE_9_12 := Aside0.mk (show gT9 ≠ gT12 from (by have h_ := F9.out.blk.lt; omega))
          clear hg_
          have n_F9 := Aside0.mk (F9.out.below hb_)
          have n_F0 := Aside0.mk (F0.out.below hb_)
          clear F9 F0
          have F9 := n_F9
          have F0 := n_F0
          clear n_F9 n_F0
          have F12 := Aside0.mk hB_
          clear hHeld hb_ hB_
          have hHeld := hH_
          clear hH_ hK_
          refine Evt.ol_norm (a' := ?_) ?_ ?_
          rotate_left
          · simp only [Act.put, List.setIfInBounds_toArray, List.set_cons_zero, List.set_cons_succ, i64_w, i32_w]; rfl
          refine Evt.ol_one (i := 3) [(10, some 37), (11, some 38), (13, none)] HT_ rfl rfl (by kernel_rfl) (fun K_ hK_ => ?_)
          · refine Evt.k_appc hK_ hHeld rfl rfl (.tmp 27) (.tmp 29) rfl vR0 ([]) (l1) A1 l1.length c1 rfl rfl F0.out (R.out.below hHeld.out).r1 (by simp; omega) ?_
            intro vR3 w_ hR_ hg_ hat_ hH_
            have n_NR := Aside0.mk (show some gT9 ≠ vR3.ownBlock from (by rcases hat_ with e_ | ⟨k_, e_, hk_⟩; (rw [e_]; exact NR9.out); (rw [e_]; intro e2_; injection e2_ with e2_; have h_ := F9.out.blk.lt; omega)))
            have n_F9 := Aside0.mk (F9.out.grown hg_ NR9.out)
            clear F9 NR9
            have F9 := n_F9
            have NR9 := n_NR
            clear n_F9 n_NR
            have n_F12 := Aside0.mk (F12.out.grown hg_ (row_ne F0.out.row F12.out.blk (by decide)))
            clear F12
            have F12 := n_F12
            clear n_F12
            clear F0
            have F3 := Aside0.mk hR_
            clear hHeld hR_ hg_ hat_
            have hHeld := hH_
            clear hH_ hK_
            refine Evt.ol_norm (a' := ?_) ?_ ?_
            rotate_left
            · simp only [Act.put, List.setIfInBounds_toArray, List.set_cons_zero, List.set_cons_succ, i64_w, i32_w]; rfl
            refine Evt.ol_one (i := 10) [(11, some 38), (13, none)] HT_ rfl rfl (by kernel_rfl) (fun K_ hK_ => ?_)
            · refine Evt.k_appc hK_ hHeld rfl rfl (.tmp 30) (.tmp 36) rfl vR3 ([] ++ l1) ([mkC (t0, t1)]) (some ⟨gT9, 0, none⟩) 1 1 rfl rfl F3.out (Rg.of_blk (l := [(t0, t1)]) F9.out (by simp)).r1 (by simp; omega) ?_
              intro vR10 w_ hR_ hg_ hat_ hH_
              have n_NR := Aside0.mk (show some gT9 ≠ vR10.ownBlock from (by rcases hat_ with e_ | ⟨k_, e_, hk_⟩; (rw [e_]; exact NR9.out); (rw [e_]; intro e2_; injection e2_ with e2_; have h_ := F9.out.blk.lt; omega)))
              have n_F9 := Aside0.mk (F9.out.grown hg_ NR9.out)
              clear F9 NR9
              have F9 := n_F9
              have NR9 := n_NR
              clear n_F9 n_NR
              have n_F12 := Aside0.mk (F12.out.grown hg_ (row_ne F3.out.row F12.out.blk (by decide)))
              clear F12
              have F12 := n_F12
              clear n_F12
              rw [LQ.out] at hR_
              obtain ⟨AR10, cR10, rfl⟩ := Kd.R_slice hR_.row
              clear F3
              have F10 := Aside0.mk hR_
              clear hHeld hR_ hg_ hat_
              have hHeld := hH_
              clear hH_ hK_
              refine Evt.ol_norm (a' := ?_) ?_ ?_
              rotate_left
              · simp only [Act.put, List.setIfInBounds_toArray, List.set_cons_zero, List.set_cons_succ, i64_w, i32_w]; rfl
              (first | (refine Evt.ol_off (a' := ?_) HT_ rfl rfl (by rfl) (by kernel_rfl) (fun _ _ _ h => h) ?_ ?_; rotate_left; (· (try simp only [Act.put, List.setIfInBounds_toArray, List.set_cons_zero, List.set_cons_succ, i64_w, i32_w]); rfl)) | (refine Evt.ol_pure (a' := ?_) (v := ?_) HT_ rfl rfl rfl (by rfl) (by kernel_rfl) (fun _ _ _ h => h) ?_ ?_ ?_; rotate_left 2; (· intro w'; go_simp; with_reducible rfl); (· (try simp only [Act.put, List.setIfInBounds_toArray, List.set_cons_zero, List.set_cons_succ, i64_w, i32_w]); rfl)) | (refine Evt.ol_load (a' := ?_) (v := ?_) HT_ HW_ hHeld rfl rfl rfl (by rfl) (by kernel_rfl) (fun _ _ _ h => h) ?_ ?_ ?_; rotate_left 2; (· intro w' hS_; obtain ⟨s0, s1, s2, s3, s4, s5⟩ := KP.out w' hS_.out; go_simp; with_reducible rfl); (· (try simp only [Act.put, List.setIfInBounds_toArray, List.set_cons_zero, List.set_cons_succ, i64_w, i32_w]); rfl)))
              exact Evt.ol_norm (by simp only [putAll, Act.put, List.setIfInBounds_toArray, List.set_cons_zero, List.set_cons_succ, i64_w, i32_w]; rfl) (JN (vR0, vR3, gT9, AR10, cR10, gT12) _ hHeld ⟨F10.out, F12.out, GE12.out⟩)
      · refine Evt.k_alloc hK_ hHeld rfl rfl (cs := #[.string ⟨#[]⟩, .slice none 0 0, .slice none 0 0, .string ⟨#[]⟩]) (t := 25) ?_ ?_
        · first | (go_simp; done) | (go_simp; rfl) | (go_simp; refine ⟨?_, ?_⟩ <;> rfl)
        intro gT12 w_ hg_ hB_ hb_ hH_
        have GE12 := Aside0.mk (show w3.heap.size ≤ gT12 from (by rw [hg_]; exact hHeld.out.size))
        have NE_9_12 := Aside0.mk (show gT9 ≠ gT12 from (by have h_ := F9.out.blk.lt; omega))
        clear hg_
        have n_F9 := Aside0.mk (F9.out.below hb_)
        clear F9
        have F9 := n_F9
        clear n_F9
        have F12 := Aside0.mk hB_
        clear hHeld hb_ hB_
        have hHeld := hH_
        clear hH_ hK_
        refine Evt.ol_norm (a' := ?_) ?_ ?_
        rotate_left
        · simp only [Act.put, List.setIfInBounds_toArray, List.set_cons_zero, List.set_cons_succ, i64_w, i32_w]; rfl
        refine Evt.ol_one (i := 0) [(3, some 30), (10, some 37), (11, some 38), (13, none)] HT_ rfl rfl (by kernel_rfl) (fun K_ hK_ => ?_)
        · refine Evt.k_row0 hK_ hHeld rfl rfl ?_ ?_
          · first | (go_simp; done) | (go_simp; rfl) | (go_simp; refine ⟨?_, ?_⟩ <;> rfl)
          intro vR0 w_ hR_ hO_ hb_ hH_
          have NR9 := Aside0.mk (show some gT9 ≠ vR0.ownBlock from (by rw [hO_]; have h_ := F9.out.blk.lt; intro e_; injection e_ with e_; omega))
          clear hO_
          have n_F9 := Aside0.mk (F9.out.below hb_)
          have n_F12 := Aside0.mk (F12.out.below hb_)
          clear F9 F12
          have F9 := n_F9
          have F12 := n_F12
          clear n_F9 n_F12
          have F0 := Aside0.mk hR_
          clear hHeld hb_ hR_
          have hHeld := hH_
          clear hH_ hK_
          refine Evt.ol_norm (a' := ?_) ?_ ?_
          rotate_left
          · simp only [Act.put, List.setIfInBounds_toArray, List.set_cons_zero, List.set_cons_succ, i64_w, i32_w]; rfl
          refine Evt.ol_one (i := 3) [(10, some 37), (11, some 38), (13, none)] HT_ rfl rfl (by kernel_rfl) (fun K_ hK_ => ?_)
          · refine Evt.k_appc hK_ hHeld rfl rfl (.tmp 27) (.tmp 29) rfl vR0 ([]) (l1) A1 l1.length c1 rfl rfl F0.out (R.out.below hHeld.out).r1 (by simp; omega) ?_
            intro vR3 w_ hR_ hg_ hat_ hH_
            have n_NR := Aside0.mk (show some gT9 ≠ vR3.ownBlock from (by rcases hat_ with e_ | ⟨k_, e_, hk_⟩; (rw [e_]; exact NR9.out); (rw [e_]; intro e2_; injection e2_ with e2_; have h_ := F9.out.blk.lt; omega)))
            have n_F9 := Aside0.mk (F9.out.grown hg_ NR9.out)
            clear F9 NR9
            have F9 := n_F9
            have NR9 := n_NR
            clear n_F9 n_NR
            have n_F12 := Aside0.mk (F12.out.grown hg_ (row_ne F0.out.row F12.out.blk (by decide)))
            clear F12
            have F12 := n_F12
            clear n_F12
            clear F0
            have F3 := Aside0.mk hR_
            clear hHeld hR_ hg_ hat_
            have hHeld := hH_
            clear hH_ hK_
            refine Evt.ol_norm (a' := ?_) ?_ ?_
            rotate_left
            · simp only [Act.put, List.setIfInBounds_toArray, List.set_cons_zero, List.set_cons_succ, i64_w, i32_w]; rfl
            refine Evt.ol_one (i := 10) [(11, some 38), (13, none)] HT_ rfl rfl (by kernel_rfl) (fun K_ hK_ => ?_)
            · refine Evt.k_appc hK_ hHeld rfl rfl (.tmp 30) (.tmp 36) rfl vR3 ([] ++ l1) ([mkC (t0, t1)]) (some ⟨gT9, 0, none⟩) 1 1 rfl rfl F3.out (Rg.of_blk (l := [(t0, t1)]) F9.out (by simp)).r1 (by simp; omega) ?_
              intro vR10 w_ hR_ hg_ hat_ hH_
              have n_NR := Aside0.mk (show some gT9 ≠ vR10.ownBlock from (by rcases hat_ with e_ | ⟨k_, e_, hk_⟩; (rw [e_]; exact NR9.out); (rw [e_]; intro e2_; injection e2_ with e2_; have h_ := F9.out.blk.lt; omega)))
              have n_F9 := Aside0.mk (F9.out.grown hg_ NR9.out)
              clear F9 NR9
              have F9 := n_F9
              have NR9 := n_NR
              clear n_F9 n_NR
              have n_F12 := Aside0.mk (F12.out.grown hg_ (row_ne F3.out.row F12.out.blk (by decide)))
              clear F12
              have F12 := n_F12
              clear n_F12
              rw [LQ.out] at hR_
              obtain ⟨AR10, cR10, rfl⟩ := Kd.R_slice hR_.row
              clear F3
              have F10 := Aside0.mk hR_
              clear hHeld hR_ hg_ hat_
              have hHeld := hH_
              clear hH_ hK_
              refine Evt.ol_norm (a' := ?_) ?_ ?_
              rotate_left
              · simp only [Act.put, List.setIfInBounds_toArray, List.set_cons_zero, List.set_cons_succ, i64_w, i32_w]; rfl
              (first | (refine Evt.ol_off (a' := ?_) HT_ rfl rfl (by rfl) (by kernel_rfl) (fun _ _ _ h => h) ?_ ?_; rotate_left; (· (try simp only [Act.put, List.setIfInBounds_toArray, List.set_cons_zero, List.set_cons_succ, i64_w, i32_w]); rfl)) | (refine Evt.ol_pure (a' := ?_) (v := ?_) HT_ rfl rfl rfl (by rfl) (by kernel_rfl) (fun _ _ _ h => h) ?_ ?_ ?_; rotate_left 2; (· intro w'; go_simp; with_reducible rfl); (· (try simp only [Act.put, List.setIfInBounds_toArray, List.set_cons_zero, List.set_cons_succ, i64_w, i32_w]); rfl)) | (refine Evt.ol_load (a' := ?_) (v := ?_) HT_ HW_ hHeld rfl rfl rfl (by rfl) (by kernel_rfl) (fun _ _ _ h => h) ?_ ?_ ?_; rotate_left 2; (· intro w' hS_; obtain ⟨s0, s1, s2, s3, s4, s5⟩ := KP.out w' hS_.out; go_simp; with_reducible rfl); (· (try simp only [Act.put, List.setIfInBounds_toArray, List.set_cons_zero, List.set_cons_succ, i64_w, i32_w]); rfl)))
              exact Evt.ol_norm (by simp only [putAll, Act.put, List.setIfInBounds_toArray, List.set_cons_zero, List.set_cons_succ, i64_w, i32_w]; rfl) (JN (vR0, vR3, gT9, AR10, cR10, gT12) _ hHeld ⟨F10.out, F12.out, GE12.out⟩)
    · refine Evt.k_alloc hK_ hHeld rfl rfl (cs := #[.string ⟨#[]⟩, .slice none 0 0, .slice none 0 0, .string ⟨#[]⟩]) (t := 25) ?_ ?_
      · first | (go_simp; done) | (go_simp; rfl) | (go_simp; refine ⟨?_, ?_⟩ <;> rfl)
      intro gT12 w_ hg_ hB_ hb_ hH_
      have GE12 := Aside0.mk (show w3.heap.size ≤ gT12 from (by rw [hg_]; exact hHeld.out.size))
      clear hg_
      have F12 := Aside0.mk hB_
      clear hHeld hb_ hB_
      have hHeld := hH_
      clear hH_ hK_
      refine Evt.ol_norm (a' := ?_) ?_ ?_
      rotate_left
      · simp only [Act.put, List.setIfInBounds_toArray, List.set_cons_zero, List.set_cons_succ, i64_w, i32_w]; rfl
      refine Evt.ol_two (i := 0) (j := 9) [(3, some 30), (9, some 36), (10, some 37), (11, some 38), (13, none)] [(0, some 27), (3, some 30), (10, some 37), (11, some 38), (13, none)] HT_ rfl rfl rfl rfl (by kernel_rfl) (fun K_ hK_ => ?_) (fun K_ hK_ => ?_)
      · refine Evt.k_row0 hK_ hHeld rfl rfl ?_ ?_
        · first | (go_simp; done) | (go_simp; rfl) | (go_simp; refine ⟨?_, ?_⟩ <;> rfl)
        intro vR0 w_ hR_ hO_ hb_ hH_
        clear hO_
        have n_F12 := Aside0.mk (F12.out.below hb_)
        clear F12
        have F12 := n_F12
        clear n_F12
        have F0 := Aside0.mk hR_
        clear hHeld hb_ hR_
        have hHeld := hH_
        clear hH_ hK_
        refine Evt.ol_norm (a' := ?_) ?_ ?_
        rotate_left
        · simp only [Act.put, List.setIfInBounds_toArray, List.set_cons_zero, List.set_cons_succ, i64_w, i32_w]; rfl
        refine Evt.ol_two (i := 3) (j := 9) [(9, some 36), (10, some 37), (11, some 38), (13, none)] [(3, some 30), (10, some 37), (11, some 38), (13, none)] HT_ rfl rfl rfl rfl (by kernel_rfl) (fun K_ hK_ => ?_) (fun K_ hK_ => ?_)
        · refine Evt.k_appc hK_ hHeld rfl rfl (.tmp 27) (.tmp 29) rfl vR0 ([]) (l1) A1 l1.length c1 rfl rfl F0.out (R.out.below hHeld.out).r1 (by simp; omega) ?_
          intro vR3 w_ hR_ hg_ hat_ hH_
          have n_F12 := Aside0.mk (F12.out.grown hg_ (row_ne F0.out.row F12.out.blk (by decide)))
          clear F12
          have F12 := n_F12
          clear n_F12
          clear F0
          have F3 := Aside0.mk hR_
          clear hHeld hR_ hg_ hat_
          have hHeld := hH_
          clear hH_ hK_
          refine Evt.ol_norm (a' := ?_) ?_ ?_
          rotate_left
          · simp only [Act.put, List.setIfInBounds_toArray, List.set_cons_zero, List.set_cons_succ, i64_w, i32_w]; rfl
          refine Evt.ol_one (i := 9) [(10, some 37), (11, some 38), (13, none)] HT_ rfl rfl (by kernel_rfl) (fun K_ hK_ => ?_)
          · refine Evt.k_slice hK_ hHeld rfl rfl (cs := #[.int .i64 0, .int .i64 0, .int .i64 0, .string t0, .string t1]) (t := 41) (ln := 1) ?_ ?_
            · first | (go_simp; done) | (go_simp; rfl) | (go_simp; refine ⟨?_, ?_⟩ <;> rfl)
            intro gT9 w_ hg_ hB_ hb_ hH_
            have GE9 := Aside0.mk (show w3.heap.size ≤ gT9 from (by rw [hg_]; exact hHeld.out.size))
            have NE_9_12 := Aside0.mk (show gT9 ≠ gT12 from (by have h_ := F12.out.blk.lt; omega))
            have NR9 := Aside0.mk (show some gT9 ≠ vR3.ownBlock from (by rw [hg_]; intro e_; have h_ := Kd.R_lt F3.out.row _ e_.symm; omega))
            clear hg_
            have n_F12 := Aside0.mk (F12.out.below hb_)
            have n_F3 := Aside0.mk (F3.out.below hb_)
            clear F12 F3
            have F12 := n_F12
            have F3 := n_F3
            clear n_F12 n_F3
            have F9 := Aside0.mk hB_
            clear hHeld hb_ hB_
            have hHeld := hH_
            clear hH_ hK_
            refine Evt.ol_norm (a' := ?_) ?_ ?_
            rotate_left
            · simp only [Act.put, List.setIfInBounds_toArray, List.set_cons_zero, List.set_cons_succ, i64_w, i32_w]; rfl
            refine Evt.ol_one (i := 10) [(11, some 38), (13, none)] HT_ rfl rfl (by kernel_rfl) (fun K_ hK_ => ?_)
            · refine Evt.k_appc hK_ hHeld rfl rfl (.tmp 30) (.tmp 36) rfl vR3 ([] ++ l1) ([mkC (t0, t1)]) (some ⟨gT9, 0, none⟩) 1 1 rfl rfl F3.out (Rg.of_blk (l := [(t0, t1)]) F9.out (by simp)).r1 (by simp; omega) ?_
              intro vR10 w_ hR_ hg_ hat_ hH_
              have n_NR := Aside0.mk (show some gT9 ≠ vR10.ownBlock from (by rcases hat_ with e_ | ⟨k_, e_, hk_⟩; (rw [e_]; exact NR9.out); (rw [e_]; intro e2_; injection e2_ with e2_; have h_ := F9.out.blk.lt; omega)))
              have n_F9 := Aside0.mk (F9.out.grown hg_ NR9.out)
              clear F9 NR9
              have F9 := n_F9
              have NR9 := n_NR
              clear n_F9 n_NR
              have n_F12 := Aside0.mk (F12.out.grown hg_ (row_ne F3.out.row F12.out.blk (by decide)))
              clear F12
              have F12 := n_F12
              clear n_F12
              rw [LQ.out] at hR_
              obtain ⟨AR10, cR10, rfl⟩ := Kd.R_slice hR_.row
              clear F3
              have F10 := Aside0.mk hR_
              clear hHeld hR_ hg_ hat_
              have hHeld := hH_
              clear hH_ hK_
              refine Evt.ol_norm (a' := ?_) ?_ ?_
              rotate_left
              · simp only [Act.put, List.setIfInBounds_toArray, List.set_cons_zero, List.set_cons_succ, i64_w, i32_w]; rfl
              (first | (refine Evt.ol_off (a' := ?_) HT_ rfl rfl (by rfl) (by kernel_rfl) (fun _ _ _ h => h) ?_ ?_; rotate_left; (· (try simp only [Act.put, List.setIfInBounds_toArray, List.set_cons_zero, List.set_cons_succ, i64_w, i32_w]); rfl)) | (refine Evt.ol_pure (a' := ?_) (v := ?_) HT_ rfl rfl rfl (by rfl) (by kernel_rfl) (fun _ _ _ h => h) ?_ ?_ ?_; rotate_left 2; (· intro w'; go_simp; with_reducible rfl); (· (try simp only [Act.put, List.setIfInBounds_toArray, List.set_cons_zero, List.set_cons_succ, i64_w, i32_w]); rfl)) | (refine Evt.ol_load (a' := ?_) (v := ?_) HT_ HW_ hHeld rfl rfl rfl (by rfl) (by kernel_rfl) (fun _ _ _ h => h) ?_ ?_ ?_; rotate_left 2; (· intro w' hS_; obtain ⟨s0, s1, s2, s3, s4, s5⟩ := KP.out w' hS_.out; go_simp; with_reducible rfl); (· (try simp only [Act.put, List.setIfInBounds_toArray, List.set_cons_zero, List.set_cons_succ, i64_w, i32_w]); rfl)))
              exact Evt.ol_norm (by simp only [putAll, Act.put, List.setIfInBounds_toArray, List.set_cons_zero, List.set_cons_succ, i64_w, i32_w]; rfl) (JN (vR0, vR3, gT9, AR10, cR10, gT12) _ hHeld ⟨F10.out, F12.out, GE12.out⟩)
        · refine Evt.k_slice hK_ hHeld rfl rfl (cs := #[.int .i64 0, .int .i64 0, .int .i64 0, .string t0, .string t1]) (t := 41) (ln := 1) ?_ ?_
          · first | (go_simp; done) | (go_simp; rfl) | (go_simp; refine ⟨?_, ?_⟩ <;> rfl)
          intro gT9 w_ hg_ hB_ hb_ hH_
          have GE9 := Aside0.mk (show w3.heap.size ≤ gT9 from (by rw [hg_]; exact hHeld.out.size))
          have NE_9_12 := Aside0.mk (show gT9 ≠ gT12 from (by have h_ := F12.out.blk.lt; omega))
          have NR9 := Aside0.mk (show some gT9 ≠ vR0.ownBlock from (by rw [hg_]; intro e_; have h_ := Kd.R_lt F0.out.row _ e_.symm; omega))
          clear hg_
          have n_F12 := Aside0.mk (F12.out.below hb_)
          have n_F0 := Aside0.mk (F0.out.below hb_)
          clear F12 F0
          have F12 := n_F12
          have F0 := n_F0
          clear n_F12 n_F0
          have F9 := Aside0.mk hB_
          clear hHeld hb_ hB_
          have hHeld := hH_
          clear hH_ hK_
          refine Evt.ol_norm (a' := ?_) ?_ ?_
          rotate_left
          · simp only [Act.put, List.setIfInBounds_toArray, List.set_cons_zero, List.set_cons_succ, i64_w, i32_w]; rfl
          refine Evt.ol_one (i := 3) [(10, some 37), (11, some 38), (13, none)] HT_ rfl rfl (by kernel_rfl) (fun K_ hK_ => ?_)
          · refine Evt.k_appc hK_ hHeld rfl rfl (.tmp 27) (.tmp 29) rfl vR0 ([]) (l1) A1 l1.length c1 rfl rfl F0.out (R.out.below hHeld.out).r1 (by simp; omega) ?_
            intro vR3 w_ hR_ hg_ hat_ hH_
            have n_NR := Aside0.mk (show some gT9 ≠ vR3.ownBlock from (by rcases hat_ with e_ | ⟨k_, e_, hk_⟩; (rw [e_]; exact NR9.out); (rw [e_]; intro e2_; injection e2_ with e2_; have h_ := F9.out.blk.lt; omega)))
            have n_F9 := Aside0.mk (F9.out.grown hg_ NR9.out)
            clear F9 NR9
            have F9 := n_F9
            have NR9 := n_NR
            clear n_F9 n_NR
            have n_F12 := Aside0.mk (F12.out.grown hg_ (row_ne F0.out.row F12.out.blk (by decide)))
            clear F12
            have F12 := n_F12
            clear n_F12
            clear F0
            have F3 := Aside0.mk hR_
            clear hHeld hR_ hg_ hat_
            have hHeld := hH_
            clear hH_ hK_
            refine Evt.ol_norm (a' := ?_) ?_ ?_
            rotate_left
            · simp only [Act.put, List.setIfInBounds_toArray, List.set_cons_zero, List.set_cons_succ, i64_w, i32_w]; rfl
            refine Evt.ol_one (i := 10) [(11, some 38), (13, none)] HT_ rfl rfl (by kernel_rfl) (fun K_ hK_ => ?_)
            · refine Evt.k_appc hK_ hHeld rfl rfl (.tmp 30) (.tmp 36) rfl vR3 ([] ++ l1) ([mkC (t0, t1)]) (some ⟨gT9, 0, none⟩) 1 1 rfl rfl F3.out (Rg.of_blk (l := [(t0, t1)]) F9.out (by simp)).r1 (by simp; omega) ?_
              intro vR10 w_ hR_ hg_ hat_ hH_
              have n_NR := Aside0.mk (show some gT9 ≠ vR10.ownBlock from (by rcases hat_ with e_ | ⟨k_, e_, hk_⟩; (rw [e_]; exact NR9.out); (rw [e_]; intro e2_; injection e2_ with e2_; have h_ := F9.out.blk.lt; omega)))
              have n_F9 := Aside0.mk (F9.out.grown hg_ NR9.out)
              clear F9 NR9
              have F9 := n_F9
              have NR9 := n_NR
              clear n_F9 n_NR
              have n_F12 := Aside0.mk (F12.out.grown hg_ (row_ne F3.out.row F12.out.blk (by decide)))
              clear F12
              have F12 := n_F12
              clear n_F12
              rw [LQ.out] at hR_
              obtain ⟨AR10, cR10, rfl⟩ := Kd.R_slice hR_.row
              clear F3
              have F10 := Aside0.mk hR_
              clear hHeld hR_ hg_ hat_
              have hHeld := hH_
              clear hH_ hK_
              refine Evt.ol_norm (a' := ?_) ?_ ?_
              rotate_left
              · simp only [Act.put, List.setIfInBounds_toArray, List.set_cons_zero, List.set_cons_succ, i64_w, i32_w]; rfl
              (first | (refine Evt.ol_off (a' := ?_) HT_ rfl rfl (by rfl) (by kernel_rfl) (fun _ _ _ h => h) ?_ ?_; rotate_left; (· (try simp only [Act.put, List.setIfInBounds_toArray, List.set_cons_zero, List.set_cons_succ, i64_w, i32_w]); rfl)) | (refine Evt.ol_pure (a' := ?_) (v := ?_) HT_ rfl rfl rfl (by rfl) (by kernel_rfl) (fun _ _ _ h => h) ?_ ?_ ?_; rotate_left 2; (· intro w'; go_simp; with_reducible rfl); (· (try simp only [Act.put, List.setIfInBounds_toArray, List.set_cons_zero, List.set_cons_succ, i64_w, i32_w]); rfl)) | (refine Evt.ol_load (a' := ?_) (v := ?_) HT_ HW_ hHeld rfl rfl rfl (by rfl) (by kernel_rfl) (fun _ _ _ h => h) ?_ ?_ ?_; rotate_left 2; (· intro w' hS_; obtain ⟨s0, s1, s2, s3, s4, s5⟩ := KP.out w' hS_.out; go_simp; with_reducible rfl); (· (try simp only [Act.put, List.setIfInBounds_toArray, List.set_cons_zero, List.set_cons_succ, i64_w, i32_w]); rfl)))
              exact Evt.ol_norm (by simp only [putAll, Act.put, List.setIfInBounds_toArray, List.set_cons_zero, List.set_cons_succ, i64_w, i32_w]; rfl) (JN (vR0, vR3, gT9, AR10, cR10, gT12) _ hHeld ⟨F10.out, F12.out, GE12.out⟩)
      · refine Evt.k_slice hK_ hHeld rfl rfl (cs := #[.int .i64 0, .int .i64 0, .int .i64 0, .string t0, .string t1]) (t := 41) (ln := 1) ?_ ?_
        · first | (go_simp; done) | (go_simp; rfl) | (go_simp; refine ⟨?_, ?_⟩ <;> rfl)
        intro gT9 w_ hg_ hB_ hb_ hH_
        have GE9 := Aside0.mk (show w3.heap.size ≤ gT9 from (by rw [hg_]; exact hHeld.out.size))
        have NE_9_12 := Aside0.mk (show gT9 ≠ gT12 from (by have h_ := F12.out.blk.lt; omega))
        clear hg_
        have n_F12 := Aside0.mk (F12.out.below hb_)
        clear F12
        have F12 := n_F12
        clear n_F12
        have F9 := Aside0.mk hB_
        clear hHeld hb_ hB_
        have hHeld := hH_
        clear hH_ hK_
        refine Evt.ol_norm (a' := ?_) ?_ ?_
        rotate_left
        · simp only [Act.put, List.setIfInBounds_toArray, List.set_cons_zero, List.set_cons_succ, i64_w, i32_w]; rfl
        refine Evt.ol_one (i := 0) [(3, some 30), (10, some 37), (11, some 38), (13, none)] HT_ rfl rfl (by kernel_rfl) (fun K_ hK_ => ?_)
        · refine Evt.k_row0 hK_ hHeld rfl rfl ?_ ?_
          · first | (go_simp; done) | (go_simp; rfl) | (go_simp; refine ⟨?_, ?_⟩ <;> rfl)
          intro vR0 w_ hR_ hO_ hb_ hH_
          have NR9 := Aside0.mk (show some gT9 ≠ vR0.ownBlock from (by rw [hO_]; have h_ := F9.out.blk.lt; intro e_; injection e_ with e_; omega))
          clear hO_
          have n_F12 := Aside0.mk (F12.out.below hb_)
          have n_F9 := Aside0.mk (F9.out.below hb_)
          clear F12 F9
          have F12 := n_F12
          have F9 := n_F9
          clear n_F12 n_F9
          have F0 := Aside0.mk hR_
          clear hHeld hb_ hR_
          have hHeld := hH_
          clear hH_ hK_
          refine Evt.ol_norm (a' := ?_) ?_ ?_
          rotate_left
          · simp only [Act.put, List.setIfInBounds_toArray, List.set_cons_zero, List.set_cons_succ, i64_w, i32_w]; rfl
          refine Evt.ol_one (i := 3) [(10, some 37), (11, some 38), (13, none)] HT_ rfl rfl (by kernel_rfl) (fun K_ hK_ => ?_)
          · refine Evt.k_appc hK_ hHeld rfl rfl (.tmp 27) (.tmp 29) rfl vR0 ([]) (l1) A1 l1.length c1 rfl rfl F0.out (R.out.below hHeld.out).r1 (by simp; omega) ?_
            intro vR3 w_ hR_ hg_ hat_ hH_
            have n_NR := Aside0.mk (show some gT9 ≠ vR3.ownBlock from (by rcases hat_ with e_ | ⟨k_, e_, hk_⟩; (rw [e_]; exact NR9.out); (rw [e_]; intro e2_; injection e2_ with e2_; have h_ := F9.out.blk.lt; omega)))
            have n_F9 := Aside0.mk (F9.out.grown hg_ NR9.out)
            clear F9 NR9
            have F9 := n_F9
            have NR9 := n_NR
            clear n_F9 n_NR
            have n_F12 := Aside0.mk (F12.out.grown hg_ (row_ne F0.out.row F12.out.blk (by decide)))
            clear F12
            have F12 := n_F12
            clear n_F12
            clear F0
            have F3 := Aside0.mk hR_
            clear hHeld hR_ hg_ hat_
            have hHeld := hH_
            clear hH_ hK_
            refine Evt.ol_norm (a' := ?_) ?_ ?_
            rotate_left
            · simp only [Act.put, List.setIfInBounds_toArray, List.set_cons_zero, List.set_cons_succ, i64_w, i32_w]; rfl
            refine Evt.ol_one (i := 10) [(11, some 38), (13, none)] HT_ rfl rfl (by kernel_rfl) (fun K_ hK_ => ?_)
            · refine Evt.k_appc hK_ hHeld rfl rfl (.tmp 30) (.tmp 36) rfl vR3 ([] ++ l1) ([mkC (t0, t1)]) (some ⟨gT9, 0, none⟩) 1 1 rfl rfl F3.out (Rg.of_blk (l := [(t0, t1)]) F9.out (by simp)).r1 (by simp; omega) ?_
              intro vR10 w_ hR_ hg_ hat_ hH_
              have n_NR := Aside0.mk (show some gT9 ≠ vR10.ownBlock from (by rcases hat_ with e_ | ⟨k_, e_, hk_⟩; (rw [e_]; exact NR9.out); (rw [e_]; intro e2_; injection e2_ with e2_; have h_ := F9.out.blk.lt; omega)))
              have n_F9 := Aside0.mk (F9.out.grown hg_ NR9.out)
              clear F9 NR9
              have F9 := n_F9
              have NR9 := n_NR
              clear n_F9 n_NR
              have n_F12 := Aside0.mk (F12.out.grown hg_ (row_ne F3.out.row F12.out.blk (by decide)))
              clear F12
              have F12 := n_F12
              clear n_F12
              rw [LQ.out] at hR_
              obtain ⟨AR10, cR10, rfl⟩ := Kd.R_slice hR_.row
              clear F3
              have F10 := Aside0.mk hR_
              clear hHeld hR_ hg_ hat_
              have hHeld := hH_
              clear hH_ hK_
              refine Evt.ol_norm (a' := ?_) ?_ ?_
              rotate_left
              · simp only [Act.put, List.setIfInBounds_toArray, List.set_cons_zero, List.set_cons_succ, i64_w, i32_w]; rfl
              (first | (refine Evt.ol_off (a' := ?_) HT_ rfl rfl (by rfl) (by kernel_rfl) (fun _ _ _ h => h) ?_ ?_; rotate_left; (· (try simp only [Act.put, List.setIfInBounds_toArray, List.set_cons_zero, List.set_cons_succ, i64_w, i32_w]); rfl)) | (refine Evt.ol_pure (a' := ?_) (v := ?_) HT_ rfl rfl rfl (by rfl) (by kernel_rfl) (fun _ _ _ h => h) ?_ ?_ ?_; rotate_left 2; (· intro w'; go_simp; with_reducible rfl); (· (try simp only [Act.put, List.setIfInBounds_toArray, List.set_cons_zero, List.set_cons_succ, i64_w, i32_w]); rfl)) | (refine Evt.ol_load (a' := ?_) (v := ?_) HT_ HW_ hHeld rfl rfl rfl (by rfl) (by kernel_rfl) (fun _ _ _ h => h) ?_ ?_ ?_; rotate_left 2; (· intro w' hS_; obtain ⟨s0, s1, s2, s3, s4, s5⟩ := KP.out w' hS_.out; go_simp; with_reducible rfl); (· (try simp only [Act.put, List.setIfInBounds_toArray, List.set_cons_zero, List.set_cons_succ, i64_w, i32_w]); rfl)))
              exact Evt.ol_norm (by simp only [putAll, Act.put, List.setIfInBounds_toArray, List.set_cons_zero, List.set_cons_succ, i64_w, i32_w]; rfl) (JN (vR0, vR3, gT9, AR10, cR10, gT12) _ hHeld ⟨F10.out, F12.out, GE12.out⟩)
  rintro ⟨vR0, vR3, gT9, AR10, cR10, gT12⟩ w_ hHeld ⟨f_F10, f_F12, f_GE12⟩
  have F10 := Aside0.mk f_F10
  have F12 := Aside0.mk f_F12
  have GE12 := Aside0.mk f_GE12
  clear f_F10 f_F12 f_GE12
  refine Evt.ol_norm (a' := ?_) ?_ ?_
  rotate_left
  · simp only [putAll, Act.put, List.setIfInBounds_toArray, List.set_cons_zero, List.set_cons_succ, i64_w, i32_w]; rfl
  refine Evt.ol_setrow (i := 13) [] HT_ hHeld rfl rfl (by kernel_rfl) (by rfl) F12.out GE12.out 25 (.tmp 7) (.tmp 38) rfl rfl rfl (by kernel_rfl) rfl (by simp [Value.oneCell']) ?_
  intro wa B12 hga hHa
  have FQ := Aside0.mk (row41_other F10.out.row hga (row_ne F10.out.row F12.out.blk (by decide)))
  have BQ0 := Aside0.mk B12
  clear F10 F12 GE12 hHeld B12 hga
  refine Evt.ol_done HT_ (by kernel_rfl) ?_
  have R2 := Aside0.mk (R.out.below hHa.out)
  have B3 := Aside0.mk (BK3.out.below hHa.out)
  have B4 := Aside0.mk (BK4.out.below hHa.out)
  have HW := Aside0.mk (below_step HB.out hHa.out)
  clear R BK3 BK4 HB HT_ HW_ KP hHa
  have RQ0 : Aside0 (Rg wa AR10 cR10 lq none 0 []) := by
    obtain ⟨h1, h2, h3⟩ := Kd.R_reads' FQ.out
    exact ⟨h3, h2, Kd.C_nil _ _, Nat.le_refl _⟩
  clear FQ
  have ESq : Aside0 (es lq = es l1 ++ [(t0, t1)]) := Aside0.mk (by rw [← LQ.out]; simp [es, mkC])
  have LNq : lq.length ≤ 1000 := by rw [← LQ.out]; simp; omega
  have LNq2 : lq.length ≤ 61 := by rw [← LQ.out]; simp; omega
  have OKq : Aside0 (okG (es lq) = true) := Aside0.mk (by
    rw [ESq.out]
    unfold okG
    rw [Bool.and_eq_true]
    refine ⟨decide_eq_true (by rw [List.length_append, es_len, List.length_singleton]; omega), List.all_eq_true.2 fun c hc => ?_⟩
    rw [Bool.and_eq_true]
    rcases List.mem_append.1 hc with hc | hc
    · exact ⟨decide_eq_true (okG_f2 O12.out.ok hc), decide_eq_true (okG_f3 O12.out.ok hc)⟩
    · rw [List.mem_singleton.1 hc]; exact ⟨decide_eq_true (by show t0.size ≤ _; omega), decide_eq_true (by show t1.size ≤ _; omega)⟩)
  have NLq : Aside0 ((nodesL (es lq)).length ≤ 200) := ⟨by have := nodesL_len (es lq); rw [es_len] at this; omega⟩
  have NL1 : Aside0 ((nodesL (es l1)).length ≤ 200) := ⟨O12.out.nl⟩
  have CI : Aside0 (∀ x ∈ reachL (es l1) s, decide (x ∈ reachL (es lq) s) = true) := Aside0.mk (fun x hx => decide_eq_true (by rw [ESq.out]; exact reach_more hx))
  have CN : Aside0 (t0 ∈ reachL (es lq) s → t1 ∈ reachL (es lq) s) := Aside0.mk (by rw [ESq.out]; exact reach_new)
  have CL : Aside0 ((nodesL (es l1)).length ≤ (nodesL (es lq)).length) := Aside0.mk (by rw [ESq.out]; exact nodes_more_len _ _)
  have LB : Aside0 ((reachL (es lq) s).length ≤ 1000000) := ⟨by have := gath_len (es lq) (sucL (es lq)) s; have := NLq.out; unfold reachL; omega⟩
  have LL : (reachL (es l1) s).length ≤ 200 := by have := gath_len (es l1) (sucL (es l1)) s; have := NL1.out; unfold reachL; omega
  clear LQ
  have HB := Aside0.mk (Below.refl wa.heap.size wa)
  have R := Aside0.mk (R2.out)
  have RQ := Aside0.mk (RQ0.out)
  have BQ : Aside0 (Bk wa gT12 25 #[.string ⟨#[]⟩, .slice AR10 lq.length cR10, .slice none 0 0, .string ⟨#[]⟩]) := Aside0.mk (BQ0.out)
  have BK3 : Aside0 (Bk wa g3 25 #[.string a0, .slice A1 l1.length c1, .slice A2 l2.length c2, .string a3]) := Aside0.mk (B3.out)
  have BK4 : Aside0 (Bk wa g4 47 #[.string t0, .string t1]) := Aside0.mk (B4.out)
  clear R2 RQ0 BQ0 B3 B4
  have zBQ_0 : wa.cell? ⟨gT12, 0, none⟩ = some (.string ⟨#[]⟩) := (blk_cell BQ.out.blk 0).trans rfl
  have zBQ_1 : wa.cell? ⟨gT12, 1, none⟩ = some (.slice AR10 lq.length cR10) := (blk_cell BQ.out.blk 1).trans rfl
  have zBQ_2 : wa.cell? ⟨gT12, 2, none⟩ = some (.slice none 0 0) := (blk_cell BQ.out.blk 2).trans rfl
  have zBQ_3 : wa.cell? ⟨gT12, 3, none⟩ = some (.string ⟨#[]⟩) := (blk_cell BQ.out.blk 3).trans rfl
  have zBK3_0 : wa.cell? ⟨g3, 0, none⟩ = some (.string a0) := (blk_cell BK3.out.blk 0).trans rfl
  have zBK3_1 : wa.cell? ⟨g3, 1, none⟩ = some (.slice A1 l1.length c1) := (blk_cell BK3.out.blk 1).trans rfl
  have zBK3_2 : wa.cell? ⟨g3, 2, none⟩ = some (.slice A2 l2.length c2) := (blk_cell BK3.out.blk 2).trans rfl
  have zBK3_3 : wa.cell? ⟨g3, 3, none⟩ = some (.string a3) := (blk_cell BK3.out.blk 3).trans rfl
  have zBK4_0 : wa.cell? ⟨g4, 0, none⟩ = some (.string t0) := (blk_cell BK4.out.blk 0).trans rfl
  have zBK4_1 : wa.cell? ⟨g4, 1, none⟩ = some (.string t1) := (blk_cell BK4.out.blk 1).trans rfl
  go_wp2
  have KP : Aside0 (∀ w', Below wa.heap.size wa w' → (w'.cell? ⟨gT12, 0, none⟩ = some (.string ⟨#[]⟩) ∧ w'.cell? ⟨gT12, 1, none⟩ = some (.slice AR10 lq.length cR10) ∧ w'.cell? ⟨gT12, 2, none⟩ = some (.slice none 0 0) ∧ w'.cell? ⟨gT12, 3, none⟩ = some (.string ⟨#[]⟩) ∧ w'.cell? ⟨g3, 0, none⟩ = some (.string a0) ∧ w'.cell? ⟨g3, 1, none⟩ = some (.slice A1 l1.length c1) ∧ w'.cell? ⟨g3, 2, none⟩ = some (.slice A2 l2.length c2) ∧ w'.cell? ⟨g3, 3, none⟩ = some (.string a3))) := Aside0.mk (fun w' hb => ⟨(blk_cell (BQ.out.below hb).blk 0).trans rfl, (blk_cell (BQ.out.below hb).blk 1).trans rfl, (blk_cell (BQ.out.below hb).blk 2).trans rfl, (blk_cell (BQ.out.below hb).blk 3).trans rfl, (blk_cell (BK3.out.below hb).blk 0).trans rfl, (blk_cell (BK3.out.below hb).blk 1).trans rfl, (blk_cell (BK3.out.below hb).blk 2).trans rfl, (blk_cell (BK3.out.below hb).blk 3).trans rfl⟩)
  clear zBQ_0 zBQ_1 zBQ_2 zBQ_3 zBK3_0 zBK3_1 zBK3_2 zBK3_3 zBK4_0 zBK4_1
  refine Evt.ow_start (w0 := wa) (T := (true, [([], []), ([], []), ([0, 1], [0, 1]), ([], []), ([], []), ([3, 4, 2], [3, 4]), ([2, 5, 0, 1, 2], [2]), ([5, 6, 0, 1, 2, 3, 4, 5, 6], [5])])) (B := [0, 0, 3, 0, 0, 31, 63, 127]) 8 [(1, some 40), (4, some 43), (0, some 39), (3, some 42), (2, some 41), (5, some 44), (6, some 8), (7, some 9)] (by kernel_rfl) rfl (by kernel_rfl) (by kernel_rfl) (by kernel_rfl) (by repeat (first | (with_reducible first | exact Below.refl _ _ | apply below_alloc | apply pw_below_drewN | apply below_drew1) | exact Below.refl _ _)) ?_
  intro HT_ HW_ w_ hHeld
  iterate 4 (first | (refine Evt.ow_off (a' := ?_) HT_ rfl rfl (by rfl) (by kernel_rfl) (fun _ _ _ h => h) ?_ ?_; rotate_left; (· (try simp only [Act.put, List.setIfInBounds_toArray, List.set_cons_zero, List.set_cons_succ, i64_w, i32_w]); rfl)) | (refine Evt.ow_pure (a' := ?_) (v := ?_) HT_ rfl rfl rfl (by rfl) (by kernel_rfl) (fun _ _ _ h => h) ?_ ?_ ?_; rotate_left 2; (· intro w'; go_simp; with_reducible rfl); (· (try simp only [Act.put, List.setIfInBounds_toArray, List.set_cons_zero, List.set_cons_succ, i64_w, i32_w]); rfl)) | (refine Evt.ow_load (a' := ?_) (v := ?_) HT_ HW_ hHeld rfl rfl rfl (by rfl) (by kernel_rfl) (fun _ _ _ h => h) ?_ ?_ ?_; rotate_left 2; (· intro w' hS_; obtain ⟨s0, s1, s2, s3, s4, s5, s6, s7⟩ := KP.out w' hS_.out; go_simp; with_reducible rfl); (· (try simp only [Act.put, List.setIfInBounds_toArray, List.set_cons_zero, List.set_cons_succ, i64_w, i32_w]); rfl)))
  refine Evt.ow_call HT_ hHeld rfl rfl rfl (by kernel_rfl) Try.func27 (by kernel_rfl) rfl #[.agg #[.string a0, .slice A1 l1.length c1, .slice A2 l2.length c2, .string a3], .string s] (by rfl) (by (try simp only [List.map_toArray, List.map_cons, List.map_nil]); first | done | rfl | (simp only [List.length_drop, List.length_take]; rfl)) ?_
  (with_reducible refine (reach_any _ (R.out.below hHeld.out) O12.out.ok s).mono ?_)
  rintro e w_ ⟨v, rfl, ho, hb⟩
  obtain ⟨X1, x1_, rfl, N1⟩ := Ro.sliceS ho; clear ho
  refine ⟨_, rfl, hb, fun hHeld_ => ?_⟩
  clear hHeld hb
  have hHeld := hHeld_
  clear hHeld_
  refine Evt.ow_norm (a' := ?_) ?_ ?_
  rotate_left
  · simp only [Act.put, List.setIfInBounds_toArray, List.set_cons_zero, List.set_cons_succ, i64_w, i32_w]; rfl
  refine Evt.ow_call HT_ hHeld rfl rfl rfl (by kernel_rfl) Try.func27 (by kernel_rfl) rfl #[.agg #[.string ⟨#[]⟩, .slice AR10 lq.length cR10, .slice none 0 0, .string ⟨#[]⟩], .string s] (by rfl) (by (try simp only [List.map_toArray, List.map_cons, List.map_nil]); first | done | rfl | (simp only [List.length_drop, List.length_take]; rfl)) ?_
  (with_reducible refine (reach_q _ (RQ.out.below hHeld.out) OKq.out s).mono ?_)
  rintro e w_ ⟨v, rfl, ho, hb⟩
  obtain ⟨X2, x2_, rfl, N2⟩ := Ro.sliceS ho; clear ho; have n_ := Aside0.mk (N1.out.below hb); clear N1; have N1 := n_; clear n_
  refine ⟨_, rfl, hb, fun hHeld_ => ?_⟩
  clear hHeld hb
  have hHeld := hHeld_
  clear hHeld_
  refine Evt.ow_norm (a' := ?_) ?_ ?_
  rotate_left
  · simp only [Act.put, List.setIfInBounds_toArray, List.set_cons_zero, List.set_cons_succ, i64_w, i32_w]; rfl
  iterate 2 (first | (refine Evt.ow_off (a' := ?_) HT_ rfl rfl (by rfl) (by kernel_rfl) (fun _ _ _ h => h) ?_ ?_; rotate_left; (· (try simp only [Act.put, List.setIfInBounds_toArray, List.set_cons_zero, List.set_cons_succ, i64_w, i32_w]); rfl)) | (refine Evt.ow_pure (a' := ?_) (v := ?_) HT_ rfl rfl rfl (by rfl) (by kernel_rfl) (fun _ _ _ h => h) ?_ ?_ ?_; rotate_left 2; (· intro w'; go_simp; with_reducible rfl); (· (try simp only [Act.put, List.setIfInBounds_toArray, List.set_cons_zero, List.set_cons_succ, i64_w, i32_w]); rfl)) | (refine Evt.ow_load (a' := ?_) (v := ?_) HT_ HW_ hHeld rfl rfl rfl (by rfl) (by kernel_rfl) (fun _ _ _ h => h) ?_ ?_ ?_; rotate_left 2; (· intro w' hS_; obtain ⟨s0, s1, s2, s3, s4, s5, s6, s7⟩ := KP.out w' hS_.out; go_simp; with_reducible rfl); (· (try simp only [Act.put, List.setIfInBounds_toArray, List.set_cons_zero, List.set_cons_succ, i64_w, i32_w]); rfl)))
  refine Evt.ow_done HT_ (by kernel_rfl) ?_
  have hbx := hHeld.out
  rename World => w1
  clear hHeld HT_ HW_ KP
  have n_R := Aside0.mk (R.out.below hbx)
  have n_RQ := Aside0.mk (RQ.out.below hbx)
  have n_BQ := Aside0.mk (BQ.out.below hbx)
  have n_BK3 := Aside0.mk (BK3.out.below hbx)
  have n_BK4 := Aside0.mk (BK4.out.below hbx)
  have n_HB := Aside0.mk (below_step HB.out hbx)
  clear HB R RQ BQ BK3 BK4
  have R := n_R
  have RQ := n_RQ
  have BQ := n_BQ
  have BK3 := n_BK3
  have BK4 := n_BK4
  have HB := n_HB
  clear hbx n_R n_RQ n_BQ n_BK3 n_BK4 n_HB
  have zBQ_0 : w1.cell? ⟨gT12, 0, none⟩ = some (.string ⟨#[]⟩) := (blk_cell BQ.out.blk 0).trans rfl
  have zBQ_1 : w1.cell? ⟨gT12, 1, none⟩ = some (.slice AR10 lq.length cR10) := (blk_cell BQ.out.blk 1).trans rfl
  have zBQ_2 : w1.cell? ⟨gT12, 2, none⟩ = some (.slice none 0 0) := (blk_cell BQ.out.blk 2).trans rfl
  have zBQ_3 : w1.cell? ⟨gT12, 3, none⟩ = some (.string ⟨#[]⟩) := (blk_cell BQ.out.blk 3).trans rfl
  have zBK3_0 : w1.cell? ⟨g3, 0, none⟩ = some (.string a0) := (blk_cell BK3.out.blk 0).trans rfl
  have zBK3_1 : w1.cell? ⟨g3, 1, none⟩ = some (.slice A1 l1.length c1) := (blk_cell BK3.out.blk 1).trans rfl
  have zBK3_2 : w1.cell? ⟨g3, 2, none⟩ = some (.slice A2 l2.length c2) := (blk_cell BK3.out.blk 2).trans rfl
  have zBK3_3 : w1.cell? ⟨g3, 3, none⟩ = some (.string a3) := (blk_cell BK3.out.blk 3).trans rfl
  have zBK4_0 : w1.cell? ⟨g4, 0, none⟩ = some (.string t0) := (blk_cell BK4.out.blk 0).trans rfl
  have zBK4_1 : w1.cell? ⟨g4, 1, none⟩ = some (.string t1) := (blk_cell BK4.out.blk 1).trans rfl
  go_wp2
  have NA := N1
  have NB0 := N2
  have HW1 := Aside0.mk (below_step HW.out HB.out)
  have R9 := R
  have RQ9 := RQ
  have BQ9 := BQ
  have BK39 := BK3
  have BK49 := BK4
  clear N1 N2 HW HB R RQ BQ BK3 BK4 zBQ_0 zBQ_1 zBQ_2 zBQ_3 zBK3_0 zBK3_1 zBK3_2 zBK3_3 zBK4_0 zBK4_1
  go_loopg [47] (reachL (es l1) s).length (fun kq v47 wr => ∃ k : Nat, v47 = .int .i64 k ∧ Aside0 (k + kq = (reachL (es l1) s).length) ∧ Aside0 (Below w1.heap.size w1 wr))
  case atStart => exact ⟨0, rfl, ⟨by omega⟩, ⟨Below.refl _ _⟩⟩
  case round =>
    obtain ⟨k, rfl, hk, HS⟩ := hrel
    cases gk with
    | succ k1 =>
      have hkl : k < (reachL (es l1) s).length := by have := hk.out; omega
      have q0 : decide (k < (reachL (es l1) s).length) = true := decide_eq_true hkl
      have q1 : decide ((k : Int) < ((reachL (es l1) s).length : Int)) = true := decide_eq_true (by omega)
      obtain ⟨x, hx⟩ : ∃ x, Aside0 ((reachL (es l1) s)[k] = x) := ⟨_, ⟨rfl⟩⟩
      have CX := Aside0.mk (CI.out x (by rw [← hx.out]; exact List.getElem_mem hkl))
      obtain ⟨ad, rfl⟩ := Rw.someS NA.out (by omega)
      have x0 := Rw.atS (NA.out.below HS.out) hkl
      rw [hx.out] at x0
      have HB := Aside0.mk (Below.refl wr.heap.size wr)
      have NB := Aside0.mk (NB0.out.below HS.out)
      go_wp2_with (((with_reducible refine gate_callee (f := 26) rfl ?_); refine goesL_ (some 53) rfl rfl Try.func26 (by kernel_rfl) rfl #[.slice X2 (reachL (es lq) s).length x2_, .string x] rfl (by (try simp only [List.map_toArray, List.map_cons, List.map_nil]); first | done | rfl | (simp only [List.length_drop, List.length_take]; rfl)) ?_; (with_reducible refine (conS_b X2 x2_ _ x _ (NB.out.below (by repeat (first | (with_reducible first | exact Below.refl _ _ | apply below_alloc | apply pw_below_drewN | apply below_drew1) | exact Below.refl _ _))) LB.out CX.out).mono ?_); rintro e w1 ⟨rfl, hb⟩; have hbx : Below wr.heap.size wr w1 := below_step (by repeat (first | (with_reducible first | exact Below.refl _ _ | apply below_alloc | apply pw_below_drewN | apply below_drew1) | exact Below.refl _ _)) hb; have n_NB := Aside0.mk (NB.out.below hbx); have n_HB := Aside0.mk (below_step HB.out hbx); clear HB NB; have NB := n_NB; have HB := n_HB; clear hbx n_NB n_HB; clear hb; refine ⟨_, rfl, ?_⟩))
      go_roundg k1
      case measure => omega
      case rel => exact ⟨k + 1, by go_num, ⟨by have := hk.out; omega⟩, ⟨below_step HS.out HB.out⟩⟩
    | zero =>
      have q0 : decide (k < (reachL (es l1) s).length) = false := decide_eq_false (by have := hk.out; omega)
      have q1 : decide ((k : Int) < ((reachL (es l1) s).length : Int)) = false := decide_eq_false (by have := hk.out; omega)
      obtain ⟨tn, htn⟩ := nodes_rails (es lq)
      obtain ⟨NQ, HNQ⟩ : ∃ NQ, Aside0 (nodesL (es lq) = NQ) := ⟨_, ⟨rfl⟩⟩
      rw [HNQ.out] at htn CL NLq
      have LP0 : Aside0 (0 < NQ.length) := ⟨by rw [htn]; simp⟩
      have LP1 : Aside0 (1 < NQ.length) := ⟨by rw [htn]; simp⟩
      have X0 : Aside0 (NQ[0]'LP0.out = ⟨#[76]⟩) := ⟨by subst htn; rfl⟩
      have X1_ : Aside0 (NQ[1]'LP1.out = ⟨#[82]⟩) := ⟨by subst htn; rfl⟩
      clear htn
      have g0 : decide (NQ.length ≥ (nodesL (es l1)).length) = true := decide_eq_true CL.out
      have g1 : decide ((nodesL (es l1)).length ≤ NQ.length) = true := decide_eq_true CL.out
      have g2 : decide ((NQ.length : Int) ≥ 2) = true := decide_eq_true (by have := LP1.out; omega)
      have g3_ : decide (2 ≤ (NQ.length : Int)) = true := decide_eq_true (by have := LP1.out; omega)
      have g4_ : 0 < NQ.length := LP0.out
      have g5_ : 1 < NQ.length := LP1.out
      have HB := Aside0.mk (Below.refl wr.heap.size wr)
      have R := Aside0.mk (R9.out.below HS.out)
      have RQ := Aside0.mk (RQ9.out.below HS.out)
      have NB := Aside0.mk (NB0.out.below HS.out)
      have BQ : Aside0 (Bk wr gT12 25 #[.string ⟨#[]⟩, .slice AR10 lq.length cR10, .slice none 0 0, .string ⟨#[]⟩]) := Aside0.mk (BQ9.out.below HS.out)
      have BK3 : Aside0 (Bk wr g3 25 #[.string a0, .slice A1 l1.length c1, .slice A2 l2.length c2, .string a3]) := Aside0.mk (BK39.out.below HS.out)
      have BK4 : Aside0 (Bk wr g4 47 #[.string t0, .string t1]) := Aside0.mk (BK49.out.below HS.out)
      clear R9 RQ9 BQ9 BK39 BK49
      have zBQ_0 : wr.cell? ⟨gT12, 0, none⟩ = some (.string ⟨#[]⟩) := (blk_cell BQ.out.blk 0).trans rfl
      have zBQ_1 : wr.cell? ⟨gT12, 1, none⟩ = some (.slice AR10 lq.length cR10) := (blk_cell BQ.out.blk 1).trans rfl
      have zBQ_2 : wr.cell? ⟨gT12, 2, none⟩ = some (.slice none 0 0) := (blk_cell BQ.out.blk 2).trans rfl
      have zBQ_3 : wr.cell? ⟨gT12, 3, none⟩ = some (.string ⟨#[]⟩) := (blk_cell BQ.out.blk 3).trans rfl
      have zBK3_0 : wr.cell? ⟨g3, 0, none⟩ = some (.string a0) := (blk_cell BK3.out.blk 0).trans rfl
      have zBK3_1 : wr.cell? ⟨g3, 1, none⟩ = some (.slice A1 l1.length c1) := (blk_cell BK3.out.blk 1).trans rfl
      have zBK3_2 : wr.cell? ⟨g3, 2, none⟩ = some (.slice A2 l2.length c2) := (blk_cell BK3.out.blk 2).trans rfl
      have zBK3_3 : wr.cell? ⟨g3, 3, none⟩ = some (.string a3) := (blk_cell BK3.out.blk 3).trans rfl
      have zBK4_0 : wr.cell? ⟨g4, 0, none⟩ = some (.string t0) := (blk_cell BK4.out.blk 0).trans rfl
      have zBK4_1 : wr.cell? ⟨g4, 1, none⟩ = some (.string t1) := (blk_cell BK4.out.blk 1).trans rfl
      skip
      by_cases h0 : t0 ∈ reachL (es lq) s
      · have H0 := Aside0.mk (decide_eq_true h0)
        have H1 := Aside0.mk (decide_eq_true (CN.out h0))
        clear h0
        go_wp2_with (first | ((with_reducible refine gate_callee (f := 26) rfl ?_); refine goesL_ (some 59) rfl rfl Try.func26 (by kernel_rfl) rfl #[.slice X2 (reachL (es lq) s).length x2_, .string t0] rfl (by (try simp only [List.map_toArray, List.map_cons, List.map_nil]); first | done | rfl | (simp only [List.length_drop, List.length_take]; rfl)) ?_; (with_reducible refine (conS_b X2 x2_ _ t0 _ (NB.out.below (by repeat (first | (with_reducible first | exact Below.refl _ _ | apply below_alloc | apply pw_below_drewN | apply below_drew1) | exact Below.refl _ _))) LB.out H0.out).mono ?_); rintro e w1 ⟨rfl, hb⟩; have hbx : Below wr.heap.size wr w1 := below_step (by repeat (first | (with_reducible first | exact Below.refl _ _ | apply below_alloc | apply pw_below_drewN | apply below_drew1) | exact Below.refl _ _)) hb; clear zBQ_0 zBQ_1 zBQ_2 zBQ_3 zBK3_0 zBK3_1 zBK3_2 zBK3_3 zBK4_0 zBK4_1; have n_R := Aside0.mk (R.out.below hbx); have n_RQ := Aside0.mk (RQ.out.below hbx); have n_NB := Aside0.mk (NB.out.below hbx); have n_BQ := Aside0.mk (BQ.out.below hbx); have n_BK3 := Aside0.mk (BK3.out.below hbx); have n_BK4 := Aside0.mk (BK4.out.below hbx); have n_HB := Aside0.mk (below_step HB.out hbx); clear HB R RQ NB BQ BK3 BK4; have R := n_R; have RQ := n_RQ; have NB := n_NB; have BQ := n_BQ; have BK3 := n_BK3; have BK4 := n_BK4; have HB := n_HB; clear hbx n_R n_RQ n_NB n_BQ n_BK3 n_BK4 n_HB; clear hb; have zBQ_0 : w1.cell? ⟨gT12, 0, none⟩ = some (.string ⟨#[]⟩) := (blk_cell BQ.out.blk 0).trans rfl; have zBQ_1 : w1.cell? ⟨gT12, 1, none⟩ = some (.slice AR10 lq.length cR10) := (blk_cell BQ.out.blk 1).trans rfl; have zBQ_2 : w1.cell? ⟨gT12, 2, none⟩ = some (.slice none 0 0) := (blk_cell BQ.out.blk 2).trans rfl; have zBQ_3 : w1.cell? ⟨gT12, 3, none⟩ = some (.string ⟨#[]⟩) := (blk_cell BQ.out.blk 3).trans rfl; have zBK3_0 : w1.cell? ⟨g3, 0, none⟩ = some (.string a0) := (blk_cell BK3.out.blk 0).trans rfl; have zBK3_1 : w1.cell? ⟨g3, 1, none⟩ = some (.slice A1 l1.length c1) := (blk_cell BK3.out.blk 1).trans rfl; have zBK3_2 : w1.cell? ⟨g3, 2, none⟩ = some (.slice A2 l2.length c2) := (blk_cell BK3.out.blk 2).trans rfl; have zBK3_3 : w1.cell? ⟨g3, 3, none⟩ = some (.string a3) := (blk_cell BK3.out.blk 3).trans rfl; have zBK4_0 : w1.cell? ⟨g4, 0, none⟩ = some (.string t0) := (blk_cell BK4.out.blk 0).trans rfl; have zBK4_1 : w1.cell? ⟨g4, 1, none⟩ = some (.string t1) := (blk_cell BK4.out.blk 1).trans rfl; refine ⟨_, rfl, ?_⟩) | (go_at_call 26; (with_reducible refine (conS_b X2 x2_ _ t1 _ (NB.out.below (by repeat (first | (with_reducible first | exact Below.refl _ _ | apply below_alloc | apply pw_below_drewN | apply below_drew1) | exact Below.refl _ _))) LB.out H1.out).mono ?_); rintro e w2 ⟨rfl, hb⟩; have hbx : Below w1.heap.size w1 w2 := below_step (by repeat (first | (with_reducible first | exact Below.refl _ _ | apply below_alloc | apply pw_below_drewN | apply below_drew1) | exact Below.refl _ _)) hb; clear zBQ_0 zBQ_1 zBQ_2 zBQ_3 zBK3_0 zBK3_1 zBK3_2 zBK3_3 zBK4_0 zBK4_1; have n_R := Aside0.mk (R.out.below hbx); have n_RQ := Aside0.mk (RQ.out.below hbx); have n_NB := Aside0.mk (NB.out.below hbx); have n_BQ := Aside0.mk (BQ.out.below hbx); have n_BK3 := Aside0.mk (BK3.out.below hbx); have n_BK4 := Aside0.mk (BK4.out.below hbx); have n_HB := Aside0.mk (below_step HB.out hbx); clear HB R RQ NB BQ BK3 BK4; have R := n_R; have RQ := n_RQ; have NB := n_NB; have BQ := n_BQ; have BK3 := n_BK3; have BK4 := n_BK4; have HB := n_HB; clear hbx n_R n_RQ n_NB n_BQ n_BK3 n_BK4 n_HB; clear hb; have zBQ_0 : w2.cell? ⟨gT12, 0, none⟩ = some (.string ⟨#[]⟩) := (blk_cell BQ.out.blk 0).trans rfl; have zBQ_1 : w2.cell? ⟨gT12, 1, none⟩ = some (.slice AR10 lq.length cR10) := (blk_cell BQ.out.blk 1).trans rfl; have zBQ_2 : w2.cell? ⟨gT12, 2, none⟩ = some (.slice none 0 0) := (blk_cell BQ.out.blk 2).trans rfl; have zBQ_3 : w2.cell? ⟨gT12, 3, none⟩ = some (.string ⟨#[]⟩) := (blk_cell BQ.out.blk 3).trans rfl; have zBK3_0 : w2.cell? ⟨g3, 0, none⟩ = some (.string a0) := (blk_cell BK3.out.blk 0).trans rfl; have zBK3_1 : w2.cell? ⟨g3, 1, none⟩ = some (.slice A1 l1.length c1) := (blk_cell BK3.out.blk 1).trans rfl; have zBK3_2 : w2.cell? ⟨g3, 2, none⟩ = some (.slice A2 l2.length c2) := (blk_cell BK3.out.blk 2).trans rfl; have zBK3_3 : w2.cell? ⟨g3, 3, none⟩ = some (.string a3) := (blk_cell BK3.out.blk 3).trans rfl; have zBK4_0 : w2.cell? ⟨g4, 0, none⟩ = some (.string t0) := (blk_cell BK4.out.blk 0).trans rfl; have zBK4_1 : w2.cell? ⟨g4, 1, none⟩ = some (.string t1) := (blk_cell BK4.out.blk 1).trans rfl) | ((with_reducible refine gate_callee (f := 18) rfl ?_); refine goesL_ (some 68) rfl rfl Try.func18 (by kernel_rfl) rfl #[.agg #[.string ⟨#[]⟩, .slice AR10 lq.length cR10, .slice none 0 0, .string ⟨#[]⟩]] rfl (by (try simp only [List.map_toArray, List.map_cons, List.map_nil]); first | done | rfl | (simp only [List.length_drop, List.length_take]; rfl)) ?_; (with_reducible refine (nodes_q _ (RQ.out.below (by repeat (first | (with_reducible first | exact Below.refl _ _ | apply below_alloc | apply pw_below_drewN | apply below_drew1) | exact Below.refl _ _))) OKq.out).mono ?_); rintro e w3 ⟨v, rfl, ho, hb⟩; have hbx : Below w2.heap.size w2 w3 := below_step (by repeat (first | (with_reducible first | exact Below.refl _ _ | apply below_alloc | apply pw_below_drewN | apply below_drew1) | exact Below.refl _ _)) hb; obtain ⟨Y1, y1, rfl, hw_⟩ := Ro.sliceS ho; rw [HNQ.out] at hw_ ⊢; obtain ⟨ad, rfl⟩ := Rw.someS hw_.out LP0.out; clear zBQ_0 zBQ_1 zBQ_2 zBQ_3 zBK3_0 zBK3_1 zBK3_2 zBK3_3 zBK4_0 zBK4_1; have n_R := Aside0.mk (R.out.below hbx); have n_RQ := Aside0.mk (RQ.out.below hbx); have n_NB := Aside0.mk (NB.out.below hbx); have n_BQ := Aside0.mk (BQ.out.below hbx); have n_BK3 := Aside0.mk (BK3.out.below hbx); have n_BK4 := Aside0.mk (BK4.out.below hbx); have n_HB := Aside0.mk (below_step HB.out hbx); clear HB R RQ NB BQ BK3 BK4; have R := n_R; have RQ := n_RQ; have NB := n_NB; have BQ := n_BQ; have BK3 := n_BK3; have BK4 := n_BK4; have HB := n_HB; clear hbx n_R n_RQ n_NB n_BQ n_BK3 n_BK4 n_HB; have NW := Aside0.mk (hw_.out); clear hb; clear ho hw_; have zBQ_0 : w3.cell? ⟨gT12, 0, none⟩ = some (.string ⟨#[]⟩) := (blk_cell BQ.out.blk 0).trans rfl; have zBQ_1 : w3.cell? ⟨gT12, 1, none⟩ = some (.slice AR10 lq.length cR10) := (blk_cell BQ.out.blk 1).trans rfl; have zBQ_2 : w3.cell? ⟨gT12, 2, none⟩ = some (.slice none 0 0) := (blk_cell BQ.out.blk 2).trans rfl; have zBQ_3 : w3.cell? ⟨gT12, 3, none⟩ = some (.string ⟨#[]⟩) := (blk_cell BQ.out.blk 3).trans rfl; have zBK3_0 : w3.cell? ⟨g3, 0, none⟩ = some (.string a0) := (blk_cell BK3.out.blk 0).trans rfl; have zBK3_1 : w3.cell? ⟨g3, 1, none⟩ = some (.slice A1 l1.length c1) := (blk_cell BK3.out.blk 1).trans rfl; have zBK3_2 : w3.cell? ⟨g3, 2, none⟩ = some (.slice A2 l2.length c2) := (blk_cell BK3.out.blk 2).trans rfl; have zBK3_3 : w3.cell? ⟨g3, 3, none⟩ = some (.string a3) := (blk_cell BK3.out.blk 3).trans rfl; have zBK4_0 : w3.cell? ⟨g4, 0, none⟩ = some (.string t0) := (blk_cell BK4.out.blk 0).trans rfl; have zBK4_1 : w3.cell? ⟨g4, 1, none⟩ = some (.string t1) := (blk_cell BK4.out.blk 1).trans rfl; refine ⟨_, rfl, ?_⟩) | ((with_reducible refine gate_callee (f := 16) rfl ?_); refine goesL_ (some 69) rfl rfl Try.func16 (by kernel_rfl) rfl #[] rfl (by (try simp only [List.map_toArray, List.map_cons, List.map_nil]); first | done | rfl | (simp only [List.length_drop, List.length_take]; rfl)) ?_; (with_reducible refine (alive_any _).mono ?_); rintro e w4 ⟨rfl, hb⟩; have hbx : Below w3.heap.size w3 w4 := below_step (by repeat (first | (with_reducible first | exact Below.refl _ _ | apply below_alloc | apply pw_below_drewN | apply below_drew1) | exact Below.refl _ _)) hb; clear zBQ_0 zBQ_1 zBQ_2 zBQ_3 zBK3_0 zBK3_1 zBK3_2 zBK3_3 zBK4_0 zBK4_1; have n_R := Aside0.mk (R.out.below hbx); have n_RQ := Aside0.mk (RQ.out.below hbx); have n_NB := Aside0.mk (NB.out.below hbx); have n_BQ := Aside0.mk (BQ.out.below hbx); have n_BK3 := Aside0.mk (BK3.out.below hbx); have n_BK4 := Aside0.mk (BK4.out.below hbx); have n_NW := Aside0.mk (NW.out.below hbx); have n_HB := Aside0.mk (below_step HB.out hbx); clear HB R RQ NB BQ BK3 BK4 NW; have R := n_R; have RQ := n_RQ; have NB := n_NB; have BQ := n_BQ; have BK3 := n_BK3; have BK4 := n_BK4; have NW := n_NW; have HB := n_HB; clear hbx n_R n_RQ n_NB n_BQ n_BK3 n_BK4 n_NW n_HB; clear hb; have zBQ_0 : w4.cell? ⟨gT12, 0, none⟩ = some (.string ⟨#[]⟩) := (blk_cell BQ.out.blk 0).trans rfl; have zBQ_1 : w4.cell? ⟨gT12, 1, none⟩ = some (.slice AR10 lq.length cR10) := (blk_cell BQ.out.blk 1).trans rfl; have zBQ_2 : w4.cell? ⟨gT12, 2, none⟩ = some (.slice none 0 0) := (blk_cell BQ.out.blk 2).trans rfl; have zBQ_3 : w4.cell? ⟨gT12, 3, none⟩ = some (.string ⟨#[]⟩) := (blk_cell BQ.out.blk 3).trans rfl; have zBK3_0 : w4.cell? ⟨g3, 0, none⟩ = some (.string a0) := (blk_cell BK3.out.blk 0).trans rfl; have zBK3_1 : w4.cell? ⟨g3, 1, none⟩ = some (.slice A1 l1.length c1) := (blk_cell BK3.out.blk 1).trans rfl; have zBK3_2 : w4.cell? ⟨g3, 2, none⟩ = some (.slice A2 l2.length c2) := (blk_cell BK3.out.blk 2).trans rfl; have zBK3_3 : w4.cell? ⟨g3, 3, none⟩ = some (.string a3) := (blk_cell BK3.out.blk 3).trans rfl; have zBK4_0 : w4.cell? ⟨g4, 0, none⟩ = some (.string t0) := (blk_cell BK4.out.blk 0).trans rfl; have zBK4_1 : w4.cell? ⟨g4, 1, none⟩ = some (.string t1) := (blk_cell BK4.out.blk 1).trans rfl; refine ⟨_, rfl, ?_⟩) | (go_at_call 18; (with_reducible refine (nodes_any _ (R.out.below (by repeat (first | (with_reducible first | exact Below.refl _ _ | apply below_alloc | apply pw_below_drewN | apply below_drew1) | exact Below.refl _ _))) O12.out.ok).mono ?_); rintro e w5 ⟨v, rfl, ho, hb⟩; have hbx : Below w4.heap.size w4 w5 := below_step (by repeat (first | (with_reducible first | exact Below.refl _ _ | apply below_alloc | apply pw_below_drewN | apply below_drew1) | exact Below.refl _ _)) hb; obtain ⟨Y2, y2, rfl, hw_⟩ := Ro.sliceS ho; clear zBQ_0 zBQ_1 zBQ_2 zBQ_3 zBK3_0 zBK3_1 zBK3_2 zBK3_3 zBK4_0 zBK4_1; have n_R := Aside0.mk (R.out.below hbx); have n_RQ := Aside0.mk (RQ.out.below hbx); have n_NB := Aside0.mk (NB.out.below hbx); have n_BQ := Aside0.mk (BQ.out.below hbx); have n_BK3 := Aside0.mk (BK3.out.below hbx); have n_BK4 := Aside0.mk (BK4.out.below hbx); have n_NW := Aside0.mk (NW.out.below hbx); have n_HB := Aside0.mk (below_step HB.out hbx); clear HB R RQ NB BQ BK3 BK4 NW; have R := n_R; have RQ := n_RQ; have NB := n_NB; have BQ := n_BQ; have BK3 := n_BK3; have BK4 := n_BK4; have NW := n_NW; have HB := n_HB; clear hbx n_R n_RQ n_NB n_BQ n_BK3 n_BK4 n_NW n_HB; have NV := Aside0.mk (hw_.out); clear hb; clear ho hw_; have x0 := Rw.at0 NW.out LP0.out; have x1 := Rw.at1 NW.out LP1.out; rw [X0.out] at x0; rw [X1_.out] at x1; have zBQ_0 : w5.cell? ⟨gT12, 0, none⟩ = some (.string ⟨#[]⟩) := (blk_cell BQ.out.blk 0).trans rfl; have zBQ_1 : w5.cell? ⟨gT12, 1, none⟩ = some (.slice AR10 lq.length cR10) := (blk_cell BQ.out.blk 1).trans rfl; have zBQ_2 : w5.cell? ⟨gT12, 2, none⟩ = some (.slice none 0 0) := (blk_cell BQ.out.blk 2).trans rfl; have zBQ_3 : w5.cell? ⟨gT12, 3, none⟩ = some (.string ⟨#[]⟩) := (blk_cell BQ.out.blk 3).trans rfl; have zBK3_0 : w5.cell? ⟨g3, 0, none⟩ = some (.string a0) := (blk_cell BK3.out.blk 0).trans rfl; have zBK3_1 : w5.cell? ⟨g3, 1, none⟩ = some (.slice A1 l1.length c1) := (blk_cell BK3.out.blk 1).trans rfl; have zBK3_2 : w5.cell? ⟨g3, 2, none⟩ = some (.slice A2 l2.length c2) := (blk_cell BK3.out.blk 2).trans rfl; have zBK3_3 : w5.cell? ⟨g3, 3, none⟩ = some (.string a3) := (blk_cell BK3.out.blk 3).trans rfl; have zBK4_0 : w5.cell? ⟨g4, 0, none⟩ = some (.string t0) := (blk_cell BK4.out.blk 0).trans rfl; have zBK4_1 : w5.cell? ⟨g4, 1, none⟩ = some (.string t1) := (blk_cell BK4.out.blk 1).trans rfl))
        go_ret
        exact ⟨rfl, below_step HW1.out (below_step HS.out HB.out)⟩
      · skip
        skip
        have H0 := Aside0.mk (decide_eq_false h0)
        clear h0
        go_wp2_with (first | ((with_reducible refine gate_callee (f := 26) rfl ?_); refine goesL_ (some 59) rfl rfl Try.func26 (by kernel_rfl) rfl #[.slice X2 (reachL (es lq) s).length x2_, .string t0] rfl (by (try simp only [List.map_toArray, List.map_cons, List.map_nil]); first | done | rfl | (simp only [List.length_drop, List.length_take]; rfl)) ?_; (with_reducible refine (conS_b X2 x2_ _ t0 _ (NB.out.below (by repeat (first | (with_reducible first | exact Below.refl _ _ | apply below_alloc | apply pw_below_drewN | apply below_drew1) | exact Below.refl _ _))) LB.out H0.out).mono ?_); rintro e w1 ⟨rfl, hb⟩; have hbx : Below wr.heap.size wr w1 := below_step (by repeat (first | (with_reducible first | exact Below.refl _ _ | apply below_alloc | apply pw_below_drewN | apply below_drew1) | exact Below.refl _ _)) hb; clear zBQ_0 zBQ_1 zBQ_2 zBQ_3 zBK3_0 zBK3_1 zBK3_2 zBK3_3 zBK4_0 zBK4_1; have n_R := Aside0.mk (R.out.below hbx); have n_RQ := Aside0.mk (RQ.out.below hbx); have n_NB := Aside0.mk (NB.out.below hbx); have n_BQ := Aside0.mk (BQ.out.below hbx); have n_BK3 := Aside0.mk (BK3.out.below hbx); have n_BK4 := Aside0.mk (BK4.out.below hbx); have n_HB := Aside0.mk (below_step HB.out hbx); clear HB R RQ NB BQ BK3 BK4; have R := n_R; have RQ := n_RQ; have NB := n_NB; have BQ := n_BQ; have BK3 := n_BK3; have BK4 := n_BK4; have HB := n_HB; clear hbx n_R n_RQ n_NB n_BQ n_BK3 n_BK4 n_HB; clear hb; have zBQ_0 : w1.cell? ⟨gT12, 0, none⟩ = some (.string ⟨#[]⟩) := (blk_cell BQ.out.blk 0).trans rfl; have zBQ_1 : w1.cell? ⟨gT12, 1, none⟩ = some (.slice AR10 lq.length cR10) := (blk_cell BQ.out.blk 1).trans rfl; have zBQ_2 : w1.cell? ⟨gT12, 2, none⟩ = some (.slice none 0 0) := (blk_cell BQ.out.blk 2).trans rfl; have zBQ_3 : w1.cell? ⟨gT12, 3, none⟩ = some (.string ⟨#[]⟩) := (blk_cell BQ.out.blk 3).trans rfl; have zBK3_0 : w1.cell? ⟨g3, 0, none⟩ = some (.string a0) := (blk_cell BK3.out.blk 0).trans rfl; have zBK3_1 : w1.cell? ⟨g3, 1, none⟩ = some (.slice A1 l1.length c1) := (blk_cell BK3.out.blk 1).trans rfl; have zBK3_2 : w1.cell? ⟨g3, 2, none⟩ = some (.slice A2 l2.length c2) := (blk_cell BK3.out.blk 2).trans rfl; have zBK3_3 : w1.cell? ⟨g3, 3, none⟩ = some (.string a3) := (blk_cell BK3.out.blk 3).trans rfl; have zBK4_0 : w1.cell? ⟨g4, 0, none⟩ = some (.string t0) := (blk_cell BK4.out.blk 0).trans rfl; have zBK4_1 : w1.cell? ⟨g4, 1, none⟩ = some (.string t1) := (blk_cell BK4.out.blk 1).trans rfl; refine ⟨_, rfl, ?_⟩) | ((with_reducible refine gate_callee (f := 18) rfl ?_); refine goesL_ (some 68) rfl rfl Try.func18 (by kernel_rfl) rfl #[.agg #[.string ⟨#[]⟩, .slice AR10 lq.length cR10, .slice none 0 0, .string ⟨#[]⟩]] rfl (by (try simp only [List.map_toArray, List.map_cons, List.map_nil]); first | done | rfl | (simp only [List.length_drop, List.length_take]; rfl)) ?_; (with_reducible refine (nodes_q _ (RQ.out.below (by repeat (first | (with_reducible first | exact Below.refl _ _ | apply below_alloc | apply pw_below_drewN | apply below_drew1) | exact Below.refl _ _))) OKq.out).mono ?_); rintro e w2 ⟨v, rfl, ho, hb⟩; have hbx : Below w1.heap.size w1 w2 := below_step (by repeat (first | (with_reducible first | exact Below.refl _ _ | apply below_alloc | apply pw_below_drewN | apply below_drew1) | exact Below.refl _ _)) hb; obtain ⟨Y1, y1, rfl, hw_⟩ := Ro.sliceS ho; rw [HNQ.out] at hw_ ⊢; obtain ⟨ad, rfl⟩ := Rw.someS hw_.out LP0.out; clear zBQ_0 zBQ_1 zBQ_2 zBQ_3 zBK3_0 zBK3_1 zBK3_2 zBK3_3 zBK4_0 zBK4_1; have n_R := Aside0.mk (R.out.below hbx); have n_RQ := Aside0.mk (RQ.out.below hbx); have n_NB := Aside0.mk (NB.out.below hbx); have n_BQ := Aside0.mk (BQ.out.below hbx); have n_BK3 := Aside0.mk (BK3.out.below hbx); have n_BK4 := Aside0.mk (BK4.out.below hbx); have n_HB := Aside0.mk (below_step HB.out hbx); clear HB R RQ NB BQ BK3 BK4; have R := n_R; have RQ := n_RQ; have NB := n_NB; have BQ := n_BQ; have BK3 := n_BK3; have BK4 := n_BK4; have HB := n_HB; clear hbx n_R n_RQ n_NB n_BQ n_BK3 n_BK4 n_HB; have NW := Aside0.mk (hw_.out); clear hb; clear ho hw_; have zBQ_0 : w2.cell? ⟨gT12, 0, none⟩ = some (.string ⟨#[]⟩) := (blk_cell BQ.out.blk 0).trans rfl; have zBQ_1 : w2.cell? ⟨gT12, 1, none⟩ = some (.slice AR10 lq.length cR10) := (blk_cell BQ.out.blk 1).trans rfl; have zBQ_2 : w2.cell? ⟨gT12, 2, none⟩ = some (.slice none 0 0) := (blk_cell BQ.out.blk 2).trans rfl; have zBQ_3 : w2.cell? ⟨gT12, 3, none⟩ = some (.string ⟨#[]⟩) := (blk_cell BQ.out.blk 3).trans rfl; have zBK3_0 : w2.cell? ⟨g3, 0, none⟩ = some (.string a0) := (blk_cell BK3.out.blk 0).trans rfl; have zBK3_1 : w2.cell? ⟨g3, 1, none⟩ = some (.slice A1 l1.length c1) := (blk_cell BK3.out.blk 1).trans rfl; have zBK3_2 : w2.cell? ⟨g3, 2, none⟩ = some (.slice A2 l2.length c2) := (blk_cell BK3.out.blk 2).trans rfl; have zBK3_3 : w2.cell? ⟨g3, 3, none⟩ = some (.string a3) := (blk_cell BK3.out.blk 3).trans rfl; have zBK4_0 : w2.cell? ⟨g4, 0, none⟩ = some (.string t0) := (blk_cell BK4.out.blk 0).trans rfl; have zBK4_1 : w2.cell? ⟨g4, 1, none⟩ = some (.string t1) := (blk_cell BK4.out.blk 1).trans rfl; refine ⟨_, rfl, ?_⟩) | ((with_reducible refine gate_callee (f := 16) rfl ?_); refine goesL_ (some 69) rfl rfl Try.func16 (by kernel_rfl) rfl #[] rfl (by (try simp only [List.map_toArray, List.map_cons, List.map_nil]); first | done | rfl | (simp only [List.length_drop, List.length_take]; rfl)) ?_; (with_reducible refine (alive_any _).mono ?_); rintro e w3 ⟨rfl, hb⟩; have hbx : Below w2.heap.size w2 w3 := below_step (by repeat (first | (with_reducible first | exact Below.refl _ _ | apply below_alloc | apply pw_below_drewN | apply below_drew1) | exact Below.refl _ _)) hb; clear zBQ_0 zBQ_1 zBQ_2 zBQ_3 zBK3_0 zBK3_1 zBK3_2 zBK3_3 zBK4_0 zBK4_1; have n_R := Aside0.mk (R.out.below hbx); have n_RQ := Aside0.mk (RQ.out.below hbx); have n_NB := Aside0.mk (NB.out.below hbx); have n_BQ := Aside0.mk (BQ.out.below hbx); have n_BK3 := Aside0.mk (BK3.out.below hbx); have n_BK4 := Aside0.mk (BK4.out.below hbx); have n_NW := Aside0.mk (NW.out.below hbx); have n_HB := Aside0.mk (below_step HB.out hbx); clear HB R RQ NB BQ BK3 BK4 NW; have R := n_R; have RQ := n_RQ; have NB := n_NB; have BQ := n_BQ; have BK3 := n_BK3; have BK4 := n_BK4; have NW := n_NW; have HB := n_HB; clear hbx n_R n_RQ n_NB n_BQ n_BK3 n_BK4 n_NW n_HB; clear hb; have zBQ_0 : w3.cell? ⟨gT12, 0, none⟩ = some (.string ⟨#[]⟩) := (blk_cell BQ.out.blk 0).trans rfl; have zBQ_1 : w3.cell? ⟨gT12, 1, none⟩ = some (.slice AR10 lq.length cR10) := (blk_cell BQ.out.blk 1).trans rfl; have zBQ_2 : w3.cell? ⟨gT12, 2, none⟩ = some (.slice none 0 0) := (blk_cell BQ.out.blk 2).trans rfl; have zBQ_3 : w3.cell? ⟨gT12, 3, none⟩ = some (.string ⟨#[]⟩) := (blk_cell BQ.out.blk 3).trans rfl; have zBK3_0 : w3.cell? ⟨g3, 0, none⟩ = some (.string a0) := (blk_cell BK3.out.blk 0).trans rfl; have zBK3_1 : w3.cell? ⟨g3, 1, none⟩ = some (.slice A1 l1.length c1) := (blk_cell BK3.out.blk 1).trans rfl; have zBK3_2 : w3.cell? ⟨g3, 2, none⟩ = some (.slice A2 l2.length c2) := (blk_cell BK3.out.blk 2).trans rfl; have zBK3_3 : w3.cell? ⟨g3, 3, none⟩ = some (.string a3) := (blk_cell BK3.out.blk 3).trans rfl; have zBK4_0 : w3.cell? ⟨g4, 0, none⟩ = some (.string t0) := (blk_cell BK4.out.blk 0).trans rfl; have zBK4_1 : w3.cell? ⟨g4, 1, none⟩ = some (.string t1) := (blk_cell BK4.out.blk 1).trans rfl; refine ⟨_, rfl, ?_⟩) | (go_at_call 18; (with_reducible refine (nodes_any _ (R.out.below (by repeat (first | (with_reducible first | exact Below.refl _ _ | apply below_alloc | apply pw_below_drewN | apply below_drew1) | exact Below.refl _ _))) O12.out.ok).mono ?_); rintro e w4 ⟨v, rfl, ho, hb⟩; have hbx : Below w3.heap.size w3 w4 := below_step (by repeat (first | (with_reducible first | exact Below.refl _ _ | apply below_alloc | apply pw_below_drewN | apply below_drew1) | exact Below.refl _ _)) hb; obtain ⟨Y2, y2, rfl, hw_⟩ := Ro.sliceS ho; clear zBQ_0 zBQ_1 zBQ_2 zBQ_3 zBK3_0 zBK3_1 zBK3_2 zBK3_3 zBK4_0 zBK4_1; have n_R := Aside0.mk (R.out.below hbx); have n_RQ := Aside0.mk (RQ.out.below hbx); have n_NB := Aside0.mk (NB.out.below hbx); have n_BQ := Aside0.mk (BQ.out.below hbx); have n_BK3 := Aside0.mk (BK3.out.below hbx); have n_BK4 := Aside0.mk (BK4.out.below hbx); have n_NW := Aside0.mk (NW.out.below hbx); have n_HB := Aside0.mk (below_step HB.out hbx); clear HB R RQ NB BQ BK3 BK4 NW; have R := n_R; have RQ := n_RQ; have NB := n_NB; have BQ := n_BQ; have BK3 := n_BK3; have BK4 := n_BK4; have NW := n_NW; have HB := n_HB; clear hbx n_R n_RQ n_NB n_BQ n_BK3 n_BK4 n_NW n_HB; have NV := Aside0.mk (hw_.out); clear hb; clear ho hw_; have x0 := Rw.at0 NW.out LP0.out; have x1 := Rw.at1 NW.out LP1.out; rw [X0.out] at x0; rw [X1_.out] at x1; have zBQ_0 : w4.cell? ⟨gT12, 0, none⟩ = some (.string ⟨#[]⟩) := (blk_cell BQ.out.blk 0).trans rfl; have zBQ_1 : w4.cell? ⟨gT12, 1, none⟩ = some (.slice AR10 lq.length cR10) := (blk_cell BQ.out.blk 1).trans rfl; have zBQ_2 : w4.cell? ⟨gT12, 2, none⟩ = some (.slice none 0 0) := (blk_cell BQ.out.blk 2).trans rfl; have zBQ_3 : w4.cell? ⟨gT12, 3, none⟩ = some (.string ⟨#[]⟩) := (blk_cell BQ.out.blk 3).trans rfl; have zBK3_0 : w4.cell? ⟨g3, 0, none⟩ = some (.string a0) := (blk_cell BK3.out.blk 0).trans rfl; have zBK3_1 : w4.cell? ⟨g3, 1, none⟩ = some (.slice A1 l1.length c1) := (blk_cell BK3.out.blk 1).trans rfl; have zBK3_2 : w4.cell? ⟨g3, 2, none⟩ = some (.slice A2 l2.length c2) := (blk_cell BK3.out.blk 2).trans rfl; have zBK3_3 : w4.cell? ⟨g3, 3, none⟩ = some (.string a3) := (blk_cell BK3.out.blk 3).trans rfl; have zBK4_0 : w4.cell? ⟨g4, 0, none⟩ = some (.string t0) := (blk_cell BK4.out.blk 0).trans rfl; have zBK4_1 : w4.cell? ⟨g4, 1, none⟩ = some (.string t1) := (blk_cell BK4.out.blk 1).trans rfl))
        go_ret
        exact ⟨rfl, below_step HW1.out (below_step HS.out HB.out)⟩
set_option maxHeartbeats 2000000 in
theorem add_big (w : World) (h : Rg w A1 c1 l1 A2 c2 l2) (hz : SzR l1) (hb : ¬ tl (es l1) ≤ 0) : Calls Try.prog 5 #[.agg #[.string a0, .slice A1 l1.length c1, .slice A2 l2.length c2, .string a3], .agg #[.string t0, .string t1], .string s] w fun x w' => x = .returned (.bool true) ∧ Below w.heap.size w w' := by
  have SZ := Aside0.mk hz
  have TL := Aside0.mk (tl_1 hb)
  have HB := Aside0.mk (Below.refl w.heap.size w)
  have R := Aside0.mk (h)
  clear h hz hb
  go_enter Try.func5, Try.ntmps5
  go_wp2_with (first | ((with_reducible refine gate_dst (N := 3) rfl ?_); refine box_event ?hg (N := 3) ?hd (cs := #[.string a0, .slice A1 l1.length c1, .slice A2 l2.length c2, .string a3]) (t := 25) ?hr ?_; (case hd => rfl); (case hg => rfl); (case hr => first | (go_simp; done) | (go_simp; rfl)); intro g3 hg w1 hbox hb; have hbx : Below w.heap.size w w1 := below_step (by repeat (first | (with_reducible first | exact Below.refl _ _ | apply below_alloc | apply pw_below_drewN | apply below_drew1) | exact Below.refl _ _)) hb; have n_R := Aside0.mk (R.out.below hbx); have n_HB := Aside0.mk (below_step HB.out hbx); clear HB R; have R := n_R; have HB := n_HB; clear hbx n_R n_HB; have BK3 := Aside0.mk (Bk.mk (hbox : Blk w1 g3 25 #[.string a0, .slice A1 l1.length c1, .slice A2 l2.length c2, .string a3])); clear hbox hg hb; have zBK3_0 : w1.cell? ⟨g3, 0, none⟩ = some (.string a0) := (blk_cell BK3.out.blk 0).trans rfl; have zBK3_1 : w1.cell? ⟨g3, 1, none⟩ = some (.slice A1 l1.length c1) := (blk_cell BK3.out.blk 1).trans rfl; have zBK3_2 : w1.cell? ⟨g3, 2, none⟩ = some (.slice A2 l2.length c2) := (blk_cell BK3.out.blk 2).trans rfl; have zBK3_3 : w1.cell? ⟨g3, 3, none⟩ = some (.string a3) := (blk_cell BK3.out.blk 3).trans rfl) | ((with_reducible refine gate_dst (N := 4) rfl ?_); refine box_event ?hg (N := 4) ?hd (cs := #[.string t0, .string t1]) (t := 47) ?hr ?_; (case hd => rfl); (case hg => rfl); (case hr => first | (go_simp; done) | (go_simp; rfl)); intro g4 hg w2 hbox hb; have hbx : Below w1.heap.size w1 w2 := below_step (by repeat (first | (with_reducible first | exact Below.refl _ _ | apply below_alloc | apply pw_below_drewN | apply below_drew1) | exact Below.refl _ _)) hb; clear zBK3_0 zBK3_1 zBK3_2 zBK3_3; have n_R := Aside0.mk (R.out.below hbx); have n_BK3 := Aside0.mk (BK3.out.below hbx); have n_HB := Aside0.mk (below_step HB.out hbx); clear HB R BK3; have R := n_R; have BK3 := n_BK3; have HB := n_HB; clear hbx n_R n_BK3 n_HB; have BK4 := Aside0.mk (Bk.mk (hbox : Blk w2 g4 47 #[.string t0, .string t1])); clear hbox hg hb; have zBK3_0 : w2.cell? ⟨g3, 0, none⟩ = some (.string a0) := (blk_cell BK3.out.blk 0).trans rfl; have zBK3_1 : w2.cell? ⟨g3, 1, none⟩ = some (.slice A1 l1.length c1) := (blk_cell BK3.out.blk 1).trans rfl; have zBK3_2 : w2.cell? ⟨g3, 2, none⟩ = some (.slice A2 l2.length c2) := (blk_cell BK3.out.blk 2).trans rfl; have zBK3_3 : w2.cell? ⟨g3, 3, none⟩ = some (.string a3) := (blk_cell BK3.out.blk 3).trans rfl; have zBK4_0 : w2.cell? ⟨g4, 0, none⟩ = some (.string t0) := (blk_cell BK4.out.blk 0).trans rfl; have zBK4_1 : w2.cell? ⟨g4, 1, none⟩ = some (.string t1) := (blk_cell BK4.out.blk 1).trans rfl) | ((with_reducible refine gate_callee (f := 15) rfl ?_); refine goesL_ (some 14) rfl rfl Try.func15 (by kernel_rfl) rfl #[.agg #[.string a0, .slice A1 l1.length c1, .slice A2 l2.length c2, .string a3]] rfl (by (try simp only [List.map_toArray, List.map_cons, List.map_nil]); first | done | rfl | (simp only [List.length_drop, List.length_take]; rfl)) ?_; (with_reducible refine (Pe.tl_any _ (R.out.below (by repeat (first | (with_reducible first | exact Below.refl _ _ | apply below_alloc | apply pw_below_drewN | apply below_drew1) | exact Below.refl _ _))) SZ.out TL.out).mono ?_); rintro e w3 ⟨rfl, hb⟩; have hbx : Below w2.heap.size w2 w3 := below_step (by repeat (first | (with_reducible first | exact Below.refl _ _ | apply below_alloc | apply pw_below_drewN | apply below_drew1) | exact Below.refl _ _)) hb; clear zBK3_0 zBK3_1 zBK3_2 zBK3_3 zBK4_0 zBK4_1; have n_R := Aside0.mk (R.out.below hbx); have n_BK3 := Aside0.mk (BK3.out.below hbx); have n_BK4 := Aside0.mk (BK4.out.below hbx); have n_HB := Aside0.mk (below_step HB.out hbx); clear HB R BK3 BK4; have R := n_R; have BK3 := n_BK3; have BK4 := n_BK4; have HB := n_HB; clear hbx n_R n_BK3 n_BK4 n_HB; clear hb; have zBK3_0 : w3.cell? ⟨g3, 0, none⟩ = some (.string a0) := (blk_cell BK3.out.blk 0).trans rfl; have zBK3_1 : w3.cell? ⟨g3, 1, none⟩ = some (.slice A1 l1.length c1) := (blk_cell BK3.out.blk 1).trans rfl; have zBK3_2 : w3.cell? ⟨g3, 2, none⟩ = some (.slice A2 l2.length c2) := (blk_cell BK3.out.blk 2).trans rfl; have zBK3_3 : w3.cell? ⟨g3, 3, none⟩ = some (.string a3) := (blk_cell BK3.out.blk 3).trans rfl; have zBK4_0 : w3.cell? ⟨g4, 0, none⟩ = some (.string t0) := (blk_cell BK4.out.blk 0).trans rfl; have zBK4_1 : w3.cell? ⟨g4, 1, none⟩ = some (.string t1) := (blk_cell BK4.out.blk 1).trans rfl; refine ⟨_, rfl, ?_⟩) | ((with_reducible refine gate_callee (f := 16) rfl ?_); refine goesL_ (some 26) rfl rfl Try.func16 (by kernel_rfl) rfl #[] rfl (by (try simp only [List.map_toArray, List.map_cons, List.map_nil]); first | done | rfl | (simp only [List.length_drop, List.length_take]; rfl)) ?_; (with_reducible refine (alive_any _).mono ?_); rintro e w4 ⟨rfl, hb⟩; have hbx : Below w3.heap.size w3 w4 := below_step (by repeat (first | (with_reducible first | exact Below.refl _ _ | apply below_alloc | apply pw_below_drewN | apply below_drew1) | exact Below.refl _ _)) hb; clear zBK3_0 zBK3_1 zBK3_2 zBK3_3 zBK4_0 zBK4_1; have n_R := Aside0.mk (R.out.below hbx); have n_BK3 := Aside0.mk (BK3.out.below hbx); have n_BK4 := Aside0.mk (BK4.out.below hbx); have n_HB := Aside0.mk (below_step HB.out hbx); clear HB R BK3 BK4; have R := n_R; have BK3 := n_BK3; have BK4 := n_BK4; have HB := n_HB; clear hbx n_R n_BK3 n_BK4 n_HB; clear hb; have zBK3_0 : w4.cell? ⟨g3, 0, none⟩ = some (.string a0) := (blk_cell BK3.out.blk 0).trans rfl; have zBK3_1 : w4.cell? ⟨g3, 1, none⟩ = some (.slice A1 l1.length c1) := (blk_cell BK3.out.blk 1).trans rfl; have zBK3_2 : w4.cell? ⟨g3, 2, none⟩ = some (.slice A2 l2.length c2) := (blk_cell BK3.out.blk 2).trans rfl; have zBK3_3 : w4.cell? ⟨g3, 3, none⟩ = some (.string a3) := (blk_cell BK3.out.blk 3).trans rfl; have zBK4_0 : w4.cell? ⟨g4, 0, none⟩ = some (.string t0) := (blk_cell BK4.out.blk 0).trans rfl; have zBK4_1 : w4.cell? ⟨g4, 1, none⟩ = some (.string t1) := (blk_cell BK4.out.blk 1).trans rfl; refine ⟨_, rfl, ?_⟩))
  go_ret
  exact ⟨rfl, HB.out⟩
set_option maxHeartbeats 2000000 in
theorem add_long (w : World) (h : Rg w A1 c1 l1 A2 c2 l2) (hz : SzR l1) (hb : tl (es l1) ≤ 0) (ht : ¬ t0.size + t1.size ≤ 100) (h0 : t0.size ≤ reachBytes) (h1 : t1.size ≤ reachBytes) : Calls Try.prog 5 #[.agg #[.string a0, .slice A1 l1.length c1, .slice A2 l2.length c2, .string a3], .agg #[.string t0, .string t1], .string s] w fun x w' => x = .returned (.bool true) ∧ Below w.heap.size w w' := by
  have SZ := Aside0.mk hz
  have TL := Aside0.mk (tl_0 hb)
  unfold reachBytes at h0 h1
  have s0 : wrap64 ((t0.size : Int) + (t1.size : Int)) = (t0.size : Int) + (t1.size : Int) := by unfold wrap64; omega
  have s1 : decide ((t0.size : Int) + (t1.size : Int) > 100) = true := decide_eq_true (by omega)
  have s2 : decide (100 < (t0.size : Int) + (t1.size : Int)) = true := decide_eq_true (by omega)
  have HB := Aside0.mk (Below.refl w.heap.size w)
  have R := Aside0.mk (h)
  clear h hz hb
  go_enter Try.func5, Try.ntmps5
  go_wp2_with (first | ((with_reducible refine gate_dst (N := 3) rfl ?_); refine box_event ?hg (N := 3) ?hd (cs := #[.string a0, .slice A1 l1.length c1, .slice A2 l2.length c2, .string a3]) (t := 25) ?hr ?_; (case hd => rfl); (case hg => rfl); (case hr => first | (go_simp; done) | (go_simp; rfl)); intro g3 hg w1 hbox hb; have hbx : Below w.heap.size w w1 := below_step (by repeat (first | (with_reducible first | exact Below.refl _ _ | apply below_alloc | apply pw_below_drewN | apply below_drew1) | exact Below.refl _ _)) hb; have n_R := Aside0.mk (R.out.below hbx); have n_HB := Aside0.mk (below_step HB.out hbx); clear HB R; have R := n_R; have HB := n_HB; clear hbx n_R n_HB; have BK3 := Aside0.mk (Bk.mk (hbox : Blk w1 g3 25 #[.string a0, .slice A1 l1.length c1, .slice A2 l2.length c2, .string a3])); clear hbox hg hb; have zBK3_0 : w1.cell? ⟨g3, 0, none⟩ = some (.string a0) := (blk_cell BK3.out.blk 0).trans rfl; have zBK3_1 : w1.cell? ⟨g3, 1, none⟩ = some (.slice A1 l1.length c1) := (blk_cell BK3.out.blk 1).trans rfl; have zBK3_2 : w1.cell? ⟨g3, 2, none⟩ = some (.slice A2 l2.length c2) := (blk_cell BK3.out.blk 2).trans rfl; have zBK3_3 : w1.cell? ⟨g3, 3, none⟩ = some (.string a3) := (blk_cell BK3.out.blk 3).trans rfl) | ((with_reducible refine gate_dst (N := 4) rfl ?_); refine box_event ?hg (N := 4) ?hd (cs := #[.string t0, .string t1]) (t := 47) ?hr ?_; (case hd => rfl); (case hg => rfl); (case hr => first | (go_simp; done) | (go_simp; rfl)); intro g4 hg w2 hbox hb; have hbx : Below w1.heap.size w1 w2 := below_step (by repeat (first | (with_reducible first | exact Below.refl _ _ | apply below_alloc | apply pw_below_drewN | apply below_drew1) | exact Below.refl _ _)) hb; clear zBK3_0 zBK3_1 zBK3_2 zBK3_3; have n_R := Aside0.mk (R.out.below hbx); have n_BK3 := Aside0.mk (BK3.out.below hbx); have n_HB := Aside0.mk (below_step HB.out hbx); clear HB R BK3; have R := n_R; have BK3 := n_BK3; have HB := n_HB; clear hbx n_R n_BK3 n_HB; have BK4 := Aside0.mk (Bk.mk (hbox : Blk w2 g4 47 #[.string t0, .string t1])); clear hbox hg hb; have zBK3_0 : w2.cell? ⟨g3, 0, none⟩ = some (.string a0) := (blk_cell BK3.out.blk 0).trans rfl; have zBK3_1 : w2.cell? ⟨g3, 1, none⟩ = some (.slice A1 l1.length c1) := (blk_cell BK3.out.blk 1).trans rfl; have zBK3_2 : w2.cell? ⟨g3, 2, none⟩ = some (.slice A2 l2.length c2) := (blk_cell BK3.out.blk 2).trans rfl; have zBK3_3 : w2.cell? ⟨g3, 3, none⟩ = some (.string a3) := (blk_cell BK3.out.blk 3).trans rfl; have zBK4_0 : w2.cell? ⟨g4, 0, none⟩ = some (.string t0) := (blk_cell BK4.out.blk 0).trans rfl; have zBK4_1 : w2.cell? ⟨g4, 1, none⟩ = some (.string t1) := (blk_cell BK4.out.blk 1).trans rfl) | ((with_reducible refine gate_callee (f := 15) rfl ?_); refine goesL_ (some 14) rfl rfl Try.func15 (by kernel_rfl) rfl #[.agg #[.string a0, .slice A1 l1.length c1, .slice A2 l2.length c2, .string a3]] rfl (by (try simp only [List.map_toArray, List.map_cons, List.map_nil]); first | done | rfl | (simp only [List.length_drop, List.length_take]; rfl)) ?_; (with_reducible refine (Pe.tl_any _ (R.out.below (by repeat (first | (with_reducible first | exact Below.refl _ _ | apply below_alloc | apply pw_below_drewN | apply below_drew1) | exact Below.refl _ _))) SZ.out TL.out).mono ?_); rintro e w3 ⟨rfl, hb⟩; have hbx : Below w2.heap.size w2 w3 := below_step (by repeat (first | (with_reducible first | exact Below.refl _ _ | apply below_alloc | apply pw_below_drewN | apply below_drew1) | exact Below.refl _ _)) hb; clear zBK3_0 zBK3_1 zBK3_2 zBK3_3 zBK4_0 zBK4_1; have n_R := Aside0.mk (R.out.below hbx); have n_BK3 := Aside0.mk (BK3.out.below hbx); have n_BK4 := Aside0.mk (BK4.out.below hbx); have n_HB := Aside0.mk (below_step HB.out hbx); clear HB R BK3 BK4; have R := n_R; have BK3 := n_BK3; have BK4 := n_BK4; have HB := n_HB; clear hbx n_R n_BK3 n_BK4 n_HB; clear hb; have zBK3_0 : w3.cell? ⟨g3, 0, none⟩ = some (.string a0) := (blk_cell BK3.out.blk 0).trans rfl; have zBK3_1 : w3.cell? ⟨g3, 1, none⟩ = some (.slice A1 l1.length c1) := (blk_cell BK3.out.blk 1).trans rfl; have zBK3_2 : w3.cell? ⟨g3, 2, none⟩ = some (.slice A2 l2.length c2) := (blk_cell BK3.out.blk 2).trans rfl; have zBK3_3 : w3.cell? ⟨g3, 3, none⟩ = some (.string a3) := (blk_cell BK3.out.blk 3).trans rfl; have zBK4_0 : w3.cell? ⟨g4, 0, none⟩ = some (.string t0) := (blk_cell BK4.out.blk 0).trans rfl; have zBK4_1 : w3.cell? ⟨g4, 1, none⟩ = some (.string t1) := (blk_cell BK4.out.blk 1).trans rfl; refine ⟨_, rfl, ?_⟩) | ((with_reducible refine gate_callee (f := 16) rfl ?_); refine goesL_ (some 26) rfl rfl Try.func16 (by kernel_rfl) rfl #[] rfl (by (try simp only [List.map_toArray, List.map_cons, List.map_nil]); first | done | rfl | (simp only [List.length_drop, List.length_take]; rfl)) ?_; (with_reducible refine (alive_any _).mono ?_); rintro e w4 ⟨rfl, hb⟩; have hbx : Below w3.heap.size w3 w4 := below_step (by repeat (first | (with_reducible first | exact Below.refl _ _ | apply below_alloc | apply pw_below_drewN | apply below_drew1) | exact Below.refl _ _)) hb; clear zBK3_0 zBK3_1 zBK3_2 zBK3_3 zBK4_0 zBK4_1; have n_R := Aside0.mk (R.out.below hbx); have n_BK3 := Aside0.mk (BK3.out.below hbx); have n_BK4 := Aside0.mk (BK4.out.below hbx); have n_HB := Aside0.mk (below_step HB.out hbx); clear HB R BK3 BK4; have R := n_R; have BK3 := n_BK3; have BK4 := n_BK4; have HB := n_HB; clear hbx n_R n_BK3 n_BK4 n_HB; clear hb; have zBK3_0 : w4.cell? ⟨g3, 0, none⟩ = some (.string a0) := (blk_cell BK3.out.blk 0).trans rfl; have zBK3_1 : w4.cell? ⟨g3, 1, none⟩ = some (.slice A1 l1.length c1) := (blk_cell BK3.out.blk 1).trans rfl; have zBK3_2 : w4.cell? ⟨g3, 2, none⟩ = some (.slice A2 l2.length c2) := (blk_cell BK3.out.blk 2).trans rfl; have zBK3_3 : w4.cell? ⟨g3, 3, none⟩ = some (.string a3) := (blk_cell BK3.out.blk 3).trans rfl; have zBK4_0 : w4.cell? ⟨g4, 0, none⟩ = some (.string t0) := (blk_cell BK4.out.blk 0).trans rfl; have zBK4_1 : w4.cell? ⟨g4, 1, none⟩ = some (.string t1) := (blk_cell BK4.out.blk 1).trans rfl; refine ⟨_, rfl, ?_⟩))
  go_ret
  exact ⟨rfl, HB.out⟩
theorem add_walk (w : World) (k1 : List Value) (y1 : ByteArray × List S41 × List S101 × ByteArray) (h1 : KRung.K w y1 k1) (hq : QRung y1) (k2 : List Value) (y2 : ByteArray × ByteArray) (h2 : (Kd.pair Kd.string Kd.string).K w y2 k2) (hq2 : y2.1.size ≤ reachBytes ∧ y2.2.size ≤ reachBytes) (s : ByteArray) (_ : s.size ≤ maxLen) :
    Calls Try.prog 5 #[.agg k1.toArray, .agg k2.toArray, .string s] w fun x w' => x = .returned (.bool true) ∧ Below w.heap.size w w' := by
  obtain ⟨A1, c1, A2, c2, rfl, r1, hz⟩ := rung_form h1 hq
  obtain ⟨u0, u1, rfl, e0, e1⟩ := h2
  obtain rfl : u0 = [.string y2.1] := e0
  obtain rfl : u1 = [.string y2.2] := e1
  by_cases hb : tl (es y1.2.1) ≤ 0
  · by_cases ht : y2.1.size + y2.2.size ≤ 100
    · exact add_small w r1 hz hb ht
    · exact add_long w r1 hz hb ht hq2.1 hq2.2
  · exact add_big w r1 hz hb
end
end Go.Proofs.Ytmacdknicgfglaa.Gw
