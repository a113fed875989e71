/- Several texts of this session in one (merge.py): Lw2, Cw, Sd, Sw, Or4, Dn, Impl9. -/
import Derived.Test.YtmacdknicgfglaaMc1
import Derived.Test.YtmacdknicgfglaaMc2
import Derived.Test.YtmacdknicgfglaaMc0
section
/- GraphReachabilityMatchesReference, walked. -/
namespace Go.Proofs.Ytmacdknicgfglaa.Gp
theorem topoR_len {l : List Ed} {all : List ByteArray} : ∀ (k : Nat) (out r : List ByteArray), topoR l all k out = some r → r.length = out.length + k
  | 0, out, r, h => by obtain rfl : out = r := by simpa [topoR] using h
                       rfl
  | k + 1, out, r, h => by
    unfold topoR at h
    split at h
    · cases h
    · rename_i s hs
      have := topoR_len k _ r h
      simp only [List.length_append, List.length_singleton] at this
      omega
theorem topo_len (l : List Ed) : ((topo l).getD []).length ≤ (nodesL l).length := by
  cases h : topo l with
  | none => simp
  | some r =>
    rw [topo_R] at h
    have := topoR_len _ _ _ h
    simp only [List.length_nil, Nat.zero_add] at this
    simp [this]
theorem gath_len (l : List Ed) (q : ByteArray → List ByteArray) (n : ByteArray) : (gathL l q n).length ≤ (nodesL l).length := by
  unfold gathL
  split
  · exact List.length_filter_le _ _
  · simp
end Go.Proofs.Ytmacdknicgfglaa.Gp
namespace Go.Proofs.Ytmacdknicgfglaa.Gw
open Go.RowKit Go.Shelf Go.Proofs.YtmacdknicgfglaaW.PrintWords Go.Proofs.YtmacdknicgfglaaW.PrintMore Go.Proofs.YtmacdknicgfglaaW.PrintLast Go.Proofs.Ytmacdknicgfglaa.Chg Go.Proofs.Ytmacdknicgfglaa.Evt Go.Proofs.Ytmacdknicgfglaa.Impl Go.Proofs.Ytmacdknicgfglaa.Gp Go.Proofs.Ytmacdknicgfglaa.Mp Go.Proofs.Ytmacdknicgfglaa.Open
open Go.Proofs.Ytmacdknicgfglaa.Pe (tl)
set_option linter.unusedVariables false
set_option linter.unusedSimpArgs false
set_option maxRecDepth 100000
section
variable {A1 A2 : Option Addr} {c1 c2 : Nat} {l1 : List S41} {l2 : List S101} {a0 a3 s : ByteArray}
theorem reftopo_any (w : World) (h : Rg w A1 c1 l1 A2 c2 l2) (hn : l1.length ≤ 1000) : Calls Try.prog 28 #[.agg #[.string a0, .slice A1 l1.length c1, .slice A2 l2.length c2, .string a3]] w fun e w' => ∃ v, e = .returned (.tuple #[v, .int .i64 (errT (topo (es l1)))]) ∧ Ro Kd.string 9 w w' v ((topo (es l1)).getD []) ∧ Below w.heap.size w w' := by
  obtain ⟨k, hk⟩ := (Pe.rtopo_ev (a0 := a0) (a3 := a3) (l2 := l2) hn).rounds
  exact (busbarref12_TopoSort.calls k a0 A1 c1 l1 A2 c2 l2 a3 _ _ w h.r1 h.h1 h.r2 h.h2 hk).mono (by rintro e w' ⟨v, rfl, ho, hb⟩; exact ⟨v, rfl, ⟨ho⟩, hb⟩)
theorem refreach_any (w : World) (h : Rg w A1 c1 l1 A2 c2 l2) (hn : l1.length ≤ 1000) : Calls Try.prog 29 #[.agg #[.string a0, .slice A1 l1.length c1, .slice A2 l2.length c2, .string a3], .string s] w fun e w' => ∃ v, e = .returned v ∧ Ro Kd.string 9 w w' v (reachL (es l1) s) ∧ Below w.heap.size w w' := by
  obtain ⟨k, hk⟩ := (Pe.rreach_ev (a0 := a0) (a3 := a3) (l2 := l2) hn s).rounds
  exact (busbarref12_Reachable.calls k a0 A1 c1 l1 A2 c2 l2 a3 s _ w h.r1 h.h1 h.r2 h.h2 hk).mono (by rintro e w' ⟨v, rfl, ho, hb⟩; exact ⟨v, rfl, ⟨ho⟩, hb⟩)
theorem refanc_any (w : World) (h : Rg w A1 c1 l1 A2 c2 l2) (hn : l1.length ≤ 1000) : Calls Try.prog 31 #[.agg #[.string a0, .slice A1 l1.length c1, .slice A2 l2.length c2, .string a3], .string s] w fun e w' => ∃ v, e = .returned v ∧ Ro Kd.string 9 w w' v (ancL (es l1) s) ∧ Below w.heap.size w w' := by
  obtain ⟨k, hk⟩ := (Pe.ranc_ev (a0 := a0) (a3 := a3) (l2 := l2) hn s).rounds
  exact (busbarref12_Ancestors.calls k a0 A1 c1 l1 A2 c2 l2 a3 s _ w h.r1 h.h1 h.r2 h.h2 hk).mono (by rintro e w' ⟨v, rfl, ho, hb⟩; exact ⟨v, rfl, ⟨ho⟩, hb⟩)
/-- What is known of a rung that is not too large. -/
structure Ok12 (l1 : List S41) : Prop where
  ok : okG (es l1) = true
  ln : l1.length ≤ 60
  nl : (nodesL (es l1)).length ≤ 200
theorem Ok12.of {l1 : List S41} (hb : tl (es l1) ≤ 0) : Ok12 l1 := by
  have h := Pe.tl_ok hb
  have h2 := h.2
  have h3 := nodesL_len (es l1)
  rw [es_len] at h2 h3
  exact ⟨h.1, h2, by omega⟩
theorem tl_0 {l : List Ed} (hb : tl l ≤ 0) : tl l = 0 := by unfold tl at hb ⊢; split at hb; omega; rename_i hh; rw [if_neg hh]
theorem tl_1 {l : List Ed} (hb : ¬ tl l ≤ 0) : tl l = 1 := by unfold tl at hb ⊢; split at hb; rename_i hh; rw [if_pos hh]; omega
set_option maxHeartbeats 4000000 in
theorem rmr_core (w : World) (h : Rg w A1 c1 l1 A2 c2 l2) (hz : SzR l1) : Calls Try.prog 6 #[.agg #[.string a0, .slice A1 l1.length c1, .slice A2 l2.length c2, .string a3], .string s] w fun x w' => x = .returned (.bool true) ∧ Below w.heap.size w w' := by
  have SZ := Aside0.mk hz
  have HB := Aside0.mk (Below.refl w.heap.size w)
  have R := Aside0.mk (h)
  clear h hz
  by_cases hb : tl (es l1) ≤ 0
  · have OK := Aside0.mk (Ok12.of hb).ok
    have LN : l1.length ≤ 1000 := by have := (Ok12.of hb).ln; omega
    have LT : Aside0 (((topo (es l1)).getD []).length ≤ 1000000) := ⟨by have := topo_len (es l1); have := (Ok12.of hb).nl; omega⟩
    have LR : Aside0 ((reachL (es l1) s).length ≤ 1000000) := ⟨by have := gath_len (es l1) (sucL (es l1)) s; have := (Ok12.of hb).nl; unfold reachL; omega⟩
    have LA : Aside0 ((ancL (es l1) s).length ≤ 1000000) := ⟨by have := gath_len (es l1) (preL (es l1)) s; have := (Ok12.of hb).nl; unfold ancL; omega⟩
    have TL := Aside0.mk (tl_0 hb)
    clear hb
    skip
    go_enter Try.func6, Try.ntmps6
    go_wp2_with (first | ((with_reducible refine gate_dst (N := 2) rfl ?_); refine box_event ?hg (N := 2) ?hd (cs := #[.string a0, .slice A1 l1.length c1, .slice A2 l2.length c2, .string a3]) (t := 25) ?hr ?_; (case hd => rfl); (case hg => rfl); (case hr => first | (go_simp; done) | (go_simp; rfl)); intro g2 hg w1 hbox hb; have hbx : Below w.heap.size w w1 := below_step (by repeat (first | (with_reducible first | exact Below.refl _ _ | apply below_alloc | apply pw_below_drewN | apply below_drew1) | exact Below.refl _ _)) hb; have n_R := Aside0.mk (R.out.below hbx); have n_HB := Aside0.mk (below_step HB.out hbx); clear HB R; have R := n_R; have HB := n_HB; clear hbx n_R n_HB; have BK2 := Aside0.mk (Bk.mk (hbox : Blk w1 g2 25 #[.string a0, .slice A1 l1.length c1, .slice A2 l2.length c2, .string a3])); clear hbox hg hb; have zBK2_0 : w1.cell? ⟨g2, 0, none⟩ = some (.string a0) := (blk_cell BK2.out.blk 0).trans rfl; have zBK2_1 : w1.cell? ⟨g2, 1, none⟩ = some (.slice A1 l1.length c1) := (blk_cell BK2.out.blk 1).trans rfl; have zBK2_2 : w1.cell? ⟨g2, 2, none⟩ = some (.slice A2 l2.length c2) := (blk_cell BK2.out.blk 2).trans rfl; have zBK2_3 : w1.cell? ⟨g2, 3, none⟩ = some (.string a3) := (blk_cell BK2.out.blk 3).trans rfl) | ((with_reducible refine gate_callee (f := 15) rfl ?_); refine goesL_ (some 10) rfl rfl Try.func15 (by kernel_rfl) rfl #[.agg #[.string a0, .slice A1 l1.length c1, .slice A2 l2.length c2, .string a3]] rfl (by (try simp only [List.map_toArray, List.map_cons, List.map_nil]); first | done | rfl | (simp only [List.length_drop, List.length_take]; rfl)) ?_; (with_reducible refine (Pe.tl_any _ (R.out.below (by repeat (first | (with_reducible first | exact Below.refl _ _ | apply below_alloc | apply pw_below_drewN | apply below_drew1) | exact Below.refl _ _))) SZ.out TL.out).mono ?_); rintro e w2 ⟨rfl, hb⟩; have hbx : Below w1.heap.size w1 w2 := below_step (by repeat (first | (with_reducible first | exact Below.refl _ _ | apply below_alloc | apply pw_below_drewN | apply below_drew1) | exact Below.refl _ _)) hb; clear zBK2_0 zBK2_1 zBK2_2 zBK2_3; have n_R := Aside0.mk (R.out.below hbx); have n_BK2 := Aside0.mk (BK2.out.below hbx); have n_HB := Aside0.mk (below_step HB.out hbx); clear HB R BK2; have R := n_R; have BK2 := n_BK2; have HB := n_HB; clear hbx n_R n_BK2 n_HB; clear hb; have zBK2_0 : w2.cell? ⟨g2, 0, none⟩ = some (.string a0) := (blk_cell BK2.out.blk 0).trans rfl; have zBK2_1 : w2.cell? ⟨g2, 1, none⟩ = some (.slice A1 l1.length c1) := (blk_cell BK2.out.blk 1).trans rfl; have zBK2_2 : w2.cell? ⟨g2, 2, none⟩ = some (.slice A2 l2.length c2) := (blk_cell BK2.out.blk 2).trans rfl; have zBK2_3 : w2.cell? ⟨g2, 3, none⟩ = some (.string a3) := (blk_cell BK2.out.blk 3).trans rfl; refine ⟨_, rfl, ?_⟩) | ((with_reducible refine gate_callee (f := 25) rfl ?_); refine goesL_ (some 15) rfl rfl Try.func25 (by kernel_rfl) rfl #[.agg #[.string a0, .slice A1 l1.length c1, .slice A2 l2.length c2, .string a3]] rfl (by (try simp only [List.map_toArray, List.map_cons, List.map_nil]); first | done | rfl | (simp only [List.length_drop, List.length_take]; rfl)) ?_; (with_reducible refine (topo_any _ (R.out.below (by repeat (first | (with_reducible first | exact Below.refl _ _ | apply below_alloc | apply pw_below_drewN | apply below_drew1) | exact Below.refl _ _))) OK.out).mono ?_); rintro e w3 ⟨v, rfl, ho, hb⟩; have hbx : Below w2.heap.size w2 w3 := below_step (by repeat (first | (with_reducible first | exact Below.refl _ _ | apply below_alloc | apply pw_below_drewN | apply below_drew1) | exact Below.refl _ _)) hb; obtain ⟨Y1, y1, rfl, hw_⟩ := Ro.sliceS ho; clear zBK2_0 zBK2_1 zBK2_2 zBK2_3; have n_R := Aside0.mk (R.out.below hbx); have n_BK2 := Aside0.mk (BK2.out.below hbx); have n_HB := Aside0.mk (below_step HB.out hbx); clear HB R BK2; have R := n_R; have BK2 := n_BK2; have HB := n_HB; clear hbx n_R n_BK2 n_HB; have T1 := Aside0.mk (hw_.out); clear hb; clear ho hw_; have zBK2_0 : w3.cell? ⟨g2, 0, none⟩ = some (.string a0) := (blk_cell BK2.out.blk 0).trans rfl; have zBK2_1 : w3.cell? ⟨g2, 1, none⟩ = some (.slice A1 l1.length c1) := (blk_cell BK2.out.blk 1).trans rfl; have zBK2_2 : w3.cell? ⟨g2, 2, none⟩ = some (.slice A2 l2.length c2) := (blk_cell BK2.out.blk 2).trans rfl; have zBK2_3 : w3.cell? ⟨g2, 3, none⟩ = some (.string a3) := (blk_cell BK2.out.blk 3).trans rfl; refine ⟨_, rfl, ?_⟩) | ((with_reducible refine gate_callee (f := 28) rfl ?_); refine goesL_ (some 20) rfl rfl Try.func28 (by kernel_rfl) rfl #[.agg #[.string a0, .slice A1 l1.length c1, .slice A2 l2.length c2, .string a3]] rfl (by (try simp only [List.map_toArray, List.map_cons, List.map_nil]); first | done | rfl | (simp only [List.length_drop, List.length_take]; rfl)) ?_; (with_reducible refine (reftopo_any _ (R.out.below (by repeat (first | (with_reducible first | exact Below.refl _ _ | apply below_alloc | apply pw_below_drewN | apply below_drew1) | exact Below.refl _ _))) LN).mono ?_); rintro e w4 ⟨v, rfl, ho, hb⟩; have hbx : Below w3.heap.size w3 w4 := below_step (by repeat (first | (with_reducible first | exact Below.refl _ _ | apply below_alloc | apply pw_below_drewN | apply below_drew1) | exact Below.refl _ _)) hb; obtain ⟨Y2, y2, rfl, hw_⟩ := Ro.sliceS ho; clear zBK2_0 zBK2_1 zBK2_2 zBK2_3; have n_R := Aside0.mk (R.out.below hbx); have n_BK2 := Aside0.mk (BK2.out.below hbx); have n_T1 := Aside0.mk (T1.out.below hbx); have n_HB := Aside0.mk (below_step HB.out hbx); clear HB R BK2 T1; have R := n_R; have BK2 := n_BK2; have T1 := n_T1; have HB := n_HB; clear hbx n_R n_BK2 n_T1 n_HB; have T2 := Aside0.mk (hw_.out); clear hb; clear ho hw_; have zBK2_0 : w4.cell? ⟨g2, 0, none⟩ = some (.string a0) := (blk_cell BK2.out.blk 0).trans rfl; have zBK2_1 : w4.cell? ⟨g2, 1, none⟩ = some (.slice A1 l1.length c1) := (blk_cell BK2.out.blk 1).trans rfl; have zBK2_2 : w4.cell? ⟨g2, 2, none⟩ = some (.slice A2 l2.length c2) := (blk_cell BK2.out.blk 2).trans rfl; have zBK2_3 : w4.cell? ⟨g2, 3, none⟩ = some (.string a3) := (blk_cell BK2.out.blk 3).trans rfl; refine ⟨_, rfl, ?_⟩))
    have KP : Aside0 (∀ w', Below w4.heap.size w4 w' → (w'.cell? ⟨g2, 0, none⟩ = some (.string a0) ∧ w'.cell? ⟨g2, 1, none⟩ = some (.slice A1 l1.length c1) ∧ w'.cell? ⟨g2, 2, none⟩ = some (.slice A2 l2.length c2) ∧ w'.cell? ⟨g2, 3, none⟩ = some (.string a3))) := Aside0.mk (fun w' hb => ⟨(blk_cell (BK2.out.below hb).blk 0).trans rfl, (blk_cell (BK2.out.below hb).blk 1).trans rfl, (blk_cell (BK2.out.below hb).blk 2).trans rfl, (blk_cell (BK2.out.below hb).blk 3).trans rfl⟩)
    clear zBK2_0 zBK2_1 zBK2_2 zBK2_3
    refine Evt.ow_start (w0 := w4) (T := (true, [([], []), ([0, 0], [0]), ([1], [1]), ([1], [1]), ([2, 3, 1, 1], [1, 2, 3]), ([1], [1]), ([1], [1]), ([5, 6, 4, 1], [1, 5, 6]), ([4, 7, 7, 1], [1, 4, 7]), ([1, 8], [1, 8]), ([9, 8], [9]), ([10], [10]), ([10], [10]), ([11, 12, 10, 10], [10, 11, 12]), ([10], [10]), ([10], [10]), ([14, 15, 13, 10], [10, 14, 15]), ([13, 16, 16, 10], [10, 13, 16]), ([10, 17], [10, 17]), ([18, 17], [18]), ([19], [19]), ([19], [19]), ([20, 21, 19, 19], [19, 20, 21]), ([19, 22], [19, 22]), ([23, 22], [23]), ([24], [24]), ([24], [24]), ([25, 26, 24], [24, 25, 26]), ([24, 27], [24, 27]), ([28, 24, 0, 1, 2, 3, 4, 5, 6, 7, 8, 9, 10, 11, 12, 13, 14, 15, 16, 17, 18, 19, 20, 21, 22, 23, 24, 25, 26, 27, 28], [28])])) (B := [0, 1, 3, 3, 15, 3, 3, 127, 255, 511, 1023, 2047, 2047, 8191, 2047, 2047, 65535, 131071, 262143, 524287, 1048575, 1048575, 4194303, 8388607, 16777215, 33554431, 33554431, 134217727, 268435455, 536870911]) 30 [(0, some 23), (1, some 24), (3, some 26), (6, some 29), (2, some 25), (5, some 28), (4, some 27), (7, some 30), (8, some 31), (9, some 32), (10, some 33), (12, some 35), (15, some 38), (11, some 34), (14, some 37), (13, some 36), (16, some 39), (17, some 40), (18, some 41), (19, some 42), (20, some 43), (21, some 44), (22, some 45), (23, some 46), (24, some 47), (25, some 48), (26, some 49), (27, some 50), (28, some 51), (29, some 4)] (by kernel_rfl) rfl (by kernel_rfl) (by kernel_rfl) (by kernel_rfl) (by repeat (first | (with_reducible first | exact Below.refl _ _ | apply below_alloc | apply pw_below_drewN | apply below_drew1) | exact Below.refl _ _)) ?_
    intro HT_ HW_ w_ hHeld
    refine Evt.ow_call HT_ hHeld rfl rfl rfl (by kernel_rfl) Try.func16 (by kernel_rfl) rfl #[] (by rfl) (by (try simp only [List.map_toArray, List.map_cons, List.map_nil]); first | done | rfl | (simp only [List.length_drop, List.length_take]; rfl)) ?_
    (with_reducible refine (alive_any _).mono ?_)
    rintro e w_ ⟨rfl, hb⟩
    refine ⟨_, rfl, hb, fun hHeld_ => ?_⟩
    clear hHeld hb
    have hHeld := hHeld_
    clear hHeld_
    refine Evt.ow_norm (a' := ?_) ?_ ?_
    rotate_left
    · simp only [Act.put, List.setIfInBounds_toArray, List.set_cons_zero, List.set_cons_succ, i64_w, i32_w]; rfl
    iterate 5 (first | (refine Evt.ow_off (a' := ?_) HT_ rfl rfl (by rfl) (by kernel_rfl) (fun _ _ _ h => h) ?_ ?_; rotate_left; (· (try simp only [Act.put, List.setIfInBounds_toArray, List.set_cons_zero, List.set_cons_succ, i64_w, i32_w]); rfl)) | (refine Evt.ow_pure (a' := ?_) (v := ?_) HT_ rfl rfl rfl (by rfl) (by kernel_rfl) (fun _ _ _ h => h) ?_ ?_ ?_; rotate_left 2; (· intro w'; go_simp; with_reducible rfl); (· (try simp only [Act.put, List.setIfInBounds_toArray, List.set_cons_zero, List.set_cons_succ, i64_w, i32_w]); rfl)) | (refine Evt.ow_load (a' := ?_) (v := ?_) HT_ HW_ hHeld rfl rfl rfl (by rfl) (by kernel_rfl) (fun _ _ _ h => h) ?_ ?_ ?_; rotate_left 2; (· intro w' hS_; obtain ⟨s0, s1, s2, s3⟩ := KP.out w' hS_.out; go_simp; with_reducible rfl); (· (try simp only [Act.put, List.setIfInBounds_toArray, List.set_cons_zero, List.set_cons_succ, i64_w, i32_w]); rfl)))
    refine Evt.ow_call HT_ hHeld rfl rfl rfl (by kernel_rfl) Try.func27 (by kernel_rfl) rfl #[.agg #[.string a0, .slice A1 l1.length c1, .slice A2 l2.length c2, .string a3], .string s] (by rfl) (by (try simp only [List.map_toArray, List.map_cons, List.map_nil]); first | done | rfl | (simp only [List.length_drop, List.length_take]; rfl)) ?_
    (with_reducible refine (reach_any _ (R.out.below hHeld.out) OK.out s).mono ?_)
    rintro e w_ ⟨v, rfl, ho, hb⟩
    obtain ⟨X1, x1, rfl, N1⟩ := Ro.sliceS ho; clear ho
    refine ⟨_, rfl, hb, fun hHeld_ => ?_⟩
    clear hHeld hb
    have hHeld := hHeld_
    clear hHeld_
    refine Evt.ow_norm (a' := ?_) ?_ ?_
    rotate_left
    · simp only [Act.put, List.setIfInBounds_toArray, List.set_cons_zero, List.set_cons_succ, i64_w, i32_w]; rfl
    refine Evt.ow_call HT_ hHeld rfl rfl rfl (by kernel_rfl) Try.func29 (by kernel_rfl) rfl #[.agg #[.string a0, .slice A1 l1.length c1, .slice A2 l2.length c2, .string a3], .string s] (by rfl) (by (try simp only [List.map_toArray, List.map_cons, List.map_nil]); first | done | rfl | (simp only [List.length_drop, List.length_take]; rfl)) ?_
    (with_reducible refine (refreach_any _ (R.out.below hHeld.out) LN).mono ?_)
    rintro e w_ ⟨v, rfl, ho, hb⟩
    obtain ⟨X2, x2, rfl, N2⟩ := Ro.sliceS ho; clear ho; have n_ := Aside0.mk (N1.out.below hb); clear N1; have N1 := n_; clear n_
    refine ⟨_, rfl, hb, fun hHeld_ => ?_⟩
    clear hHeld hb
    have hHeld := hHeld_
    clear hHeld_
    refine Evt.ow_norm (a' := ?_) ?_ ?_
    rotate_left
    · simp only [Act.put, List.setIfInBounds_toArray, List.set_cons_zero, List.set_cons_succ, i64_w, i32_w]; rfl
    refine Evt.ow_call HT_ hHeld rfl rfl rfl (by kernel_rfl) Try.func17 (by kernel_rfl) rfl #[.slice X1 (reachL (es l1) s).length x1, .slice X2 (reachL (es l1) s).length x2] (by rfl) (by (try simp only [List.map_toArray, List.map_cons, List.map_nil]); first | done | rfl | (simp only [List.length_drop, List.length_take]; rfl)) ?_
    (with_reducible refine (eqS_any X1 x1 _ X2 x2 _ _ N1.out N2.out LR.out (decide_eq_true rfl)).mono ?_)
    rintro e w_ ⟨rfl, hb⟩
    refine ⟨_, rfl, hb, fun hHeld_ => ?_⟩
    clear hHeld hb
    have hHeld := hHeld_
    clear hHeld_
    refine Evt.ow_norm (a' := ?_) ?_ ?_
    rotate_left
    · simp only [Act.put, List.setIfInBounds_toArray, List.set_cons_zero, List.set_cons_succ, i64_w, i32_w]; rfl
    iterate 6 (first | (refine Evt.ow_off (a' := ?_) HT_ rfl rfl (by rfl) (by kernel_rfl) (fun _ _ _ h => h) ?_ ?_; rotate_left; (· (try simp only [Act.put, List.setIfInBounds_toArray, List.set_cons_zero, List.set_cons_succ, i64_w, i32_w]); rfl)) | (refine Evt.ow_pure (a' := ?_) (v := ?_) HT_ rfl rfl rfl (by rfl) (by kernel_rfl) (fun _ _ _ h => h) ?_ ?_ ?_; rotate_left 2; (· intro w'; go_simp; with_reducible rfl); (· (try simp only [Act.put, List.setIfInBounds_toArray, List.set_cons_zero, List.set_cons_succ, i64_w, i32_w]); rfl)) | (refine Evt.ow_load (a' := ?_) (v := ?_) HT_ HW_ hHeld rfl rfl rfl (by rfl) (by kernel_rfl) (fun _ _ _ h => h) ?_ ?_ ?_; rotate_left 2; (· intro w' hS_; obtain ⟨s0, s1, s2, s3⟩ := KP.out w' hS_.out; go_simp; with_reducible rfl); (· (try simp only [Act.put, List.setIfInBounds_toArray, List.set_cons_zero, List.set_cons_succ, i64_w, i32_w]); rfl)))
    refine Evt.ow_call HT_ hHeld rfl rfl rfl (by kernel_rfl) Try.func30 (by kernel_rfl) rfl #[.agg #[.string a0, .slice A1 l1.length c1, .slice A2 l2.length c2, .string a3], .string s] (by rfl) (by (try simp only [List.map_toArray, List.map_cons, List.map_nil]); first | done | rfl | (simp only [List.length_drop, List.length_take]; rfl)) ?_
    (with_reducible refine (anc_any _ (R.out.below hHeld.out) OK.out s).mono ?_)
    rintro e w_ ⟨v, rfl, ho, hb⟩
    obtain ⟨X3, x3, rfl, N3⟩ := Ro.sliceS ho; clear ho
    refine ⟨_, rfl, hb, fun hHeld_ => ?_⟩
    clear hHeld hb
    have hHeld := hHeld_
    clear hHeld_
    refine Evt.ow_norm (a' := ?_) ?_ ?_
    rotate_left
    · simp only [Act.put, List.setIfInBounds_toArray, List.set_cons_zero, List.set_cons_succ, i64_w, i32_w]; rfl
    refine Evt.ow_call HT_ hHeld rfl rfl rfl (by kernel_rfl) Try.func31 (by kernel_rfl) rfl #[.agg #[.string a0, .slice A1 l1.length c1, .slice A2 l2.length c2, .string a3], .string s] (by rfl) (by (try simp only [List.map_toArray, List.map_cons, List.map_nil]); first | done | rfl | (simp only [List.length_drop, List.length_take]; rfl)) ?_
    (with_reducible refine (refanc_any _ (R.out.below hHeld.out) LN).mono ?_)
    rintro e w_ ⟨v, rfl, ho, hb⟩
    obtain ⟨X4, x4, rfl, N4⟩ := Ro.sliceS ho; clear ho; have n_ := Aside0.mk (N3.out.below hb); clear N3; have N3 := n_; clear n_
    refine ⟨_, rfl, hb, fun hHeld_ => ?_⟩
    clear hHeld hb
    have hHeld := hHeld_
    clear hHeld_
    refine Evt.ow_norm (a' := ?_) ?_ ?_
    rotate_left
    · simp only [Act.put, List.setIfInBounds_toArray, List.set_cons_zero, List.set_cons_succ, i64_w, i32_w]; rfl
    refine Evt.ow_call HT_ hHeld rfl rfl rfl (by kernel_rfl) Try.func17 (by kernel_rfl) rfl #[.slice X3 (ancL (es l1) s).length x3, .slice X4 (ancL (es l1) s).length x4] (by rfl) (by (try simp only [List.map_toArray, List.map_cons, List.map_nil]); first | done | rfl | (simp only [List.length_drop, List.length_take]; rfl)) ?_
    (with_reducible refine (eqS_any X3 x3 _ X4 x4 _ _ N3.out N4.out LA.out (decide_eq_true rfl)).mono ?_)
    rintro e w_ ⟨rfl, hb⟩
    refine ⟨_, rfl, hb, fun hHeld_ => ?_⟩
    clear hHeld hb
    have hHeld := hHeld_
    clear hHeld_
    refine Evt.ow_norm (a' := ?_) ?_ ?_
    rotate_left
    · simp only [Act.put, List.setIfInBounds_toArray, List.set_cons_zero, List.set_cons_succ, i64_w, i32_w]; rfl
    iterate 4 (first | (refine Evt.ow_off (a' := ?_) HT_ rfl rfl (by rfl) (by kernel_rfl) (fun _ _ _ h => h) ?_ ?_; rotate_left; (· (try simp only [Act.put, List.setIfInBounds_toArray, List.set_cons_zero, List.set_cons_succ, i64_w, i32_w]); rfl)) | (refine Evt.ow_pure (a' := ?_) (v := ?_) HT_ rfl rfl rfl (by rfl) (by kernel_rfl) (fun _ _ _ h => h) ?_ ?_ ?_; rotate_left 2; (· intro w'; go_simp; with_reducible rfl); (· (try simp only [Act.put, List.setIfInBounds_toArray, List.set_cons_zero, List.set_cons_succ, i64_w, i32_w]); rfl)) | (refine Evt.ow_load (a' := ?_) (v := ?_) HT_ HW_ hHeld rfl rfl rfl (by rfl) (by kernel_rfl) (fun _ _ _ h => h) ?_ ?_ ?_; rotate_left 2; (· intro w' hS_; obtain ⟨s0, s1, s2, s3⟩ := KP.out w' hS_.out; go_simp; with_reducible rfl); (· (try simp only [Act.put, List.setIfInBounds_toArray, List.set_cons_zero, List.set_cons_succ, i64_w, i32_w]); rfl)))
    refine Evt.ow_call HT_ hHeld rfl rfl rfl (by kernel_rfl) Try.func17 (by kernel_rfl) rfl #[.slice Y1 ((topo (es l1)).getD []).length y1, .slice Y2 ((topo (es l1)).getD []).length y2] (by rfl) (by (try simp only [List.map_toArray, List.map_cons, List.map_nil]); first | done | rfl | (simp only [List.length_drop, List.length_take]; rfl)) ?_
    (with_reducible refine (eqS_any Y1 y1 _ Y2 y2 _ _ (T1.out.below hHeld.out) (T2.out.below hHeld.out) LT.out (decide_eq_true rfl)).mono ?_)
    rintro e w_ ⟨rfl, hb⟩
    refine ⟨_, rfl, hb, fun hHeld_ => ?_⟩
    clear hHeld hb
    have hHeld := hHeld_
    clear hHeld_
    refine Evt.ow_norm (a' := ?_) ?_ ?_
    rotate_left
    · simp only [Act.put, List.setIfInBounds_toArray, List.set_cons_zero, List.set_cons_succ, i64_w, i32_w]; rfl
    iterate 7 (first | (refine Evt.ow_off (a' := ?_) HT_ rfl rfl (by rfl) (by kernel_rfl) (fun _ _ _ h => h) ?_ ?_; rotate_left; (· (try simp only [Act.put, List.setIfInBounds_toArray, List.set_cons_zero, List.set_cons_succ, i64_w, i32_w]); rfl)) | (refine Evt.ow_pure (a' := ?_) (v := ?_) HT_ rfl rfl rfl (by rfl) (by kernel_rfl) (fun _ _ _ h => h) ?_ ?_ ?_; rotate_left 2; (· intro w'; go_simp; with_reducible rfl); (· (try simp only [Act.put, List.setIfInBounds_toArray, List.set_cons_zero, List.set_cons_succ, i64_w, i32_w]); rfl)) | (refine Evt.ow_load (a' := ?_) (v := ?_) HT_ HW_ hHeld rfl rfl rfl (by rfl) (by kernel_rfl) (fun _ _ _ h => h) ?_ ?_ ?_; rotate_left 2; (· intro w' hS_; obtain ⟨s0, s1, s2, s3⟩ := KP.out w' hS_.out; go_simp; with_reducible rfl); (· (try simp only [Act.put, List.setIfInBounds_toArray, List.set_cons_zero, List.set_cons_succ, i64_w, i32_w]); rfl)))
    refine Evt.ow_done HT_ (by kernel_rfl) ?_
    refine Evt.gen_any (w0 := w4) hHeld.out ?_
    intro w5 hbx
    clear hHeld HT_ HW_ KP
    have n_R := Aside0.mk (R.out.below hbx)
    have n_BK2 := Aside0.mk (BK2.out.below hbx)
    have n_T1 := Aside0.mk (T1.out.below hbx)
    have n_T2 := Aside0.mk (T2.out.below hbx)
    have n_HB := Aside0.mk (below_step HB.out hbx)
    clear HB R BK2 T1 T2
    have R := n_R
    have BK2 := n_BK2
    have T1 := n_T1
    have T2 := n_T2
    have HB := n_HB
    clear hbx n_R n_BK2 n_T1 n_T2 n_HB
    have zBK2_0 : w5.cell? ⟨g2, 0, none⟩ = some (.string a0) := (blk_cell BK2.out.blk 0).trans rfl
    have zBK2_1 : w5.cell? ⟨g2, 1, none⟩ = some (.slice A1 l1.length c1) := (blk_cell BK2.out.blk 1).trans rfl
    have zBK2_2 : w5.cell? ⟨g2, 2, none⟩ = some (.slice A2 l2.length c2) := (blk_cell BK2.out.blk 2).trans rfl
    have zBK2_3 : w5.cell? ⟨g2, 3, none⟩ = some (.string a3) := (blk_cell BK2.out.blk 3).trans rfl
    go_wp2
    go_ret
    exact ⟨rfl, HB.out⟩
    skip
  · have TL := Aside0.mk (tl_1 hb)
    clear hb
    go_enter Try.func6, Try.ntmps6
    go_wp2_with (first | ((with_reducible refine gate_dst (N := 2) rfl ?_); refine box_event ?hg (N := 2) ?hd (cs := #[.string a0, .slice A1 l1.length c1, .slice A2 l2.length c2, .string a3]) (t := 25) ?hr ?_; (case hd => rfl); (case hg => rfl); (case hr => first | (go_simp; done) | (go_simp; rfl)); intro g2 hg w1 hbox hb; have hbx : Below w.heap.size w w1 := below_step (by repeat (first | (with_reducible first | exact Below.refl _ _ | apply below_alloc | apply pw_below_drewN | apply below_drew1) | exact Below.refl _ _)) hb; have n_R := Aside0.mk (R.out.below hbx); have n_HB := Aside0.mk (below_step HB.out hbx); clear HB R; have R := n_R; have HB := n_HB; clear hbx n_R n_HB; have BK2 := Aside0.mk (Bk.mk (hbox : Blk w1 g2 25 #[.string a0, .slice A1 l1.length c1, .slice A2 l2.length c2, .string a3])); clear hbox hg hb; have zBK2_0 : w1.cell? ⟨g2, 0, none⟩ = some (.string a0) := (blk_cell BK2.out.blk 0).trans rfl; have zBK2_1 : w1.cell? ⟨g2, 1, none⟩ = some (.slice A1 l1.length c1) := (blk_cell BK2.out.blk 1).trans rfl; have zBK2_2 : w1.cell? ⟨g2, 2, none⟩ = some (.slice A2 l2.length c2) := (blk_cell BK2.out.blk 2).trans rfl; have zBK2_3 : w1.cell? ⟨g2, 3, none⟩ = some (.string a3) := (blk_cell BK2.out.blk 3).trans rfl) | ((with_reducible refine gate_callee (f := 15) rfl ?_); refine goesL_ (some 10) rfl rfl Try.func15 (by kernel_rfl) rfl #[.agg #[.string a0, .slice A1 l1.length c1, .slice A2 l2.length c2, .string a3]] rfl (by (try simp only [List.map_toArray, List.map_cons, List.map_nil]); first | done | rfl | (simp only [List.length_drop, List.length_take]; rfl)) ?_; (with_reducible refine (Pe.tl_any _ (R.out.below (by repeat (first | (with_reducible first | exact Below.refl _ _ | apply below_alloc | apply pw_below_drewN | apply below_drew1) | exact Below.refl _ _))) SZ.out TL.out).mono ?_); rintro e w2 ⟨rfl, hb⟩; have hbx : Below w1.heap.size w1 w2 := below_step (by repeat (first | (with_reducible first | exact Below.refl _ _ | apply below_alloc | apply pw_below_drewN | apply below_drew1) | exact Below.refl _ _)) hb; clear zBK2_0 zBK2_1 zBK2_2 zBK2_3; have n_R := Aside0.mk (R.out.below hbx); have n_BK2 := Aside0.mk (BK2.out.below hbx); have n_HB := Aside0.mk (below_step HB.out hbx); clear HB R BK2; have R := n_R; have BK2 := n_BK2; have HB := n_HB; clear hbx n_R n_BK2 n_HB; clear hb; have zBK2_0 : w2.cell? ⟨g2, 0, none⟩ = some (.string a0) := (blk_cell BK2.out.blk 0).trans rfl; have zBK2_1 : w2.cell? ⟨g2, 1, none⟩ = some (.slice A1 l1.length c1) := (blk_cell BK2.out.blk 1).trans rfl; have zBK2_2 : w2.cell? ⟨g2, 2, none⟩ = some (.slice A2 l2.length c2) := (blk_cell BK2.out.blk 2).trans rfl; have zBK2_3 : w2.cell? ⟨g2, 3, none⟩ = some (.string a3) := (blk_cell BK2.out.blk 3).trans rfl; refine ⟨_, rfl, ?_⟩) | ((with_reducible refine gate_callee (f := 16) rfl ?_); refine goesL_ (some 12) rfl rfl Try.func16 (by kernel_rfl) rfl #[] rfl (by (try simp only [List.map_toArray, List.map_cons, List.map_nil]); first | done | rfl | (simp only [List.length_drop, List.length_take]; rfl)) ?_; (with_reducible refine (alive_any _).mono ?_); rintro e w3 ⟨rfl, hb⟩; have hbx : Below w2.heap.size w2 w3 := below_step (by repeat (first | (with_reducible first | exact Below.refl _ _ | apply below_alloc | apply pw_below_drewN | apply below_drew1) | exact Below.refl _ _)) hb; clear zBK2_0 zBK2_1 zBK2_2 zBK2_3; have n_R := Aside0.mk (R.out.below hbx); have n_BK2 := Aside0.mk (BK2.out.below hbx); have n_HB := Aside0.mk (below_step HB.out hbx); clear HB R BK2; have R := n_R; have BK2 := n_BK2; have HB := n_HB; clear hbx n_R n_BK2 n_HB; clear hb; have zBK2_0 : w3.cell? ⟨g2, 0, none⟩ = some (.string a0) := (blk_cell BK2.out.blk 0).trans rfl; have zBK2_1 : w3.cell? ⟨g2, 1, none⟩ = some (.slice A1 l1.length c1) := (blk_cell BK2.out.blk 1).trans rfl; have zBK2_2 : w3.cell? ⟨g2, 2, none⟩ = some (.slice A2 l2.length c2) := (blk_cell BK2.out.blk 2).trans rfl; have zBK2_3 : w3.cell? ⟨g2, 3, none⟩ = some (.string a3) := (blk_cell BK2.out.blk 3).trans rfl; refine ⟨_, rfl, ?_⟩))
    go_ret
    exact ⟨rfl, HB.out⟩
theorem rmr_walk (w : World) (k1 : List Value) (y1 : ByteArray × List S41 × List S101 × ByteArray) (h1 : KRung.K w y1 k1) (hq : QRung y1) (s : ByteArray) (_ : s.size ≤ maxLen) :
    Calls Try.prog 6 #[.agg k1.toArray, .string s] w fun x w' => x = .returned (.bool true) ∧ Below w.heap.size w w' := by
  obtain ⟨A1, c1, A2, c2, rfl, r1, hz⟩ := rung_form h1 hq
  exact rmr_core w r1 hz
end
end Go.Proofs.Ytmacdknicgfglaa.Gw
end
section
/- flow.CountPaths, walked. -/
namespace Go.Proofs.Ytmacdknicgfglaa.Gw
open Go.RowKit Go.Shelf Go.Proofs.YtmacdknicgfglaaW.PrintWords Go.Proofs.YtmacdknicgfglaaW.PrintMore Go.Proofs.YtmacdknicgfglaaW.PrintLast Go.Proofs.Ytmacdknicgfglaa.Chg Go.Proofs.Ytmacdknicgfglaa.Evt Go.Proofs.Ytmacdknicgfglaa.Impl Go.Proofs.Ytmacdknicgfglaa.Gp Go.Proofs.Ytmacdknicgfglaa.Mp
set_option linter.unusedVariables false
set_option linter.unusedSimpArgs false
set_option maxRecDepth 100000
attribute [local go_sem] Oper.semAt_some
attribute [local go_sem] max2_int min2_int max_two min_two
set_option maxHeartbeats 1000000 in
theorem bwd_any (A : Option Addr) (n c : Nat) (w : World) : Calls Try.prog 59 #[.slice A n c] w fun e w' => ∃ g, e = .returned (.func (.func 65) #[] #[.pointer (some ⟨g, 0, none⟩)]) ∧ Bk w' g 29 #[.slice A n c] ∧ Below w.heap.size w w' := by
  have hmf : ∀ (fn : Fn) (first cap : Array Value) (w : World), (Instr.makeFunc fn first cap).run Try.prog w = .ok (.func fn first cap) w := fun _ _ _ _ => rfl
  have HB := Aside0.mk (Below.refl w.heap.size w)
  go_enter Try.func59, Try.ntmps59
  go_wp2_with (((with_reducible refine gate_dst (N := 1) rfl ?_); refine box_event ?hg (N := 1) ?hd (cs := #[.slice A n c]) (t := 29) ?hr ?_; (case hd => rfl); (case hg => rfl); (case hr => first | (go_simp; done) | (go_simp; rfl)); intro g1 hg w1 hbox hb; have hbx : Below w.heap.size w w1 := below_step (by repeat (first | (with_reducible first | exact Below.refl _ _ | apply below_alloc | apply pw_below_drewN | apply below_drew1) | exact Below.refl _ _)) hb; have n_HB := Aside0.mk (below_step HB.out hbx); clear HB ; have HB := n_HB; clear hbx n_HB; have BK1 := Aside0.mk (Bk.mk (hbox : Blk w1 g1 29 #[.slice A n c])); clear hbox hg hb; have zBK1_0 : w1.cell? ⟨g1, 0, none⟩ = some (.slice A n c) := (blk_cell BK1.out.blk 0).trans rfl))
  go_ret
  exact ⟨_, rfl, BK1.out, HB.out⟩
/-- The table while it is being filled. -/
structure Ci (w2 : World) (g6 b k : Nat) (q : ByteArray → Option Int) (W : World) : Prop where
  bel : Below w2.heap.size w2 W
  bx : Bk W g6 44 #[.map (some b)]
  m : MI W b k q
theorem Ci.below {w2 W W' : World} {g6 b k : Nat} {q : ByteArray → Option Int} (h : Ci w2 g6 b k q W) (hb : Below W.heap.size W W') : Ci w2 g6 b k q W' := ⟨below_step h.bel hb, h.bx.below hb, h.m.below hb⟩
theorem Ci.put {w2 W W' : World} {g6 b k k' : Nat} {q q' : ByteArray → Option Int} (h : Ci w2 g6 b k q W) (hge : w2.heap.size ≤ b) (hm : MI W' b k' q') (hg : W.grownBy W' (some b)) : Ci w2 g6 b k' q' W' :=
  ⟨h.bel.grown hg h.bel.size (fun j e => by cases e; exact hge), h.bx.grown hg (fun e => h.m.ne h.bx.blk (by injection e)), hm⟩
theorem keeps_of_below {B : Nat} {W W' : World} (h : Below W.heap.size W W') : KeepsFrom B W W' := ⟨below_size h, fun k o _ hk _ => (h.block k (Array.getElem?_eq_some_iff.1 hk).1).trans hk⟩
/-- What holds between two rounds of the outer loop. -/
def Cj (w2 : World) (g6 b : Nat) (l : List Ed) (pre : List PN) (W : World) : Prop := ∃ k, k ≤ 1 + 1000 * pre.length ∧ Ci w2 g6 b k (ntab l (pre.map fun x => x.1.2)) W
theorem Cj.own {w2 : World} {g6 b : Nat} {l : List Ed} {B : Nat} (h6 : g6 < B) (hb : b < B) (h2 : w2.heap.size ≤ B) : OwnFrom B (Cj w2 g6 b l) := by
  intro s A C row hs hg hr
  obtain ⟨k, hk, h⟩ := hs
  exact ⟨k, hk, h.bel.grown hg h.bel.size (fun j e => Nat.le_trans h2 (hr j e).1), h.bx.grown hg (fun e => by have := (hr _ e.symm).1; omega), h.m.grown hg (fun e => by have := (hr _ e.symm).1; omega)⟩
theorem Kq.of_below {n₀ g : Nat} {W W' : World} (h : Below W.heap.size W W') (hn : n₀ ≤ W.heap.size) : Kq n₀ g W W' := ⟨h.mono hn, fun hg => h.block g hg⟩
theorem Kq.of_grown {n₀ g b : Nat} {W W' : World} (h : W.grownBy W' (some b)) (hn : n₀ ≤ W.heap.size) (hb : n₀ ≤ b) (hne : g ≠ b) : Kq n₀ g W W' := ⟨(Below.refl n₀ W).grown h hn (fun k e => by cases e; exact hb), fun hg => h.block g hg (fun e => hne (by injection e))⟩
/-- What holds between two rounds of the inner loop. -/
structure Di (w2 w6 W : World) (g g6 b kk : Nat) (ts : List ByteArray) (x : ByteArray) (q0 : ByteArray → Option Int) (wr : World) : Prop where
  c : ∃ k, k ≤ kk + ts.length ∧ Ci w2 g6 b k (ts.foldl (updT x) q0) wr
  kf : KeepsFrom w6.heap.size W wr
  kq : Kq w2.heap.size g W wr
theorem ntab_snoc (l : List Ed) (xs : List ByteArray) (x : ByteArray) : ntab l (xs ++ [x]) = (sucL l x).foldl (updT x) (ntab l xs) := by unfold ntab; rw [List.foldl_append]; rfl
section
variable {w w' : World} {A1 A2 : Option Addr} {c1 c2 : Nat} {l1 : List S41} {l2 : List S101} {a0 a3 : ByteArray}
set_option maxHeartbeats 2000000 in
theorem count_none (w : World) (h : Rg w A1 c1 l1 A2 c2 l2) (hok : okG (es l1) = true) (ht : topo (es l1) = none) :
    Calls Try.prog 37 #[.agg #[.string a0, .slice A1 l1.length c1, .slice A2 l2.length c2, .string a3]] w fun e w' => e = .returned (.tuple #[.int .i64 (countL (es l1)).1, .int .i64 (countL (es l1)).2]) ∧ Below w.heap.size w w' := by
  have OK := Aside0.mk hok
  have EE : errT (topo (es l1)) = 12 := by rw [ht]; rfl
  have CC : countL (es l1) = (0, 12) := by unfold countL; rw [if_neg (by rw [EE]; omega), EE]
  rw [CC]
  have E12 := Aside0.mk EE
  clear ht EE CC
  have HB := Aside0.mk (Below.refl w.heap.size w)
  have R := Aside0.mk (h)
  clear h hok
  go_enter Try.func37, Try.ntmps37
  go_wp2_with (first | ((with_reducible refine gate_dst (N := 1) rfl ?_); refine box_event ?hg (N := 1) ?hd (cs := #[.string a0, .slice A1 l1.length c1, .slice A2 l2.length c2, .string a3]) (t := 25) ?hr ?_; (case hd => rfl); (case hg => rfl); (case hr => first | (go_simp; done) | (go_simp; rfl)); intro g1 hg w1 hbox hb; have hbx : Below w.heap.size w w1 := below_step (by repeat (first | (with_reducible first | exact Below.refl _ _ | apply below_alloc | apply pw_below_drewN | apply below_drew1) | exact Below.refl _ _)) hb; have n_R := Aside0.mk (R.out.below hbx); have n_HB := Aside0.mk (below_step HB.out hbx); clear HB R; have R := n_R; have HB := n_HB; clear hbx n_R n_HB; have BK1 := Aside0.mk (Bk.mk (hbox : Blk w1 g1 25 #[.string a0, .slice A1 l1.length c1, .slice A2 l2.length c2, .string a3])); clear hbox hg hb; have zBK1_0 : w1.cell? ⟨g1, 0, none⟩ = some (.string a0) := (blk_cell BK1.out.blk 0).trans rfl; have zBK1_1 : w1.cell? ⟨g1, 1, none⟩ = some (.slice A1 l1.length c1) := (blk_cell BK1.out.blk 1).trans rfl; have zBK1_2 : w1.cell? ⟨g1, 2, none⟩ = some (.slice A2 l2.length c2) := (blk_cell BK1.out.blk 2).trans rfl; have zBK1_3 : w1.cell? ⟨g1, 3, none⟩ = some (.string a3) := (blk_cell BK1.out.blk 3).trans rfl) | ((with_reducible refine gate_callee (f := 25) rfl ?_); refine goesL_ (some 13) rfl rfl Try.func25 (by kernel_rfl) rfl #[.agg #[.string a0, .slice A1 l1.length c1, .slice A2 l2.length c2, .string a3]] rfl (by (try simp only [List.map_toArray, List.map_cons, List.map_nil]); first | done | rfl | (simp only [List.length_drop, List.length_take]; rfl)) ?_; (with_reducible refine ((topo_any _ (R.out.below (by repeat (first | (with_reducible first | exact Below.refl _ _ | apply below_alloc | apply pw_below_drewN | apply below_drew1) | exact Below.refl _ _))) OK.out)).mono ?_); rintro e w2 ⟨v, rfl, ho, hb⟩; have hbx : Below w1.heap.size w1 w2 := below_step (by repeat (first | (with_reducible first | exact Below.refl _ _ | apply below_alloc | apply pw_below_drewN | apply below_drew1) | exact Below.refl _ _)) hb; rw [E12.out]; clear zBK1_0 zBK1_1 zBK1_2 zBK1_3; have n_R := Aside0.mk (R.out.below hbx); have n_BK1 := Aside0.mk (BK1.out.below hbx); have n_HB := Aside0.mk (below_step HB.out hbx); clear HB R BK1; have R := n_R; have BK1 := n_BK1; have HB := n_HB; clear hbx n_R n_BK1 n_HB; clear hb; have zBK1_0 : w2.cell? ⟨g1, 0, none⟩ = some (.string a0) := (blk_cell BK1.out.blk 0).trans rfl; have zBK1_1 : w2.cell? ⟨g1, 1, none⟩ = some (.slice A1 l1.length c1) := (blk_cell BK1.out.blk 1).trans rfl; have zBK1_2 : w2.cell? ⟨g1, 2, none⟩ = some (.slice A2 l2.length c2) := (blk_cell BK1.out.blk 2).trans rfl; have zBK1_3 : w2.cell? ⟨g1, 3, none⟩ = some (.string a3) := (blk_cell BK1.out.blk 3).trans rfl; refine ⟨_, rfl, ?_⟩))
  go_ret2
  exact ⟨rfl, HB.out⟩
set_option maxHeartbeats 4000000 in
theorem count_some (w : World) (h : Rg w A1 c1 l1 A2 c2 l2) (hok : okG (es l1) = true) {r : List ByteArray} (ht : topo (es l1) = some r) :
    Calls Try.prog 37 #[.agg #[.string a0, .slice A1 l1.length c1, .slice A2 l2.length c2, .string a3]] w fun e w' => e = .returned (.tuple #[.int .i64 (countL (es l1)).1, .int .i64 (countL (es l1)).2]) ∧ Below w.heap.size w w' := by
  have OK := Aside0.mk hok
  have EE : errT (topo (es l1)) = 0 := by rw [ht]; rfl
  have CC : countL (es l1) = (capN (Bw (es l1) sR sL), 0) := by unfold countL; rw [if_pos EE]
  have NT := Aside0.mk (ntab_all ht)
  have SZr : ∀ x ∈ r, x.size ≤ 100000 := fun x hx => nodesL_size OK.out ((topo_ord ht).1.sub x hx)
  have LNr : r.length ≤ 1000000 := by have := topoE_len ht; have := okG_len OK.out; omega
  have TT : (topo (es l1)).getD [] = r := by rw [ht]; rfl
  rw [CC]
  have E0 := Aside0.mk (And.intro EE TT)
  clear ht EE CC TT
  have HB := Aside0.mk (Below.refl w.heap.size w)
  have R := Aside0.mk (h)
  have R0 := Aside0.mk h
  clear h hok
  refine (callsIn_wide (n := 5)).1 ?_
  refine callsIn_of_wp_marks Try.func37 rfl trivial ?_ rfl
  simp only [Try.ntmps37, List.size_toArray, List.length_cons, List.length_nil, Nat.reduceAdd, Nat.reduceSub, Array.replicate_succ, Array.replicate_zero, List.push_toArray, List.append_toArray, List.nil_append, List.cons_append]
  refine wpIn_wide.2 ?_
  go_wp2_with (first | ((with_reducible refine gate_dst (N := 1) rfl ?_); refine box_event ?hg (N := 1) ?hd (cs := #[.string a0, .slice A1 l1.length c1, .slice A2 l2.length c2, .string a3]) (t := 25) ?hr ?_; (case hd => rfl); (case hg => rfl); (case hr => first | (go_simp; done) | (go_simp; rfl)); intro g1 hg w1 hbox hb; have hbx : Below w.heap.size w w1 := below_step (by repeat (first | (with_reducible first | exact Below.refl _ _ | apply below_alloc | apply pw_below_drewN | apply below_drew1) | exact Below.refl _ _)) hb; have n_R := Aside0.mk (R.out.below hbx); have n_HB := Aside0.mk (below_step HB.out hbx); clear HB R; have R := n_R; have HB := n_HB; clear hbx n_R n_HB; have BK1 := Aside0.mk (Bk.mk (hbox : Blk w1 g1 25 #[.string a0, .slice A1 l1.length c1, .slice A2 l2.length c2, .string a3])); clear hbox hg hb; have zBK1_0 : w1.cell? ⟨g1, 0, none⟩ = some (.string a0) := (blk_cell BK1.out.blk 0).trans rfl; have zBK1_1 : w1.cell? ⟨g1, 1, none⟩ = some (.slice A1 l1.length c1) := (blk_cell BK1.out.blk 1).trans rfl; have zBK1_2 : w1.cell? ⟨g1, 2, none⟩ = some (.slice A2 l2.length c2) := (blk_cell BK1.out.blk 2).trans rfl; have zBK1_3 : w1.cell? ⟨g1, 3, none⟩ = some (.string a3) := (blk_cell BK1.out.blk 3).trans rfl) | ((with_reducible refine gate_callee (f := 25) rfl ?_); refine goesL_ (some 13) rfl rfl Try.func25 (by kernel_rfl) rfl #[.agg #[.string a0, .slice A1 l1.length c1, .slice A2 l2.length c2, .string a3]] rfl (by (try simp only [List.map_toArray, List.map_cons, List.map_nil]); first | done | rfl | (simp only [List.length_drop, List.length_take]; rfl)) ?_; (with_reducible refine ((topo_any _ (R.out.below (by repeat (first | (with_reducible first | exact Below.refl _ _ | apply below_alloc | apply pw_below_drewN | apply below_drew1) | exact Below.refl _ _))) OK.out)).mono ?_); rintro e w2 ⟨v, rfl, ho, hb⟩; have hbx : Below w1.heap.size w1 w2 := below_step (by repeat (first | (with_reducible first | exact Below.refl _ _ | apply below_alloc | apply pw_below_drewN | apply below_drew1) | exact Below.refl _ _)) hb; rw [E0.out.1]; rw [E0.out.2] at ho; have hbR := hbx; obtain ⟨Y1, y1, rfl, hw_⟩ := Ro.sliceS ho; clear zBK1_0 zBK1_1 zBK1_2 zBK1_3; have n_BK1 := Aside0.mk (BK1.out.below hbx); have n_HB := Aside0.mk (below_step HB.out hbx); clear HB BK1; have BK1 := n_BK1; have HB := n_HB; clear hbx n_BK1 n_HB; clear hb; have R2 := Aside0.mk (R.out.below hbR); clear R; have RW := hw_; have HB0 := HB; clear HB; have HB := Aside0.mk (Below.refl w2.heap.size w2); have G1 := Aside0.mk BK1.out.blk.lt; have B12 := BK1; clear ho hw_ hbR; have zBK1_0 : w2.cell? ⟨g1, 0, none⟩ = some (.string a0) := (blk_cell BK1.out.blk 0).trans rfl; have zBK1_1 : w2.cell? ⟨g1, 1, none⟩ = some (.slice A1 l1.length c1) := (blk_cell BK1.out.blk 1).trans rfl; have zBK1_2 : w2.cell? ⟨g1, 2, none⟩ = some (.slice A2 l2.length c2) := (blk_cell BK1.out.blk 2).trans rfl; have zBK1_3 : w2.cell? ⟨g1, 3, none⟩ = some (.string a3) := (blk_cell BK1.out.blk 3).trans rfl; refine ⟨_, rfl, ?_⟩) | ((with_reducible refine gate_dst (N := 19) rfl ?_); refine Mp.mkI_ev rfl (N := 19) rfl rfl ?_; intro b19 hg w3 hmap hb; have hbx : Below w2.heap.size w2 w3 := below_step (by repeat (first | (with_reducible first | exact Below.refl _ _ | apply below_alloc | apply pw_below_drewN | apply below_drew1) | exact Below.refl _ _)) hb; have hge_ : w2.heap.size ≤ b19 := (by rw [hg]; exact below_size (below_step HB.out (by repeat (first | (with_reducible first | exact Below.refl _ _ | apply below_alloc | apply pw_below_drewN | apply below_drew1) | exact Below.refl _ _)))); clear zBK1_0 zBK1_1 zBK1_2 zBK1_3; have n_BK1 := Aside0.mk (BK1.out.below hbx); have n_HB := Aside0.mk (below_step HB.out hbx); clear HB BK1; have BK1 := n_BK1; have HB := n_HB; clear hbx n_BK1 n_HB; have M19 := Aside0.mk hmap; have GE19 := Aside0.mk hge_; clear hmap hg hb hge_; have zBK1_0 : w3.cell? ⟨g1, 0, none⟩ = some (.string a0) := (blk_cell BK1.out.blk 0).trans rfl; have zBK1_1 : w3.cell? ⟨g1, 1, none⟩ = some (.slice A1 l1.length c1) := (blk_cell BK1.out.blk 1).trans rfl; have zBK1_2 : w3.cell? ⟨g1, 2, none⟩ = some (.slice A2 l2.length c2) := (blk_cell BK1.out.blk 2).trans rfl; have zBK1_3 : w3.cell? ⟨g1, 3, none⟩ = some (.string a3) := (blk_cell BK1.out.blk 3).trans rfl) | (refine Mp.putI_ev rfl (.inr rfl) (s := ⟨#[82]⟩) (v := 1) rfl rfl rfl (WalkArith.wf_i64 (by omega)) (by decide) (by unfold maxLen; omega) (M19.out.below (by repeat (first | (with_reducible first | exact Below.refl _ _ | apply below_alloc | apply pw_below_drewN | apply below_drew1) | exact Below.refl _ _))) ?_; intro w4 hM hg_; clear zBK1_0 zBK1_1 zBK1_2 zBK1_3; have n_BK1 := Aside0.mk ((BK1.out.below (by repeat (first | (with_reducible first | exact Below.refl _ _ | apply below_alloc | apply pw_below_drewN | apply below_drew1) | exact Below.refl _ _))).mputI (M19.out.below (by repeat (first | (with_reducible first | exact Below.refl _ _ | apply below_alloc | apply pw_below_drewN | apply below_drew1) | exact Below.refl _ _))) hg_); have n_HB := Aside0.mk ((below_step HB.out (by repeat (first | (with_reducible first | exact Below.refl _ _ | apply below_alloc | apply pw_below_drewN | apply below_drew1) | exact Below.refl _ _))).grown hg_ (below_size (below_step HB.out (by repeat (first | (with_reducible first | exact Below.refl _ _ | apply below_alloc | apply pw_below_drewN | apply below_drew1) | exact Below.refl _ _)))) (fun k hk => (by cases hk; exact GE19.out))); clear HB BK1 M19; have BK1 := n_BK1; have HB := n_HB; have M19 := Aside0.mk hM; clear hM hg_ n_BK1 n_HB; have zBK1_0 : w4.cell? ⟨g1, 0, none⟩ = some (.string a0) := (blk_cell BK1.out.blk 0).trans rfl; have zBK1_1 : w4.cell? ⟨g1, 1, none⟩ = some (.slice A1 l1.length c1) := (blk_cell BK1.out.blk 1).trans rfl; have zBK1_2 : w4.cell? ⟨g1, 2, none⟩ = some (.slice A2 l2.length c2) := (blk_cell BK1.out.blk 2).trans rfl; have zBK1_3 : w4.cell? ⟨g1, 3, none⟩ = some (.string a3) := (blk_cell BK1.out.blk 3).trans rfl) | ((with_reducible refine gate_dst (N := 6) rfl ?_); refine Evt.box1 ?hg1_ (N := 6) ?hd1_ (z := .map none) (v := .map (some b19)) (T := 44) ?hr1_ ?hg21_ ?hd21_ ?hr21_ ?_; (case hd1_ => rfl); (case hg1_ => rfl); (case hr1_ => first | (go_simp; done) | (go_simp; rfl)); (case hg21_ => rfl); (case hd21_ => rfl); (case hr21_ => first | (go_simp; done) | (go_simp; rfl)); intro g6 hg w5 hbox hb; have hbx : Below w4.heap.size w4 w5 := below_step (by repeat (first | (with_reducible first | exact Below.refl _ _ | apply below_alloc | apply pw_below_drewN | apply below_drew1) | exact Below.refl _ _)) hb; have GG6 := Aside0.mk (show w2.heap.size ≤ g6 from (by rw [hg]; exact below_size (below_step HB.out (by repeat (first | (with_reducible first | exact Below.refl _ _ | apply below_alloc | apply pw_below_drewN | apply below_drew1) | exact Below.refl _ _))))); clear zBK1_0 zBK1_1 zBK1_2 zBK1_3; have n_BK1 := Aside0.mk (BK1.out.below hbx); have n_M19 := Aside0.mk (M19.out.below hbx); have n_HB := Aside0.mk (below_step HB.out hbx); clear HB BK1 M19; have BK1 := n_BK1; have M19 := n_M19; have HB := n_HB; clear hbx n_BK1 n_M19 n_HB; have BK6 := Aside0.mk (Bk.mk (hbox : Blk w5 g6 44 #[.map (some b19)])); clear hbox hg hb; have zBK1_0 : w5.cell? ⟨g1, 0, none⟩ = some (.string a0) := (blk_cell BK1.out.blk 0).trans rfl; have zBK1_1 : w5.cell? ⟨g1, 1, none⟩ = some (.slice A1 l1.length c1) := (blk_cell BK1.out.blk 1).trans rfl; have zBK1_2 : w5.cell? ⟨g1, 2, none⟩ = some (.slice A2 l2.length c2) := (blk_cell BK1.out.blk 2).trans rfl; have zBK1_3 : w5.cell? ⟨g1, 3, none⟩ = some (.string a3) := (blk_cell BK1.out.blk 3).trans rfl; have zBK6_0 : w5.cell? ⟨g6, 0, none⟩ = some (.map (some b19)) := (blk_cell BK6.out.blk 0).trans rfl) | ((with_reducible refine gate_callee (f := 59) rfl ?_); refine goesL_ (some 22) rfl rfl Try.func59 (by kernel_rfl) rfl #[.slice Y1 r.length y1] rfl (by (try simp only [List.map_toArray, List.map_cons, List.map_nil]); first | done | rfl | (simp only [List.length_drop, List.length_take]; rfl)) ?_; (with_reducible refine (bwd_any Y1 r.length y1 _).mono ?_); rintro e w6 ⟨g, rfl, hbk, hb⟩; have hbx : Below w5.heap.size w5 w6 := below_step (by repeat (first | (with_reducible first | exact Below.refl _ _ | apply below_alloc | apply pw_below_drewN | apply below_drew1) | exact Below.refl _ _)) hb; clear zBK1_0 zBK1_1 zBK1_2 zBK1_3 zBK6_0; have n_BK1 := Aside0.mk (BK1.out.below hbx); have n_M19 := Aside0.mk (M19.out.below hbx); have n_BK6 := Aside0.mk (BK6.out.below hbx); have n_HB := Aside0.mk (below_step HB.out hbx); clear HB BK1 M19 BK6; have BK1 := n_BK1; have M19 := n_M19; have BK6 := n_BK6; have HB := n_HB; clear hbx n_BK1 n_M19 n_BK6 n_HB; have BV := Aside0.mk (hbk); clear hb; clear hbk; have zBK1_0 : w6.cell? ⟨g1, 0, none⟩ = some (.string a0) := (blk_cell BK1.out.blk 0).trans rfl; have zBK1_1 : w6.cell? ⟨g1, 1, none⟩ = some (.slice A1 l1.length c1) := (blk_cell BK1.out.blk 1).trans rfl; have zBK1_2 : w6.cell? ⟨g1, 2, none⟩ = some (.slice A2 l2.length c2) := (blk_cell BK1.out.blk 2).trans rfl; have zBK1_3 : w6.cell? ⟨g1, 3, none⟩ = some (.string a3) := (blk_cell BK1.out.blk 3).trans rfl; have zBK6_0 : w6.cell? ⟨g6, 0, none⟩ = some (.map (some b19)) := (blk_cell BK6.out.blk 0).trans rfl; refine ⟨_, rfl, ?_⟩))
  have BN : g1 < w2.heap.size := G1.out
  have HB6 := Aside0.mk HB.out
  have S6 : w2.heap.size ≤ w6.heap.size := below_size HB.out
  have I0 : Cj w2 g6 b19 (es l1) [] w6 := ⟨1, by simp, HB.out, BK6.out, M19.out⟩
  have CE : encPN = fun x : PN => #[.int .i64 x.1.1, .string x.1.2] := rfl
  rw [← wpIn_wide (n := 5)]
  refine wpIn_rangeFunc_ownG (α := PN) (encs := encPN) (Kp := Kq w2.heap.size g) (S := fun ys => ys = (withN r SZr).reverse) (Sp := fun pre => pre <+: (withN r SZr).reverse) (N := r.length) (w0 := w6) rfl (by omega) (gf := 65) (lb := #[.pointer (some ⟨g, 0, none⟩)]) rfl trivial (enters_of Try.func65 (by kernel_rfl) rfl)
    (fun l J Jx W hW _ _ hY h0 => bw1_in 4 (by omega) l g w2.heap.size Y1 y1 r SZr LNr J Jx hY W (BV.out.below hW) (fun W' hb' => RW.out.below ((below_step HB.out hW).trans hb'.bel)) h0)
    Kq.trans (Kq.put S6 BV.out.blk.lt) (Below.refl _ _) (fun _ => rfl) (Cj w2 g6 b19 (es l1)) (fun _ _ _ => False) (Cj.own BK6.out.blk.lt M19.out.lt S6) (fun _ _ _ _ _ hs _ _ => hs) I0
    (fun x => { tmps := #[.agg #[.string a0, .slice A1 l1.length c1, .slice A2 l2.length c2, .string a3], .pointer (some ⟨g1, 0, none⟩), .int .i64 0, .int .i64 0, .slice Y1 r.length y1, .int .i64 0, .pointer (some ⟨g6, 0, none⟩), undef, .string x.1.2, undef, undef, .tuple #[.slice Y1 r.length y1, .int .i64 0], .agg #[.string a0, .slice A1 l1.length c1, .slice A2 l2.length c2, .string a3], .tuple #[.slice Y1 r.length y1, .int .i64 0], .slice Y1 r.length y1, .int .i64 0, .int .i64 0, .bool false, undef, .map (some b19), .map (some b19), .slice Y1 r.length y1, .func (.func 65) #[] #[.pointer (some ⟨g, 0, none⟩)], .int .i64 x.1.1, .string x.1.2, undef, undef, undef, undef, undef, undef, undef, undef, undef, undef, undef, undef, undef, undef, undef, undef, undef, undef, undef, undef, undef, undef, undef, undef, undef, undef, undef, undef], defers := [] }) ?assign ?body ?done ?stop
  case assign =>
    intro l x W K hK
    gi_wp2
    exact hK
  case stop =>
    rintro D c pre W _ _ h _
    exact h.elim
  case done =>
    rintro D ys W hD rfl ⟨kk, hkk, hC⟩ hK
    have e1 : (((withN r SZr).reverse.map fun x => x.1.2)) = r.reverse := withN_names r SZr
    rw [e1] at hC
    have HC := Aside0.mk hC
    have y6 := hC.bx.blk.cell 0 rfl
    clear hC e1
    have sL_ := Mp.MI.look HC.out.m (s := ⟨#[76]⟩) (by decide)
    have NT' : (ntab (es l1) r.reverse ⟨#[76]⟩).getD 0 = capN (Bw (es l1) sR sL) := NT.out
    rw [NT'] at sL_
    clear NT'
    go_wp2
    refine ⟨by simp, .inl ⟨_, _, rfl, run_takeDeferred hK, ?_⟩⟩
    refine ⟨_, results_tmp2 rfl _ _ _, rfl, ?_⟩
    refine below_step HB0.out (HC.out.bel.trans ?_)
    exact belowK_b (w := w2) (Nat.le_refl _) W D _ _ (Nat.le_trans S6 hD) hK rfl rfl
  case body =>
    rintro l pre x W ⟨kk, hkk, hC⟩ hlt
    obtain ⟨⟨ix, x⟩, hxs⟩ := x
    have hxz : x.size ≤ 100000 := hxs
    have XZ := Aside0.mk hxz
    have XM : Aside0 (x.size ≤ maxLen) := ⟨by unfold maxLen; omega⟩
    have PL : pre.length ≤ 1000000 := by omega
    have HCW := Aside0.mk hC
    have LN : l1.length ≤ 1000 := by have := okG_len OK.out; rw [es_len] at this; exact this
    have NN : Aside0 ((outL (es l1) x).length ≤ 1000) := Aside0.mk (by have := idxs_len (fun c => decide (c.1 = x)) (es l1); rw [es_len] at this; unfold outL; omega)
    have TB := Aside0.mk (ntab_bd (es l1) (pre.map fun x => x.1.2))
    have HK0 := Aside0.mk hkk
    have E2 : Aside0 ((pre ++ [(⟨(ix, x), hxs⟩ : PN)]).map (fun x : PN => x.1.2) = pre.map (fun x : PN => x.1.2) ++ [x]) := ⟨by simp⟩
    generalize hq : ntab (es l1) (pre.map fun x => x.1.2) = q0 at HCW TB hC
    have HQ := Aside0.mk hq
    have HB := Aside0.mk (Below.refl W.heap.size W)
    have CC := Aside0.mk (hC)
    have RG := Aside0.mk (R2.out.below hC.bel)
    have KR : Aside0 (Bk W g1 25 #[.string a0, .slice A1 l1.length c1, .slice A2 l2.length c2, .string a3]) := Aside0.mk (B12.out.below hC.bel)
    clear hC
    clear zBK1_0 zBK1_1 zBK1_2 zBK1_3 zBK6_0 hq hkk hlt
    have zKR_0 : W.cell? ⟨g1, 0, none⟩ = some (.string a0) := (blk_cell KR.out.blk 0).trans rfl
    have zKR_1 : W.cell? ⟨g1, 1, none⟩ = some (.slice A1 l1.length c1) := (blk_cell KR.out.blk 1).trans rfl
    have zKR_2 : W.cell? ⟨g1, 2, none⟩ = some (.slice A2 l2.length c2) := (blk_cell KR.out.blk 2).trans rfl
    have zKR_3 : W.cell? ⟨g1, 3, none⟩ = some (.string a3) := (blk_cell KR.out.blk 3).trans rfl
    gi_wp2_with ((refine ⟨trivial, ?_⟩; gi_at_call 21; (with_reducible refine (CallsIn.inRound l (callsIn_wide.2 (outgoing_any _ (RG.out.below (by repeat (first | (with_reducible first | exact Below.refl _ _ | apply below_alloc | apply pw_below_drewN | apply below_drew1) | exact Below.refl _ _))) LN x))).mono ?_); rintro e w1 ⟨v, rfl, ho, hb⟩; have hbx : Below W.heap.size W w1 := below_step (by repeat (first | (with_reducible first | exact Below.refl _ _ | apply below_alloc | apply pw_below_drewN | apply below_drew1) | exact Below.refl _ _)) hb; have hb0_ := hbx; obtain ⟨A_, c_, rfl, _⟩ := Ro.sliceI ho; have ho_ := Ro.lower ho (below_size (below_step HB.out (by repeat (first | (with_reducible first | exact Below.refl _ _ | apply below_alloc | apply pw_below_drewN | apply below_drew1) | exact Below.refl _ _)))); clear zKR_0 zKR_1 zKR_2 zKR_3; have n_CC := Aside0.mk (CC.out.below hbx); have n_RG := Aside0.mk (RG.out.below hbx); have n_KR := Aside0.mk (KR.out.below hbx); have n_HB := Aside0.mk (below_step HB.out hbx); clear HB CC RG KR; have CC := n_CC; have RG := n_RG; have KR := n_KR; have HB := n_HB; clear hbx n_CC n_RG n_KR n_HB; have IW := Aside0.mk (ho_); clear hb; have HB1 := Aside0.mk hb0_; clear ho ho_ hb0_; have zKR_0 : w1.cell? ⟨g1, 0, none⟩ = some (.string a0) := (blk_cell KR.out.blk 0).trans rfl; have zKR_1 : w1.cell? ⟨g1, 1, none⟩ = some (.slice A1 l1.length c1) := (blk_cell KR.out.blk 1).trans rfl; have zKR_2 : w1.cell? ⟨g1, 2, none⟩ = some (.slice A2 l2.length c2) := (blk_cell KR.out.blk 2).trans rfl; have zKR_3 : w1.cell? ⟨g1, 3, none⟩ = some (.string a3) := (blk_cell KR.out.blk 3).trans rfl))
    have GB : g ≠ b19 := M19.out.ne BV.out.blk
    have MB_ : b19 < w6.heap.size := M19.out.lt
    have D0 : Aside0 (Di w2 w6 W g g6 b19 kk ((sucL (es l1) x).take 0) x q0 w1) := Aside0.mk ⟨⟨kk, by simp, CC.out⟩, keeps_of_below HB1.out, Kq.of_below HB1.out HCW.out.bel.size⟩
    have IW0 := IW
    clear CC HB HB1 KR IW zKR_0 zKR_1 zKR_2 zKR_3 RG
    gi_loopg [29] (outL (es l1) x).length (fun kq v29 wr => ∃ j : Nat, v29 = .int .i64 j ∧ Aside0 (j + kq = (outL (es l1) x).length) ∧ Aside0 (Di w2 w6 W g g6 b19 kk ((sucL (es l1) x).take j) x q0 wr ∧ Ro (Kd.int .i64) 3 W wr (.slice A_ (outL (es l1) x).length c_) (outL (es l1) x)))
    case atStart => exact ⟨0, rfl, ⟨by omega⟩, ⟨D0.out, IW0.out⟩⟩
    case round =>
      clear D0 IW0
      obtain ⟨j, rfl, hj, HD⟩ := hrel
      cases gk with
      | zero =>
        have e0 : j = (outL (es l1) x).length := by have := hj.out; omega
        have q0_ : decide (j < (outL (es l1) x).length) = false := decide_eq_false (by omega)
        have q1_ : decide ((j : Int) < ((outL (es l1) x).length : Int)) = false := decide_eq_false (by omega)
        have TE : (sucL (es l1) x).take j = sucL (es l1) x := List.take_of_length_le (by unfold sucL; rw [List.length_map]; omega)
        have TE' := Aside0.mk TE
        clear e0 TE
        gi_wp2
        obtain ⟨⟨⟨k9, hk9, hC9⟩, hkf, hkq⟩, _⟩ := HD.out
        rw [TE'.out] at hC9 hk9
        refine ⟨hkf, hkq, k9, ?_, ?_⟩
        · have h1 := HK0.out
          have h2 : (sucL (es l1) x).length ≤ 1000 := by unfold sucL; rw [List.length_map]; exact NN.out
          simp only [List.length_append, List.length_singleton]
          omega
        · rw [E2.out, ntab_snoc, HQ.out]; exact hC9
      | succ k1 =>
        have hjl : j < (outL (es l1) x).length := by have := hj.out; omega
        have q0_ : decide (j < (outL (es l1) x).length) = true := decide_eq_true (by omega)
        have q1_ : decide ((j : Int) < ((outL (es l1) x).length : Int)) = true := decide_eq_true (by omega)
        obtain ⟨m, hm, hml⟩ : ∃ m : Nat, (outL (es l1) x)[j] = (m : Int) ∧ m < l1.length := by
          obtain ⟨m, hm, hl, _⟩ := outL_mem.1 (List.getElem_mem hjl)
          exact ⟨m, hm, by rw [es_len] at hl; exact hl⟩
        have p0 : decide (m < l1.length) = true := decide_eq_true hml
        have p1 : decide ((m : Int) < (l1.length : Int)) = true := decide_eq_true (by omega)
        obtain ⟨ad, rfl, x0⟩ := at_int0 (Rw.of_R HD.out.2.row).row (j : Int) (by omega) (by omega)
        rw [Int.toNat_natCast, show rd (outL (es l1) x) (j : Int) = (m : Int) by rw [← hm]; simp [rd, List.getD_eq_getElem?_getD, List.getElem?_eq_getElem hjl]] at x0
        have ST := Aside0.mk (show (sucL (es l1) x).take (j + 1) = (sucL (es l1) x).take j ++ [l1[m].f3] by unfold sucL; rw [List.take_succ_eq_append_getElem (by rw [List.length_map]; exact hjl), List.getElem_map, hm, to_at hml])
        have SL : Aside0 (((sucL (es l1) x).take j).length ≤ 1000) := ⟨by rw [List.length_take]; have := NN.out; have h9 : (sucL (es l1) x).length = (outL (es l1) x).length := (by unfold sucL; rw [List.length_map]); omega⟩
        have C3 := Aside0.mk (okG_f3 OK.out (c := (l1[m].f2, l1[m].f3)) (by rw [← es_get hml]; exact List.getElem_mem _))
        clear hm
        generalize hts : (sucL (es l1) x).take j = ts at ST SL HD
        clear hts
        obtain ⟨ad2, rfl, _⟩ := R2.out.at hml
        have NN9 : (outL (es l1) x).length ≤ 1000 := NN.out
        by_cases hx : x = ⟨#[82]⟩
        · subst hx
          gi_wp2
          gi_roundg k1
          case measure => omega
          case rel =>
            obtain ⟨⟨⟨k9, hk9, hC9⟩, hkf, hkq⟩, hio⟩ := HD.out
            have e9 : (ts ++ [l1[m].f3]).foldl (updT ⟨#[82]⟩) q0 = ts.foldl (updT ⟨#[82]⟩) q0 := (foldR _ _).trans (foldR _ _).symm
            exact ⟨j + 1, by go_num, ⟨by have := hj.out; omega⟩, ⟨by rw [ST.out]; exact ⟨⟨k9, by simp; omega, by rw [e9]; exact hC9⟩, hkf, hkq⟩, hio⟩⟩
        · have hx1 : (x.toList == ([82] : List UInt8)) = false := beq_eq_false_iff_ne.mpr (fun e => hx (str_eq.1 (e.trans (by decide +kernel))))
          have hx2 : (x.toList != ([82] : List UInt8)) = true := by rw [bne, hx1]; rfl
          have HX := Aside0.mk hx
          clear hx
          gi_wp2
          clear hx1 hx2
          obtain ⟨⟨⟨k9, hk9, hC9⟩, hkf, hkq⟩, hio⟩ := HD.out
          have TB9 := Aside0.mk (foldT_bd (x := x) ts q0 TB.out)
          have FX : Aside0 ((fun y => if y = x then some (min 1073741824 ((ts.foldl (updT x) q0 x).getD 0 + (ts.foldl (updT x) q0 l1[m].f3).getD 0)) else ts.foldl (updT x) q0 y) = (ts ++ [l1[m].f3]).foldl (updT x) q0) := ⟨by rw [List.foldl_append, List.foldl_cons, List.foldl_nil]; exact (if_neg HX.out).symm⟩
          generalize hqn : ts.foldl (updT x) q0 = qn at hC9 TB9 FX
          clear hqn
          obtain ⟨v1, hv1⟩ : ∃ v1, Aside0 ((qn x).getD 0 = v1) := ⟨_, ⟨rfl⟩⟩
          obtain ⟨v2, hv2⟩ : ∃ v2, Aside0 ((qn l1[m].f3).getD 0 = v2) := ⟨_, ⟨rfl⟩⟩
          have b1 := TB9.out x
          have b2 := TB9.out l1[m].f3
          rw [hv1.out] at b1
          rw [hv2.out] at b2
          rw [hv1.out, hv2.out] at FX
          obtain ⟨b1l, b1u⟩ := b1
          obtain ⟨b2l, b2u⟩ := b2
          have hw : wrap64 (v1 + v2) = v1 + v2 := by unfold wrap64; omega
          have eM : min 1073741824 (v1 + v2) = if v1 + v2 < 1073741824 then v1 + v2 else 1073741824 := by split <;> omega
          rw [eM] at FX
          have WF9 : Aside0 ((Lit.int .i64 (if v1 + v2 < 1073741824 then v1 + v2 else 1073741824)).wf = true) := ⟨WalkArith.wf_i64 (by split <;> omega)⟩
          clear eM
          have KK9 : Aside0 (k9 < maxLen) := ⟨by have := HK0.out; have := SL.out; unfold maxLen; omega⟩
          have hk9' := Aside0.mk hk9
          have WS9 := Aside0.mk hC9.bel.size
          have KF9 := Aside0.mk (And.intro hkf (And.intro hkq hio))
          clear hk9 hkf hkq hio HD
          have HB := Aside0.mk (Below.refl wr.heap.size wr)
          have CC := Aside0.mk (hC9)
          have MR := Aside0.mk (hC9.m)
          have RG := Aside0.mk (R2.out.below hC9.bel)
          have KS : Aside0 (Bk wr g1 25 #[.string a0, .slice (some ad2) l1.length c1, .slice A2 l2.length c2, .string a3]) := Aside0.mk (B12.out.below hC9.bel)
          have K6 : Aside0 (Bk wr g6 44 #[.map (some b19)]) := Aside0.mk (hC9.bx)
          clear hC9
          have zKS_0 : wr.cell? ⟨g1, 0, none⟩ = some (.string a0) := (blk_cell KS.out.blk 0).trans rfl
          have zKS_1 : wr.cell? ⟨g1, 1, none⟩ = some (.slice (some ad2) l1.length c1) := (blk_cell KS.out.blk 1).trans rfl
          have zKS_2 : wr.cell? ⟨g1, 2, none⟩ = some (.slice A2 l2.length c2) := (blk_cell KS.out.blk 2).trans rfl
          have zKS_3 : wr.cell? ⟨g1, 3, none⟩ = some (.string a3) := (blk_cell KS.out.blk 3).trans rfl
          have zK6_0 : wr.cell? ⟨g6, 0, none⟩ = some (.map (some b19)) := (blk_cell K6.out.blk 0).trans rfl
          have KP : Aside0 (∀ w', Below wr.heap.size wr w' → (w'.cell? ⟨g1, 0, none⟩ = some (.string a0) ∧ w'.cell? ⟨g1, 1, none⟩ = some (.slice (some ad2) l1.length c1) ∧ w'.cell? ⟨g1, 2, none⟩ = some (.slice A2 l2.length c2) ∧ w'.cell? ⟨g1, 3, none⟩ = some (.string a3) ∧ w'.cell? ⟨g6, 0, none⟩ = some (.map (some b19)))) := Aside0.mk (fun w' hb => ⟨(blk_cell (KS.out.below hb).blk 0).trans rfl, (blk_cell (KS.out.below hb).blk 1).trans rfl, (blk_cell (KS.out.below hb).blk 2).trans rfl, (blk_cell (KS.out.below hb).blk 3).trans rfl, (blk_cell (K6.out.below hb).blk 0).trans rfl⟩)
          clear zKS_0 zKS_1 zKS_2 zKS_3 zK6_0
          refine Evt.ol_startIn (by kernel_rfl) (by rintro ⟨a_, w_, h_⟩; exact (show False from h_)) (ds := [15]) (w0 := wr) (T := (true, [([], []), ([], []), ([], []), ([], []), ([2, 3], [2, 3]), ([], []), ([], []), ([6], [6]), ([], []), ([7, 8], [7, 8]), ([9], [9]), ([10], [10]), ([5, 11], [5, 11]), ([4, 12], [4, 12]), ([13], [13]), ([0, 1, 14, 0, 1, 2, 3, 4, 5, 6, 7, 8, 9, 10, 11, 12, 13, 14], [0, 1, 14])])) (B := [0, 0, 0, 0, 12, 0, 0, 64, 0, 448, 960, 1984, 4064, 8188, 16380, 32767]) 16 [(1, some 36), (3, some 38), (6, some 41), (8, some 43), (0, some 35), (2, some 37), (4, some 39), (5, some 40), (7, some 42), (9, some 44), (10, some 45), (11, some 46), (12, some 47), (13, some 48), (14, some 49), (15, none)] (by kernel_rfl) rfl (by kernel_rfl) (by kernel_rfl) (by kernel_rfl) (by repeat (first | (with_reducible first | exact Below.refl _ _ | apply below_alloc | apply pw_below_drewN | apply below_drew1) | exact Below.refl _ _)) ?_
          intro HT_ HW_ w_ hHeld
          iterate 6 (first | (refine Evt.ol_off (a' := ?_) HT_ rfl rfl (by rfl) (by kernel_rfl) (fun _ _ _ h => h) ?_ ?_; rotate_left; (· (try simp only [Act.put, List.setIfInBounds_toArray, List.set_cons_zero, List.set_cons_succ, i64_w, i32_w]); rfl)) | (refine Evt.ol_pure (a' := ?_) (v := ?_) HT_ rfl rfl rfl (by rfl) (by kernel_rfl) (fun _ _ _ h => h) ?_ ?_ ?_; rotate_left 2; (· intro w'; go_simp; with_reducible rfl); (· (try simp only [Act.put, List.setIfInBounds_toArray, List.set_cons_zero, List.set_cons_succ, i64_w, i32_w]); rfl)) | (refine Evt.ol_load (a' := ?_) (v := ?_) HT_ HW_ hHeld rfl rfl rfl (by rfl) (by kernel_rfl) (fun _ _ _ h => h) ?_ ?_ ?_; rotate_left 2; (· intro w' hS_; obtain ⟨s0, s1, s2, s3, s4⟩ := KP.out w' hS_.out; have y4 := (RG.out.below hS_.out).c4 hml; go_simp; with_reducible rfl); (· (try simp only [Act.put, List.setIfInBounds_toArray, List.set_cons_zero, List.set_cons_succ, i64_w, i32_w]); rfl)))
          refine Evt.ol_lookI (a' := ?a2_) HT_ HW_ hHeld rfl rfl rfl (by rfl) (by kernel_rfl) (fun _ _ _ _ h => h) (s := x) (v := v1) (fun w_' hS_ => MR.out.below hS_.out) XM.out hv1.out rfl rfl ?ha2_ ?h2_
          case ha2_ => (simp only [Act.put, List.setIfInBounds_toArray, List.set_cons_zero, List.set_cons_succ, i64_w, i32_w]; rfl)
          iterate 5 (first | (refine Evt.ol_off (a' := ?_) HT_ rfl rfl (by rfl) (by kernel_rfl) (fun _ _ _ h => h) ?_ ?_; rotate_left; (· (try simp only [Act.put, List.setIfInBounds_toArray, List.set_cons_zero, List.set_cons_succ, i64_w, i32_w]); rfl)) | (refine Evt.ol_pure (a' := ?_) (v := ?_) HT_ rfl rfl rfl (by rfl) (by kernel_rfl) (fun _ _ _ h => h) ?_ ?_ ?_; rotate_left 2; (· intro w'; go_simp; with_reducible rfl); (· (try simp only [Act.put, List.setIfInBounds_toArray, List.set_cons_zero, List.set_cons_succ, i64_w, i32_w]); rfl)) | (refine Evt.ol_load (a' := ?_) (v := ?_) HT_ HW_ hHeld rfl rfl rfl (by rfl) (by kernel_rfl) (fun _ _ _ h => h) ?_ ?_ ?_; rotate_left 2; (· intro w' hS_; obtain ⟨s0, s1, s2, s3, s4⟩ := KP.out w' hS_.out; have y4 := (RG.out.below hS_.out).c4 hml; go_simp; with_reducible rfl); (· (try simp only [Act.put, List.setIfInBounds_toArray, List.set_cons_zero, List.set_cons_succ, i64_w, i32_w]); rfl)))
          refine Evt.ol_lookI (a' := ?a3_) HT_ HW_ hHeld rfl rfl rfl (by rfl) (by kernel_rfl) (fun _ _ _ _ h => h) (s := l1[m].f3) (v := v2) (fun w_' hS_ => MR.out.below hS_.out) (by have := C3.out; unfold maxLen; show l1[m].f3.size ≤ _; omega) hv2.out rfl rfl ?ha3_ ?h3_
          case ha3_ => (simp only [Act.put, List.setIfInBounds_toArray, List.set_cons_zero, List.set_cons_succ, i64_w, i32_w]; rfl)
          iterate 2 (first | (refine Evt.ol_off (a' := ?_) HT_ rfl rfl (by rfl) (by kernel_rfl) (fun _ _ _ h => h) ?_ ?_; rotate_left; (· (try simp only [Act.put, List.setIfInBounds_toArray, List.set_cons_zero, List.set_cons_succ, i64_w, i32_w]); rfl)) | (refine Evt.ol_pure (a' := ?_) (v := ?_) HT_ rfl rfl rfl (by rfl) (by kernel_rfl) (fun _ _ _ h => h) ?_ ?_ ?_; rotate_left 2; (· intro w'; go_simp; with_reducible rfl); (· (try simp only [Act.put, List.setIfInBounds_toArray, List.set_cons_zero, List.set_cons_succ, i64_w, i32_w]); rfl)) | (refine Evt.ol_load (a' := ?_) (v := ?_) HT_ HW_ hHeld rfl rfl rfl (by rfl) (by kernel_rfl) (fun _ _ _ h => h) ?_ ?_ ?_; rotate_left 2; (· intro w' hS_; obtain ⟨s0, s1, s2, s3, s4⟩ := KP.out w' hS_.out; have y4 := (RG.out.below hS_.out).c4 hml; go_simp; with_reducible rfl); (· (try simp only [Act.put, List.setIfInBounds_toArray, List.set_cons_zero, List.set_cons_succ, i64_w, i32_w]); rfl)))
          refine Evt.ol_putI HT_ rfl rfl (by simp) (by kernel_rfl) (by rfl) rfl (s := x) (v := (if v1 + v2 < 1073741824 then v1 + v2 else 1073741824)) rfl rfl rfl WF9.out XM.out KK9.out (MR.out.below hHeld.out) ?_
          intro w1 hM_ hg_
          refine Evt.ol_done HT_ (by kernel_rfl) ?_
          have CP := Aside0.mk (CC.out.below hHeld.out)
          have RP := Aside0.mk (KF9.out.2.2.below hHeld.out)
          have HH := Aside0.mk hHeld.out
          clear hHeld CC MR RG KS K6
          clear HT_ HW_ KP
          rw [FX.out] at hM_
          have RI := Aside0.mk (RP.out.mputI CP.out.m hg_)
          have CP2 := Aside0.mk (CP.out.put GE19.out hM_ hg_)
          have KF2 := Aside0.mk (KF9.out.1.trans ((keeps_of_below HH.out).trans (KeepsFrom.of_grownBy hg_ (fun j e => by cases e; exact MB_))))
          have KQ2 := Aside0.mk (KF9.out.2.1.trans ((Kq.of_below HH.out WS9.out).trans (Kq.of_grown hg_ (Nat.le_trans WS9.out HH.out.size) GE19.out GB)))
          clear hM_ hg_ CP RP HH HB FX KF9 hv1 hv2 TB9 b1l b1u b2l b2u hw WF9
          generalize (if v1 + v2 < 1073741824 then v1 + v2 else 1073741824) = v3
          gi_wp2
          gi_roundg k1
          case measure => omega
          case rel => exact ⟨j + 1, by go_num, ⟨by have := hj.out; omega⟩, ⟨by rw [ST.out]; exact ⟨⟨k9 + 1, by have := hk9'.out; simp; omega, CP2.out⟩, KF2.out, KQ2.out⟩, RI.out⟩⟩
/-- What CountPaths answers. -/
theorem count_any (w : World) (h : Rg w A1 c1 l1 A2 c2 l2) (hok : okG (es l1) = true) {x y : Int} (hc : countL (es l1) = (x, y)) :
    Calls Try.prog 37 #[.agg #[.string a0, .slice A1 l1.length c1, .slice A2 l2.length c2, .string a3]] w fun e w' => e = .returned (.tuple #[.int .i64 x, .int .i64 y]) ∧ Below w.heap.size w w' := by
  have e1 : x = (countL (es l1)).1 := by rw [hc]
  have e2 : y = (countL (es l1)).2 := by rw [hc]
  rw [e1, e2]
  cases ht : topo (es l1) with
  | none => exact count_none w h hok ht
  | some r => exact count_some w h hok ht
end
end Go.Proofs.Ytmacdknicgfglaa.Gw
end
section
/- Distances to the right rail, plainly: walks, a search in rounds, a shortest path. -/
namespace Go.Proofs.Ytmacdknicgfglaa.Gp
set_option linter.unusedVariables false
set_option linter.unusedSimpArgs false
/-- Whether k contacts lead from x to the right rail. -/
def wk (l : List Ed) : Nat → ByteArray → Bool
  | 0, x => decide (x = sR)
  | k + 1, x => l.any fun c => decide (c.1 = x) && wk l k c.2
/-- The distance is k. -/
def IsD (l : List Ed) (k : Nat) (y : ByteArray) : Prop := wk l k y = true ∧ ∀ j, j < k → wk l j y = false
section
variable {l : List Ed} {k j d : Nat} {x y : ByteArray}
theorem wk_succ : wk l (k + 1) x = true ↔ ∃ c ∈ l, c.1 = x ∧ wk l k c.2 = true := by
  show (l.any fun c => decide (c.1 = x) && wk l k c.2) = true ↔ _
  rw [List.any_eq_true]
  simp
theorem isD_fun (h : IsD l k y) (h' : IsD l j y) : k = j := by
  rcases Nat.lt_trichotomy k j with q | q | q
  · have := h'.2 k q; rw [h.1] at this; cases this
  · exact q
  · have := h.2 j q; rw [h'.1] at this; cases this
theorem wk_isD : ∀ {k : Nat}, wk l k y = true → ∃ j, j ≤ k ∧ IsD l j y := by
  intro k
  induction k using Nat.strongRecOn with
  | _ k ih =>
    intro h
    by_cases hm : ∃ j, j < k ∧ wk l j y = true
    · obtain ⟨j, hj, hw⟩ := hm
      obtain ⟨i, hi, hd⟩ := ih j hj hw
      exact ⟨i, by omega, hd⟩
    · refine ⟨k, Nat.le_refl _, h, fun j hj => ?_⟩
      cases e : wk l j y with
      | false => rfl
      | true => exact absurd ⟨j, hj, e⟩ hm
theorem isD_zero : IsD l 0 y ↔ y = sR := by
  constructor
  · intro h; exact of_decide_eq_true h.1
  · rintro rfl; exact ⟨decide_eq_true rfl, fun j hj => by omega⟩
theorem isD_step (h : IsD l (k + 1) y) : ∃ c ∈ l, c.1 = y ∧ IsD l k c.2 := by
  obtain ⟨c, hc, e, hw⟩ := wk_succ.1 h.1
  refine ⟨c, hc, e, hw, fun j hj => ?_⟩
  cases q : wk l j c.2 with
  | false => rfl
  | true =>
    have := h.2 (j + 1) (by omega)
    rw [wk_succ.2 ⟨c, hc, e, q⟩] at this
    cases this
theorem isD_ne (h : IsD l (k + 1) y) : y ≠ sR := fun e => by
  have := isD_fun h (isD_zero.2 e)
  omega
theorem isD_node (h : IsD l k y) : y ∈ nodesL l := by
  cases k with
  | zero => rw [isD_zero.1 h]; exact nodesL_mem.2 (.inr (.inl rfl))
  | succ k =>
    obtain ⟨c, hc, e, _⟩ := isD_step h
    exact nodesL_mem.2 (.inr (.inr ⟨c, hc, .inl e.symm⟩))
theorem isD_chain : ∀ (k : Nat) (y : ByteArray), IsD l k y → ∃ L : List ByteArray, L.length = k + 1 ∧ L.Nodup ∧ ∀ x ∈ L, ∃ j, j ≤ k ∧ IsD l j x
  | 0, y, h => ⟨[y], rfl, by simp, fun x hx => ⟨0, Nat.le_refl _, by rw [List.mem_singleton.1 hx]; exact h⟩⟩
  | k + 1, y, h => by
    obtain ⟨c, hc, e, hd⟩ := isD_step h
    obtain ⟨L, h1, h2, h3⟩ := isD_chain k c.2 hd
    refine ⟨y :: L, by rw [List.length_cons, h1], List.nodup_cons.2 ⟨fun hm => ?_, h2⟩, fun x hx => ?_⟩
    · obtain ⟨j, hj, hdj⟩ := h3 y hm
      have := isD_fun h hdj
      omega
    · rcases List.mem_cons.1 hx with rfl | hx
      · exact ⟨k + 1, Nat.le_refl _, h⟩
      · obtain ⟨j, hj, hdj⟩ := h3 x hx
        exact ⟨j, by omega, hdj⟩
theorem isD_lt (h : IsD l k y) : k < (nodesL l).length := by
  obtain ⟨L, h1, h2, h3⟩ := isD_chain k y h
  have := nodup_len h2 (fun x hx => by obtain ⟨j, _, hd⟩ := h3 x hx; exact isD_node hd)
  omega
theorem isD_down : ∀ (k : Nat) (y : ByteArray), IsD l k y → ∀ j, j ≤ k → ∃ x, IsD l j x
  | 0, y, h, j, hj => ⟨y, by rw [show j = 0 by omega]; exact h⟩
  | k + 1, y, h, j, hj => by
    by_cases e : j = k + 1
    · exact ⟨y, by rw [e]; exact h⟩
    · obtain ⟨c, _, _, hd⟩ := isD_step h
      exact isD_down k c.2 hd j (by omega)
theorem wk_rch : ∀ {k : Nat} {y : ByteArray}, wk l k y = true → Rch (sucL l) y sR
  | 0, y, h => by rw [show y = sR from of_decide_eq_true h]; exact .refl
  | k + 1, y, h => by
    obtain ⟨c, hc, e, hw⟩ := wk_succ.1 h
    exact .head (suc_mem.2 ⟨c, hc, e, rfl⟩) (wk_rch hw)
theorem rch_wk (h : Rch (sucL l) y sR) : ∃ k, wk l k y = true := by
  have key : ∀ z, Rch (sucL l) y z → (∃ k, wk l k z = true) → ∃ k, wk l k y = true := by
    intro z hz
    induction hz with
    | refl => exact id
    | step _ hx ih =>
      rintro ⟨k, hk⟩
      obtain ⟨c, hc, e1, e2⟩ := suc_mem.1 hx
      exact ih ⟨k + 1, wk_succ.2 ⟨c, hc, e1, by rw [e2]; exact hk⟩⟩
  exact key sR h ⟨0, decide_eq_true rfl⟩
/-! ### The distance -/
def distL (l : List Ed) (y : ByteArray) : Option Nat := (List.range (nodesL l).length).find? fun k => wk l k y
theorem dist_some : distL l y = some k ↔ IsD l k y := by
  unfold distL
  constructor
  · intro h
    have h1 := List.find?_some (p := fun k => wk l k y) h
    refine ⟨h1, fun j hj => ?_⟩
    have h2 := h
    rw [List.find?_range_eq_some] at h2
    have := h2.2.2 j hj
    simpa using this
  · intro h
    rw [List.find?_range_eq_some]
    exact ⟨h.1, List.mem_range.2 (isD_lt h), fun j hj => by rw [h.2 j hj]; rfl⟩
theorem dist_none : distL l y = none ↔ ∀ k, ¬ IsD l k y := by
  constructor
  · intro h k hd
    rw [dist_some.2 hd] at h
    cases h
  · intro h
    cases e : distL l y with
    | none => rfl
    | some k => exact absurd (dist_some.1 e) (h k)
theorem dist_R : distL l sR = some 0 := dist_some.2 (isD_zero.2 rfl)
theorem dist_rch : (distL l y).isSome = true ↔ Rch (sucL l) y sR := by
  constructor
  · intro h
    cases e : distL l y with
    | none => rw [e] at h; cases h
    | some k => exact wk_rch (dist_some.1 e).1
  · intro h
    obtain ⟨k, hk⟩ := rch_wk h
    obtain ⟨j, _, hd⟩ := wk_isD hk
    rw [dist_some.2 hd]; rfl
/-! ### The search in rounds -/
/-- One name is met. -/
def stepB (d : Nat) (s : (ByteArray → Option Int) × List ByteArray) (f : ByteArray) : (ByteArray → Option Int) × List ByteArray := if (s.1 f).isSome = true then s else (fun y => if y = f then some (d : Int) else s.1 y, s.2 ++ [f])
theorem foldB (d : Nat) : ∀ (F : List ByteArray) (s : (ByteArray → Option Int) × List ByteArray), s.2.Nodup → (∀ y ∈ s.2, (s.1 y).isSome = true) →
    (∀ y, (F.foldl (stepB d) s).1 y = if (s.1 y).isSome = true then s.1 y else if y ∈ F then some (d : Int) else none) ∧ (∀ y, y ∈ (F.foldl (stepB d) s).2 ↔ y ∈ s.2 ∨ (y ∈ F ∧ (s.1 y).isSome = false)) ∧ (F.foldl (stepB d) s).2.Nodup
  | [], s, h1, h2 => ⟨fun y => by simp only [List.foldl_nil, List.not_mem_nil, if_false]; split <;> simp_all, fun y => by simp, h1⟩
  | f :: F, s, h1, h2 => by
    rw [List.foldl_cons]
    by_cases hf : (s.1 f).isSome = true
    · have e : stepB d s f = s := if_pos hf
      rw [e]
      obtain ⟨a, b, c⟩ := foldB d F s h1 h2
      refine ⟨fun y => ?_, fun y => ?_, c⟩
      · rw [a y]
        by_cases hy : (s.1 y).isSome = true
        · rw [if_pos hy, if_pos hy]
        · rw [if_neg hy, if_neg hy]
          have : y ≠ f := fun q => hy (q ▸ hf)
          simp [this]
      · rw [b y]
        constructor
        · rintro (h | ⟨h, h'⟩)
          · exact .inl h
          · exact .inr ⟨List.mem_cons_of_mem _ h, h'⟩
        · rintro (h | ⟨h, h'⟩)
          · exact .inl h
          · rcases List.mem_cons.1 h with rfl | h
            · rw [hf] at h'; cases h'
            · exact .inr ⟨h, h'⟩
    · have e : stepB d s f = (fun y => if y = f then some (d : Int) else s.1 y, s.2 ++ [f]) := if_neg hf
      have hf' : (s.1 f).isSome = false := by simpa using hf
      rw [e]
      have hn : f ∉ s.2 := fun h => hf (h2 f h)
      obtain ⟨a, b, c⟩ := foldB d F (fun y => if y = f then some (d : Int) else s.1 y, s.2 ++ [f]) (by
        rw [List.nodup_append]
        refine ⟨h1, by simp, ?_⟩
        intro p hp q hq
        obtain rfl := List.mem_singleton.1 hq
        rintro rfl
        exact hn hp) (fun y hy => by
        by_cases q : y = f
        · simp only [if_pos q]; rfl
        · simp only [if_neg q]
          rcases List.mem_append.1 hy with hy | hy
          · exact h2 y hy
          · exact absurd (List.mem_singleton.1 hy) q)
      refine ⟨fun y => ?_, fun y => ?_, c⟩
      · rw [a y]
        by_cases q : y = f
        · simp only [if_pos q, Option.isSome_some, if_true]
          rw [q, if_neg hf, if_pos List.mem_cons_self]
        · simp only [if_neg q]
          by_cases hy : (s.1 y).isSome = true
          · rw [if_pos hy, if_pos hy]
          · rw [if_neg hy, if_neg hy]
            simp [q]
      · rw [b y]
        by_cases q : y = f
        · subst q
          simp [hf']
        · simp [q]
/-- The search when all distances up to d are known. -/
structure Bf (l : List Ed) (d : Nat) (far : ByteArray → Option Int) (rnd : List ByteArray) : Prop where
  a : ∀ y k, k ≤ d → IsD l k y → far y = some (k : Int)
  b : ∀ y, (∀ k, k ≤ d → ¬ IsD l k y) → far y = none
  r : ∀ y, y ∈ rnd ↔ IsD l d y
  n : rnd.Nodup
theorem bf_zero : Bf l 0 (fun y => if y = sR then some 0 else none) [sR] := by
  refine ⟨fun y k hk h => ?_, fun y h => ?_, fun y => ?_, by simp⟩
  · obtain rfl : k = 0 := by omega
    rw [if_pos (isD_zero.1 h)]; rfl
  · exact if_neg (fun e => h 0 (Nat.le_refl _) (isD_zero.2 e))
  · rw [List.mem_singleton]; exact isD_zero.symm
theorem Bf.dec {far : ByteArray → Option Int} {rnd : List ByteArray} (h : Bf l d far rnd) (y : ByteArray) : (∃ k, k ≤ d ∧ IsD l k y ∧ far y = some (k : Int)) ∨ ((∀ k, k ≤ d → ¬ IsD l k y) ∧ far y = none) := by
  by_cases hm : ∃ k, k ≤ d ∧ IsD l k y
  · obtain ⟨k, hk, hd⟩ := hm
    exact .inl ⟨k, hk, hd, h.a y k hk hd⟩
  · have : ∀ k, k ≤ d → ¬ IsD l k y := fun k hk hd => hm ⟨k, hk, hd⟩
    exact .inr ⟨this, h.b y this⟩
theorem bf_next {far : ByteArray → Option Int} {rnd : List ByteArray} (h : Bf l d far rnd) : Bf l (d + 1) ((rnd.flatMap (preL l)).foldl (stepB (d + 1)) (far, [])).1 ((rnd.flatMap (preL l)).foldl (stepB (d + 1)) (far, [])).2 := by
  obtain ⟨e1, e2, e3⟩ := foldB (d + 1) (rnd.flatMap (preL l)) (far, []) List.nodup_nil (fun y hy => by cases hy)
  have key : ∀ y, far y = none → (y ∈ rnd.flatMap (preL l) ↔ IsD l (d + 1) y) := by
    intro y hy
    rw [List.mem_flatMap]
    constructor
    · rintro ⟨n, hn, hp⟩
      obtain ⟨c, hc, q1, q2⟩ := pre_mem.1 hp
      have hd := (h.r n).1 hn
      rw [← q1] at hd
      have hw : wk l (d + 1) y = true := wk_succ.2 ⟨c, hc, q2, hd.1⟩
      obtain ⟨j, hj, hdj⟩ := wk_isD hw
      rcases h.dec y with ⟨k, hk, hdk, e⟩ | ⟨hno, _⟩
      · rw [hy] at e; cases e
      · by_cases q : j = d + 1
        · rw [← q]; exact hdj
        · exact absurd hdj (hno j (by omega))
    · intro hd
      obtain ⟨c, hc, q1, hd2⟩ := isD_step hd
      exact ⟨c.2, (h.r c.2).2 hd2, pre_mem.2 ⟨c, hc, rfl, q1⟩⟩
  refine ⟨fun y k hk hd => ?_, fun y hno => ?_, fun y => ?_, e3⟩
  · rw [e1 y]
    rcases h.dec y with ⟨j, hj, hdj, e⟩ | ⟨hno, e⟩
    · have := isD_fun hd hdj
      subst this
      show (if (far y).isSome = true then far y else _) = _
      rw [e]; rfl
    · obtain rfl : k = d + 1 := by
        refine Classical.byContradiction fun q => hno k (by omega) hd
      show (if (far y).isSome = true then far y else _) = _
      rw [e]
      simp only [Option.isSome_none, Bool.false_eq_true, if_false]
      rw [if_pos ((key y e).2 hd)]
  · rw [e1 y]
    have e := h.b y (fun k hk => hno k (by omega))
    show (if (far y).isSome = true then far y else _) = _
    rw [e]
    simp only [Option.isSome_none, Bool.false_eq_true, if_false]
    rw [if_neg (fun q => hno (d + 1) (Nat.le_refl _) ((key y e).1 q))]
  · rw [e2 y]
    simp only [List.not_mem_nil, false_or]
    constructor
    · rintro ⟨h1, h2⟩
      refine (key y ?_).1 h1
      cases q : far y with
      | none => rfl
      | some v => rw [q] at h2; cases h2
    · intro hd
      rcases h.dec y with ⟨k, hk, hdk, e⟩ | ⟨hno, e⟩
      · have := isD_fun hd hdk; omega
      · exact ⟨(key y e).2 hd, by rw [e]; rfl⟩
/-- The map of all distances. -/
def farD (l : List Ed) (y : ByteArray) : Option Int := (distL l y).map fun k : Nat => (k : Int)
theorem farD_some {l : List Ed} {y : ByteArray} {k : Nat} (h : distL l y = some k) : farD l y = some (k : Int) := by unfold farD; rw [h]; rfl
theorem farD_none {l : List Ed} {y : ByteArray} (h : distL l y = none) : farD l y = none := by unfold farD; rw [h]; rfl
/-- When nothing new is met, all is known. -/
theorem bf_end {far : ByteArray → Option Int} (h : Bf l (d + 1) far []) : ∀ y, far y = farD l y := by
  intro y
  have hno : ∀ k y, d + 1 ≤ k → ¬ IsD l k y := by
    intro k y hk hd
    obtain ⟨x, hx⟩ := isD_down k y hd (d + 1) hk
    have := (h.r x).2 hx
    cases this
  cases e : distL l y with
  | none => rw [farD_none e]; exact h.b y (fun k _ => dist_none.1 e k)
  | some k =>
    have hd := dist_some.1 e
    rw [farD_some e]
    exact h.a y k (by refine Classical.byContradiction fun q => hno k y (by omega) hd) hd
theorem bf_len {far : ByteArray → Option Int} {rnd : List ByteArray} (h : Bf l d far rnd) : rnd.length ≤ (nodesL l).length := nodup_len h.n (fun x hx => isD_node ((h.r x).1 hx))
theorem bf_lt {far : ByteArray → Option Int} {rnd : List ByteArray} (h : Bf l d far rnd) (hr : rnd ≠ []) : d < (nodesL l).length := by
  cases rnd with
  | nil => exact absurd rfl hr
  | cons y r => exact isD_lt ((h.r y).1 List.mem_cons_self)
theorem stepB_len (d : Nat) (s : (ByteArray → Option Int) × List ByteArray) (f : ByteArray) : (stepB d s f).2.length ≤ s.2.length + 1 := by
  unfold stepB
  split
  · omega
  · simp
theorem foldB_len (d : Nat) : ∀ (F : List ByteArray) (s : (ByteArray → Option Int) × List ByteArray), (F.foldl (stepB d) s).2.length ≤ s.2.length + F.length
  | [], s => by simp
  | f :: F, s => by
    have h1 := stepB_len d s f
    have h2 := foldB_len d F (stepB d s f)
    rw [List.foldl_cons, List.length_cons]
    omega
theorem foldB_nodes {far : ByteArray → Option Int} {F : List ByteArray} (hF : ∀ y ∈ F, y ∈ nodesL l) (d : Nat) : ((F.foldl (stepB d) (far, [])).2).length ≤ (nodesL l).length := by
  obtain ⟨_, e2, e3⟩ := foldB d F (far, []) List.nodup_nil (fun y hy => by cases hy)
  refine nodup_len e3 (fun y hy => ?_)
  rcases (e2 y).1 hy with h | ⟨h, _⟩
  · cases h
  · exact hF y h
theorem flat_nodes {rnd : List ByteArray} : ∀ y ∈ rnd.flatMap (preL l), y ∈ nodesL l := by
  intro y hy
  rw [List.mem_flatMap] at hy
  obtain ⟨n, _, hp⟩ := hy
  obtain ⟨c, hc, _, q2⟩ := pre_mem.1 hp
  rw [← q2]
  exact nodes_1 hc
/-! ### The path -/
def pathG (l : List Ed) : Nat → ByteArray → List Int
  | 0, _ => []
  | k + 1, at_ => match (outL l at_).find? fun i => decide (distL l (toE l i) = some k) with
    | some i => i :: pathG l k (toE l i)
    | none => []
theorem path_next (h : IsD l (k + 1) y) : ∃ i, (outL l y).find? (fun i => decide (distL l (toE l i) = some k)) = some i ∧ i ∈ outL l y ∧ IsD l k (toE l i) := by
  cases e : (outL l y).find? fun i => decide (distL l (toE l i) = some k) with
  | some i =>
    have e1 := List.find?_some (p := fun i => decide (distL l (toE l i) = some k)) e
    exact ⟨i, rfl, List.mem_of_find?_eq_some e, dist_some.1 (of_decide_eq_true e1)⟩
  | none =>
    exfalso
    obtain ⟨c, hc, q, hd⟩ := isD_step h
    rw [List.find?_eq_none] at e
    obtain ⟨j, hj, rfl⟩ := List.getElem_of_mem hc
    have := e (j : Int) (outL_mem.2 ⟨j, rfl, hj, q⟩)
    refine this (decide_eq_true ?_)
    rw [show toE l (j : Int) = l[j].2 by unfold toE; rw [Int.toNat_natCast, List.getD_eq_getElem?_getD, List.getElem?_eq_getElem hj]; rfl]
    exact dist_some.2 hd
theorem path_len : ∀ (k : Nat) (y : ByteArray), IsD l k y → (pathG l k y).length = k
  | 0, y, h => rfl
  | k + 1, y, h => by
    obtain ⟨i, e, _, hd⟩ := path_next h
    unfold pathG
    rw [e]
    show (i :: pathG l k (toE l i)).length = k + 1
    rw [List.length_cons, path_len k _ hd]
theorem pathG_zero (l : List Ed) (y : ByteArray) : pathG l 0 y = [] := rfl
theorem path_pick (h : IsD l (k + 1) y) : ∃ (m j : Nat) (hm : m < l.length) (hj : j < (outL l y).length), (outL l y)[j] = (m : Int) ∧ (outL l y).findIdx? (fun i => decide (distL l (toE l i) = some k)) = some j ∧ IsD l k l[m].2 ∧ pathG l (k + 1) y = (m : Int) :: pathG l k l[m].2 ∧ l[m].1 = y := by
  obtain ⟨i, hfi, hio, hdi⟩ := path_next h
  obtain ⟨m, rfl, hml, hmf⟩ := outL_mem.1 hio
  have TO : toE l (m : Int) = l[m].2 := by unfold toE; rw [Int.toNat_natCast, List.getD_eq_getElem?_getD, List.getElem?_eq_getElem hml]; rfl
  have hp : pathG l (k + 1) y = (m : Int) :: pathG l k l[m].2 := by
    show (match (outL l y).find? fun i => decide (distL l (toE l i) = some k) with | some i => i :: pathG l k (toE l i) | none => []) = _
    rw [hfi]
    show _ :: pathG l k (toE l (m : Int)) = _
    rw [TO]
  obtain ⟨hpm, j, hj, e, hlt⟩ := List.find?_eq_some_iff_getElem.1 hfi
  refine ⟨m, j, hml, hj, e, ?_, TO ▸ hdi, hp, hmf⟩
  rw [List.findIdx?_eq_some_iff_getElem]
  refine ⟨hj, by rw [e]; exact hpm, fun i hi => ?_⟩
  have := hlt i hi
  simpa using this
/-- ShortestPath's path. -/
def shortL (l : List Ed) : Option (List Int) := (distL l sL).map fun k => pathG l k sL
def errP (o : Option (List Int)) : Int := if o.isNone then 13 else 0
end
end Go.Proofs.Ytmacdknicgfglaa.Gp
end
section
/- flow.ShortestPath, walked: the search in rounds, the path. -/
namespace Go.Proofs.Ytmacdknicgfglaa.Gw
open Go.RowKit Go.Shelf Go.Proofs.YtmacdknicgfglaaW.PrintWords Go.Proofs.YtmacdknicgfglaaW.PrintMore Go.Proofs.YtmacdknicgfglaaW.PrintLast Go.Proofs.Ytmacdknicgfglaa.Chg Go.Proofs.Ytmacdknicgfglaa.Evt Go.Proofs.Ytmacdknicgfglaa.Impl Go.Proofs.Ytmacdknicgfglaa.Gp Go.Proofs.Ytmacdknicgfglaa.Mp
set_option linter.unusedVariables false
set_option linter.unusedSimpArgs false
set_option maxRecDepth 100000
section
variable {w w' : World} {A1 A2 : Option Addr} {c1 c2 : Nat} {l1 : List S41} {l2 : List S101} {a0 a3 : ByteArray}
/-- The rung and the map of distances. -/
structure Sa (w wr : World) (g1 g4 b n : Nat) (q : ByteArray → Option Int) (a0 : ByteArray) (A1 : Option Addr) (c1 : Nat) (l1 : List S41) (A2 : Option Addr) (c2 : Nat) (l2 : List S101) (a3 : ByteArray) : Prop where
  bel : Below w.heap.size w wr
  ge : w.heap.size ≤ b
  b1 : Bk wr g1 25 #[.string a0, .slice A1 l1.length c1, .slice A2 l2.length c2, .string a3]
  b4 : Bk wr g4 44 #[.map (some b)]
  m : MI wr b n q
theorem Sa.below {wr w1 : World} {g1 g4 b n : Nat} {q : ByteArray → Option Int} (h : Sa w wr g1 g4 b n q a0 A1 c1 l1 A2 c2 l2 a3) (hb : Below wr.heap.size wr w1) : Sa w w1 g1 g4 b n q a0 A1 c1 l1 A2 c2 l2 a3 := ⟨below_step h.bel hb, h.ge, h.b1.below hb, h.b4.below hb, h.m.below hb⟩
theorem Sa.put {wr w1 : World} {g1 g4 b n n' : Nat} {q q' : ByteArray → Option Int} (h : Sa w wr g1 g4 b n q a0 A1 c1 l1 A2 c2 l2 a3) (hm : MI w1 b n' q') (hg : wr.grownBy w1 (some b)) : Sa w w1 g1 g4 b n' q' a0 A1 c1 l1 A2 c2 l2 a3 :=
  ⟨h.bel.grown hg h.bel.size (fun j e => by cases e; exact h.ge), h.ge, h.b1.grown hg (fun e => h.m.ne h.b1.blk (by injection e)), h.b4.grown hg (fun e => h.m.ne h.b4.blk (by injection e)), hm⟩
/-- A row of one's own is written. -/
theorem Sa.rowS {wr w1 wb : World} {g1 g4 b n : Nat} {q : ByteArray → Option Int} {v : Value} {xs : List ByteArray} (h : Sa w wr g1 g4 b n q a0 A1 c1 l1 A2 c2 l2 a3) (hr : Ro Kd.string 9 wb wr v xs) (hw : w.heap.size ≤ wb.heap.size) (hg : wr.grownBy w1 v.ownBlock) : Sa w w1 g1 g4 b n q a0 A1 c1 l1 A2 c2 l2 a3 :=
  ⟨h.bel.grown hg h.bel.size (fun k hk => by obtain ⟨i, ho⟩ := Kd.R_own hr.row; have := own_base ho k hk; omega), h.ge, h.b1.grown hg (row_ne hr.row h.b1.blk (by decide)), h.b4.grown hg (row_ne hr.row h.b4.blk (by decide)), h.m.grown hg (h.m.row hr.row)⟩
theorem Sa.rowI {wr w1 wb : World} {g1 g4 b n : Nat} {q : ByteArray → Option Int} {v : Value} {xs : List Int} (h : Sa w wr g1 g4 b n q a0 A1 c1 l1 A2 c2 l2 a3) (hr : Ro (Kd.int .i64) 3 wb wr v xs) (hw : w.heap.size ≤ wb.heap.size) (hg : wr.grownBy w1 v.ownBlock) : Sa w w1 g1 g4 b n q a0 A1 c1 l1 A2 c2 l2 a3 :=
  ⟨h.bel.grown hg h.bel.size (fun k hk => by obtain ⟨i, ho⟩ := Kd.R_own hr.row; have := own_base ho k hk; omega), h.ge, h.b1.grown hg (row_ne hr.row h.b1.blk (by decide)), h.b4.grown hg (row_ne hr.row h.b4.blk (by decide)), h.m.grown hg (h.m.row hr.row)⟩
theorem _root_.Go.Proofs.Ytmacdknicgfglaa.Evt.Ro.other {α : Type} {enc : α → Value} {h1 : ∀ x, (enc x).oneCell' = true} {e : TypeId} {w0 wr w1 : World} {v : Value} {xs : List α} {row : Option Nat} (h : Ro (Kd.scalar enc h1) e w0 wr v xs) (hg : wr.grownBy w1 row) (hne : row ≠ v.ownBlock ∨ row = none) : Ro (Kd.scalar enc h1) e w0 w1 v xs := ⟨R_other h.row hg hne⟩
/-- A row of strings and a row of numbers are two. -/
theorem rows_two {w0 w1 wr : World} {v v' : Value} {xs : List ByteArray} {ys : List Int} (h : Ro Kd.string 9 w0 wr v xs) (h' : Ro (Kd.int .i64) 3 w1 wr v' ys) : v.ownBlock ≠ v'.ownBlock ∨ v.ownBlock = none := by
  cases hv : v.ownBlock with
  | none => exact .inr rfl
  | some k =>
    refine .inl (fun e => ?_)
    obtain ⟨i, ho⟩ := Kd.R_own h.row
    obtain ⟨i', ho'⟩ := Kd.R_own h'.row
    obtain ⟨cs, hc⟩ := own_typed ho k hv
    obtain ⟨cs', hc'⟩ := own_typed ho' k e.symm
    rw [hc] at hc'
    injection hc' with hc'
    injection hc' with _ hc'
    exact absurd hc' (by decide)
/-- Between two steps of the search: the round's names, the next round's. -/
structure Sn (w wo wr : World) (g1 g4 b n : Nat) (q : ByteArray → Option Int) (vr : Value) (rnd : List ByteArray) (vn : Value) (nx : List ByteArray) (a0 : ByteArray) (A1 : Option Addr) (c1 : Nat) (l1 : List S41) (A2 : Option Addr) (c2 : Nat) (l2 : List S101) (a3 : ByteArray) : Prop where
  s : Sa w wr g1 g4 b n q a0 A1 c1 l1 A2 c2 l2 a3
  r : Ro Kd.string 9 w wr vr rnd
  rl : ∀ k, vr.ownBlock = some k → k < wo.heap.size
  x : Ro Kd.string 9 w wr vn nx
  xl : ∀ k, vn.ownBlock = some k → wo.heap.size ≤ k
  sz : wo.heap.size ≤ wr.heap.size
section
variable {wo wr w1 : World} {g1 g4 b n n' : Nat} {q q' : ByteArray → Option Int} {vr vn vn' : Value} {rnd nx nx' : List ByteArray}
theorem Sn.below (h : Sn w wo wr g1 g4 b n q vr rnd vn nx a0 A1 c1 l1 A2 c2 l2 a3) (hb : Below wr.heap.size wr w1) : Sn w wo w1 g1 g4 b n q vr rnd vn nx a0 A1 c1 l1 A2 c2 l2 a3 := ⟨h.s.below hb, h.r.below hb, h.rl, h.x.below hb, h.xl, Nat.le_trans h.sz hb.size⟩
theorem Sn.put (h : Sn w wo wr g1 g4 b n q vr rnd vn nx a0 A1 c1 l1 A2 c2 l2 a3) (hm : MI w1 b n' q') (hg : wr.grownBy w1 (some b)) : Sn w wo w1 g1 g4 b n' q' vr rnd vn nx a0 A1 c1 l1 A2 c2 l2 a3 :=
  ⟨h.s.put hm hg, h.r.mputI h.s.m hg, h.rl, h.x.mputI h.s.m hg, h.xl, Nat.le_trans h.sz hg.size⟩
theorem Sn.app (h : Sn w wo wr g1 g4 b n q vr rnd vn nx a0 A1 c1 l1 A2 c2 l2 a3) (hx : Ro Kd.string 9 w w1 vn' nx') (hg : wr.grownBy w1 vn.ownBlock) (hat : vn'.ownBlock = vn.ownBlock ∨ ∃ k, vn'.ownBlock = some k ∧ wr.heap.size ≤ k) : Sn w wo w1 g1 g4 b n q vr rnd vn' nx' a0 A1 c1 l1 A2 c2 l2 a3 := by
  refine ⟨h.s.rowS h.x (Nat.le_refl _) hg, h.r.other hg ?_, h.rl, hx, fun k hk => ?_, Nat.le_trans h.sz hg.size⟩
  · cases hv : vn.ownBlock with
    | none => exact .inr rfl
    | some k => exact .inl (fun e => by have h1 := h.rl k e.symm; have h2 := h.xl k hv; omega)
  · rcases hat with e | ⟨j, e, hj⟩
    · exact h.xl k (e ▸ hk)
    · rw [e] at hk
      cases hk
      exact Nat.le_trans h.sz hj
end
/-- The rung, the distances, the name at hand. -/
structure Sv (w : World) (gr gt ga b n : Nat) (at_ : ByteArray) (a0 : ByteArray) (A1 : Option Addr) (c1 : Nat) (l1 : List S41) (A2 : Option Addr) (c2 : Nat) (l2 : List S101) (a3 : ByteArray) : Prop where
  br : Bk w gr 25 #[.string a0, .slice A1 l1.length c1, .slice A2 l2.length c2, .string a3]
  bt : Bk w gt 44 #[.map (some b)]
  ba : Bk w ga 9 #[.string at_]
  m : MI w b n (farD (es l1))
  rg : Rg w A1 c1 l1 A2 c2 l2
theorem Sv.below {gr gt ga b n : Nat} {at_ : ByteArray} (h : Sv w gr gt ga b n at_ a0 A1 c1 l1 A2 c2 l2 a3) (hb : Below w.heap.size w w') : Sv w' gr gt ga b n at_ a0 A1 c1 l1 A2 c2 l2 a3 := ⟨h.br.below hb, h.bt.below hb, h.ba.below hb, h.m.below hb, h.rg.below hb⟩
set_option maxHeartbeats 2000000 in
theorem sp1_any {gr gt ga b n k : Nat} {at_ : ByteArray} (h : Sv w gr gt ga b n at_ a0 A1 c1 l1 A2 c2 l2 a3) (hok : okG (es l1) = true) (hat : distL (es l1) at_ = some (k + 1)) (hk : k ≤ 3000) (haz : at_.size ≤ 100000) : PredV 61 #[.pointer (some ⟨gt, 0, none⟩), .pointer (some ⟨gr, 0, none⟩), .pointer (some ⟨ga, 0, none⟩)] (Value.int .i64) (fun i => decide (distL (es l1) (toE (es l1) i) = some k)) (fun i => ∃ j : Nat, i = j ∧ j < l1.length) w := by
  refine ⟨fun W x hx hB => ?_⟩
  obtain ⟨j, rfl, hjl⟩ := hx
  have T := Aside0.mk (h.below hB)
  have S3 := Aside0.mk (okG_f3 hok (c := (l1[j].f2, l1[j].f3)) (by rw [← es_get hjl]; exact List.getElem_mem _))
  have S3m : Aside0 (l1[j].f3.size ≤ maxLen) := ⟨by have h_ : l1[j].f3.size ≤ 100000 := S3.out; unfold maxLen; omega⟩
  have SAm : Aside0 (at_.size ≤ maxLen) := ⟨by unfold maxLen; omega⟩
  have q1 : decide ((j : Int) < (l1.length : Int)) = true := decide_eq_true (by omega)
  have q0 : decide (j < l1.length) = true := decide_eq_true (by omega)
  have FA := Aside0.mk (to_at hjl)
  have AT := Aside0.mk (farD_some hat)
  have DK : Aside0 (k ≤ 3000) := ⟨hk⟩
  obtain ⟨v, ok, hv, hr⟩ : ∃ (v : Int) (ok : Bool), Aside0 ((farD (es l1) l1[j].f3).getD 0 = v ∧ (farD (es l1) l1[j].f3).isSome = ok) ∧ Aside0 (decide (distL (es l1) l1[j].f3 = some k) = (ok && decide (v = (k : Int)))) := by
    cases e : distL (es l1) l1[j].f3 with
    | none => exact ⟨0, false, ⟨by rw [farD_none e]; exact ⟨rfl, rfl⟩⟩, ⟨by simp⟩⟩
    | some m => exact ⟨(m : Int), true, ⟨by rw [farD_some e]; exact ⟨rfl, rfl⟩⟩, ⟨by simp only [Bool.true_and, Option.some.injEq]; exact decide_eq_decide.2 ⟨fun q => by omega, fun q => by omega⟩⟩⟩
  obtain ⟨ad, rfl, x0, x1, x2, x3, x4⟩ := T.out.rg.at hjl
  clear hB h x0 x1 x2 x3 x4 hat hk haz
  have HB := Aside0.mk (Below.refl W.heap.size W)
  have KR : Aside0 (Bk W gr 25 #[.string a0, .slice (some ad) l1.length c1, .slice A2 l2.length c2, .string a3]) := Aside0.mk (T.out.br)
  have KT : Aside0 (Bk W gt 44 #[.map (some b)]) := Aside0.mk (T.out.bt)
  have KA : Aside0 (Bk W ga 9 #[.string at_]) := Aside0.mk (T.out.ba)
  have TV := Aside0.mk (T.out)
  have MT := Aside0.mk (T.out.m)
  clear T
  have zKR_0 : W.cell? ⟨gr, 0, none⟩ = some (.string a0) := (blk_cell KR.out.blk 0).trans rfl
  have zKR_1 : W.cell? ⟨gr, 1, none⟩ = some (.slice (some ad) l1.length c1) := (blk_cell KR.out.blk 1).trans rfl
  have zKR_2 : W.cell? ⟨gr, 2, none⟩ = some (.slice A2 l2.length c2) := (blk_cell KR.out.blk 2).trans rfl
  have zKR_3 : W.cell? ⟨gr, 3, none⟩ = some (.string a3) := (blk_cell KR.out.blk 3).trans rfl
  have zKT_0 : W.cell? ⟨gt, 0, none⟩ = some (.map (some b)) := (blk_cell KT.out.blk 0).trans rfl
  have zKA_0 : W.cell? ⟨ga, 0, none⟩ = some (.string at_) := (blk_cell KA.out.blk 0).trans rfl
  show Calls Try.prog 61 #[.int .i64 j, .pointer (some ⟨gt, 0, none⟩), .pointer (some ⟨gr, 0, none⟩), .pointer (some ⟨ga, 0, none⟩)] W _
  go_enter Try.func61, Try.ntmps61
  go_wp2
  have KP : Aside0 (∀ w', Below W.heap.size W w' → (w'.cell? ⟨gr, 0, none⟩ = some (.string a0) ∧ w'.cell? ⟨gr, 1, none⟩ = some (.slice (some ad) l1.length c1) ∧ w'.cell? ⟨gr, 2, none⟩ = some (.slice A2 l2.length c2) ∧ w'.cell? ⟨gr, 3, none⟩ = some (.string a3) ∧ w'.cell? ⟨gt, 0, none⟩ = some (.map (some b)) ∧ w'.cell? ⟨ga, 0, none⟩ = some (.string at_))) := Aside0.mk (fun w' hb => ⟨(blk_cell (KR.out.below hb).blk 0).trans rfl, (blk_cell (KR.out.below hb).blk 1).trans rfl, (blk_cell (KR.out.below hb).blk 2).trans rfl, (blk_cell (KR.out.below hb).blk 3).trans rfl, (blk_cell (KT.out.below hb).blk 0).trans rfl, (blk_cell (KA.out.below hb).blk 0).trans rfl⟩)
  clear zKR_0 zKR_1 zKR_2 zKR_3 zKT_0 zKA_0
  refine Evt.ol_start (ds := []) (w0 := W) (T := (true, [([], []), ([], []), ([1], [1]), ([], []), ([2, 3], [2, 3]), ([4], [4]), ([5], [5]), ([0, 6], [0, 6]), ([7], [7]), ([8], [8]), ([8], [8]), ([9, 0, 1, 2, 3, 4, 5, 6, 7, 8, 9], [9]), ([10, 11, 0, 1, 2, 3, 4, 5, 6, 7, 8, 9, 10, 11], [10])])) (B := [0, 0, 2, 0, 14, 30, 62, 127, 255, 511, 511, 1023, 4095]) 13 [(1, some 10), (3, some 12), (0, some 9), (2, some 11), (4, some 13), (5, some 14), (6, some 15), (7, some 16), (8, some 8), (9, some 17), (10, some 18), (11, some 6), (12, some 7)] (by kernel_rfl) rfl (by kernel_rfl) (by kernel_rfl) (by kernel_rfl) (by repeat (first | (with_reducible first | exact Below.refl _ _ | apply below_alloc | apply pw_below_drewN | apply below_drew1) | exact Below.refl _ _)) ?_
  intro HT_ HW_ w_ hHeld
  iterate 7 (first | (refine Evt.ol_off (a' := ?_) HT_ rfl rfl (by rfl) (by kernel_rfl) (fun _ _ _ h => h) ?_ ?_; rotate_left; (· (try simp only [Act.put, List.setIfInBounds_toArray, List.set_cons_zero, List.set_cons_succ, i64_w, i32_w]); rfl)) | (refine Evt.ol_pure (a' := ?_) (v := ?_) HT_ rfl rfl rfl (by rfl) (by kernel_rfl) (fun _ _ _ h => h) ?_ ?_ ?_; rotate_left 2; (· intro w'; go_simp; with_reducible rfl); (· (try simp only [Act.put, List.setIfInBounds_toArray, List.set_cons_zero, List.set_cons_succ, i64_w, i32_w]); rfl)) | (refine Evt.ol_load (a' := ?_) (v := ?_) HT_ HW_ hHeld rfl rfl rfl (by rfl) (by kernel_rfl) (fun _ _ _ h => h) ?_ ?_ ?_; rotate_left 2; (· intro w' hS_; obtain ⟨s0, s1, s2, s3, s4, s5⟩ := KP.out w' hS_.out; have y3 := (TV.out.rg.below hS_.out).c4 hjl; go_simp; with_reducible rfl); (· (try simp only [Act.put, List.setIfInBounds_toArray, List.set_cons_zero, List.set_cons_succ, i64_w, i32_w]); rfl)))
  refine Evt.ol_lookI2 (a' := ?a1_) HT_ HW_ hHeld rfl rfl rfl (by rfl) (by kernel_rfl) (fun _ _ _ _ h => h) (s := l1[j].f3) (v := v) (ok := ok) (fun w_' hS_ => MT.out.below hS_.out) S3m.out hv.out.1 hv.out.2 rfl rfl ?ha1_ ?h1_
  case ha1_ => (simp only [Act.put, List.setIfInBounds_toArray, List.set_cons_zero, List.set_cons_succ, i64_w, i32_w]; rfl)
  iterate 5 (first | (refine Evt.ol_off (a' := ?_) HT_ rfl rfl (by rfl) (by kernel_rfl) (fun _ _ _ h => h) ?_ ?_; rotate_left; (· (try simp only [Act.put, List.setIfInBounds_toArray, List.set_cons_zero, List.set_cons_succ, i64_w, i32_w]); rfl)) | (refine Evt.ol_pure (a' := ?_) (v := ?_) HT_ rfl rfl rfl (by rfl) (by kernel_rfl) (fun _ _ _ h => h) ?_ ?_ ?_; rotate_left 2; (· intro w'; go_simp; with_reducible rfl); (· (try simp only [Act.put, List.setIfInBounds_toArray, List.set_cons_zero, List.set_cons_succ, i64_w, i32_w]); rfl)) | (refine Evt.ol_load (a' := ?_) (v := ?_) HT_ HW_ hHeld rfl rfl rfl (by rfl) (by kernel_rfl) (fun _ _ _ h => h) ?_ ?_ ?_; rotate_left 2; (· intro w' hS_; obtain ⟨s0, s1, s2, s3, s4, s5⟩ := KP.out w' hS_.out; have y3 := (TV.out.rg.below hS_.out).c4 hjl; go_simp; with_reducible rfl); (· (try simp only [Act.put, List.setIfInBounds_toArray, List.set_cons_zero, List.set_cons_succ, i64_w, i32_w]); rfl)))
  refine Evt.ol_done HT_ (by kernel_rfl) ?_
  refine Evt.gen_any (w0 := W) hHeld.out ?_
  intro w1 hbx
  clear hHeld HT_ HW_ KP
  have n_KR := Aside0.mk (KR.out.below hbx)
  have n_KT := Aside0.mk (KT.out.below hbx)
  have n_KA := Aside0.mk (KA.out.below hbx)
  have n_TV := Aside0.mk (TV.out.below hbx)
  have n_MT := Aside0.mk (MT.out.below hbx)
  have n_HB := Aside0.mk (below_step HB.out hbx)
  clear HB KR KT KA TV MT
  have KR := n_KR
  have KT := n_KT
  have KA := n_KA
  have TV := n_TV
  have MT := n_MT
  have HB := n_HB
  clear hbx n_KR n_KT n_KA n_TV n_MT n_HB
  have zKR_0 : w1.cell? ⟨gr, 0, none⟩ = some (.string a0) := (blk_cell KR.out.blk 0).trans rfl
  have zKR_1 : w1.cell? ⟨gr, 1, none⟩ = some (.slice (some ad) l1.length c1) := (blk_cell KR.out.blk 1).trans rfl
  have zKR_2 : w1.cell? ⟨gr, 2, none⟩ = some (.slice A2 l2.length c2) := (blk_cell KR.out.blk 2).trans rfl
  have zKR_3 : w1.cell? ⟨gr, 3, none⟩ = some (.string a3) := (blk_cell KR.out.blk 3).trans rfl
  have zKT_0 : w1.cell? ⟨gt, 0, none⟩ = some (.map (some b)) := (blk_cell KT.out.blk 0).trans rfl
  have zKA_0 : w1.cell? ⟨ga, 0, none⟩ = some (.string at_) := (blk_cell KA.out.blk 0).trans rfl
  have hlk := Mp.MI.look MT.out (s := at_) SAm.out
  rw [AT.out] at hlk
  have hk9 := DK.out
  have hw : wrap64 ((((k + 1 : Nat) : Int)) - 1) = (k : Int) := by unfold wrap64; omega
  have hw2 : ((k + 1 : Nat) : Int) - 1 = (k : Int) := by omega
  simp only [Option.getD_some] at hlk
  cases ok with
  | false =>
    clear hlk hw hw2 hk9
    go_wp2
    go_ret
    exact ⟨by rw [FA.out, hr.out]; rfl, HB.out⟩
  | true =>
    rw [show ((k + 1 : Nat) : Int) = (k : Int) + 1 from rfl] at hlk
    clear hw hw2
    have HR := Aside0.mk (hr.out.trans (Bool.true_and _))
    clear hr
    by_cases e : v = (k : Int)
    · subst e
      go_wp2
      go_ret
      exact ⟨by rw [FA.out, HR.out]; simp, HB.out⟩
    · have e1 : decide (v = (k : Int)) = false := decide_eq_false e
      have e2 : (v == (k : Int)) = false := beq_eq_false_iff_ne.mpr e
      have HE := Aside0.mk e1
      clear e
      go_wp2
      go_ret
      exact ⟨by rw [FA.out, HR.out, HE.out]; rfl, HB.out⟩
theorem eg_sp1 : ∀ args w, (callFunc 61 args).run Try.prog w = .ok (.enter 61 args) w := enters_of Try.func61 (by kernel_rfl) rfl
/-- The path so far. -/
structure Pl (w wr : World) (g1 g4 ga b n k : Nat) (at_ : ByteArray) (all out : List Int) (vo : Value) (a0 : ByteArray) (A1 : Option Addr) (c1 : Nat) (l1 : List S41) (A2 : Option Addr) (c2 : Nat) (l2 : List S101) (a3 : ByteArray) : Prop where
  s : Sa w wr g1 g4 b n (farD (es l1)) a0 A1 c1 l1 A2 c2 l2 a3
  ba : Bk wr ga 9 #[.string at_]
  o : Ro (Kd.int .i64) 3 w wr vo out
  d : IsD (es l1) k at_
  p : out ++ pathG (es l1) k at_ = all
  ge : w.heap.size ≤ ga
theorem Pl.below {wr w1 : World} {g1 g4 ga b n k : Nat} {at_ : ByteArray} {all out : List Int} {vo : Value} (h : Pl w wr g1 g4 ga b n k at_ all out vo a0 A1 c1 l1 A2 c2 l2 a3) (hb : Below wr.heap.size wr w1) : Pl w w1 g1 g4 ga b n k at_ all out vo a0 A1 c1 l1 A2 c2 l2 a3 := ⟨h.s.below hb, h.ba.below hb, h.o.below hb, h.d, h.p, h.ge⟩
/-- The path has grown; the name at hand is the elder one. -/
structure Pm (w wr : World) (g1 g4 ga b n : Nat) (at_ : ByteArray) (out : List Int) (vo : Value) (a0 : ByteArray) (A1 : Option Addr) (c1 : Nat) (l1 : List S41) (A2 : Option Addr) (c2 : Nat) (l2 : List S101) (a3 : ByteArray) : Prop where
  s : Sa w wr g1 g4 b n (farD (es l1)) a0 A1 c1 l1 A2 c2 l2 a3
  ba : Bk wr ga 9 #[.string at_]
  o : Ro (Kd.int .i64) 3 w wr vo out
theorem Pm.below {wr w1 : World} {g1 g4 ga b n : Nat} {at_ : ByteArray} {out : List Int} {vo : Value} (h : Pm w wr g1 g4 ga b n at_ out vo a0 A1 c1 l1 A2 c2 l2 a3) (hb : Below wr.heap.size wr w1) : Pm w w1 g1 g4 ga b n at_ out vo a0 A1 c1 l1 A2 c2 l2 a3 := ⟨h.s.below hb, h.ba.below hb, h.o.below hb⟩
theorem Bk_two {wr : World} {g g' : Nat} {T T' : TypeId} {cs cs' : Array Value} (h : Bk wr g T cs) (h' : Bk wr g' T' cs') (hne : T ≠ T') : g ≠ g' := by
  rintro rfl
  have := h.blk.symm.trans h'.blk
  injection this with this
  injection this with _ this
  exact hne this
theorem Pm.set {wr w1 : World} {g1 g4 ga b n : Nat} {at_ x : ByteArray} {out : List Int} {vo : Value} (h : Pm w wr g1 g4 ga b n at_ out vo a0 A1 c1 l1 A2 c2 l2 a3) (hge : w.heap.size ≤ ga) (hB : Bk w1 ga 9 (#[.string at_].setIfInBounds 0 (.string x))) (hg : wr.grownBy w1 (some ga)) : Pm w w1 g1 g4 ga b n x out vo a0 A1 c1 l1 A2 c2 l2 a3 :=
  ⟨⟨h.s.bel.grown hg h.s.bel.size (fun k e => by cases e; exact hge), h.s.ge, h.s.b1.grown hg (fun e => Bk_two h.s.b1 h.ba (by decide) (by injection e)), h.s.b4.grown hg (fun e => Bk_two h.s.b4 h.ba (by decide) (by injection e)), h.s.m.grown hg (fun e => h.s.m.ne h.ba.blk (by injection e with e; exact e.symm))⟩, hB, h.o.other hg (.inl (row_ne h.o.row h.ba.blk (by decide)))⟩
theorem out_lt {s : ByteArray} {i : Int} (h : i ∈ outL (es l1) s) : ∃ j : Nat, i = j ∧ j < l1.length := by
  obtain ⟨j, rfl, hj, _⟩ := outL_mem.1 h
  exact ⟨j, rfl, by rw [es_len] at hj; exact hj⟩
set_option maxHeartbeats 4000000 in
theorem short_any' (w : World) (h : Rg w A1 c1 l1 A2 c2 l2) (hok : okG (es l1) = true) :
    Calls Try.prog 39 #[.agg #[.string a0, .slice A1 l1.length c1, .slice A2 l2.length c2, .string a3]] w fun e w' => ∃ v, e = .returned (.tuple #[v, .int .i64 (errP (shortL (es l1)))]) ∧ Ro (Kd.int .i64) 3 w w' v ((shortL (es l1)).getD []) ∧ Below w.heap.size w w' := by
  have OK := Aside0.mk hok
  have LN : l1.length ≤ 1000 := by have := okG_len hok; rw [es_len] at this; exact this
  have NL := Aside0.mk (nodesL_len (es l1))
  rw [es_len] at NL
  have R0 := Aside0.mk h
  have hmf : ∀ (fn : Fn) (first cap : Array Value) (w : World), (Instr.makeFunc fn first cap).run Try.prog w = .ok (.func fn first cap) w := fun _ _ _ _ => rfl
  have HB := Aside0.mk (Below.refl w.heap.size w)
  clear h hok
  go_enter Try.func39, Try.ntmps39
  go_wp2_with (((with_reducible refine gate_dst (N := 1) rfl ?_); go_loud (refine box_event ?hg (N := 1) ?hd (cs := #[.string a0, .slice A1 l1.length c1, .slice A2 l2.length c2, .string a3]) (t := 25) ?hr ?_; (case hd => rfl); (case hg => rfl); (case hr => first | (go_simp; done) | (go_simp; rfl)); intro g1 hg w1 hbox hb; have hbx : Below w.heap.size w w1 := below_step (by repeat (first | (with_reducible first | exact Below.refl _ _ | apply below_alloc | apply pw_below_drewN | apply below_drew1) | exact Below.refl _ _)) hb; have n_HB := Aside0.mk (below_step HB.out hbx); clear HB ; have HB := n_HB; clear hbx n_HB; have BK1 := Aside0.mk (Bk.mk (hbox : Blk w1 g1 25 #[.string a0, .slice A1 l1.length c1, .slice A2 l2.length c2, .string a3])); clear hbox hg hb; have zBK1_0 : w1.cell? ⟨g1, 0, none⟩ = some (.string a0) := (blk_cell BK1.out.blk 0).trans rfl; have zBK1_1 : w1.cell? ⟨g1, 1, none⟩ = some (.slice A1 l1.length c1) := (blk_cell BK1.out.blk 1).trans rfl; have zBK1_2 : w1.cell? ⟨g1, 2, none⟩ = some (.slice A2 l2.length c2) := (blk_cell BK1.out.blk 2).trans rfl; have zBK1_3 : w1.cell? ⟨g1, 3, none⟩ = some (.string a3) := (blk_cell BK1.out.blk 3).trans rfl)))
  go_step3
  go_wp2_with (first | ((with_reducible refine gate_dst (N := 21) rfl ?_); go_loud (refine Mp.mkI_ev rfl (N := 21) rfl rfl ?_; intro b21 hg w2 hmap hb; have hbx : Below w1.heap.size w1 w2 := below_step (by repeat (first | (with_reducible first | exact Below.refl _ _ | apply below_alloc | apply pw_below_drewN | apply below_drew1) | exact Below.refl _ _)) hb; have hge_ : w.heap.size ≤ b21 := (by rw [hg]; exact below_size (below_step HB.out (by repeat (first | (with_reducible first | exact Below.refl _ _ | apply below_alloc | apply pw_below_drewN | apply below_drew1) | exact Below.refl _ _)))); clear zBK1_0 zBK1_1 zBK1_2 zBK1_3; have n_BK1 := Aside0.mk (BK1.out.below hbx); have n_HB := Aside0.mk (below_step HB.out hbx); clear HB BK1; have BK1 := n_BK1; have HB := n_HB; clear hbx n_BK1 n_HB; have M21 := Aside0.mk hmap; have GE21 := Aside0.mk hge_; clear hmap hg hb hge_; have zBK1_0 : w2.cell? ⟨g1, 0, none⟩ = some (.string a0) := (blk_cell BK1.out.blk 0).trans rfl; have zBK1_1 : w2.cell? ⟨g1, 1, none⟩ = some (.slice A1 l1.length c1) := (blk_cell BK1.out.blk 1).trans rfl; have zBK1_2 : w2.cell? ⟨g1, 2, none⟩ = some (.slice A2 l2.length c2) := (blk_cell BK1.out.blk 2).trans rfl; have zBK1_3 : w2.cell? ⟨g1, 3, none⟩ = some (.string a3) := (blk_cell BK1.out.blk 3).trans rfl)) | (refine Mp.putI_ev rfl (.inr rfl) (s := ⟨#[82]⟩) (v := 0) rfl rfl rfl (WalkArith.wf_i64 (by omega)) (by decide) (by unfold maxLen; omega) (M21.out.below (by repeat (first | (with_reducible first | exact Below.refl _ _ | apply below_alloc | apply pw_below_drewN | apply below_drew1) | exact Below.refl _ _))) ?_; intro w3 hM hg_; clear zBK1_0 zBK1_1 zBK1_2 zBK1_3; have n_BK1 := Aside0.mk ((BK1.out.below (by repeat (first | (with_reducible first | exact Below.refl _ _ | apply below_alloc | apply pw_below_drewN | apply below_drew1) | exact Below.refl _ _))).mputI (M21.out.below (by repeat (first | (with_reducible first | exact Below.refl _ _ | apply below_alloc | apply pw_below_drewN | apply below_drew1) | exact Below.refl _ _))) hg_); have n_HB := Aside0.mk ((below_step HB.out (by repeat (first | (with_reducible first | exact Below.refl _ _ | apply below_alloc | apply pw_below_drewN | apply below_drew1) | exact Below.refl _ _))).grown hg_ (below_size (below_step HB.out (by repeat (first | (with_reducible first | exact Below.refl _ _ | apply below_alloc | apply pw_below_drewN | apply below_drew1) | exact Below.refl _ _)))) (fun k hk => (by cases hk; exact GE21.out))); clear HB BK1 M21; have BK1 := n_BK1; have HB := n_HB; have M21 := Aside0.mk hM; clear hM hg_ n_BK1 n_HB; have zBK1_0 : w3.cell? ⟨g1, 0, none⟩ = some (.string a0) := (blk_cell BK1.out.blk 0).trans rfl; have zBK1_1 : w3.cell? ⟨g1, 1, none⟩ = some (.slice A1 l1.length c1) := (blk_cell BK1.out.blk 1).trans rfl; have zBK1_2 : w3.cell? ⟨g1, 2, none⟩ = some (.slice A2 l2.length c2) := (blk_cell BK1.out.blk 2).trans rfl; have zBK1_3 : w3.cell? ⟨g1, 3, none⟩ = some (.string a3) := (blk_cell BK1.out.blk 3).trans rfl) | ((with_reducible refine gate_dst (N := 4) rfl ?_); go_loud (refine Evt.box1 ?hg2_ (N := 4) ?hd2_ (z := .map none) (v := .map (some b21)) (T := 44) ?hr2_ ?hg22_ ?hd22_ ?hr22_ ?_; (case hd2_ => rfl); (case hg2_ => rfl); (case hr2_ => first | (go_simp; done) | (go_simp; rfl)); (case hg22_ => rfl); (case hd22_ => rfl); (case hr22_ => first | (go_simp; done) | (go_simp; rfl)); intro g4 hg w4 hbox hb; have hbx : Below w3.heap.size w3 w4 := below_step (by repeat (first | (with_reducible first | exact Below.refl _ _ | apply below_alloc | apply pw_below_drewN | apply below_drew1) | exact Below.refl _ _)) hb; clear zBK1_0 zBK1_1 zBK1_2 zBK1_3; have n_BK1 := Aside0.mk (BK1.out.below hbx); have n_M21 := Aside0.mk (M21.out.below hbx); have n_HB := Aside0.mk (below_step HB.out hbx); clear HB BK1 M21; have BK1 := n_BK1; have M21 := n_M21; have HB := n_HB; clear hbx n_BK1 n_M21 n_HB; have BK4 := Aside0.mk (Bk.mk (hbox : Blk w4 g4 44 #[.map (some b21)])); clear hbox hg hb; have zBK1_0 : w4.cell? ⟨g1, 0, none⟩ = some (.string a0) := (blk_cell BK1.out.blk 0).trans rfl; have zBK1_1 : w4.cell? ⟨g1, 1, none⟩ = some (.slice A1 l1.length c1) := (blk_cell BK1.out.blk 1).trans rfl; have zBK1_2 : w4.cell? ⟨g1, 2, none⟩ = some (.slice A2 l2.length c2) := (blk_cell BK1.out.blk 2).trans rfl; have zBK1_3 : w4.cell? ⟨g1, 3, none⟩ = some (.string a3) := (blk_cell BK1.out.blk 3).trans rfl; have zBK4_0 : w4.cell? ⟨g4, 0, none⟩ = some (.map (some b21)) := (blk_cell BK4.out.blk 0).trans rfl)) | ((with_reducible refine gate_dst (N := 23) rfl ?_); go_loud (refine Evt.ro_lit (w0 := w) Value.string (fun _ => rfl) 9 ?hg3_ (N := 23) ?hd3_ (xs := [⟨#[82]⟩]) ?hr3_ (below_step HB.out (by repeat (first | (with_reducible first | exact Below.refl _ _ | apply below_alloc | apply pw_below_drewN | apply below_drew1) | exact Below.refl _ _))) (by decide) ?_; (case hd3_ => rfl); (case hg3_ => rfl); (case hr3_ => first | (go_simp; done) | (go_simp; rfl)); intro v23 w5 ho hb hnew; have hbx : Below w4.heap.size w4 w5 := below_step (by repeat (first | (with_reducible first | exact Below.refl _ _ | apply below_alloc | apply pw_below_drewN | apply below_drew1) | exact Below.refl _ _)) hb; clear zBK1_0 zBK1_1 zBK1_2 zBK1_3 zBK4_0; have n_BK1 := Aside0.mk (BK1.out.below hbx); have n_M21 := Aside0.mk (M21.out.below hbx); have n_BK4 := Aside0.mk (BK4.out.below hbx); have n_HB := Aside0.mk (below_step HB.out hbx); clear HB BK1 M21 BK4; have BK1 := n_BK1; have M21 := n_M21; have BK4 := n_BK4; have HB := n_HB; clear hbx n_BK1 n_M21 n_BK4 n_HB; have RO23 := Aside0.mk ho; clear ho hb hnew; have zBK1_0 : w5.cell? ⟨g1, 0, none⟩ = some (.string a0) := (blk_cell BK1.out.blk 0).trans rfl; have zBK1_1 : w5.cell? ⟨g1, 1, none⟩ = some (.slice A1 l1.length c1) := (blk_cell BK1.out.blk 1).trans rfl; have zBK1_2 : w5.cell? ⟨g1, 2, none⟩ = some (.slice A2 l2.length c2) := (blk_cell BK1.out.blk 2).trans rfl; have zBK1_3 : w5.cell? ⟨g1, 3, none⟩ = some (.string a3) := (blk_cell BK1.out.blk 3).trans rfl; have zBK4_0 : w5.cell? ⟨g4, 0, none⟩ = some (.map (some b21)) := (blk_cell BK4.out.blk 0).trans rfl)))
  go_step3
  go_wp2
  have S0 : Aside0 (Sa w w5 g1 g4 b21 (0 + 1) (fun x => if x = ⟨#[82]⟩ then some 0 else none) a0 A1 c1 l1 A2 c2 l2 a3 ∧ Ro Kd.string 9 w w5 v23 [⟨#[82]⟩]) := Aside0.mk ⟨⟨HB.out, GE21.out, BK1.out, BK4.out, M21.out⟩, RO23.out⟩
  clear HB GE21 BK1 BK4 M21 RO23 zBK1_0 zBK1_1 zBK1_2 zBK1_3 zBK4_0
  have NP : Aside0 (0 < (nodesL (es l1)).length) := ⟨nodes_pos _⟩
  go_loopg [5, 6] (nodesL (es l1)).length (fun kq v5 v6 wr => ∃ (d n : Nat) (far : ByteArray → Option Int) (rnd : List ByteArray), v6 = .int .i64 ((d + 1 : Nat) : Int) ∧ Aside0 (d + kq = (nodesL (es l1)).length) ∧ Aside0 (Bf (es l1) d far rnd ∧ rnd ≠ []) ∧ Aside0 (n ≤ 1 + 3000 * d) ∧ Aside0 (Sa w wr g1 g4 b21 n far a0 A1 c1 l1 A2 c2 l2 a3 ∧ Ro Kd.string 9 w wr v5 rnd))
  case atStart => exact ⟨0, _, _, _, rfl, ⟨by omega⟩, ⟨bf_zero, by simp⟩, ⟨by omega⟩, S0⟩
  case round =>
    clear S0
    obtain ⟨d, n, far, rnd, rfl, DK, BF, NB, SS⟩ := hrel
    have DL : Aside0 (d < (nodesL (es l1)).length) := ⟨bf_lt BF.out.1 BF.out.2⟩
    have RL : Aside0 (rnd.length ≤ 2002) := ⟨by have := bf_len BF.out.1; have := NL.out; omega⟩
    obtain ⟨Yr, yr, rfl, RW⟩ := Ro.sliceS SS.out.2
    have KB : Aside0 (∀ k, (Value.slice Yr rnd.length yr).ownBlock = some k → k < wr.heap.size) := ⟨Kd.R_lt SS.out.2.row⟩
    obtain ⟨gk0, rfl⟩ : ∃ gk0, gk = gk0 + 1 := ⟨gk - 1, by have := DK.out; have := DL.out; omega⟩
    have D1 : Aside0 (d ≤ 2002) := ⟨by have := DL.out; have := NL.out; omega⟩
    obtain ⟨wo, rfl⟩ : ∃ wo, wo = wr := ⟨_, rfl⟩
    go_wp2
    have S1 : Aside0 (Sn w wo wo g1 g4 b21 n ((([] : List ByteArray).foldl (stepB (d + 1)) (far, [])).1) (.slice Yr rnd.length yr) rnd (.slice none 0 0) ((([] : List ByteArray).foldl (stepB (d + 1)) (far, [])).2) a0 A1 c1 l1 A2 c2 l2 a3) := Aside0.mk ⟨SS.out.1, SS.out.2, KB.out, ⟨Kd.R_nil _ _ _ _ _⟩, fun k hk => (by cases hk), Nat.le_refl _⟩
    clear SS KB RW
    go_loopg [7, 28] rnd.length (fun kq v7 v28 wr => ∃ (j n2 : Nat) (F : List ByteArray), v28 = .int .i64 j ∧ Aside0 (j + kq = rnd.length) ∧ Aside0 (F = (rnd.take j).flatMap (preL (es l1))) ∧ Aside0 (n2 ≤ 1 + 3000 * d + (F.foldl (stepB (d + 1)) (far, [])).2.length) ∧ Aside0 (Sn w wo wr g1 g4 b21 n2 (F.foldl (stepB (d + 1)) (far, [])).1 (.slice Yr rnd.length yr) rnd v7 (F.foldl (stepB (d + 1)) (far, [])).2 a0 A1 c1 l1 A2 c2 l2 a3))
    case atStart => exact ⟨0, n, [], rfl, ⟨by omega⟩, ⟨by simp⟩, ⟨by have := NB.out; simp; omega⟩, S1⟩
    case round =>
      clear S1
      obtain ⟨j, n2, F, rfl, hj, HF, HN, HS⟩ := hrel
      cases gk with
      | zero =>
        have e0 : j = rnd.length := by have := hj.out; omega
        have q0 : decide (j < rnd.length) = false := decide_eq_false (by omega)
        have q1 : decide ((j : Int) < (rnd.length : Int)) = false := decide_eq_false (by omega)
        have HF2 : Aside0 (F = rnd.flatMap (preL (es l1))) := ⟨by rw [HF.out, List.take_of_length_le (by omega)]⟩
        have BN : Aside0 (Bf (es l1) (d + 1) (F.foldl (stepB (d + 1)) (far, [])).1 (F.foldl (stepB (d + 1)) (far, [])).2) := ⟨by rw [HF2.out]; exact bf_next BF.out.1⟩
        clear e0
        generalize hsp : F.foldl (stepB (d + 1)) (far, []) = sp at HN HS BN
        clear hsp
        obtain ⟨Yn, yn, rfl, _⟩ := Ro.sliceS HS.out.x
        have DN : d ≤ 2002 := D1.out
        by_cases hz : sp.2 = []
        · have z0 : decide (sp.2.length = 0) = true := decide_eq_true (by rw [hz]; rfl)
          have z1 : decide ((sp.2.length : Int) = 0) = true := decide_eq_true (by rw [hz]; rfl)
          have z2 : ((sp.2.length : Int) == 0) = true := by rw [hz]; rfl
          have FE : Aside0 (∀ y, sp.1 y = farD (es l1) y) := ⟨bf_end (by have := BN.out; rw [hz] at this; exact this)⟩
          have SF : Aside0 (Sa w wr g1 g4 b21 n2 (farD (es l1)) a0 A1 c1 l1 A2 c2 l2 a3) := ⟨⟨HS.out.s.bel, HS.out.s.ge, HS.out.s.b1, HS.out.s.b4, HS.out.s.m.congr FE.out⟩⟩
          clear hz HS HN BN FE BF DK NB DL RL D1 HF HF2
          have WZ := Aside0.mk SF.out.bel.size
          have HB := Aside0.mk (Below.refl wr.heap.size wr)
          have SX := Aside0.mk (SF.out)
          have K4 : Aside0 (Bk wr g4 44 #[.map (some b21)]) := Aside0.mk (SF.out.b4)
          clear SF
          have zK4_0 : wr.cell? ⟨g4, 0, none⟩ = some (.map (some b21)) := (blk_cell K4.out.blk 0).trans rfl
          cases hd : distL (es l1) sL with
          | none =>
            have V1 : Aside0 ((farD (es l1) ⟨#[76]⟩).getD 0 = 0 ∧ (farD (es l1) ⟨#[76]⟩).isSome = false) := ⟨by rw [farD_none (show distL (es l1) ⟨#[76]⟩ = none from hd)]; exact ⟨rfl, rfl⟩⟩
            have SH : Aside0 (shortL (es l1) = none) := ⟨by unfold shortL; rw [hd]; rfl⟩
            clear hd
            go_wp2_with (refine Mp.getI2_ev rfl rfl (s := ⟨#[76]⟩) (v := 0) (ok := false) rfl rfl (by decide) (SX.out.m.below (by repeat (first | (with_reducible first | exact Below.refl _ _ | apply below_alloc | apply pw_below_drewN | apply below_drew1) | exact Below.refl _ _))) V1.out.1 V1.out.2 ?_)
            rw [Exit.noGoto_ret]
            go_ret2
            rw [SH.out]
            exact ⟨_, rfl, ⟨Kd.R_nil _ _ _ _ _⟩, SX.out.bel⟩
          | some k0 =>
            have V1 : Aside0 ((farD (es l1) ⟨#[76]⟩).getD 0 = (k0 : Int) ∧ (farD (es l1) ⟨#[76]⟩).isSome = true) := ⟨by rw [farD_some (show distL (es l1) ⟨#[76]⟩ = some k0 from hd)]; exact ⟨rfl, rfl⟩⟩
            have SH : Aside0 (shortL (es l1) = some (pathG (es l1) k0 sL)) := ⟨by unfold shortL; rw [hd]; rfl⟩
            have DS : Aside0 (IsD (es l1) k0 sL) := ⟨dist_some.1 hd⟩
            clear hd
            go_wp2_with (first | (refine Mp.getI2_ev rfl rfl (s := ⟨#[76]⟩) (v := (k0 : Int)) (ok := true) rfl rfl (by decide) (SX.out.m.below (by repeat (first | (with_reducible first | exact Below.refl _ _ | apply below_alloc | apply pw_below_drewN | apply below_drew1) | exact Below.refl _ _))) V1.out.1 V1.out.2 ?_) | ((with_reducible refine gate_dst (N := 18) rfl ?_); go_loud (refine Evt.box1 ?hg4_ (N := 18) ?hd4_ (z := .string ⟨#[]⟩) (v := .string ⟨#[76]⟩) (T := 9) ?hr4_ ?hg24_ ?hd24_ ?hr24_ ?_; (case hd4_ => rfl); (case hg4_ => rfl); (case hr4_ => first | (go_simp; done) | (go_simp; rfl)); (case hg24_ => rfl); (case hd24_ => rfl); (case hr24_ => first | (go_simp; done) | (go_simp; rfl)); intro g18 hg w1 hbox hb; have hbx : Below wr.heap.size wr w1 := below_step (by repeat (first | (with_reducible first | exact Below.refl _ _ | apply below_alloc | apply pw_below_drewN | apply below_drew1) | exact Below.refl _ _)) hb; have GG18 := Aside0.mk (show wr.heap.size ≤ g18 from (by rw [hg]; exact below_size (below_step HB.out (by repeat (first | (with_reducible first | exact Below.refl _ _ | apply below_alloc | apply pw_below_drewN | apply below_drew1) | exact Below.refl _ _))))); clear zK4_0; have n_SX := Aside0.mk (SX.out.below hbx); have n_K4 := Aside0.mk (K4.out.below hbx); have n_HB := Aside0.mk (below_step HB.out hbx); clear HB SX K4; have SX := n_SX; have K4 := n_K4; have HB := n_HB; clear hbx n_SX n_K4 n_HB; have BK18 := Aside0.mk (Bk.mk (hbox : Blk w1 g18 9 #[.string ⟨#[76]⟩])); clear hbox hg hb; have zK4_0 : w1.cell? ⟨g4, 0, none⟩ = some (.map (some b21)) := (blk_cell K4.out.blk 0).trans rfl; have zBK18_0 : w1.cell? ⟨g18, 0, none⟩ = some (.string ⟨#[76]⟩) := (blk_cell BK18.out.blk 0).trans rfl)))
            have PA : Aside0 (Pl w w1 g1 g4 g18 b21 n2 k0 sL (pathG (es l1) k0 sL) [] (.slice none 0 0) a0 A1 c1 l1 A2 c2 l2 a3) := Aside0.mk ⟨SX.out, BK18.out, ⟨Kd.R_nil _ _ _ _ _⟩, DS.out, rfl, Nat.le_trans WZ.out GG18.out⟩
            clear SX K4 HB BK18 zK4_0 zBK18_0 V1 GG18
            have KN : Aside0 (k0 < (nodesL (es l1)).length) := ⟨isD_lt DS.out⟩
            simp only [Act.put, List.setIfInBounds_toArray, List.set_cons_zero, List.set_cons_succ]
            go_loopg [17, 18] (k0 + 1) (fun kq v17 v18 wr => ∃ (k g : Nat) (at_ : ByteArray) (out : List Int), v18 = .pointer (some ⟨g, 0, none⟩) ∧ Aside0 (k + 1 = kq) ∧ Aside0 (k ≤ k0 ∧ out.length + k = k0) ∧ Aside0 (Pl w wr g1 g4 g b21 n2 k at_ (pathG (es l1) k0 sL) out v17 a0 A1 c1 l1 A2 c2 l2 a3))
            case atStart => exact ⟨k0, g18, sL, [], rfl, ⟨rfl⟩, ⟨by simp⟩, PA⟩
            case round =>
              clear PA
              obtain ⟨k, ga, at_, out, rfl, hkq, hko, PP⟩ := hrel
              cases k with
              | zero =>
                obtain rfl : at_ = ⟨#[82]⟩ := isD_zero.1 PP.out.d
                have OE : Aside0 (pathG (es l1) k0 sL = out) := ⟨by have := PP.out.p; rw [pathG_zero, List.append_nil] at this; exact this.symm⟩
                have HB := Aside0.mk (Below.refl wr.heap.size wr)
                have KA : Aside0 (Bk wr ga 9 #[.string ⟨#[82]⟩]) := Aside0.mk (PP.out.ba)
                have zKA_0 : wr.cell? ⟨ga, 0, none⟩ = some (.string ⟨#[82]⟩) := (blk_cell KA.out.blk 0).trans rfl
                go_wp2
                rw [Exit.noGoto_ret]
                go_ret2
                rw [SH.out]
                refine ⟨_, rfl, ?_, PP.out.s.bel⟩
                have := PP.out.o
                rw [← OE.out] at this
                exact this
              | succ k =>
                obtain ⟨kq', rfl⟩ : ∃ kq', gk = kq' + 1 := ⟨k + 1, by have := hkq.out; omega⟩
                have KL : Aside0 (k ≤ 3000 ∧ out.length ≤ 3000) := ⟨by have := hko.out; have := KN.out; have := NL.out; omega⟩
                have hne : at_ ≠ ⟨#[82]⟩ := isD_ne PP.out.d
                have hx1 : (at_.toList == ([82] : List UInt8)) = false := beq_eq_false_iff_ne.mpr (fun e => hne (str_eq.1 (e.trans (by decide +kernel))))
                have hx2 : (at_.toList != ([82] : List UInt8)) = true := by rw [bne, hx1]; rfl
                have AZ : Aside0 (at_.size ≤ 100000) := ⟨nodesL_size OK.out (isD_node PP.out.d)⟩
                obtain ⟨m, j, hml_, hjl, hj, hfj, hdi, hpg, hmf_⟩ := path_pick PP.out.d
                have hml : m < l1.length := by rw [es_len] at hml_; exact hml_
                rw [es_get hml] at hdi hpg
                have PG : Aside0 (pathG (es l1) (k + 1) at_ = (m : Int) :: pathG (es l1) k l1[m].f3) := ⟨hpg⟩
                have DI : Aside0 (IsD (es l1) k l1[m].f3) := ⟨hdi⟩
                have IX : Aside0 (idxF (fun i => decide (distL (es l1) (toE (es l1) i) = some k)) (outL (es l1) at_) = (j : Int)) := ⟨by unfold idxF; rw [hfj]⟩
                have HJ := Aside0.mk hj
                have LO : Aside0 ((outL (es l1) at_).length ≤ 1000) := ⟨by have := idxs_len (fun c => decide (c.1 = at_)) (es l1); rw [es_len] at this; unfold outL; omega⟩
                have p0 : decide (m < l1.length) = true := decide_eq_true hml
                have p1 : decide ((m : Int) < (l1.length : Int)) = true := decide_eq_true (by omega)
                have p2 : decide (j < (outL (es l1) at_).length) = true := decide_eq_true hjl
                have p3 : decide ((j : Int) < ((outL (es l1) at_).length : Int)) = true := decide_eq_true (by omega)
                have EA := Aside0.mk (dist_some.2 PP.out.d)
                have PO := Aside0.mk PP.out.p
                have AGE := Aside0.mk PP.out.ge
                clear hml_ hdi hpg hj hfj hmf_ hne
                obtain ⟨ad2, rfl, _⟩ := R0.out.at hml
                have HB := Aside0.mk (Below.refl wr.heap.size wr)
                have PX := Aside0.mk (PP.out)
                have K1 : Aside0 (Bk wr g1 25 #[.string a0, .slice (some ad2) l1.length c1, .slice A2 l2.length c2, .string a3]) := Aside0.mk (PP.out.s.b1)
                have KA : Aside0 (Bk wr ga 9 #[.string at_]) := Aside0.mk (PP.out.ba)
                clear PP
                have zK1_0 : wr.cell? ⟨g1, 0, none⟩ = some (.string a0) := (blk_cell K1.out.blk 0).trans rfl
                have zK1_1 : wr.cell? ⟨g1, 1, none⟩ = some (.slice (some ad2) l1.length c1) := (blk_cell K1.out.blk 1).trans rfl
                have zK1_2 : wr.cell? ⟨g1, 2, none⟩ = some (.slice A2 l2.length c2) := (blk_cell K1.out.blk 2).trans rfl
                have zK1_3 : wr.cell? ⟨g1, 3, none⟩ = some (.string a3) := (blk_cell K1.out.blk 3).trans rfl
                have zKA_0 : wr.cell? ⟨ga, 0, none⟩ = some (.string at_) := (blk_cell KA.out.blk 0).trans rfl
                go_wp2_with (first | ((with_reducible refine gate_callee (f := 21) rfl ?_); go_loud (refine goesL_ (some 78) rfl rfl Try.func21 (by kernel_rfl) rfl #[.agg #[.string a0, .slice (some ad2) l1.length c1, .slice A2 l2.length c2, .string a3], .string at_] rfl (by (try simp only [List.map_toArray, List.map_cons, List.map_nil]); first | done | rfl | (simp only [List.length_drop, List.length_take]; rfl)) ?_; (with_reducible refine (outgoing_any _ (R0.out.below (PX.out.s.below (by repeat (first | (with_reducible first | exact Below.refl _ _ | apply below_alloc | apply pw_below_drewN | apply below_drew1) | exact Below.refl _ _))).bel) LN at_).mono ?_); rintro e w1 ⟨v, rfl, ho, hb⟩; have hbx : Below wr.heap.size wr w1 := below_step (by repeat (first | (with_reducible first | exact Below.refl _ _ | apply below_alloc | apply pw_below_drewN | apply below_drew1) | exact Below.refl _ _)) hb; obtain ⟨A_, c_, rfl, hw_⟩ := Ro.sliceI ho; have ho_ := hw_.out; clear zK1_0 zK1_1 zK1_2 zK1_3 zKA_0; have n_PX := Aside0.mk (PX.out.below hbx); have n_K1 := Aside0.mk (K1.out.below hbx); have n_KA := Aside0.mk (KA.out.below hbx); have n_HB := Aside0.mk (below_step HB.out hbx); clear HB PX K1 KA; have PX := n_PX; have K1 := n_K1; have KA := n_KA; have HB := n_HB; clear hbx n_PX n_K1 n_KA n_HB; have IW := Aside0.mk (ho_); clear hb; clear ho ho_ hw_; have zK1_0 : w1.cell? ⟨g1, 0, none⟩ = some (.string a0) := (blk_cell K1.out.blk 0).trans rfl; have zK1_1 : w1.cell? ⟨g1, 1, none⟩ = some (.slice (some ad2) l1.length c1) := (blk_cell K1.out.blk 1).trans rfl; have zK1_2 : w1.cell? ⟨g1, 2, none⟩ = some (.slice A2 l2.length c2) := (blk_cell K1.out.blk 2).trans rfl; have zK1_3 : w1.cell? ⟨g1, 3, none⟩ = some (.string a3) := (blk_cell K1.out.blk 3).trans rfl; have zKA_0 : w1.cell? ⟨ga, 0, none⟩ = some (.string at_) := (blk_cell KA.out.blk 0).trans rfl; refine ⟨_, rfl, ?_⟩)) | ((with_reducible refine gate_callee (f := 60) rfl ?_); go_loud (refine goesL_ (some 82) rfl rfl Try.func60 (by kernel_rfl) rfl #[.slice A_ (outL (es l1) at_).length c_, .func (.func 61) #[] #[.pointer (some ⟨g4, 0, none⟩), .pointer (some ⟨g1, 0, none⟩), .pointer (some ⟨ga, 0, none⟩)]] rfl (by (try simp only [List.map_toArray, List.map_cons, List.map_nil]); first | done | rfl | (simp only [List.length_drop, List.length_take]; rfl)) ?_; (with_reducible refine (idxfI' eg_sp1 (IW.out.below (by repeat (first | (with_reducible first | exact Below.refl _ _ | apply below_alloc | apply pw_below_drewN | apply below_drew1) | exact Below.refl _ _))) (by have := LO.out; omega) (((sp1_any ((Sv.mk K1.out PX.out.s.b4 KA.out PX.out.s.m (R0.out.below PX.out.s.bel))) OK.out EA.out KL.out.1 AZ.out).mono (fun x hx => out_lt hx)).below (by repeat (first | (with_reducible first | exact Below.refl _ _ | apply below_alloc | apply pw_below_drewN | apply below_drew1) | exact Below.refl _ _))) IX.out).mono ?_); rintro e w2 ⟨rfl, hb⟩; have hbx : Below w1.heap.size w1 w2 := below_step (by repeat (first | (with_reducible first | exact Below.refl _ _ | apply below_alloc | apply pw_below_drewN | apply below_drew1) | exact Below.refl _ _)) hb; clear zK1_0 zK1_1 zK1_2 zK1_3 zKA_0; have n_PX := Aside0.mk (PX.out.below hbx); have n_K1 := Aside0.mk (K1.out.below hbx); have n_KA := Aside0.mk (KA.out.below hbx); have n_IW := Aside0.mk (IW.out.below hbx); have n_HB := Aside0.mk (below_step HB.out hbx); clear HB PX K1 KA IW; have PX := n_PX; have K1 := n_K1; have KA := n_KA; have IW := n_IW; have HB := n_HB; clear hbx n_PX n_K1 n_KA n_IW n_HB; clear hb; obtain ⟨ad5, rfl, x5⟩ := at_int0 IW.out.row (j : Int) (by omega) (by omega); rw [Int.toNat_natCast, show rd (outL (es l1) at_) (j : Int) = (m : Int) by rw [← HJ.out]; simp [rd, List.getD_eq_getElem?_getD, List.getElem?_eq_getElem hjl]] at x5; have zK1_0 : w2.cell? ⟨g1, 0, none⟩ = some (.string a0) := (blk_cell K1.out.blk 0).trans rfl; have zK1_1 : w2.cell? ⟨g1, 1, none⟩ = some (.slice (some ad2) l1.length c1) := (blk_cell K1.out.blk 1).trans rfl; have zK1_2 : w2.cell? ⟨g1, 2, none⟩ = some (.slice A2 l2.length c2) := (blk_cell K1.out.blk 2).trans rfl; have zK1_3 : w2.cell? ⟨g1, 3, none⟩ = some (.string a3) := (blk_cell K1.out.blk 3).trans rfl; have zKA_0 : w2.cell? ⟨ga, 0, none⟩ = some (.string at_) := (blk_cell KA.out.blk 0).trans rfl; refine ⟨_, rfl, ?_⟩)) | ((with_reducible refine gate_dst (N := 87) rfl ?_); go_loud (refine Evt.slice_event ?hg (N := 87) ?hd (cs := #[.int .i64 m]) (t := 3) (n := 1) ?hr ?_; (case hd => rfl); (case hg => rfl); (case hr => first | (go_simp; done) | (go_simp; rfl)); intro g87 hg w3 hbox hb; have hbx : Below w2.heap.size w2 w3 := below_step (by repeat (first | (with_reducible first | exact Below.refl _ _ | apply below_alloc | apply pw_below_drewN | apply below_drew1) | exact Below.refl _ _)) hb; clear zK1_0 zK1_1 zK1_2 zK1_3 zKA_0; have n_PX := Aside0.mk (PX.out.below hbx); have n_K1 := Aside0.mk (K1.out.below hbx); have n_KA := Aside0.mk (KA.out.below hbx); have n_IW := Aside0.mk (IW.out.below hbx); have n_HB := Aside0.mk (below_step HB.out hbx); clear HB PX K1 KA IW; have PX := n_PX; have K1 := n_K1; have KA := n_KA; have IW := n_IW; have HB := n_HB; clear hbx n_PX n_K1 n_KA n_IW n_HB; have BK87 := Aside0.mk (Bk.mk (hbox : Blk w3 g87 3 #[.int .i64 m])); clear hbox hg hb; have zK1_0 : w3.cell? ⟨g1, 0, none⟩ = some (.string a0) := (blk_cell K1.out.blk 0).trans rfl; have zK1_1 : w3.cell? ⟨g1, 1, none⟩ = some (.slice (some ad2) l1.length c1) := (blk_cell K1.out.blk 1).trans rfl; have zK1_2 : w3.cell? ⟨g1, 2, none⟩ = some (.slice A2 l2.length c2) := (blk_cell K1.out.blk 2).trans rfl; have zK1_3 : w3.cell? ⟨g1, 3, none⟩ = some (.string a3) := (blk_cell K1.out.blk 3).trans rfl; have zKA_0 : w3.cell? ⟨ga, 0, none⟩ = some (.string at_) := (blk_cell KA.out.blk 0).trans rfl; have zBK87_0 : w3.cell? ⟨g87, 0, none⟩ = some (.int .i64 m) := (blk_cell BK87.out.blk 0).trans rfl)) | ((with_reducible refine gate_dst (N := 88) rfl ?_); go_loud (at_builtin; refine Evt.ro_app (Value.int .i64) (fun _ => rfl) (0 : Int) rfl (.tmp 85) (.tmp 87) 32 3 (.int .i64 0) 8 rfl Try.underlying32 info3 rfl (by decide) u17 out (m : Int) g87 rfl rfl PX.out.o BK87.out PX.out.s.bel (by have := KL.out.2; omega) ?_; intro v88 wa_ ho hb hg hat; have P2 := Aside0.mk (Pm.mk (PX.out.s.rowI PX.out.o (Nat.le_refl _) hg) (PX.out.ba.grown hg (row_ne PX.out.o.row PX.out.ba.blk (by decide))) ho); clear ho hb hg hat PX HB BK87 K1 KA IW x5 zBK87_0 zK1_0 zK1_1 zK1_2 zK1_3 zKA_0; have y1_ := P2.out.s.b1.blk.cell 1 rfl; have y4_ := (R0.out.below P2.out.s.bel).c4 hml; have ya_ := P2.out.ba.blk.cell 0 rfl; have fa_ := P2.out.ba.blk.frozen 0)) | (have p2_ := P2; refine Evt.setc_ev rfl 0 (g := ga) (v := .string l1[m].f3) P2.out.ba ?hs_ ?_; (case hs_ => first | (go_simp; done) | (go_simp; rfl)); intro wb hB hG; have P3 := Aside0.mk (P2.out.set AGE.out hB hG); clear hB hG P2 p2_ y1_ y4_ ya_ fa_; have ya_ := P3.out.ba.blk.cell 0 rfl; skip; have HB := Aside0.mk (Below.refl wb.heap.size wb)))
                have hba : Below wb.heap.size wb (wb.alloc (.cells #[.string l1[m].f3] 9)) := below_alloc (Below.refl _ _) _
                have P4 := Aside0.mk (P3.out.below hba)
                have BA4 : Aside0 (Bk (wb.alloc (.cells #[.string l1[m].f3] 9)) wb.heap.size 9 #[.string l1[m].f3]) := ⟨Bk.new_eq rfl⟩
                clear hba
                go_roundg kq'
                case measure => omega
                case rel => exact ⟨k, wb.heap.size, l1[m].f3, out ++ [(m : Int)], rfl, ⟨by have := hkq.out; omega⟩, ⟨by have := hko.out; simp; omega⟩, ⟨P4.out.s, BA4.out, P4.out.o, DI.out, by rw [List.append_assoc, List.singleton_append, ← PG.out]; exact PO.out, P3.out.s.bel.size⟩⟩
        · have z0 : decide (sp.2.length = 0) = false := decide_eq_false (fun e => hz (List.eq_nil_of_length_eq_zero e))
          have z1 : decide ((sp.2.length : Int) = 0) = false := decide_eq_false (fun e => hz (List.eq_nil_of_length_eq_zero (by omega)))
          have z2 : ((sp.2.length : Int) == 0) = false := beq_eq_false_iff_ne.mpr (fun e => hz (List.eq_nil_of_length_eq_zero (by omega)))
          have HZ := Aside0.mk hz
          clear hz
          go_wp2
          go_roundg gk0
          case measure => omega
          case rel => exact ⟨d + 1, n2, _, _, by go_num, ⟨by have := DK.out; omega⟩, ⟨BN.out, HZ.out⟩, ⟨by have h1 := HN.out; have h2 := bf_len BN.out; have h3 := NL.out; omega⟩, ⟨HS.out.s, HS.out.x⟩⟩
      | succ kj =>
        have hjl : j < rnd.length := by have := hj.out; omega
        have RL9 : rnd.length ≤ 2002 := RL.out
        have q0 : decide (j < rnd.length) = true := decide_eq_true hjl
        have q1 : decide ((j : Int) < (rnd.length : Int)) = true := decide_eq_true (by omega)
        obtain ⟨x, hx⟩ : ∃ x, Aside0 (rnd[j] = x) := ⟨_, ⟨rfl⟩⟩
        have RWr : Rw Kd.string wr Yr yr rnd := Rw.of_R HS.out.r.row
        obtain ⟨ad, rfl⟩ := Rw.someS RWr (by omega)
        have x0 := Rw.atS RWr hjl
        rw [hx.out] at x0
        clear RWr
        have NN : Aside0 ((inL (es l1) x).length ≤ 1000) := Aside0.mk (by have := idxs_len (fun c => decide (c.2 = x)) (es l1); rw [es_len] at this; unfold inL; omega)
        have HB := Aside0.mk (Below.refl wr.heap.size wr)
        have SX := Aside0.mk (HS.out)
        have K1 : Aside0 (Bk wr g1 25 #[.string a0, .slice A1 l1.length c1, .slice A2 l2.length c2, .string a3]) := Aside0.mk (HS.out.s.b1)
        clear HS
        have zK1_0 : wr.cell? ⟨g1, 0, none⟩ = some (.string a0) := (blk_cell K1.out.blk 0).trans rfl
        have zK1_1 : wr.cell? ⟨g1, 1, none⟩ = some (.slice A1 l1.length c1) := (blk_cell K1.out.blk 1).trans rfl
        have zK1_2 : wr.cell? ⟨g1, 2, none⟩ = some (.slice A2 l2.length c2) := (blk_cell K1.out.blk 2).trans rfl
        have zK1_3 : wr.cell? ⟨g1, 3, none⟩ = some (.string a3) := (blk_cell K1.out.blk 3).trans rfl
        go_wp2_with (((with_reducible refine gate_callee (f := 23) rfl ?_); go_loud (refine goesL_ (some 34) rfl rfl Try.func23 (by kernel_rfl) rfl #[.agg #[.string a0, .slice A1 l1.length c1, .slice A2 l2.length c2, .string a3], .string x] rfl (by (try simp only [List.map_toArray, List.map_cons, List.map_nil]); first | done | rfl | (simp only [List.length_drop, List.length_take]; rfl)) ?_; (with_reducible refine (incoming_any _ (R0.out.below (SX.out.s.below (by repeat (first | (with_reducible first | exact Below.refl _ _ | apply below_alloc | apply pw_below_drewN | apply below_drew1) | exact Below.refl _ _))).bel) LN x).mono ?_); rintro e w1 ⟨v, rfl, ho, hb⟩; have hbx : Below wr.heap.size wr w1 := below_step (by repeat (first | (with_reducible first | exact Below.refl _ _ | apply below_alloc | apply pw_below_drewN | apply below_drew1) | exact Below.refl _ _)) hb; obtain ⟨A_, c_, rfl, _⟩ := Ro.sliceI ho; have ho_ := Ro.lower (w0 := w) ho (Nat.le_trans SX.out.s.bel.size (below_size (by repeat (first | (with_reducible first | exact Below.refl _ _ | apply below_alloc | apply pw_below_drewN | apply below_drew1) | exact Below.refl _ _)))); clear zK1_0 zK1_1 zK1_2 zK1_3; have n_SX := Aside0.mk (SX.out.below hbx); have n_K1 := Aside0.mk (K1.out.below hbx); have n_HB := Aside0.mk (below_step HB.out hbx); clear HB SX K1; have SX := n_SX; have K1 := n_K1; have HB := n_HB; clear hbx n_SX n_K1 n_HB; have IW := Aside0.mk (ho_); clear hb; clear ho ho_; have zK1_0 : w1.cell? ⟨g1, 0, none⟩ = some (.string a0) := (blk_cell K1.out.blk 0).trans rfl; have zK1_1 : w1.cell? ⟨g1, 1, none⟩ = some (.slice A1 l1.length c1) := (blk_cell K1.out.blk 1).trans rfl; have zK1_2 : w1.cell? ⟨g1, 2, none⟩ = some (.slice A2 l2.length c2) := (blk_cell K1.out.blk 2).trans rfl; have zK1_3 : w1.cell? ⟨g1, 3, none⟩ = some (.string a3) := (blk_cell K1.out.blk 3).trans rfl; refine ⟨_, rfl, ?_⟩)))
        have I0 : Aside0 (Sn w wo w1 g1 g4 b21 n2 ((F ++ (preL (es l1) x).take 0).foldl (stepB (d + 1)) (far, [])).1 (.slice (some ad) rnd.length yr) rnd u7 ((F ++ (preL (es l1) x).take 0).foldl (stepB (d + 1)) (far, [])).2 a0 A1 c1 l1 A2 c2 l2 a3 ∧ Ro (Kd.int .i64) 3 w w1 (.slice A_ (inL (es l1) x).length c_) (inL (es l1) x)) := Aside0.mk ⟨by rw [List.take_zero, List.append_nil]; exact SX.out, IW.out⟩
        clear SX IW HB K1 zK1_0 zK1_1 zK1_2 zK1_3
        go_loopg [7, 36] (inL (es l1) x).length (fun kq v7 v36 wr => ∃ (i n3 : Nat), v36 = .int .i64 i ∧ Aside0 (i + kq = (inL (es l1) x).length) ∧ Aside0 (n3 ≤ 1 + 3000 * d + ((F ++ (preL (es l1) x).take i).foldl (stepB (d + 1)) (far, [])).2.length) ∧ Aside0 (Sn w wo wr g1 g4 b21 n3 ((F ++ (preL (es l1) x).take i).foldl (stepB (d + 1)) (far, [])).1 (.slice (some ad) rnd.length yr) rnd v7 ((F ++ (preL (es l1) x).take i).foldl (stepB (d + 1)) (far, [])).2 a0 A1 c1 l1 A2 c2 l2 a3 ∧ Ro (Kd.int .i64) 3 w wr (.slice A_ (inL (es l1) x).length c_) (inL (es l1) x)))
        case atStart => exact ⟨0, n2, rfl, ⟨by omega⟩, ⟨by rw [List.take_zero, List.append_nil]; exact HN.out⟩, I0⟩
        case round =>
          clear I0 HN
          obtain ⟨i, n3, rfl, hi, HN, HS⟩ := hrel
          cases gk with
          | zero =>
            have e0 : i = (inL (es l1) x).length := by have := hi.out; omega
            have q0_ : decide (i < (inL (es l1) x).length) = false := decide_eq_false (by omega)
            have q1_ : decide ((i : Int) < ((inL (es l1) x).length : Int)) = false := decide_eq_false (by omega)
            have TE := Aside0.mk (show F ++ (preL (es l1) x).take i = (rnd.take (j + 1)).flatMap (preL (es l1)) by
              rw [List.take_of_length_le (by unfold preL; rw [List.length_map]; omega), HF.out, List.take_succ_eq_append_getElem hjl, List.flatMap_append, hx.out]; simp)
            clear e0
            go_wp2
            go_roundg kj
            case measure => omega
            case rel => exact ⟨j + 1, n3, _, by go_num, ⟨by have := hj.out; omega⟩, TE, HN, ⟨HS.out.1⟩⟩
          | succ k1 =>
            have hil : i < (inL (es l1) x).length := by have := hi.out; omega
            have q0_ : decide (i < (inL (es l1) x).length) = true := decide_eq_true hil
            have q1_ : decide ((i : Int) < ((inL (es l1) x).length : Int)) = true := decide_eq_true (by omega)
            have NN9 : (inL (es l1) x).length ≤ 1000 := NN.out
            obtain ⟨m, hm, hml⟩ : ∃ m : Nat, (inL (es l1) x)[i] = (m : Int) ∧ m < l1.length := by
              obtain ⟨m, hm, hl, _⟩ := inL_mem.1 (List.getElem_mem hil)
              exact ⟨m, hm, by rw [es_len] at hl; exact hl⟩
            have p0 : decide (m < l1.length) = true := decide_eq_true hml
            have p1 : decide ((m : Int) < (l1.length : Int)) = true := decide_eq_true (by omega)
            obtain ⟨ad3, rfl, x3⟩ := at_int0 (Rw.of_R HS.out.2.row).row (i : Int) (by omega) (by omega)
            rw [Int.toNat_natCast, show rd (inL (es l1) x) (i : Int) = (m : Int) by rw [← hm]; simp [rd, List.getD_eq_getElem?_getD, List.getElem?_eq_getElem hil]] at x3
            have ST := Aside0.mk (show F ++ (preL (es l1) x).take (i + 1) = (F ++ (preL (es l1) x).take i) ++ [l1[m].f2] by unfold preL; rw [List.take_succ_eq_append_getElem (by rw [List.length_map]; exact hil), List.getElem_map, hm, from_at hml, List.append_assoc])
            have FL : Aside0 (((F ++ (preL (es l1) x).take i).foldl (stepB (d + 1)) (far, [])).2.length ≤ (nodesL (es l1)).length) := ⟨foldB_nodes (fun y hy => by
              rcases List.mem_append.1 hy with hy | hy
              · rw [HF.out] at hy; exact flat_nodes y hy
              · obtain ⟨c, hc, _, q2⟩ := pre_mem.1 (List.mem_of_mem_take hy); rw [← q2]; exact nodes_1 hc) _⟩
            have C2 := Aside0.mk (okG_f2 OK.out (c := (l1[m].f2, l1[m].f3)) (by rw [← es_get hml]; exact List.getElem_mem _))
            have C2m : Aside0 (l1[m].f2.size ≤ maxLen) := ⟨by have h_ : l1[m].f2.size ≤ 100000 := C2.out; unfold maxLen; omega⟩
            clear hm
            have FS := Aside0.mk (List.foldl_append (f := stepB (d + 1)) (b := (far, [])) (l := F ++ (preL (es l1) x).take i) (l' := [l1[m].f2]))
            generalize hsp : (F ++ (preL (es l1) x).take i).foldl (stepB (d + 1)) (far, []) = sp at HS HN FL FS
            clear hsp
            obtain ⟨ad2, rfl, _⟩ := R0.out.at hml
            have y3 := (R0.out.below HS.out.1.s.bel).c3 hml
            have HB := Aside0.mk (Below.refl wr.heap.size wr)
            have SX := Aside0.mk (HS.out.1)
            have IW := Aside0.mk (HS.out.2)
            have K1 : Aside0 (Bk wr g1 25 #[.string a0, .slice (some ad2) l1.length c1, .slice A2 l2.length c2, .string a3]) := Aside0.mk (HS.out.1.s.b1)
            have K4 : Aside0 (Bk wr g4 44 #[.map (some b21)]) := Aside0.mk (HS.out.1.s.b4)
            clear HS
            have zK1_0 : wr.cell? ⟨g1, 0, none⟩ = some (.string a0) := (blk_cell K1.out.blk 0).trans rfl
            have zK1_1 : wr.cell? ⟨g1, 1, none⟩ = some (.slice (some ad2) l1.length c1) := (blk_cell K1.out.blk 1).trans rfl
            have zK1_2 : wr.cell? ⟨g1, 2, none⟩ = some (.slice A2 l2.length c2) := (blk_cell K1.out.blk 2).trans rfl
            have zK1_3 : wr.cell? ⟨g1, 3, none⟩ = some (.string a3) := (blk_cell K1.out.blk 3).trans rfl
            have zK4_0 : wr.cell? ⟨g4, 0, none⟩ = some (.map (some b21)) := (blk_cell K4.out.blk 0).trans rfl
            cases hf : sp.1 l1[m].f2 with
            | some v1 =>
              have SE : Aside0 (stepB (d + 1) sp l1[m].f2 = sp) := ⟨if_pos (by rw [hf]; rfl)⟩
              have V1 : Aside0 ((sp.1 l1[m].f2).getD 0 = v1 ∧ (sp.1 l1[m].f2).isSome = true) := ⟨by rw [hf]; exact ⟨rfl, rfl⟩⟩
              clear hf
              go_wp2_with (refine Mp.getI2_ev rfl rfl (s := l1[m].f2) (v := v1) (ok := true) rfl rfl C2m.out (SX.out.s.m.below (by repeat (first | (with_reducible first | exact Below.refl _ _ | apply below_alloc | apply pw_below_drewN | apply below_drew1) | exact Below.refl _ _))) V1.out.1 V1.out.2 ?_)
              go_roundg k1
              case measure => omega
              case rel => exact ⟨i + 1, n3, by go_num, ⟨by have := hi.out; omega⟩, ⟨by rw [ST.out, FS.out, List.foldl_cons, List.foldl_nil, SE.out]; exact HN.out⟩, ⟨by rw [ST.out, FS.out, List.foldl_cons, List.foldl_nil, SE.out]; exact ⟨SX.out, IW.out⟩⟩⟩
            | none =>
              have SE : Aside0 (stepB (d + 1) sp l1[m].f2 = (fun y => if y = l1[m].f2 then some ((d + 1 : Nat) : Int) else sp.1 y, sp.2 ++ [l1[m].f2])) := ⟨if_neg (by rw [hf]; simp)⟩
              have V1 : Aside0 ((sp.1 l1[m].f2).getD 0 = 0 ∧ (sp.1 l1[m].f2).isSome = false) := ⟨by rw [hf]; exact ⟨rfl, rfl⟩⟩
              have D9 : d ≤ 2002 := D1.out
              have NM : Aside0 (n3 < maxLen) := ⟨by have := HN.out; have := FL.out; have := NL.out; unfold maxLen; omega⟩
              have XL : Aside0 (sp.2.length ≤ 2002) := ⟨by have := FL.out; have := NL.out; omega⟩
              clear hf
              go_wp2_with (first | (refine Mp.getI2_ev rfl rfl (s := l1[m].f2) (v := 0) (ok := false) rfl rfl C2m.out (SX.out.s.m.below (by repeat (first | (with_reducible first | exact Below.refl _ _ | apply below_alloc | apply pw_below_drewN | apply below_drew1) | exact Below.refl _ _))) V1.out.1 V1.out.2 ?_) | (refine Mp.putI_ev rfl (.inl rfl) (s := l1[m].f2) (v := ((d + 1 : Nat) : Int)) rfl rfl rfl (WalkArith.wf_i64 (by omega)) C2m.out NM.out (SX.out.s.m.below (by repeat (first | (with_reducible first | exact Below.refl _ _ | apply below_alloc | apply pw_below_drewN | apply below_drew1) | exact Below.refl _ _))) ?_; intro wp hM_ hg_; have SX2 := Aside0.mk ((SX.out.below (by repeat (first | (with_reducible first | exact Below.refl _ _ | apply below_alloc | apply pw_below_drewN | apply below_drew1) | exact Below.refl _ _))).put hM_ hg_); have IW2 := Aside0.mk ((IW.out.below (by repeat (first | (with_reducible first | exact Below.refl _ _ | apply below_alloc | apply pw_below_drewN | apply below_drew1) | exact Below.refl _ _))).mputI (SX.out.s.m.below (by repeat (first | (with_reducible first | exact Below.refl _ _ | apply below_alloc | apply pw_below_drewN | apply below_drew1) | exact Below.refl _ _))) hg_); clear hM_ hg_ SX IW K1 K4 HB x3 y3 zK1_0 zK1_1 zK1_2 zK1_3 zK4_0; skip; have HB := Aside0.mk (Below.refl wp.heap.size wp)) | ((with_reducible refine gate_dst (N := 59) rfl ?_); go_loud (refine Evt.slice_event ?hg (N := 59) ?hd (cs := #[.string l1[m].f2]) (t := 9) (n := 1) ?hr ?_; (case hd => rfl); (case hg => rfl); (case hr => first | (go_simp; done) | (go_simp; rfl)); intro g59 hg w1 hbox hb; have hbx : Below wp.heap.size wp w1 := below_step (by repeat (first | (with_reducible first | exact Below.refl _ _ | apply below_alloc | apply pw_below_drewN | apply below_drew1) | exact Below.refl _ _)) hb; have n_SX2 := Aside0.mk (SX2.out.below hbx); have n_IW2 := Aside0.mk (IW2.out.below hbx); have n_HB := Aside0.mk (below_step HB.out hbx); clear HB SX2 IW2; have SX2 := n_SX2; have IW2 := n_IW2; have HB := n_HB; clear hbx n_SX2 n_IW2 n_HB; have BK59 := Aside0.mk (Bk.mk (hbox : Blk w1 g59 9 #[.string l1[m].f2])); clear hbox hg hb; have zBK59_0 : w1.cell? ⟨g59, 0, none⟩ = some (.string l1[m].f2) := (blk_cell BK59.out.blk 0).trans rfl)) | ((with_reducible refine gate_dst (N := 60) rfl ?_); go_loud (at_builtin; refine Evt.ro_app Value.string (fun _ => rfl) ByteArray.empty rfl (.tmp 57) (.tmp 59) 29 9 (.string ⟨#[]⟩) 16 rfl Try.underlying29 info9 rfl (by decide) u7 sp.2 l1[m].f2 g59 rfl rfl SX2.out.x BK59.out SX2.out.s.bel (by have := XL.out; omega) ?_; intro v60 wa_ ho hb hg hat; have SX3 := Aside0.mk (SX2.out.app ho hg hat); have IW3 := Aside0.mk (IW2.out.other hg (rows_two SX2.out.x IW2.out)); clear ho hb hg hat SX2 IW2 HB BK59 zBK59_0)))
              go_roundg k1
              case measure => omega
              case rel =>
                refine ⟨i + 1, n3 + 1, by go_num, ⟨by have := hi.out; omega⟩, ⟨?_⟩, ⟨?_, ?_⟩⟩
                · rw [ST.out, FS.out, List.foldl_cons, List.foldl_nil, SE.out]; have := HN.out; simp only [List.length_append, List.length_singleton]; omega
                · rw [ST.out, FS.out, List.foldl_cons, List.foldl_nil, SE.out]; exact SX3.out
                · exact IW3.out
end
end Go.Proofs.Ytmacdknicgfglaa.Gw
end
section
/- A region of open order in which several operations make memory: each order is walked, what follows is shown once. -/
namespace Go.Proofs.Ytmacdknicgfglaa.Evt
open Go.RowKit Go.Proofs.YtmacdknicgfglaaW.PrintWords Go.Proofs.YtmacdknicgfglaaW.PrintMore Go.Proofs.YtmacdknicgfglaaW.PrintLast Go.Proofs.Ytmacdknicgfglaa.Chg Go.Proofs.Ytmacdknicgfglaa.Mp
set_option linter.unusedVariables false
section
variable {P : Program} {ops : Array Oper} {Q : Exit → Act → World → Prop} {w0 : World} {T : Bool × List (List Nat × List Nat)} {B : List Nat}
variable {n m i j k : Nat} {N Ni Nj Nk : Option Tmp} {r : List (Nat × Option Tmp)} {a a' : Act} {w w1 : World} {oi oj ok_ : Oper} {v : Value}
/-- What follows on an operation that is taken. -/
abbrev KS (P : Program) (ops : Array Oper) (Q : Exit → Act → World → Prop) (w0 : World) (n m : Nat) (r : List (Nat × Option Tmp)) (K : Act → World → Prop) : Prop := Shut (∀ a' w', Hb w0 w' → (Hb w0 w' → wpAnyLast P .any ops Q (Hb w0) [] m (lst n r) a' w') → K a' w')
theorem ol_join {σ : Type} (m' : Nat) (r' : List (Nat × Option Tmp)) (ns : σ → List (Tmp × Value)) (F : σ → World → Prop)
    (h : (∀ s w', Hb w0 w' → F s w' → Ol P ops Q w0 [] n m' r' (putAll a (ns s)) w') → Ol P ops Q w0 [] n m r a w) (hc : ∀ s w', Hb w0 w' → F s w' → Ol P ops Q w0 [] n m' r' (putAll a (ns s)) w') : Ol P ops Q w0 [] n m r a w := h hc
theorem ol_one (ri : List (Nat × Option Tmp)) (HT : Aside0 (rtab .any ops = T)) (hoi : ops[i]? = some oi) (hNi : oi.dst = Ni) (hc : (readyT T.2 (lst n r).toList == [i] && (lst n r).toList.set i true == (lst n ri).toList) = true)
    (h1 : ∀ K : Act → World → Prop, KS P ops Q w0 n m ri K → if Region.wanted oi (yielded ops a.tmps) = true then Oper.wp P oi a w K Q else K (a.put Ni undef) w) : Ol P ops Q w0 [] n (m + 1) r a w :=
  one_ (lst n ri) hoi hNi (one_of HT.out hc) (by simp) h1
theorem ol_two (ri rj : List (Nat × Option Tmp)) (HT : Aside0 (rtab .any ops = T)) (hoi : ops[i]? = some oi) (hoj : ops[j]? = some oj) (hNi : oi.dst = Ni) (hNj : oj.dst = Nj) (hc : (readyT T.2 (lst n r).toList == [i, j] && (lst n r).toList.set i true == (lst n ri).toList && (lst n r).toList.set j true == (lst n rj).toList) = true)
    (h1 : ∀ K : Act → World → Prop, KS P ops Q w0 n m ri K → if Region.wanted oi (yielded ops a.tmps) = true then Oper.wp P oi a w K Q else K (a.put Ni undef) w)
    (h2 : ∀ K : Act → World → Prop, KS P ops Q w0 n m rj K → if Region.wanted oj (yielded ops a.tmps) = true then Oper.wp P oj a w K Q else K (a.put Nj undef) w) : Ol P ops Q w0 [] n (m + 1) r a w :=
  two_ (lst n ri) (lst n rj) hoi hoj hNi hNj (two_of HT.out hc) (by simp) (by simp) h1 h2
theorem ol_three (ri rj rk : List (Nat × Option Tmp)) (HT : Aside0 (rtab .any ops = T)) (hoi : ops[i]? = some oi) (hoj : ops[j]? = some oj) (hok : ops[k]? = some ok_) (hNi : oi.dst = Ni) (hNj : oj.dst = Nj) (hNk : ok_.dst = Nk)
    (hc : (readyT T.2 (lst n r).toList == [i, j, k] && (lst n r).toList.set i true == (lst n ri).toList && (lst n r).toList.set j true == (lst n rj).toList && (lst n r).toList.set k true == (lst n rk).toList) = true)
    (h1 : ∀ K : Act → World → Prop, KS P ops Q w0 n m ri K → if Region.wanted oi (yielded ops a.tmps) = true then Oper.wp P oi a w K Q else K (a.put Ni undef) w)
    (h2 : ∀ K : Act → World → Prop, KS P ops Q w0 n m rj K → if Region.wanted oj (yielded ops a.tmps) = true then Oper.wp P oj a w K Q else K (a.put Nj undef) w)
    (h3 : ∀ K : Act → World → Prop, KS P ops Q w0 n m rk K → if Region.wanted ok_ (yielded ops a.tmps) = true then Oper.wp P ok_ a w K Q else K (a.put Nk undef) w) : Ol P ops Q w0 [] n (m + 1) r a w :=
  three_ (lst n ri) (lst n rj) (lst n rk) hoi hoj hok hNi hNj hNk (three_of HT.out hc) (by simp) (by simp) (by simp) h1 h2 h3
theorem k_call {K : Act → World → Prop} (hK : KS P ops Q w0 n m r K) (HS : Hb w0 w) {f : FuncId} {fn : Func} {aS : Array Operand} {ts : Array TypeId} (hop : oi.op = .call { callee := .value (.func f), args := aS, argTypes := ts }) (hf : P.funcs[f]? = some fn) (hname : (fn.name == "runtime.NumGoroutine") = false) (hb : fn.body.isSome = true) (args : Array Value) (hw : Region.wanted oi (yielded ops a.tmps) = true) (hN : oi.dst = N) (hargs : aS.map a.eval = args)
    (h : Calls P f args w fun e w' => ∃ v, e = .returned v ∧ Below w.heap.size w w' ∧ (Hb w0 w' → Ol P ops Q w0 [] n m r (a.put N v) w')) : if Region.wanted oi (yielded ops a.tmps) = true then Oper.wp P oi a w K Q else K (a.put N undef) w := by
  refine goes_ hf hname hb args hw hN hop hargs ?_
  refine h.mono fun e w' hh => ?_
  obtain ⟨v, rfl, hb, hk⟩ := hh
  have hS' : Hb w0 w' := ⟨below_step HS.out hb⟩
  exact ⟨v, rfl, hK.out _ _ hS' (fun _ => hk hS')⟩
theorem k_alloc {K : Act → World → Prop} (hK : KS P ops Q w0 n m r K) (HS : Hb w0 w) (hw : Region.wanted oi (yielded ops a.tmps) = true) (hN : oi.dst = N) {cs : Array Value} {t : TypeId} (hrun : (execOp a.eval oi).run P w = .ok (.value (.pointer (some ⟨w.heap.size, 0, none⟩))) (w.alloc (.cells cs t (0, 0))))
    (h : ∀ (g : Nat) (w1 : World), g = w.heap.size → Bk w1 g t cs → Below w.heap.size w w1 → Hb w0 w1 → Ol P ops Q w0 [] n m r (a.put N (.pointer (some ⟨g, 0, none⟩))) w1) : if Region.wanted oi (yielded ops a.tmps) = true then Oper.wp P oi a w K Q else K (a.put N undef) w := by
  have hb : Below w.heap.size w (w.alloc (.cells cs t (0, 0))) := below_alloc (Below.refl _ _) _
  have hS' : Hb w0 (w.alloc (.cells cs t (0, 0))) := ⟨below_step HS.out hb⟩
  exact value_ hw hN hrun (hK.out _ _ hS' (fun _ => h w.heap.size _ rfl ⟨heap_alloc_new w _⟩ hb hS'))
theorem k_slice {K : Act → World → Prop} (hK : KS P ops Q w0 n m r K) (HS : Hb w0 w) (hw : Region.wanted oi (yielded ops a.tmps) = true) (hN : oi.dst = N) {cs : Array Value} {t : TypeId} {ln : Nat} (hrun : (execOp a.eval oi).run P w = .ok (.value (.slice (some ⟨w.heap.size, 0, none⟩) ln ln)) (w.alloc (.cells cs t (0, 0))))
    (h : ∀ (g : Nat) (w1 : World), g = w.heap.size → Bk w1 g t cs → Below w.heap.size w w1 → Hb w0 w1 → Ol P ops Q w0 [] n m r (a.put N (.slice (some ⟨g, 0, none⟩) ln ln)) w1) : if Region.wanted oi (yielded ops a.tmps) = true then Oper.wp P oi a w K Q else K (a.put N undef) w := by
  have hb : Below w.heap.size w (w.alloc (.cells cs t (0, 0))) := below_alloc (Below.refl _ _) _
  have hS' : Hb w0 (w.alloc (.cells cs t (0, 0))) := ⟨below_step HS.out hb⟩
  exact value_ hw hN hrun (hK.out _ _ hS' (fun _ => h w.heap.size _ rfl ⟨heap_alloc_new w _⟩ hb hS'))
end
section
variable {ops : Array Oper} {Q : Exit → Act → World → Prop} {w0 : World} {T : Bool × List (List Nat × List Nat)} {n m i : Nat} {r : List (Nat × Option Tmp)} {a : Act} {w : World} {oi : Oper}
/-- A store of one cell to a variable made behind w0. -/
theorem ol_set (ri : List (Nat × Option Tmp)) (HT : Aside0 (rtab .any ops = T)) (HS : Hb w0 w) (ho : ops[i]? = some oi) (hN : oi.dst = none) (hc : (readyT T.2 (lst n r).toList == [i] && (lst n r).toList.set i true == (lst n ri).toList) = true) (hw : Region.wanted oi (yielded ops a.tmps) = true) {g : Nat} {z v : Value} {t : TypeId} (hb : Bk w g t #[z]) (hge : w0.heap.size ≤ g)
    (hrun : (execOp a.eval oi).run Try.prog w = .ok .skip (w.setCell ⟨g, 0, none⟩ v)) (h : ∀ w1, Bk w1 g t #[v] → w.grownBy w1 (some g) → Hb w0 w1 → Ol Try.prog ops Q w0 [] n m ri a w1) : Ol Try.prog ops Q w0 [] n (m + 1) r a w := by
  have hg : w.grownBy (w.setCell ⟨g, 0, none⟩ v) (some g) := ⟨rfl, rfl, rfl, by simp [World.setCell], fun k hk hne => Below.heap_setCell w ⟨g, 0, none⟩ v k (fun e => hne (by rw [e]))⟩
  have hS' : Hb w0 (w.setCell ⟨g, 0, none⟩ v) := ⟨HS.out.grown hg HS.out.size (fun k hk => by cases hk; exact hge)⟩
  refine one_ (lst n ri) ho hN (one_of HT.out hc) (by simp) (fun K hK => ?_)
  rw [if_pos hw]
  unfold Oper.wp
  rw [hrun]
  show K (a.put oi.dst undef) _
  rw [hN]
  exact hK.out _ _ hS' (fun _ => h _ ⟨Blk.set_ hb.blk 0 v⟩ hg hS')
end
end Go.Proofs.Ytmacdknicgfglaa.Evt
end
section
/- flow.DeadNodes, walked. -/
namespace Go.Proofs.Ytmacdknicgfglaa.Gw
open Go.RowKit Go.Shelf Go.Proofs.YtmacdknicgfglaaW.PrintWords Go.Proofs.YtmacdknicgfglaaW.PrintMore Go.Proofs.YtmacdknicgfglaaW.PrintLast Go.Proofs.Ytmacdknicgfglaa.Chg Go.Proofs.Ytmacdknicgfglaa.Evt Go.Proofs.Ytmacdknicgfglaa.Impl Go.Proofs.Ytmacdknicgfglaa.Gp Go.Proofs.Ytmacdknicgfglaa.Mp
set_option linter.unusedVariables false
set_option linter.unusedSimpArgs false
set_option maxRecDepth 100000
theorem other_row {w0 w w1 : World} {v : Value} {xs : List ByteArray} {g : Nat} {cs : Array Value} (h : Ro Kd.string 9 w0 w v xs) (hb : Bk w g 29 cs) (hg : w.grownBy w1 (some g)) : Ro Kd.string 9 w0 w1 v xs := ⟨R_other h.row hg (.inl (row_ne h.row hb.blk (by decide)))⟩
set_option maxHeartbeats 1000000 in
theorem dead1_any {W : World} {g4 g5 : Nat} {X6 X8 : Option Addr} {x6 x8 : Nat} {ra rb : List ByteArray} (h4 : Bk W g4 29 #[.slice X6 ra.length x6]) (h5 : Bk W g5 29 #[.slice X8 rb.length x8]) (r6 : Rw Kd.string W X6 x6 ra) (r8 : Rw Kd.string W X8 x8 rb) (l6 : ra.length ≤ 1000000) (l8 : rb.length ≤ 1000000) (x : ByteArray) :
    Calls Try.prog 57 #[.string x, .pointer (some ⟨g4, 0, none⟩), .pointer (some ⟨g5, 0, none⟩)] W fun e w' => e = .returned (.bool (decide (x ∈ ra) && decide (x ∈ rb))) ∧ ∃ q, w' = W.drewN q := by
  have y4 := h4.blk.cell 0 rfl
  have y5 := h5.blk.cell 0 rfl
  have D6 := Aside0.mk (And.intro r6 l6)
  have D8 := Aside0.mk (And.intro r8 l8)
  obtain ⟨ba, hba⟩ : ∃ ba, Aside0 (decide (x ∈ ra) = ba) := ⟨_, ⟨rfl⟩⟩
  obtain ⟨bb, hbb⟩ : ∃ bb, Aside0 (decide (x ∈ rb) = bb) := ⟨_, ⟨rfl⟩⟩
  rw [hba.out, hbb.out]
  clear h4 h5 r6 r8 l6 l8
  cases ba with
  | true =>
    go_enter Try.func57, Try.ntmps57
    go_wp2_with (first | (go_at_call 26; refine (conS_any X6 x6 ra x _ D6.out.1 D6.out.2 hba.out).mono ?_; rintro e w_ ⟨rfl, ⟨nd, rfl⟩⟩) | (go_at_call 26; refine (conS_any X8 x8 rb x _ (D8.out.1.below (pw_below_drewN (Below.refl _ _) _)) D8.out.2 hbb.out).mono ?_; rintro e w_ ⟨rfl, ⟨nd2, rfl⟩⟩))
    go_ret
    exact ⟨by cases bb <;> rfl, nd + nd2, by simp [World.drewN, Nat.add_assoc]⟩
  | false =>
    go_enter Try.func57, Try.ntmps57
    go_wp2_with (go_at_call 26; refine (conS_any X6 x6 ra x _ D6.out.1 D6.out.2 hba.out).mono ?_; rintro e w_ ⟨rfl, ⟨nd, rfl⟩⟩)
    go_ret
    exact ⟨rfl, nd, rfl⟩
theorem eg_d1 : ∀ args w, (callFunc 57 args).run Try.prog w = .ok (.enter 57 args) w := enters_of Try.func57 (by kernel_rfl) rfl
/-- A row stays while a later row is written. -/
theorem later_row {wb w w1 : World} {w0 : World} {v v' : Value} {xs ys : List ByteArray} (h : Ro Kd.string 9 w0 w v xs) (hl : ∀ k, v.ownBlock = some k → k < wb.heap.size) (h' : Ro Kd.string 9 wb w v' ys) (hg : w.grownBy w1 v'.ownBlock) : Ro Kd.string 9 w0 w1 v xs := by
  refine ⟨R_other h.row hg ?_⟩
  cases hv : v'.ownBlock with
  | none => exact .inr rfl
  | some k =>
    refine .inl (fun e => ?_)
    have h1 := hl k e.symm
    obtain ⟨i, ho⟩ := Kd.R_own h'.row
    have h2 := own_base ho k hv
    omega
theorem dead1_at {wb W w0 : World} {v : Value} {xs ra rb : List ByteArray} {g4 g5 : Nat} {X6 X8 : Option Addr} {x6 x8 : Nat} (hv : Ro Kd.string 9 wb W v xs) (h6 : Ro Kd.string 9 w0 W (.slice X6 ra.length x6) ra) (h8 : Ro Kd.string 9 w0 W (.slice X8 rb.length x8) rb) (h4 : Bk W g4 29 #[.slice X6 ra.length x6]) (h5 : Bk W g5 29 #[.slice X8 rb.length x8])
    (k6 : ∀ k, (Value.slice X6 ra.length x6).ownBlock = some k → k < wb.heap.size) (k8 : ∀ k, (Value.slice X8 rb.length x8).ownBlock = some k → k < wb.heap.size) (l6 : ra.length ≤ 1000000) (l8 : rb.length ≤ 1000000) :
    ∀ (W' : World) (x : ByteArray), x.size ≤ 100000 → W.grownBy W' v.ownBlock → Calls Try.prog 57 (#[.string x] ++ #[.pointer (some ⟨g4, 0, none⟩), .pointer (some ⟨g5, 0, none⟩)]) W' fun e w' => e = .returned (.bool (!(!(decide (x ∈ ra) && decide (x ∈ rb))))) ∧ ∃ q, w' = W'.drewN q := by
  intro W' x hx hg
  rw [Bool.not_not]
  exact dead1_any (h4.grown hg (row_ne hv.row h4.blk (by decide))) (h5.grown hg (row_ne hv.row h5.blk (by decide))) (Rw.of_R (later_row h6 k6 hv hg).row) (Rw.of_R (later_row h8 k8 hv hg).row) l6 l8 x
section
variable {w w' : World} {A1 A2 : Option Addr} {c1 c2 : Nat} {l1 : List S41} {l2 : List S101} {a0 a3 : ByteArray}
set_option maxHeartbeats 8000000 in
theorem dead_any (w : World) (h : Rg w A1 c1 l1 A2 c2 l2) (hok : okG (es l1) = true) :
    Calls Try.prog 35 #[.agg #[.string a0, .slice A1 l1.length c1, .slice A2 l2.length c2, .string a3]] w fun e w' => ∃ v, e = .returned v ∧ Ro Kd.string 9 w w' v ((nodesL (es l1)).filter fun s => !(decide (s ∈ reachL (es l1) ⟨#[76]⟩) && decide (s ∈ ancL (es l1) ⟨#[82]⟩))) ∧ Below w.heap.size w w' := by
  have OK := Aside0.mk hok
  have HB := Aside0.mk (Below.refl w.heap.size w)
  have R := Aside0.mk (h)
  clear h hok
  go_enter Try.func35, Try.ntmps35
  go_wp2_with (((with_reducible refine gate_dst (N := 1) rfl ?_); refine box_event ?hg (N := 1) ?hd (cs := #[.string a0, .slice A1 l1.length c1, .slice A2 l2.length c2, .string a3]) (t := 25) ?hr ?_; (case hd => rfl); (case hg => rfl); (case hr => first | (go_simp; done) | (go_simp; rfl)); intro g1 hg w1 hbox hb; have hbx : Below w.heap.size w w1 := below_step (by repeat (first | (with_reducible first | exact Below.refl _ _ | apply below_alloc | apply pw_below_drewN | apply below_drew1) | exact Below.refl _ _)) hb; have n_R := Aside0.mk (R.out.below hbx); have n_HB := Aside0.mk (below_step HB.out hbx); clear HB R; have R := n_R; have HB := n_HB; clear hbx n_R n_HB; have BK1 := Aside0.mk (Bk.mk (hbox : Blk w1 g1 25 #[.string a0, .slice A1 l1.length c1, .slice A2 l2.length c2, .string a3])); clear hbox hg hb; have zBK1_0 : w1.cell? ⟨g1, 0, none⟩ = some (.string a0) := (blk_cell BK1.out.blk 0).trans rfl; have zBK1_1 : w1.cell? ⟨g1, 1, none⟩ = some (.slice A1 l1.length c1) := (blk_cell BK1.out.blk 1).trans rfl; have zBK1_2 : w1.cell? ⟨g1, 2, none⟩ = some (.slice A2 l2.length c2) := (blk_cell BK1.out.blk 2).trans rfl; have zBK1_3 : w1.cell? ⟨g1, 3, none⟩ = some (.string a3) := (blk_cell BK1.out.blk 3).trans rfl))
  have KP : Aside0 (∀ w', Below w1.heap.size w1 w' → (w'.cell? ⟨g1, 0, none⟩ = some (.string a0) ∧ w'.cell? ⟨g1, 1, none⟩ = some (.slice A1 l1.length c1) ∧ w'.cell? ⟨g1, 2, none⟩ = some (.slice A2 l2.length c2) ∧ w'.cell? ⟨g1, 3, none⟩ = some (.string a3))) := Aside0.mk (fun w' hb => ⟨(blk_cell (BK1.out.below hb).blk 0).trans rfl, (blk_cell (BK1.out.below hb).blk 1).trans rfl, (blk_cell (BK1.out.below hb).blk 2).trans rfl, (blk_cell (BK1.out.below hb).blk 3).trans rfl⟩)
  clear zBK1_0 zBK1_1 zBK1_2 zBK1_3
  refine Evt.ol_start (ds := []) (w0 := w1) (T := (true, [([], []), ([0], [0]), ([], []), ([2, 1], [2]), ([], []), ([], []), ([4, 1, 3, 0, 1, 4, 5], [1, 4]), ([5, 3, 6, 0, 1, 2, 3, 4, 5, 6], [3, 5])])) (B := [0, 1, 0, 7, 0, 0, 63, 127]) 8 [(0, some 5), (2, some 7), (1, some 6), (3, some 8), (4, some 3), (5, some 4), (6, none), (7, none)] (by kernel_rfl) rfl (by kernel_rfl) (by kernel_rfl) (by kernel_rfl) (by repeat (first | (with_reducible first | exact Below.refl _ _ | apply below_alloc | apply pw_below_drewN | apply below_drew1) | exact Below.refl _ _)) ?_
  intro HT_ HW_ w_ hHeld
  iterate 2 (first | (refine Evt.ol_off (a' := ?_) HT_ rfl rfl (by rfl) (by kernel_rfl) (fun _ _ _ h => h) ?_ ?_; rotate_left; (· (try simp only [Act.put, List.setIfInBounds_toArray, List.set_cons_zero, List.set_cons_succ, i64_w, i32_w]); rfl)) | (refine Evt.ol_pure (a' := ?_) (v := ?_) HT_ rfl rfl rfl (by rfl) (by kernel_rfl) (fun _ _ _ h => h) ?_ ?_ ?_; rotate_left 2; (· intro w'; go_simp; with_reducible rfl); (· (try simp only [Act.put, List.setIfInBounds_toArray, List.set_cons_zero, List.set_cons_succ, i64_w, i32_w]); rfl)) | (refine Evt.ol_load (a' := ?_) (v := ?_) HT_ HW_ hHeld rfl rfl rfl (by rfl) (by kernel_rfl) (fun _ _ _ h => h) ?_ ?_ ?_; rotate_left 2; (· intro w' hS_; obtain ⟨s0, s1, s2, s3⟩ := KP.out w' hS_.out; go_simp; with_reducible rfl); (· (try simp only [Act.put, List.setIfInBounds_toArray, List.set_cons_zero, List.set_cons_succ, i64_w, i32_w]); rfl)))
  refine Evt.ol_join (σ := (Value) × (Value) × (Nat) × (Nat)) 2 [(6, none), (7, none)] (fun s => match s with | (v6, v8, gT4, gT5) => [(6, v6), (8, v8), (3, .pointer (some ⟨gT4, 0, none⟩)), (4, .pointer (some ⟨gT5, 0, none⟩))]) (fun s W_ => match s with | (v6, v8, gT4, gT5) => (Ro Kd.string 9 w1 W_ v6 (reachL (es l1) ⟨#[76]⟩)) ∧ (Ro Kd.string 9 w1 W_ v8 (ancL (es l1) ⟨#[82]⟩)) ∧ (Bk W_ gT4 29 #[.slice none 0 0]) ∧ (w1.heap.size ≤ gT4) ∧ (Bk W_ gT5 29 #[.slice none 0 0]) ∧ (w1.heap.size ≤ gT5) ∧ (gT4 ≠ gT5)) ?_ ?_
  · intro JN
    refine Evt.ol_three (i := 1) (j := 4) (k := 5) [(3, some 8), (4, some 3), (5, some 4), (6, none), (7, none)] [(1, some 6), (3, some 8), (5, some 4), (6, none), (7, none)] [(1, some 6), (3, some 8), (4, some 3), (6, none), (7, none)] HT_ rfl rfl rfl rfl rfl rfl (by kernel_rfl) (fun K_ hK_ => ?_) (fun K_ hK_ => ?_) (fun K_ hK_ => ?_)
    · refine Evt.k_call hK_ hHeld rfl Try.func27 (by kernel_rfl) rfl #[.agg #[.string a0, .slice A1 l1.length c1, .slice A2 l2.length c2, .string a3], .string ⟨#[76]⟩] (by rfl) rfl (by (try simp only [List.map_toArray, List.map_cons, List.map_nil]); first | done | rfl | (simp only [List.length_drop, List.length_take]; rfl)) ?_
      (with_reducible refine (reach_any _ (R.out.below hHeld.out) OK.out ⟨#[76]⟩).mono ?_)
      rintro e w_ ⟨v6, rfl, ho, hb_⟩
      have ho_ := Ro.lower (w0 := w1) ho hHeld.out.size; clear ho
      refine ⟨_, rfl, hb_, fun hH_ => ?_⟩
      have F1 := Aside0.mk (ho_)
      clear hHeld hb_
      have hHeld := hH_
      clear hH_ hK_
      refine Evt.ol_norm (a' := ?_) ?_ ?_
      rotate_left
      · simp only [Act.put, List.setIfInBounds_toArray, List.set_cons_zero, List.set_cons_succ, i64_w, i32_w]; rfl
      refine Evt.ol_three (i := 3) (j := 4) (k := 5) [(4, some 3), (5, some 4), (6, none), (7, none)] [(3, some 8), (5, some 4), (6, none), (7, none)] [(3, some 8), (4, some 3), (6, none), (7, none)] HT_ rfl rfl rfl rfl rfl rfl (by kernel_rfl) (fun K_ hK_ => ?_) (fun K_ hK_ => ?_) (fun K_ hK_ => ?_)
      · refine Evt.k_call hK_ hHeld rfl Try.func30 (by kernel_rfl) rfl #[.agg #[.string a0, .slice A1 l1.length c1, .slice A2 l2.length c2, .string a3], .string ⟨#[82]⟩] (by rfl) rfl (by (try simp only [List.map_toArray, List.map_cons, List.map_nil]); first | done | rfl | (simp only [List.length_drop, List.length_take]; rfl)) ?_
        (with_reducible refine (anc_any _ (R.out.below hHeld.out) OK.out ⟨#[82]⟩).mono ?_)
        rintro e w_ ⟨v8, rfl, ho, hb_⟩
        have ho_ := Ro.lower (w0 := w1) ho hHeld.out.size; clear ho
        refine ⟨_, rfl, hb_, fun hH_ => ?_⟩
        have F3 := Aside0.mk (ho_)
        have n_F1 := Aside0.mk (F1.out.below hb_)
        clear F1
        have F1 := n_F1
        clear n_F1
        clear hHeld hb_
        have hHeld := hH_
        clear hH_ hK_
        refine Evt.ol_norm (a' := ?_) ?_ ?_
        rotate_left
        · simp only [Act.put, List.setIfInBounds_toArray, List.set_cons_zero, List.set_cons_succ, i64_w, i32_w]; rfl
        refine Evt.ol_two (i := 4) (j := 5) [(5, some 4), (6, none), (7, none)] [(4, some 3), (6, none), (7, none)] HT_ rfl rfl rfl rfl (by kernel_rfl) (fun K_ hK_ => ?_) (fun K_ hK_ => ?_)
        · refine Evt.k_alloc hK_ hHeld rfl rfl (cs := #[.slice none 0 0]) (t := 29) ?_ ?_
          · first | (go_simp; done) | (go_simp; rfl) | (go_simp; refine ⟨?_, ?_⟩ <;> rfl)
          intro gT4 w_ hg_ hB_ hb_ hH_
          have GE4 := Aside0.mk (show w1.heap.size ≤ gT4 from (by rw [hg_]; exact hHeld.out.size))
          clear hg_
          have n_F1 := Aside0.mk (F1.out.below hb_)
          have n_F3 := Aside0.mk (F3.out.below hb_)
          clear F1 F3
          have F1 := n_F1
          have F3 := n_F3
          clear n_F1 n_F3
          have F4 := Aside0.mk hB_
          clear hHeld hb_ hB_
          have hHeld := hH_
          clear hH_ hK_
          refine Evt.ol_norm (a' := ?_) ?_ ?_
          rotate_left
          · simp only [Act.put, List.setIfInBounds_toArray, List.set_cons_zero, List.set_cons_succ, i64_w, i32_w]; rfl
          refine Evt.ol_one (i := 5) [(6, none), (7, none)] HT_ rfl rfl (by kernel_rfl) (fun K_ hK_ => ?_)
          · refine Evt.k_alloc hK_ hHeld rfl rfl (cs := #[.slice none 0 0]) (t := 29) ?_ ?_
            · first | (go_simp; done) | (go_simp; rfl) | (go_simp; refine ⟨?_, ?_⟩ <;> rfl)
            intro gT5 w_ hg_ hB_ hb_ hH_
            have GE5 := Aside0.mk (show w1.heap.size ≤ gT5 from (by rw [hg_]; exact hHeld.out.size))
            have NE_4_5 := Aside0.mk (show gT4 ≠ gT5 from (by have h_ := F4.out.blk.lt; omega))
            clear hg_
            have n_F1 := Aside0.mk (F1.out.below hb_)
            have n_F3 := Aside0.mk (F3.out.below hb_)
            have n_F4 := Aside0.mk (F4.out.below hb_)
            clear F1 F3 F4
            have F1 := n_F1
            have F3 := n_F3
            have F4 := n_F4
            clear n_F1 n_F3 n_F4
            have F5 := Aside0.mk hB_
            clear hHeld hb_ hB_
            have hHeld := hH_
            clear hH_ hK_
            refine Evt.ol_norm (a' := ?_) ?_ ?_
            rotate_left
            · simp only [Act.put, List.setIfInBounds_toArray, List.set_cons_zero, List.set_cons_succ, i64_w, i32_w]; rfl
            exact Evt.ol_norm (by simp only [putAll, Act.put, List.setIfInBounds_toArray, List.set_cons_zero, List.set_cons_succ, i64_w, i32_w]; rfl) (JN (v6, v8, gT4, gT5) _ hHeld ⟨F1.out, F3.out, F4.out, GE4.out, F5.out, GE5.out, NE_4_5.out⟩)
        · refine Evt.k_alloc hK_ hHeld rfl rfl (cs := #[.slice none 0 0]) (t := 29) ?_ ?_
          · first | (go_simp; done) | (go_simp; rfl) | (go_simp; refine ⟨?_, ?_⟩ <;> rfl)
          intro gT5 w_ hg_ hB_ hb_ hH_
          have GE5 := Aside0.mk (show w1.heap.size ≤ gT5 from (by rw [hg_]; exact hHeld.out.size))
          clear hg_
          have n_F1 := Aside0.mk (F1.out.below hb_)
          have n_F3 := Aside0.mk (F3.out.below hb_)
          clear F1 F3
          have F1 := n_F1
          have F3 := n_F3
          clear n_F1 n_F3
          have F5 := Aside0.mk hB_
          clear hHeld hb_ hB_
          have hHeld := hH_
          clear hH_ hK_
          refine Evt.ol_norm (a' := ?_) ?_ ?_
          rotate_left
          · simp only [Act.put, List.setIfInBounds_toArray, List.set_cons_zero, List.set_cons_succ, i64_w, i32_w]; rfl
          refine Evt.ol_one (i := 4) [(6, none), (7, none)] HT_ rfl rfl (by kernel_rfl) (fun K_ hK_ => ?_)
          · refine Evt.k_alloc hK_ hHeld rfl rfl (cs := #[.slice none 0 0]) (t := 29) ?_ ?_
            · first | (go_simp; done) | (go_simp; rfl) | (go_simp; refine ⟨?_, ?_⟩ <;> rfl)
            intro gT4 w_ hg_ hB_ hb_ hH_
            have GE4 := Aside0.mk (show w1.heap.size ≤ gT4 from (by rw [hg_]; exact hHeld.out.size))
            have NE_4_5 := Aside0.mk (show gT4 ≠ gT5 from (by have h_ := F5.out.blk.lt; omega))
            clear hg_
            have n_F1 := Aside0.mk (F1.out.below hb_)
            have n_F3 := Aside0.mk (F3.out.below hb_)
            have n_F5 := Aside0.mk (F5.out.below hb_)
            clear F1 F3 F5
            have F1 := n_F1
            have F3 := n_F3
            have F5 := n_F5
            clear n_F1 n_F3 n_F5
            have F4 := Aside0.mk hB_
            clear hHeld hb_ hB_
            have hHeld := hH_
            clear hH_ hK_
            refine Evt.ol_norm (a' := ?_) ?_ ?_
            rotate_left
            · simp only [Act.put, List.setIfInBounds_toArray, List.set_cons_zero, List.set_cons_succ, i64_w, i32_w]; rfl
            exact Evt.ol_norm (by simp only [putAll, Act.put, List.setIfInBounds_toArray, List.set_cons_zero, List.set_cons_succ, i64_w, i32_w]; rfl) (JN (v6, v8, gT4, gT5) _ hHeld ⟨F1.out, F3.out, F4.out, GE4.out, F5.out, GE5.out, NE_4_5.out⟩)
      · refine Evt.k_alloc hK_ hHeld rfl rfl (cs := #[.slice none 0 0]) (t := 29) ?_ ?_
        · first | (go_simp; done) | (go_simp; rfl) | (go_simp; refine ⟨?_, ?_⟩ <;> rfl)
        intro gT4 w_ hg_ hB_ hb_ hH_
        have GE4 := Aside0.mk (show w1.heap.size ≤ gT4 from (by rw [hg_]; exact hHeld.out.size))
        clear hg_
        have n_F1 := Aside0.mk (F1.out.below hb_)
        clear F1
        have F1 := n_F1
        clear n_F1
        have F4 := Aside0.mk hB_
        clear hHeld hb_ hB_
        have hHeld := hH_
        clear hH_ hK_
        refine Evt.ol_norm (a' := ?_) ?_ ?_
        rotate_left
        · simp only [Act.put, List.setIfInBounds_toArray, List.set_cons_zero, List.set_cons_succ, i64_w, i32_w]; rfl
        refine Evt.ol_two (i := 3) (j := 5) [(5, some 4), (6, none), (7, none)] [(3, some 8), (6, none), (7, none)] HT_ rfl rfl rfl rfl (by kernel_rfl) (fun K_ hK_ => ?_) (fun K_ hK_ => ?_)
        · refine Evt.k_call hK_ hHeld rfl Try.func30 (by kernel_rfl) rfl #[.agg #[.string a0, .slice A1 l1.length c1, .slice A2 l2.length c2, .string a3], .string ⟨#[82]⟩] (by rfl) rfl (by (try simp only [List.map_toArray, List.map_cons, List.map_nil]); first | done | rfl | (simp only [List.length_drop, List.length_take]; rfl)) ?_
          (with_reducible refine (anc_any _ (R.out.below hHeld.out) OK.out ⟨#[82]⟩).mono ?_)
          rintro e w_ ⟨v8, rfl, ho, hb_⟩
          have ho_ := Ro.lower (w0 := w1) ho hHeld.out.size; clear ho
          refine ⟨_, rfl, hb_, fun hH_ => ?_⟩
          have F3 := Aside0.mk (ho_)
          have n_F1 := Aside0.mk (F1.out.below hb_)
          have n_F4 := Aside0.mk (F4.out.below hb_)
          clear F1 F4
          have F1 := n_F1
          have F4 := n_F4
          clear n_F1 n_F4
          clear hHeld hb_
          have hHeld := hH_
          clear hH_ hK_
          refine Evt.ol_norm (a' := ?_) ?_ ?_
          rotate_left
          · simp only [Act.put, List.setIfInBounds_toArray, List.set_cons_zero, List.set_cons_succ, i64_w, i32_w]; rfl
          refine Evt.ol_one (i := 5) [(6, none), (7, none)] HT_ rfl rfl (by kernel_rfl) (fun K_ hK_ => ?_)
          · refine Evt.k_alloc hK_ hHeld rfl rfl (cs := #[.slice none 0 0]) (t := 29) ?_ ?_
            · first | (go_simp; done) | (go_simp; rfl) | (go_simp; refine ⟨?_, ?_⟩ <;> rfl)
            intro gT5 w_ hg_ hB_ hb_ hH_
            have GE5 := Aside0.mk (show w1.heap.size ≤ gT5 from (by rw [hg_]; exact hHeld.out.size))
            have NE_4_5 := Aside0.mk (show gT4 ≠ gT5 from (by have h_ := F4.out.blk.lt; omega))
            clear hg_
            have n_F1 := Aside0.mk (F1.out.below hb_)
            have n_F4 := Aside0.mk (F4.out.below hb_)
            have n_F3 := Aside0.mk (F3.out.below hb_)
            clear F1 F4 F3
            have F1 := n_F1
            have F4 := n_F4
            have F3 := n_F3
            clear n_F1 n_F4 n_F3
            have F5 := Aside0.mk hB_
            clear hHeld hb_ hB_
            have hHeld := hH_
            clear hH_ hK_
            refine Evt.ol_norm (a' := ?_) ?_ ?_
            rotate_left
            · simp only [Act.put, List.setIfInBounds_toArray, List.set_cons_zero, List.set_cons_succ, i64_w, i32_w]; rfl
            exact Evt.ol_norm (by simp only [putAll, Act.put, List.setIfInBounds_toArray, List.set_cons_zero, List.set_cons_succ, i64_w, i32_w]; rfl) (JN (v6, v8, gT4, gT5) _ hHeld ⟨F1.out, F3.out, F4.out, GE4.out, F5.out, GE5.out, NE_4_5.out⟩)
        · refine Evt.k_alloc hK_ hHeld rfl rfl (cs := #[.slice none 0 0]) (t := 29) ?_ ?_
          · first | (go_simp; done) | (go_simp; rfl) | (go_simp; refine ⟨?_, ?_⟩ <;> rfl)
          intro gT5 w_ hg_ hB_ hb_ hH_
          have GE5 := Aside0.mk (show w1.heap.size ≤ gT5 from (by rw [hg_]; exact hHeld.out.size))
          have NE_4_5 := Aside0.mk (show gT4 ≠ gT5 from (by have h_ := F4.out.blk.lt; omega))
          clear hg_
          have n_F1 := Aside0.mk (F1.out.below hb_)
          have n_F4 := Aside0.mk (F4.out.below hb_)
          clear F1 F4
          have F1 := n_F1
          have F4 := n_F4
          clear n_F1 n_F4
          have F5 := Aside0.mk hB_
          clear hHeld hb_ hB_
          have hHeld := hH_
          clear hH_ hK_
          refine Evt.ol_norm (a' := ?_) ?_ ?_
          rotate_left
          · simp only [Act.put, List.setIfInBounds_toArray, List.set_cons_zero, List.set_cons_succ, i64_w, i32_w]; rfl
          refine Evt.ol_one (i := 3) [(6, none), (7, none)] HT_ rfl rfl (by kernel_rfl) (fun K_ hK_ => ?_)
          · refine Evt.k_call hK_ hHeld rfl Try.func30 (by kernel_rfl) rfl #[.agg #[.string a0, .slice A1 l1.length c1, .slice A2 l2.length c2, .string a3], .string ⟨#[82]⟩] (by rfl) rfl (by (try simp only [List.map_toArray, List.map_cons, List.map_nil]); first | done | rfl | (simp only [List.length_drop, List.length_take]; rfl)) ?_
            (with_reducible refine (anc_any _ (R.out.below hHeld.out) OK.out ⟨#[82]⟩).mono ?_)
            rintro e w_ ⟨v8, rfl, ho, hb_⟩
            have ho_ := Ro.lower (w0 := w1) ho hHeld.out.size; clear ho
            refine ⟨_, rfl, hb_, fun hH_ => ?_⟩
            have F3 := Aside0.mk (ho_)
            have n_F1 := Aside0.mk (F1.out.below hb_)
            have n_F4 := Aside0.mk (F4.out.below hb_)
            have n_F5 := Aside0.mk (F5.out.below hb_)
            clear F1 F4 F5
            have F1 := n_F1
            have F4 := n_F4
            have F5 := n_F5
            clear n_F1 n_F4 n_F5
            clear hHeld hb_
            have hHeld := hH_
            clear hH_ hK_
            refine Evt.ol_norm (a' := ?_) ?_ ?_
            rotate_left
            · simp only [Act.put, List.setIfInBounds_toArray, List.set_cons_zero, List.set_cons_succ, i64_w, i32_w]; rfl
            exact Evt.ol_norm (by simp only [putAll, Act.put, List.setIfInBounds_toArray, List.set_cons_zero, List.set_cons_succ, i64_w, i32_w]; rfl) (JN (v6, v8, gT4, gT5) _ hHeld ⟨F1.out, F3.out, F4.out, GE4.out, F5.out, GE5.out, NE_4_5.out⟩)
      · refine Evt.k_alloc hK_ hHeld rfl rfl (cs := #[.slice none 0 0]) (t := 29) ?_ ?_
        · first | (go_simp; done) | (go_simp; rfl) | (go_simp; refine ⟨?_, ?_⟩ <;> rfl)
        intro gT5 w_ hg_ hB_ hb_ hH_
        have GE5 := Aside0.mk (show w1.heap.size ≤ gT5 from (by rw [hg_]; exact hHeld.out.size))
        clear hg_
        have n_F1 := Aside0.mk (F1.out.below hb_)
        clear F1
        have F1 := n_F1
        clear n_F1
        have F5 := Aside0.mk hB_
        clear hHeld hb_ hB_
        have hHeld := hH_
        clear hH_ hK_
        refine Evt.ol_norm (a' := ?_) ?_ ?_
        rotate_left
        · simp only [Act.put, List.setIfInBounds_toArray, List.set_cons_zero, List.set_cons_succ, i64_w, i32_w]; rfl
        refine Evt.ol_two (i := 3) (j := 4) [(4, some 3), (6, none), (7, none)] [(3, some 8), (6, none), (7, none)] HT_ rfl rfl rfl rfl (by kernel_rfl) (fun K_ hK_ => ?_) (fun K_ hK_ => ?_)
        · refine Evt.k_call hK_ hHeld rfl Try.func30 (by kernel_rfl) rfl #[.agg #[.string a0, .slice A1 l1.length c1, .slice A2 l2.length c2, .string a3], .string ⟨#[82]⟩] (by rfl) rfl (by (try simp only [List.map_toArray, List.map_cons, List.map_nil]); first | done | rfl | (simp only [List.length_drop, List.length_take]; rfl)) ?_
          (with_reducible refine (anc_any _ (R.out.below hHeld.out) OK.out ⟨#[82]⟩).mono ?_)
          rintro e w_ ⟨v8, rfl, ho, hb_⟩
          have ho_ := Ro.lower (w0 := w1) ho hHeld.out.size; clear ho
          refine ⟨_, rfl, hb_, fun hH_ => ?_⟩
          have F3 := Aside0.mk (ho_)
          have n_F1 := Aside0.mk (F1.out.below hb_)
          have n_F5 := Aside0.mk (F5.out.below hb_)
          clear F1 F5
          have F1 := n_F1
          have F5 := n_F5
          clear n_F1 n_F5
          clear hHeld hb_
          have hHeld := hH_
          clear hH_ hK_
          refine Evt.ol_norm (a' := ?_) ?_ ?_
          rotate_left
          · simp only [Act.put, List.setIfInBounds_toArray, List.set_cons_zero, List.set_cons_succ, i64_w, i32_w]; rfl
          refine Evt.ol_one (i := 4) [(6, none), (7, none)] HT_ rfl rfl (by kernel_rfl) (fun K_ hK_ => ?_)
          · refine Evt.k_alloc hK_ hHeld rfl rfl (cs := #[.slice none 0 0]) (t := 29) ?_ ?_
            · first | (go_simp; done) | (go_simp; rfl) | (go_simp; refine ⟨?_, ?_⟩ <;> rfl)
            intro gT4 w_ hg_ hB_ hb_ hH_
            have GE4 := Aside0.mk (show w1.heap.size ≤ gT4 from (by rw [hg_]; exact hHeld.out.size))
            have NE_4_5 := Aside0.mk (show gT4 ≠ gT5 from (by have h_ := F5.out.blk.lt; omega))
            clear hg_
            have n_F1 := Aside0.mk (F1.out.below hb_)
            have n_F5 := Aside0.mk (F5.out.below hb_)
            have n_F3 := Aside0.mk (F3.out.below hb_)
            clear F1 F5 F3
            have F1 := n_F1
            have F5 := n_F5
            have F3 := n_F3
            clear n_F1 n_F5 n_F3
            have F4 := Aside0.mk hB_
            clear hHeld hb_ hB_
            have hHeld := hH_
            clear hH_ hK_
            refine Evt.ol_norm (a' := ?_) ?_ ?_
            rotate_left
            · simp only [Act.put, List.setIfInBounds_toArray, List.set_cons_zero, List.set_cons_succ, i64_w, i32_w]; rfl
            exact Evt.ol_norm (by simp only [putAll, Act.put, List.setIfInBounds_toArray, List.set_cons_zero, List.set_cons_succ, i64_w, i32_w]; rfl) (JN (v6, v8, gT4, gT5) _ hHeld ⟨F1.out, F3.out, F4.out, GE4.out, F5.out, GE5.out, NE_4_5.out⟩)
        · refine Evt.k_alloc hK_ hHeld rfl rfl (cs := #[.slice none 0 0]) (t := 29) ?_ ?_
          · first | (go_simp; done) | (go_simp; rfl) | (go_simp; refine ⟨?_, ?_⟩ <;> rfl)
          intro gT4 w_ hg_ hB_ hb_ hH_
          have GE4 := Aside0.mk (show w1.heap.size ≤ gT4 from (by rw [hg_]; exact hHeld.out.size))
          have NE_4_5 := Aside0.mk (show gT4 ≠ gT5 from (by have h_ := F5.out.blk.lt; omega))
          clear hg_
          have n_F1 := Aside0.mk (F1.out.below hb_)
          have n_F5 := Aside0.mk (F5.out.below hb_)
          clear F1 F5
          have F1 := n_F1
          have F5 := n_F5
          clear n_F1 n_F5
          have F4 := Aside0.mk hB_
          clear hHeld hb_ hB_
          have hHeld := hH_
          clear hH_ hK_
          refine Evt.ol_norm (a' := ?_) ?_ ?_
          rotate_left
          · simp only [Act.put, List.setIfInBounds_toArray, List.set_cons_zero, List.set_cons_succ, i64_w, i32_w]; rfl
          refine Evt.ol_one (i := 3) [(6, none), (7, none)] HT_ rfl rfl (by kernel_rfl) (fun K_ hK_ => ?_)
          · refine Evt.k_call hK_ hHeld rfl Try.func30 (by kernel_rfl) rfl #[.agg #[.string a0, .slice A1 l1.length c1, .slice A2 l2.length c2, .string a3], .string ⟨#[82]⟩] (by rfl) rfl (by (try simp only [List.map_toArray, List.map_cons, List.map_nil]); first | done | rfl | (simp only [List.length_drop, List.length_take]; rfl)) ?_
            (with_reducible refine (anc_any _ (R.out.below hHeld.out) OK.out ⟨#[82]⟩).mono ?_)
            rintro e w_ ⟨v8, rfl, ho, hb_⟩
            have ho_ := Ro.lower (w0 := w1) ho hHeld.out.size; clear ho
            refine ⟨_, rfl, hb_, fun hH_ => ?_⟩
            have F3 := Aside0.mk (ho_)
            have n_F1 := Aside0.mk (F1.out.below hb_)
            have n_F5 := Aside0.mk (F5.out.below hb_)
            have n_F4 := Aside0.mk (F4.out.below hb_)
            clear F1 F5 F4
            have F1 := n_F1
            have F5 := n_F5
            have F4 := n_F4
            clear n_F1 n_F5 n_F4
            clear hHeld hb_
            have hHeld := hH_
            clear hH_ hK_
            refine Evt.ol_norm (a' := ?_) ?_ ?_
            rotate_left
            · simp only [Act.put, List.setIfInBounds_toArray, List.set_cons_zero, List.set_cons_succ, i64_w, i32_w]; rfl
            exact Evt.ol_norm (by simp only [putAll, Act.put, List.setIfInBounds_toArray, List.set_cons_zero, List.set_cons_succ, i64_w, i32_w]; rfl) (JN (v6, v8, gT4, gT5) _ hHeld ⟨F1.out, F3.out, F4.out, GE4.out, F5.out, GE5.out, NE_4_5.out⟩)
    · refine Evt.k_alloc hK_ hHeld rfl rfl (cs := #[.slice none 0 0]) (t := 29) ?_ ?_
      · first | (go_simp; done) | (go_simp; rfl) | (go_simp; refine ⟨?_, ?_⟩ <;> rfl)
      intro gT4 w_ hg_ hB_ hb_ hH_
      have GE4 := Aside0.mk (show w1.heap.size ≤ gT4 from (by rw [hg_]; exact hHeld.out.size))
      clear hg_
      have F4 := Aside0.mk hB_
      clear hHeld hb_ hB_
      have hHeld := hH_
      clear hH_ hK_
      refine Evt.ol_norm (a' := ?_) ?_ ?_
      rotate_left
      · simp only [Act.put, List.setIfInBounds_toArray, List.set_cons_zero, List.set_cons_succ, i64_w, i32_w]; rfl
      refine Evt.ol_two (i := 1) (j := 5) [(3, some 8), (5, some 4), (6, none), (7, none)] [(1, some 6), (3, some 8), (6, none), (7, none)] HT_ rfl rfl rfl rfl (by kernel_rfl) (fun K_ hK_ => ?_) (fun K_ hK_ => ?_)
      · refine Evt.k_call hK_ hHeld rfl Try.func27 (by kernel_rfl) rfl #[.agg #[.string a0, .slice A1 l1.length c1, .slice A2 l2.length c2, .string a3], .string ⟨#[76]⟩] (by rfl) rfl (by (try simp only [List.map_toArray, List.map_cons, List.map_nil]); first | done | rfl | (simp only [List.length_drop, List.length_take]; rfl)) ?_
        (with_reducible refine (reach_any _ (R.out.below hHeld.out) OK.out ⟨#[76]⟩).mono ?_)
        rintro e w_ ⟨v6, rfl, ho, hb_⟩
        have ho_ := Ro.lower (w0 := w1) ho hHeld.out.size; clear ho
        refine ⟨_, rfl, hb_, fun hH_ => ?_⟩
        have F1 := Aside0.mk (ho_)
        have n_F4 := Aside0.mk (F4.out.below hb_)
        clear F4
        have F4 := n_F4
        clear n_F4
        clear hHeld hb_
        have hHeld := hH_
        clear hH_ hK_
        refine Evt.ol_norm (a' := ?_) ?_ ?_
        rotate_left
        · simp only [Act.put, List.setIfInBounds_toArray, List.set_cons_zero, List.set_cons_succ, i64_w, i32_w]; rfl
        refine Evt.ol_two (i := 3) (j := 5) [(5, some 4), (6, none), (7, none)] [(3, some 8), (6, none), (7, none)] HT_ rfl rfl rfl rfl (by kernel_rfl) (fun K_ hK_ => ?_) (fun K_ hK_ => ?_)
        · refine Evt.k_call hK_ hHeld rfl Try.func30 (by kernel_rfl) rfl #[.agg #[.string a0, .slice A1 l1.length c1, .slice A2 l2.length c2, .string a3], .string ⟨#[82]⟩] (by rfl) rfl (by (try simp only [List.map_toArray, List.map_cons, List.map_nil]); first | done | rfl | (simp only [List.length_drop, List.length_take]; rfl)) ?_
          (with_reducible refine (anc_any _ (R.out.below hHeld.out) OK.out ⟨#[82]⟩).mono ?_)
          rintro e w_ ⟨v8, rfl, ho, hb_⟩
          have ho_ := Ro.lower (w0 := w1) ho hHeld.out.size; clear ho
          refine ⟨_, rfl, hb_, fun hH_ => ?_⟩
          have F3 := Aside0.mk (ho_)
          have n_F4 := Aside0.mk (F4.out.below hb_)
          have n_F1 := Aside0.mk (F1.out.below hb_)
          clear F4 F1
          have F4 := n_F4
          have F1 := n_F1
          clear n_F4 n_F1
          clear hHeld hb_
          have hHeld := hH_
          clear hH_ hK_
          refine Evt.ol_norm (a' := ?_) ?_ ?_
          rotate_left
          · simp only [Act.put, List.setIfInBounds_toArray, List.set_cons_zero, List.set_cons_succ, i64_w, i32_w]; rfl
          refine Evt.ol_one (i := 5) [(6, none), (7, none)] HT_ rfl rfl (by kernel_rfl) (fun K_ hK_ => ?_)
          · refine Evt.k_alloc hK_ hHeld rfl rfl (cs := #[.slice none 0 0]) (t := 29) ?_ ?_
            · first | (go_simp; done) | (go_simp; rfl) | (go_simp; refine ⟨?_, ?_⟩ <;> rfl)
            intro gT5 w_ hg_ hB_ hb_ hH_
            have GE5 := Aside0.mk (show w1.heap.size ≤ gT5 from (by rw [hg_]; exact hHeld.out.size))
            have NE_4_5 := Aside0.mk (show gT4 ≠ gT5 from (by have h_ := F4.out.blk.lt; omega))
            clear hg_
            have n_F4 := Aside0.mk (F4.out.below hb_)
            have n_F1 := Aside0.mk (F1.out.below hb_)
            have n_F3 := Aside0.mk (F3.out.below hb_)
            clear F4 F1 F3
            have F4 := n_F4
            have F1 := n_F1
            have F3 := n_F3
            clear n_F4 n_F1 n_F3
            have F5 := Aside0.mk hB_
            clear hHeld hb_ hB_
            have hHeld := hH_
            clear hH_ hK_
            refine Evt.ol_norm (a' := ?_) ?_ ?_
            rotate_left
            · simp only [Act.put, List.setIfInBounds_toArray, List.set_cons_zero, List.set_cons_succ, i64_w, i32_w]; rfl
            exact Evt.ol_norm (by simp only [putAll, Act.put, List.setIfInBounds_toArray, List.set_cons_zero, List.set_cons_succ, i64_w, i32_w]; rfl) (JN (v6, v8, gT4, gT5) _ hHeld ⟨F1.out, F3.out, F4.out, GE4.out, F5.out, GE5.out, NE_4_5.out⟩)
        · refine Evt.k_alloc hK_ hHeld rfl rfl (cs := #[.slice none 0 0]) (t := 29) ?_ ?_
          · first | (go_simp; done) | (go_simp; rfl) | (go_simp; refine ⟨?_, ?_⟩ <;> rfl)
          intro gT5 w_ hg_ hB_ hb_ hH_
          have GE5 := Aside0.mk (show w1.heap.size ≤ gT5 from (by rw [hg_]; exact hHeld.out.size))
          have NE_4_5 := Aside0.mk (show gT4 ≠ gT5 from (by have h_ := F4.out.blk.lt; omega))
          clear hg_
          have n_F4 := Aside0.mk (F4.out.below hb_)
          have n_F1 := Aside0.mk (F1.out.below hb_)
          clear F4 F1
          have F4 := n_F4
          have F1 := n_F1
          clear n_F4 n_F1
          have F5 := Aside0.mk hB_
          clear hHeld hb_ hB_
          have hHeld := hH_
          clear hH_ hK_
          refine Evt.ol_norm (a' := ?_) ?_ ?_
          rotate_left
          · simp only [Act.put, List.setIfInBounds_toArray, List.set_cons_zero, List.set_cons_succ, i64_w, i32_w]; rfl
          refine Evt.ol_one (i := 3) [(6, none), (7, none)] HT_ rfl rfl (by kernel_rfl) (fun K_ hK_ => ?_)
          · refine Evt.k_call hK_ hHeld rfl Try.func30 (by kernel_rfl) rfl #[.agg #[.string a0, .slice A1 l1.length c1, .slice A2 l2.length c2, .string a3], .string ⟨#[82]⟩] (by rfl) rfl (by (try simp only [List.map_toArray, List.map_cons, List.map_nil]); first | done | rfl | (simp only [List.length_drop, List.length_take]; rfl)) ?_
            (with_reducible refine (anc_any _ (R.out.below hHeld.out) OK.out ⟨#[82]⟩).mono ?_)
            rintro e w_ ⟨v8, rfl, ho, hb_⟩
            have ho_ := Ro.lower (w0 := w1) ho hHeld.out.size; clear ho
            refine ⟨_, rfl, hb_, fun hH_ => ?_⟩
            have F3 := Aside0.mk (ho_)
            have n_F4 := Aside0.mk (F4.out.below hb_)
            have n_F1 := Aside0.mk (F1.out.below hb_)
            have n_F5 := Aside0.mk (F5.out.below hb_)
            clear F4 F1 F5
            have F4 := n_F4
            have F1 := n_F1
            have F5 := n_F5
            clear n_F4 n_F1 n_F5
            clear hHeld hb_
            have hHeld := hH_
            clear hH_ hK_
            refine Evt.ol_norm (a' := ?_) ?_ ?_
            rotate_left
            · simp only [Act.put, List.setIfInBounds_toArray, List.set_cons_zero, List.set_cons_succ, i64_w, i32_w]; rfl
            exact Evt.ol_norm (by simp only [putAll, Act.put, List.setIfInBounds_toArray, List.set_cons_zero, List.set_cons_succ, i64_w, i32_w]; rfl) (JN (v6, v8, gT4, gT5) _ hHeld ⟨F1.out, F3.out, F4.out, GE4.out, F5.out, GE5.out, NE_4_5.out⟩)
      · refine Evt.k_alloc hK_ hHeld rfl rfl (cs := #[.slice none 0 0]) (t := 29) ?_ ?_
        · first | (go_simp; done) | (go_simp; rfl) | (go_simp; refine ⟨?_, ?_⟩ <;> rfl)
        intro gT5 w_ hg_ hB_ hb_ hH_
        have GE5 := Aside0.mk (show w1.heap.size ≤ gT5 from (by rw [hg_]; exact hHeld.out.size))
        have NE_4_5 := Aside0.mk (show gT4 ≠ gT5 from (by have h_ := F4.out.blk.lt; omega))
        clear hg_
        have n_F4 := Aside0.mk (F4.out.below hb_)
        clear F4
        have F4 := n_F4
        clear n_F4
        have F5 := Aside0.mk hB_
        clear hHeld hb_ hB_
        have hHeld := hH_
        clear hH_ hK_
        refine Evt.ol_norm (a' := ?_) ?_ ?_
        rotate_left
        · simp only [Act.put, List.setIfInBounds_toArray, List.set_cons_zero, List.set_cons_succ, i64_w, i32_w]; rfl
        refine Evt.ol_one (i := 1) [(3, some 8), (6, none), (7, none)] HT_ rfl rfl (by kernel_rfl) (fun K_ hK_ => ?_)
        · refine Evt.k_call hK_ hHeld rfl Try.func27 (by kernel_rfl) rfl #[.agg #[.string a0, .slice A1 l1.length c1, .slice A2 l2.length c2, .string a3], .string ⟨#[76]⟩] (by rfl) rfl (by (try simp only [List.map_toArray, List.map_cons, List.map_nil]); first | done | rfl | (simp only [List.length_drop, List.length_take]; rfl)) ?_
          (with_reducible refine (reach_any _ (R.out.below hHeld.out) OK.out ⟨#[76]⟩).mono ?_)
          rintro e w_ ⟨v6, rfl, ho, hb_⟩
          have ho_ := Ro.lower (w0 := w1) ho hHeld.out.size; clear ho
          refine ⟨_, rfl, hb_, fun hH_ => ?_⟩
          have F1 := Aside0.mk (ho_)
          have n_F4 := Aside0.mk (F4.out.below hb_)
          have n_F5 := Aside0.mk (F5.out.below hb_)
          clear F4 F5
          have F4 := n_F4
          have F5 := n_F5
          clear n_F4 n_F5
          clear hHeld hb_
          have hHeld := hH_
          clear hH_ hK_
          refine Evt.ol_norm (a' := ?_) ?_ ?_
          rotate_left
          · simp only [Act.put, List.setIfInBounds_toArray, List.set_cons_zero, List.set_cons_succ, i64_w, i32_w]; rfl
          refine Evt.ol_one (i := 3) [(6, none), (7, none)] HT_ rfl rfl (by kernel_rfl) (fun K_ hK_ => ?_)
          · refine Evt.k_call hK_ hHeld rfl Try.func30 (by kernel_rfl) rfl #[.agg #[.string a0, .slice A1 l1.length c1, .slice A2 l2.length c2, .string a3], .string ⟨#[82]⟩] (by rfl) rfl (by (try simp only [List.map_toArray, List.map_cons, List.map_nil]); first | done | rfl | (simp only [List.length_drop, List.length_take]; rfl)) ?_
            (with_reducible refine (anc_any _ (R.out.below hHeld.out) OK.out ⟨#[82]⟩).mono ?_)
            rintro e w_ ⟨v8, rfl, ho, hb_⟩
            have ho_ := Ro.lower (w0 := w1) ho hHeld.out.size; clear ho
            refine ⟨_, rfl, hb_, fun hH_ => ?_⟩
            have F3 := Aside0.mk (ho_)
            have n_F4 := Aside0.mk (F4.out.below hb_)
            have n_F5 := Aside0.mk (F5.out.below hb_)
            have n_F1 := Aside0.mk (F1.out.below hb_)
            clear F4 F5 F1
            have F4 := n_F4
            have F5 := n_F5
            have F1 := n_F1
            clear n_F4 n_F5 n_F1
            clear hHeld hb_
            have hHeld := hH_
            clear hH_ hK_
            refine Evt.ol_norm (a' := ?_) ?_ ?_
            rotate_left
            · simp only [Act.put, List.setIfInBounds_toArray, List.set_cons_zero, List.set_cons_succ, i64_w, i32_w]; rfl
            exact Evt.ol_norm (by simp only [putAll, Act.put, List.setIfInBounds_toArray, List.set_cons_zero, List.set_cons_succ, i64_w, i32_w]; rfl) (JN (v6, v8, gT4, gT5) _ hHeld ⟨F1.out, F3.out, F4.out, GE4.out, F5.out, GE5.out, NE_4_5.out⟩)
    · refine Evt.k_alloc hK_ hHeld rfl rfl (cs := #[.slice none 0 0]) (t := 29) ?_ ?_
      · first | (go_simp; done) | (go_simp; rfl) | (go_simp; refine ⟨?_, ?_⟩ <;> rfl)
      intro gT5 w_ hg_ hB_ hb_ hH_
      have GE5 := Aside0.mk (show w1.heap.size ≤ gT5 from (by rw [hg_]; exact hHeld.out.size))
      clear hg_
      have F5 := Aside0.mk hB_
      clear hHeld hb_ hB_
      have hHeld := hH_
      clear hH_ hK_
      refine Evt.ol_norm (a' := ?_) ?_ ?_
      rotate_left
      · simp only [Act.put, List.setIfInBounds_toArray, List.set_cons_zero, List.set_cons_succ, i64_w, i32_w]; rfl
      refine Evt.ol_two (i := 1) (j := 4) [(3, some 8), (4, some 3), (6, none), (7, none)] [(1, some 6), (3, some 8), (6, none), (7, none)] HT_ rfl rfl rfl rfl (by kernel_rfl) (fun K_ hK_ => ?_) (fun K_ hK_ => ?_)
      · refine Evt.k_call hK_ hHeld rfl Try.func27 (by kernel_rfl) rfl #[.agg #[.string a0, .slice A1 l1.length c1, .slice A2 l2.length c2, .string a3], .string ⟨#[76]⟩] (by rfl) rfl (by (try simp only [List.map_toArray, List.map_cons, List.map_nil]); first | done | rfl | (simp only [List.length_drop, List.length_take]; rfl)) ?_
        (with_reducible refine (reach_any _ (R.out.below hHeld.out) OK.out ⟨#[76]⟩).mono ?_)
        rintro e w_ ⟨v6, rfl, ho, hb_⟩
        have ho_ := Ro.lower (w0 := w1) ho hHeld.out.size; clear ho
        refine ⟨_, rfl, hb_, fun hH_ => ?_⟩
        have F1 := Aside0.mk (ho_)
        have n_F5 := Aside0.mk (F5.out.below hb_)
        clear F5
        have F5 := n_F5
        clear n_F5
        clear hHeld hb_
        have hHeld := hH_
        clear hH_ hK_
        refine Evt.ol_norm (a' := ?_) ?_ ?_
        rotate_left
        · simp only [Act.put, List.setIfInBounds_toArray, List.set_cons_zero, List.set_cons_succ, i64_w, i32_w]; rfl
        refine Evt.ol_two (i := 3) (j := 4) [(4, some 3), (6, none), (7, none)] [(3, some 8), (6, none), (7, none)] HT_ rfl rfl rfl rfl (by kernel_rfl) (fun K_ hK_ => ?_) (fun K_ hK_ => ?_)
        · refine Evt.k_call hK_ hHeld rfl Try.func30 (by kernel_rfl) rfl #[.agg #[.string a0, .slice A1 l1.length c1, .slice A2 l2.length c2, .string a3], .string ⟨#[82]⟩] (by rfl) rfl (by (try simp only [List.map_toArray, List.map_cons, List.map_nil]); first | done | rfl | (simp only [List.length_drop, List.length_take]; rfl)) ?_
          (with_reducible refine (anc_any _ (R.out.below hHeld.out) OK.out ⟨#[82]⟩).mono ?_)
          rintro e w_ ⟨v8, rfl, ho, hb_⟩
          have ho_ := Ro.lower (w0 := w1) ho hHeld.out.size; clear ho
          refine ⟨_, rfl, hb_, fun hH_ => ?_⟩
          have F3 := Aside0.mk (ho_)
          have n_F5 := Aside0.mk (F5.out.below hb_)
          have n_F1 := Aside0.mk (F1.out.below hb_)
          clear F5 F1
          have F5 := n_F5
          have F1 := n_F1
          clear n_F5 n_F1
          clear hHeld hb_
          have hHeld := hH_
          clear hH_ hK_
          refine Evt.ol_norm (a' := ?_) ?_ ?_
          rotate_left
          · simp only [Act.put, List.setIfInBounds_toArray, List.set_cons_zero, List.set_cons_succ, i64_w, i32_w]; rfl
          refine Evt.ol_one (i := 4) [(6, none), (7, none)] HT_ rfl rfl (by kernel_rfl) (fun K_ hK_ => ?_)
          · refine Evt.k_alloc hK_ hHeld rfl rfl (cs := #[.slice none 0 0]) (t := 29) ?_ ?_
            · first | (go_simp; done) | (go_simp; rfl) | (go_simp; refine ⟨?_, ?_⟩ <;> rfl)
            intro gT4 w_ hg_ hB_ hb_ hH_
            have GE4 := Aside0.mk (show w1.heap.size ≤ gT4 from (by rw [hg_]; exact hHeld.out.size))
            have NE_4_5 := Aside0.mk (show gT4 ≠ gT5 from (by have h_ := F5.out.blk.lt; omega))
            clear hg_
            have n_F5 := Aside0.mk (F5.out.below hb_)
            have n_F1 := Aside0.mk (F1.out.below hb_)
            have n_F3 := Aside0.mk (F3.out.below hb_)
            clear F5 F1 F3
            have F5 := n_F5
            have F1 := n_F1
            have F3 := n_F3
            clear n_F5 n_F1 n_F3
            have F4 := Aside0.mk hB_
            clear hHeld hb_ hB_
            have hHeld := hH_
            clear hH_ hK_
            refine Evt.ol_norm (a' := ?_) ?_ ?_
            rotate_left
            · simp only [Act.put, List.setIfInBounds_toArray, List.set_cons_zero, List.set_cons_succ, i64_w, i32_w]; rfl
            exact Evt.ol_norm (by simp only [putAll, Act.put, List.setIfInBounds_toArray, List.set_cons_zero, List.set_cons_succ, i64_w, i32_w]; rfl) (JN (v6, v8, gT4, gT5) _ hHeld ⟨F1.out, F3.out, F4.out, GE4.out, F5.out, GE5.out, NE_4_5.out⟩)
        · refine Evt.k_alloc hK_ hHeld rfl rfl (cs := #[.slice none 0 0]) (t := 29) ?_ ?_
          · first | (go_simp; done) | (go_simp; rfl) | (go_simp; refine ⟨?_, ?_⟩ <;> rfl)
          intro gT4 w_ hg_ hB_ hb_ hH_
          have GE4 := Aside0.mk (show w1.heap.size ≤ gT4 from (by rw [hg_]; exact hHeld.out.size))
          have NE_4_5 := Aside0.mk (show gT4 ≠ gT5 from (by have h_ := F5.out.blk.lt; omega))
          clear hg_
          have n_F5 := Aside0.mk (F5.out.below hb_)
          have n_F1 := Aside0.mk (F1.out.below hb_)
          clear F5 F1
          have F5 := n_F5
          have F1 := n_F1
          clear n_F5 n_F1
          have F4 := Aside0.mk hB_
          clear hHeld hb_ hB_
          have hHeld := hH_
          clear hH_ hK_
          refine Evt.ol_norm (a' := ?_) ?_ ?_
          rotate_left
          · simp only [Act.put, List.setIfInBounds_toArray, List.set_cons_zero, List.set_cons_succ, i64_w, i32_w]; rfl
          refine Evt.ol_one (i := 3) [(6, none), (7, none)] HT_ rfl rfl (by kernel_rfl) (fun K_ hK_ => ?_)
          · refine Evt.k_call hK_ hHeld rfl Try.func30 (by kernel_rfl) rfl #[.agg #[.string a0, .slice A1 l1.length c1, .slice A2 l2.length c2, .string a3], .string ⟨#[82]⟩] (by rfl) rfl (by (try simp only [List.map_toArray, List.map_cons, List.map_nil]); first | done | rfl | (simp only [List.length_drop, List.length_take]; rfl)) ?_
            (with_reducible refine (anc_any _ (R.out.below hHeld.out) OK.out ⟨#[82]⟩).mono ?_)
            rintro e w_ ⟨v8, rfl, ho, hb_⟩
            have ho_ := Ro.lower (w0 := w1) ho hHeld.out.size; clear ho
            refine ⟨_, rfl, hb_, fun hH_ => ?_⟩
            have F3 := Aside0.mk (ho_)
            have n_F5 := Aside0.mk (F5.out.below hb_)
            have n_F1 := Aside0.mk (F1.out.below hb_)
            have n_F4 := Aside0.mk (F4.out.below hb_)
            clear F5 F1 F4
            have F5 := n_F5
            have F1 := n_F1
            have F4 := n_F4
            clear n_F5 n_F1 n_F4
            clear hHeld hb_
            have hHeld := hH_
            clear hH_ hK_
            refine Evt.ol_norm (a' := ?_) ?_ ?_
            rotate_left
            · simp only [Act.put, List.setIfInBounds_toArray, List.set_cons_zero, List.set_cons_succ, i64_w, i32_w]; rfl
            exact Evt.ol_norm (by simp only [putAll, Act.put, List.setIfInBounds_toArray, List.set_cons_zero, List.set_cons_succ, i64_w, i32_w]; rfl) (JN (v6, v8, gT4, gT5) _ hHeld ⟨F1.out, F3.out, F4.out, GE4.out, F5.out, GE5.out, NE_4_5.out⟩)
      · refine Evt.k_alloc hK_ hHeld rfl rfl (cs := #[.slice none 0 0]) (t := 29) ?_ ?_
        · first | (go_simp; done) | (go_simp; rfl) | (go_simp; refine ⟨?_, ?_⟩ <;> rfl)
        intro gT4 w_ hg_ hB_ hb_ hH_
        have GE4 := Aside0.mk (show w1.heap.size ≤ gT4 from (by rw [hg_]; exact hHeld.out.size))
        have NE_4_5 := Aside0.mk (show gT4 ≠ gT5 from (by have h_ := F5.out.blk.lt; omega))
        clear hg_
        have n_F5 := Aside0.mk (F5.out.below hb_)
        clear F5
        have F5 := n_F5
        clear n_F5
        have F4 := Aside0.mk hB_
        clear hHeld hb_ hB_
        have hHeld := hH_
        clear hH_ hK_
        refine Evt.ol_norm (a' := ?_) ?_ ?_
        rotate_left
        · simp only [Act.put, List.setIfInBounds_toArray, List.set_cons_zero, List.set_cons_succ, i64_w, i32_w]; rfl
        refine Evt.ol_one (i := 1) [(3, some 8), (6, none), (7, none)] HT_ rfl rfl (by kernel_rfl) (fun K_ hK_ => ?_)
        · refine Evt.k_call hK_ hHeld rfl Try.func27 (by kernel_rfl) rfl #[.agg #[.string a0, .slice A1 l1.length c1, .slice A2 l2.length c2, .string a3], .string ⟨#[76]⟩] (by rfl) rfl (by (try simp only [List.map_toArray, List.map_cons, List.map_nil]); first | done | rfl | (simp only [List.length_drop, List.length_take]; rfl)) ?_
          (with_reducible refine (reach_any _ (R.out.below hHeld.out) OK.out ⟨#[76]⟩).mono ?_)
          rintro e w_ ⟨v6, rfl, ho, hb_⟩
          have ho_ := Ro.lower (w0 := w1) ho hHeld.out.size; clear ho
          refine ⟨_, rfl, hb_, fun hH_ => ?_⟩
          have F1 := Aside0.mk (ho_)
          have n_F5 := Aside0.mk (F5.out.below hb_)
          have n_F4 := Aside0.mk (F4.out.below hb_)
          clear F5 F4
          have F5 := n_F5
          have F4 := n_F4
          clear n_F5 n_F4
          clear hHeld hb_
          have hHeld := hH_
          clear hH_ hK_
          refine Evt.ol_norm (a' := ?_) ?_ ?_
          rotate_left
          · simp only [Act.put, List.setIfInBounds_toArray, List.set_cons_zero, List.set_cons_succ, i64_w, i32_w]; rfl
          refine Evt.ol_one (i := 3) [(6, none), (7, none)] HT_ rfl rfl (by kernel_rfl) (fun K_ hK_ => ?_)
          · refine Evt.k_call hK_ hHeld rfl Try.func30 (by kernel_rfl) rfl #[.agg #[.string a0, .slice A1 l1.length c1, .slice A2 l2.length c2, .string a3], .string ⟨#[82]⟩] (by rfl) rfl (by (try simp only [List.map_toArray, List.map_cons, List.map_nil]); first | done | rfl | (simp only [List.length_drop, List.length_take]; rfl)) ?_
            (with_reducible refine (anc_any _ (R.out.below hHeld.out) OK.out ⟨#[82]⟩).mono ?_)
            rintro e w_ ⟨v8, rfl, ho, hb_⟩
            have ho_ := Ro.lower (w0 := w1) ho hHeld.out.size; clear ho
            refine ⟨_, rfl, hb_, fun hH_ => ?_⟩
            have F3 := Aside0.mk (ho_)
            have n_F5 := Aside0.mk (F5.out.below hb_)
            have n_F4 := Aside0.mk (F4.out.below hb_)
            have n_F1 := Aside0.mk (F1.out.below hb_)
            clear F5 F4 F1
            have F5 := n_F5
            have F4 := n_F4
            have F1 := n_F1
            clear n_F5 n_F4 n_F1
            clear hHeld hb_
            have hHeld := hH_
            clear hH_ hK_
            refine Evt.ol_norm (a' := ?_) ?_ ?_
            rotate_left
            · simp only [Act.put, List.setIfInBounds_toArray, List.set_cons_zero, List.set_cons_succ, i64_w, i32_w]; rfl
            exact Evt.ol_norm (by simp only [putAll, Act.put, List.setIfInBounds_toArray, List.set_cons_zero, List.set_cons_succ, i64_w, i32_w]; rfl) (JN (v6, v8, gT4, gT5) _ hHeld ⟨F1.out, F3.out, F4.out, GE4.out, F5.out, GE5.out, NE_4_5.out⟩)
  rintro ⟨v6, v8, gT4, gT5⟩ w_ hHeld ⟨f_F1, f_F3, f_F4, f_GE4, f_F5, f_GE5, f_NE_4_5⟩
  have F1 := Aside0.mk f_F1
  have F3 := Aside0.mk f_F3
  have F4 := Aside0.mk f_F4
  have GE4 := Aside0.mk f_GE4
  have F5 := Aside0.mk f_F5
  have GE5 := Aside0.mk f_GE5
  have NE_4_5 := Aside0.mk f_NE_4_5
  clear f_F1 f_F3 f_F4 f_GE4 f_F5 f_GE5 f_NE_4_5
  refine Evt.ol_norm (a' := ?_) ?_ ?_
  rotate_left
  · simp only [putAll, Act.put, List.setIfInBounds_toArray, List.set_cons_zero, List.set_cons_succ, i64_w, i32_w]; rfl
  obtain ⟨X6, x6, e6, _⟩ := Ro.sliceS F1.out
  subst e6
  obtain ⟨X8, x8, e8, _⟩ := Ro.sliceS F3.out
  subst e8
  refine Evt.ol_set (i := 6) [(7, none)] HT_ hHeld rfl rfl (by kernel_rfl) (by rfl) (v := .slice X6 (reachL (es l1) ⟨#[76]⟩).length x6) F4.out GE4.out ?_ ?_
  · have z_ := F4.out.blk.cell 0 rfl
    have fz_ := F4.out.blk.frozen 0
    first | (go_simp; done) | (go_simp; rfl)
  intro wa B4 hga hHa
  have G1 := Aside0.mk (other_row F1.out F4.out hga)
  have G3 := Aside0.mk (other_row F3.out F4.out hga)
  have G5 := Aside0.mk (F5.out.grown hga (fun e => NE_4_5.out (by injection e with e; exact e.symm)))
  have G4 := Aside0.mk B4
  clear F1 F3 F4 F5 B4 hga hHeld
  refine Evt.ol_set (i := 7) [] HT_ hHa rfl rfl (by kernel_rfl) (by rfl) (v := .slice X8 (ancL (es l1) ⟨#[82]⟩).length x8) G5.out GE5.out ?_ ?_
  · have z_ := G5.out.blk.cell 0 rfl
    have fz_ := G5.out.blk.frozen 0
    first | (go_simp; done) | (go_simp; rfl)
  intro wb B5 hgb hHb
  have H1 := Aside0.mk (other_row G1.out G5.out hgb)
  have H3 := Aside0.mk (other_row G3.out G5.out hgb)
  have H4 := Aside0.mk (G4.out.grown hgb (fun e => NE_4_5.out (by injection e with e)))
  have H5 := Aside0.mk B5
  clear G1 G3 G4 G5 B5 hgb hHa
  refine Evt.ol_done HT_ (by kernel_rfl) ?_
  have R2 := Aside0.mk (R.out.below hHb.out)
  have B2 := Aside0.mk (BK1.out.below hHb.out)
  have HB2 := Aside0.mk (below_step HB.out hHb.out)
  clear R BK1 HB KP HT_ HW_
  have K1 : Aside0 (∀ k, (Value.slice X6 (reachL (es l1) ⟨#[76]⟩).length x6).ownBlock = some k → k < wb.heap.size) := ⟨Kd.R_lt H1.out.row⟩
  have K3 : Aside0 (∀ k, (Value.slice X8 (ancL (es l1) ⟨#[82]⟩).length x8).ownBlock = some k → k < wb.heap.size) := ⟨Kd.R_lt H3.out.row⟩
  have NL := Aside0.mk (nodesL_len (es l1))
  have LO := okG_len OK.out
  have LR : Aside0 ((reachL (es l1) ⟨#[76]⟩).length ≤ 1000000) := ⟨by have := gath_len (es l1) (sucL (es l1)) ⟨#[76]⟩; have := NL.out; unfold reachL; omega⟩
  have LA : Aside0 ((ancL (es l1) ⟨#[82]⟩).length ≤ 1000000) := ⟨by have := gath_len (es l1) (preL (es l1)) ⟨#[82]⟩; have := NL.out; unfold ancL; omega⟩
  have LN : Aside0 ((nodesL (es l1)).length ≤ 1000000) := ⟨by have := NL.out; omega⟩
  have SZ : Aside0 (∀ x ∈ nodesL (es l1), x.size ≤ 100000) := Aside0.mk (fun x hx => nodesL_size OK.out hx)
  have hmf : ∀ (fn : Fn) (first cap : Array Value) (w : World), (Instr.makeFunc fn first cap).run Try.prog w = .ok (.func fn first cap) w := fun _ _ _ _ => rfl
  have HB := Aside0.mk (Below.refl wb.heap.size wb)
  have R := Aside0.mk (R2.out)
  have H1 := Aside0.mk (H1.out)
  have H3 := Aside0.mk (H3.out)
  have H4 := Aside0.mk (H4.out)
  have H5 := Aside0.mk (H5.out)
  have BK1 : Aside0 (Bk wb g1 25 #[.string a0, .slice A1 l1.length c1, .slice A2 l2.length c2, .string a3]) := Aside0.mk (B2.out)
  clear R2 B2
  have zBK1_0 : wb.cell? ⟨g1, 0, none⟩ = some (.string a0) := (blk_cell BK1.out.blk 0).trans rfl
  have zBK1_1 : wb.cell? ⟨g1, 1, none⟩ = some (.slice A1 l1.length c1) := (blk_cell BK1.out.blk 1).trans rfl
  have zBK1_2 : wb.cell? ⟨g1, 2, none⟩ = some (.slice A2 l2.length c2) := (blk_cell BK1.out.blk 2).trans rfl
  have zBK1_3 : wb.cell? ⟨g1, 3, none⟩ = some (.string a3) := (blk_cell BK1.out.blk 3).trans rfl
  go_wp2_with (first | ((with_reducible refine gate_callee (f := 18) rfl ?_); refine goesL_ (some 10) rfl rfl Try.func18 (by kernel_rfl) rfl #[.agg #[.string a0, .slice A1 l1.length c1, .slice A2 l2.length c2, .string a3]] rfl (by (try simp only [List.map_toArray, List.map_cons, List.map_nil]); first | done | rfl | (simp only [List.length_drop, List.length_take]; rfl)) ?_; (with_reducible refine (nodes_any _ (R.out.below (by repeat (first | (with_reducible first | exact Below.refl _ _ | apply below_alloc | apply pw_below_drewN | apply below_drew1) | exact Below.refl _ _))) OK.out).mono ?_); rintro e w1 ⟨v, rfl, ho, hb⟩; have hbx : Below wb.heap.size wb w1 := below_step (by repeat (first | (with_reducible first | exact Below.refl _ _ | apply below_alloc | apply pw_below_drewN | apply below_drew1) | exact Below.refl _ _)) hb; have ho_ := Ro.lower ho (below_size (below_step HB.out (by repeat (first | (with_reducible first | exact Below.refl _ _ | apply below_alloc | apply pw_below_drewN | apply below_drew1) | exact Below.refl _ _)))); clear zBK1_0 zBK1_1 zBK1_2 zBK1_3; have n_R := Aside0.mk (R.out.below hbx); have n_H1 := Aside0.mk (H1.out.below hbx); have n_H3 := Aside0.mk (H3.out.below hbx); have n_H4 := Aside0.mk (H4.out.below hbx); have n_H5 := Aside0.mk (H5.out.below hbx); have n_BK1 := Aside0.mk (BK1.out.below hbx); have n_HB := Aside0.mk (below_step HB.out hbx); clear HB R H1 H3 H4 H5 BK1; have R := n_R; have H1 := n_H1; have H3 := n_H3; have H4 := n_H4; have H5 := n_H5; have BK1 := n_BK1; have HB := n_HB; clear hbx n_R n_H1 n_H3 n_H4 n_H5 n_BK1 n_HB; have NV := Aside0.mk (ho_); clear hb; clear ho ho_; have zBK1_0 : w1.cell? ⟨g1, 0, none⟩ = some (.string a0) := (blk_cell BK1.out.blk 0).trans rfl; have zBK1_1 : w1.cell? ⟨g1, 1, none⟩ = some (.slice A1 l1.length c1) := (blk_cell BK1.out.blk 1).trans rfl; have zBK1_2 : w1.cell? ⟨g1, 2, none⟩ = some (.slice A2 l2.length c2) := (blk_cell BK1.out.blk 2).trans rfl; have zBK1_3 : w1.cell? ⟨g1, 3, none⟩ = some (.string a3) := (blk_cell BK1.out.blk 3).trans rfl; refine ⟨_, rfl, ?_⟩) | (have nv_ := NV; go_at_call 56; (with_reducible refine (Sh.deletefunc_any NV.out (nodes_pos _) LN.out SZ.out (fun s => !(decide (s ∈ reachL (es l1) ⟨#[76]⟩) && decide (s ∈ ancL (es l1) ⟨#[82]⟩))) _ _ eg_d1 (dead1_at NV.out H1.out H3.out H4.out H5.out K1.out K3.out LR.out LA.out)).mono ?_); rintro e w10 ⟨v', rfl, ho, hg⟩; have FO := Aside0.mk (Ro.lower (w0 := w) ho HB2.out.size); have HB10 := Aside0.mk (below_step HB2.out (HB.out.grown hg HB.out.size (fun k hk => by obtain ⟨i, ho⟩ := Kd.R_own NV.out.row; exact own_base ho k hk))); clear ho hg))
  go_ret
  exact ⟨_, rfl, FO.out, HB10.out⟩
end
end Go.Proofs.Ytmacdknicgfglaa.Gw
end
section
/- Printed by a program of this session (a copy of the kit's print.py, one text for all functions of the seat), with some contracts typed by hand among them: for each Go function a Lean function and a proof that the code comes to its answers. -/
namespace Go.Proofs.Ytmacdknicgfglaa.Impl
open Go.RowKit Go.Proofs.YtmacdknicgfglaaW.PrintWords Go.Proofs.YtmacdknicgfglaaW.PrintLast Go.Proofs.YtmacdknicgfglaaW.PrintMore
attribute [local go_sem] max2_int min2_int max_two min_two
set_option linter.unusedVariables false
set_option linter.unusedSimpArgs false

/-! ### busbarref13_DeadNodes: function 36 -/
def busbarref13_DeadNodes.l0 : Nat → List ByteArray → List ByteArray → List ByteArray → List ByteArray → Int → Option (List ByteArray)
  | 0, _, _, _, _, _ => none
  | k + 1, x3, x4, x5, x6, x7 => if x7 < (x3.length : Int) then (if 0 ≤ x7 then ((busbarref13_has.f k x4 (rdOf ByteArray.empty x3 x7)).bind fun t231 => (if t231 = true then ((busbarref13_has.f k x5 (rdOf ByteArray.empty x3 x7)).bind fun t233 => (if t233 = true then (busbarref13_DeadNodes.l0 k x3 x4 x5 x6 (wrap64 (x7 + 1))) else (if x6.length < 8796093022208 then (busbarref13_DeadNodes.l0 k x3 x4 x5 (x6 ++ [rdOf ByteArray.empty x3 x7]) (wrap64 (x7 + 1))) else (none)))) else (if x6.length < 8796093022208 then (busbarref13_DeadNodes.l0 k x3 x4 x5 (x6 ++ [rdOf ByteArray.empty x3 x7]) (wrap64 (x7 + 1))) else (none)))) else (none)) else (some x6)
def busbarref13_DeadNodes.f (k : Nat) (a0_0 : ByteArray) (l0_1 : List (S41)) (l0_2 : List (S101)) (a0_3 : ByteArray) : Option (List ByteArray) := (busbarref12_Nodes.f k a0_0 l0_1 l0_2 a0_3).bind fun t221 => ((busbarref12_Reachable.f k a0_0 l0_1 l0_2 a0_3 (⟨#[76]⟩ : ByteArray)).bind fun t224 => ((busbarref12_Ancestors.f k a0_0 l0_1 l0_2 a0_3 (⟨#[82]⟩ : ByteArray)).bind fun t227 => (busbarref13_DeadNodes.l0 k t221 t224 t227 ([] : List ByteArray) 0)))
theorem busbarref13_DeadNodes.mono_l : ∀ k, (∀ y0 y1 y2 y3 y4, LeO (busbarref13_DeadNodes.l0 k y0 y1 y2 y3 y4) (busbarref13_DeadNodes.l0 (k + 1) y0 y1 y2 y3 y4))
  | 0 => fun _ _ _ _ _ r h => by simp [busbarref13_DeadNodes.l0] at h
  | k + 1 => by
    have ih0 := busbarref13_DeadNodes.mono_l k
    · intro y0 y1 y2 y3 y4
      unfold busbarref13_DeadNodes.l0
      repeat' first
      | (with_reducible exact ih0 _ _ _ _ _)
      | (with_reducible exact busbarref12_Ancestors.mono _ _ _ _ _ _)
      | (with_reducible exact busbarref12_Nodes.mono _ _ _ _ _)
      | (with_reducible exact busbarref12_Reachable.mono _ _ _ _ _ _)
      | (with_reducible exact busbarref13_has.mono _ _ _)
      | (with_reducible exact LeO.refl _)
      | (with_reducible exact LeO.none _)
      | (with_reducible refine LeO.ite ?_ ?_)
      | (with_reducible refine LeO.bind ?_ (fun _ => ?_))
      | exact ih0 _ _ _ _ _
      | exact busbarref12_Ancestors.mono _ _ _ _ _ _
      | exact busbarref12_Nodes.mono _ _ _ _ _
      | exact busbarref12_Reachable.mono _ _ _ _ _ _
      | exact busbarref13_has.mono _ _ _
      | exact LeO.none _
      | refine LeO.ite ?_ ?_
      | refine LeO.bind ?_ (fun _ => ?_)
theorem busbarref13_DeadNodes.mono : ∀ a0 a1 a2 a3 k, LeO (busbarref13_DeadNodes.f k a0 a1 a2 a3) (busbarref13_DeadNodes.f (k + 1) a0 a1 a2 a3) := by
  intro a0 a1 a2 a3 k
  have ih0 := busbarref13_DeadNodes.mono_l k
  unfold busbarref13_DeadNodes.f
  repeat' first
      | (with_reducible exact ih0 _ _ _ _ _)
      | (with_reducible exact busbarref12_Ancestors.mono _ _ _ _ _ _)
      | (with_reducible exact busbarref12_Nodes.mono _ _ _ _ _)
      | (with_reducible exact busbarref12_Reachable.mono _ _ _ _ _ _)
      | (with_reducible exact busbarref13_has.mono _ _ _)
      | (with_reducible exact LeO.refl _)
      | (with_reducible exact LeO.none _)
      | (with_reducible refine LeO.ite ?_ ?_)
      | (with_reducible refine LeO.bind ?_ (fun _ => ?_))
      | exact ih0 _ _ _ _ _
      | exact busbarref12_Ancestors.mono _ _ _ _ _ _
      | exact busbarref12_Nodes.mono _ _ _ _ _
      | exact busbarref12_Reachable.mono _ _ _ _ _ _
      | exact busbarref13_has.mono _ _ _
      | exact LeO.none _
      | refine LeO.ite ?_ ?_
      | refine LeO.bind ?_ (fun _ => ?_)
set_option maxHeartbeats 8000000 in
set_option maxRecDepth 100000 in
theorem busbarref13_DeadNodes.calls (k : Nat) (a0_0 : ByteArray) (A0_1 : Option Addr) (c0_1 : Nat) (l0_1 : List (S41)) (A0_2 : Option Addr) (c0_2 : Nat) (l0_2 : List (S101)) (a0_3 : ByteArray) (r : List ByteArray) (w : World) (hr0_1 : Kd.C k41 w A0_1 l0_1.length l0_1) (hc0_1 : l0_1.length ≤ c0_1) (hr0_2 : Kd.C k101 w A0_2 l0_2.length l0_2) (hc0_2 : l0_2.length ≤ c0_2) (h : busbarref13_DeadNodes.f k a0_0 l0_1 l0_2 a0_3 = some r) :
    Calls Try.prog 36 #[.agg #[.string a0_0, .slice A0_1 l0_1.length c0_1, .slice A0_2 l0_2.length c0_2, .string a0_3]] w fun e w' => ∃ v0_ : Value, e = .returned (v0_) ∧ Kd.R Kd.string 9 w' w.heap.size (fun _ => True) v0_ r ∧ Below w.heap.size w w' := by
  have hu25 := Try.underlying25
  have HR0_1 := Aside0.mk hr0_1
  have HC0_1 := Aside0.mk hc0_1
  clear hr0_1 hc0_1
  have HR0_2 := Aside0.mk hr0_2
  have HC0_2 := Aside0.mk hc0_2
  clear hr0_2 hc0_2
  have HB := Aside0.mk (Below.refl w.heap.size w)
  have H : ((busbarref12_Nodes.f k a0_0 l0_1 l0_2 a0_3).bind fun t221 => ((busbarref12_Reachable.f k a0_0 l0_1 l0_2 a0_3 (⟨#[76]⟩ : ByteArray)).bind fun t224 => ((busbarref12_Ancestors.f k a0_0 l0_1 l0_2 a0_3 (⟨#[82]⟩ : ByteArray)).bind fun t227 => (busbarref13_DeadNodes.l0 k t221 t224 t227 ([] : List ByteArray) 0)))) = some r := h
  clear h
  replace H := Option.bind_eq_some_iff.mp H
  obtain ⟨t221, A20, H⟩ := H
  replace H : ((busbarref12_Reachable.f k a0_0 l0_1 l0_2 a0_3 (⟨#[76]⟩ : ByteArray)).bind fun t224 => ((busbarref12_Ancestors.f k a0_0 l0_1 l0_2 a0_3 (⟨#[82]⟩ : ByteArray)).bind fun t227 => (busbarref13_DeadNodes.l0 k t221 t224 t227 ([] : List ByteArray) 0))) = some r := H
  have A2 := Aside0.mk A20
  clear A20
  replace H := Option.bind_eq_some_iff.mp H
  obtain ⟨t224, A30, H⟩ := H
  replace H : ((busbarref12_Ancestors.f k a0_0 l0_1 l0_2 a0_3 (⟨#[82]⟩ : ByteArray)).bind fun t227 => (busbarref13_DeadNodes.l0 k t221 t224 t227 ([] : List ByteArray) 0)) = some r := H
  have A3 := Aside0.mk A30
  clear A30
  replace H := Option.bind_eq_some_iff.mp H
  obtain ⟨t227, A40, H⟩ := H
  replace H : (busbarref13_DeadNodes.l0 k t221 t224 t227 ([] : List ByteArray) 0) = some r := H
  have A4 := Aside0.mk A40
  clear A40
  have H' := Aside0.mk H
  clear H
  go_enter Try.func36, Try.ntmps36
  go_wp2_with (first | ((with_reducible refine gate_dst (N := 1) rfl ?_); refine box_event ?hg (N := 1) ?hd (cs := #[.string a0_0, .slice A0_1 l0_1.length c0_1, .slice A0_2 l0_2.length c0_2, .string a0_3]) (t := 25) ?hr ?_; (case hd => rfl); (case hg => rfl); (case hr => first | (go_simp; done) | (go_simp; rfl)); intro gb220 hg w5 hbox hb; have n0_ := Aside0.mk (below_step (by repeat (first | (with_reducible first | exact HB.out | apply below_alloc | apply pw_below_drewN | apply below_drew1) | exact HB.out)) hb); have n1_ := Aside0.mk (hbox); have n2_ := Aside0.mk ((by rw [hg]; exact (below_size (by repeat (first | (with_reducible first | exact HB.out | apply below_alloc | apply pw_below_drewN | apply below_drew1) | exact HB.out))) : w.heap.size ≤ gb220)); have n3_ := Aside0.mk ((by rw [hg]; exact (below_size (by repeat (first | (with_reducible first | exact HB.out | apply below_alloc | apply pw_below_drewN | apply below_drew1) | exact HB.out))) : w.heap.size ≤ gb220)); clear HB; have HB := n0_; have BK220 := n1_; have GW220 := n2_; have GE220 := n3_; clear n0_ n1_ n2_ n3_; clear hb hbox hg; have hcz6_0 : w5.cell? ⟨gb220, 0, none⟩ = some (.string a0_0) := (blk_cell BK220.out 0).trans rfl; have hcz6_1 : w5.cell? ⟨gb220, 1, none⟩ = some (.slice A0_1 l0_1.length c0_1) := (blk_cell BK220.out 1).trans rfl; have hcz6_2 : w5.cell? ⟨gb220, 2, none⟩ = some (.slice A0_2 l0_2.length c0_2) := (blk_cell BK220.out 2).trans rfl; have hcz6_3 : w5.cell? ⟨gb220, 3, none⟩ = some (.string a0_3) := (blk_cell BK220.out 3).trans rfl; have hfz6_0 := blk_frozen BK220.out 0; have hfz6_1 := blk_frozen BK220.out 1; have hfz6_2 := blk_frozen BK220.out 2; have hfz6_3 := blk_frozen BK220.out 3) | ((with_reducible refine gate_callee (f := 19) rfl ?_); refine goesL_ (some 9) rfl rfl Try.func19 (by kernel_rfl) rfl #[.agg #[.string a0_0, .slice A0_1 l0_1.length c0_1, .slice A0_2 l0_2.length c0_2, .string a0_3]] rfl (by (try simp only [List.map_toArray, List.map_cons, List.map_nil]); first | done | rfl | (simp only [List.length_drop, List.length_take]; rfl)) ?_; (with_reducible refine (busbarref12_Nodes.calls k a0_0 _ _ l0_1 _ _ l0_2 a0_3 t221 _ ?side1 ?side2 ?side3 ?side4 A2.out).mono ?_); (case side1 => repeat (first | exact (Kd.C_below HR0_1.out HB.out) | (with_reducible refine Kd.C_alloc ?_ _) | (with_reducible refine Kd.C_drewN ?_ _) | (with_reducible refine Kd.C_drew ?_))); (case side2 => exact HC0_1.out); (case side3 => repeat (first | exact (Kd.C_below HR0_2.out HB.out) | (with_reducible refine Kd.C_alloc ?_ _) | (with_reducible refine Kd.C_drewN ?_ _) | (with_reducible refine Kd.C_drew ?_))); (case side4 => exact HC0_2.out); rintro e w7 ⟨v222, rfl, ho0, hb⟩; refine ⟨_, rfl, ?_⟩; have n0_ := Aside0.mk (Kd.R_lower ho0 (below_size (by repeat (first | (with_reducible first | exact HB.out | apply below_alloc | apply pw_below_drewN | apply below_drew1 | refine below_set ?_ GE220.out) | exact HB.out)))); have n1_ := Aside0.mk (blk_below (g := gb220) (o := .cells #[.string a0_0, .slice A0_1 l0_1.length c0_1, .slice A0_2 l0_2.length c0_2, .string a0_3] 25 (0, 0)) (by (with_reducible repeat (first | refine blk_drewN ?_ _ | refine blk_drew ?_ | refine blk_alloc ?_ _)); exact BK220.out) hb); have n2_ := Aside0.mk (below_step (by repeat (first | (with_reducible first | exact HB.out | apply below_alloc | apply pw_below_drewN | apply below_drew1 | refine below_set ?_ GE220.out) | exact HB.out)) hb); clear BK220; clear HB; have HO223 := n0_; have BK220 := n1_; have HB := n2_; clear n0_ n1_ n2_; (try clear hb); (try clear hb2); (try clear hk); (try clear hi); (try clear ho0); have hcz8_0 : w7.cell? ⟨gb220, 0, none⟩ = some (.string a0_0) := (blk_cell BK220.out 0).trans rfl; have hcz8_1 : w7.cell? ⟨gb220, 1, none⟩ = some (.slice A0_1 l0_1.length c0_1) := (blk_cell BK220.out 1).trans rfl; have hcz8_2 : w7.cell? ⟨gb220, 2, none⟩ = some (.slice A0_2 l0_2.length c0_2) := (blk_cell BK220.out 2).trans rfl; have hcz8_3 : w7.cell? ⟨gb220, 3, none⟩ = some (.string a0_3) := (blk_cell BK220.out 3).trans rfl; have hfz8_0 := blk_frozen BK220.out 0; have hfz8_1 := blk_frozen BK220.out 1; have hfz8_2 := blk_frozen BK220.out 2; have hfz8_3 := blk_frozen BK220.out 3) | ((with_reducible refine gate_callee (f := 29) rfl ?_); refine goesL_ (some 11) rfl rfl Try.func29 (by kernel_rfl) rfl #[.agg #[.string a0_0, .slice A0_1 l0_1.length c0_1, .slice A0_2 l0_2.length c0_2, .string a0_3], .string (⟨#[76]⟩ : ByteArray)] rfl (by (try simp only [List.map_toArray, List.map_cons, List.map_nil]); first | done | rfl | (simp only [List.length_drop, List.length_take]; rfl)) ?_; (with_reducible refine (busbarref12_Reachable.calls k a0_0 _ _ l0_1 _ _ l0_2 a0_3 (⟨#[76]⟩ : ByteArray) t224 _ ?side1 ?side2 ?side3 ?side4 A3.out).mono ?_); (case side1 => repeat (first | exact (Kd.C_below HR0_1.out HB.out) | (with_reducible refine Kd.C_alloc ?_ _) | (with_reducible refine Kd.C_drewN ?_ _) | (with_reducible refine Kd.C_drew ?_))); (case side2 => exact HC0_1.out); (case side3 => repeat (first | exact (Kd.C_below HR0_2.out HB.out) | (with_reducible refine Kd.C_alloc ?_ _) | (with_reducible refine Kd.C_drewN ?_ _) | (with_reducible refine Kd.C_drew ?_))); (case side4 => exact HC0_2.out); rintro e w9 ⟨v225, rfl, ho0, hb⟩; refine ⟨_, rfl, ?_⟩; have n0_ := Aside0.mk (Kd.R_elder' (by (with_reducible repeat (first | apply Kd.R_alloc | apply Kd.R_drewN | apply Kd.R_drew)); exact HO223.out) (Kd.R_base ho0) hb); have n1_ := Aside0.mk (Kd.R_lower (Kd.R_new' ho0 (Kd.R_lt (by (with_reducible repeat (first | apply Kd.R_alloc | apply Kd.R_drewN | apply Kd.R_drew)); exact HO223.out))) (below_size (by repeat (first | (with_reducible first | exact HB.out | apply below_alloc | apply pw_below_drewN | apply below_drew1 | refine below_set ?_ GE220.out) | exact HB.out)))); have n2_ := Aside0.mk (blk_below (g := gb220) (o := .cells #[.string a0_0, .slice A0_1 l0_1.length c0_1, .slice A0_2 l0_2.length c0_2, .string a0_3] 25 (0, 0)) (by (with_reducible repeat (first | refine blk_drewN ?_ _ | refine blk_drew ?_ | refine blk_alloc ?_ _)); exact BK220.out) hb); have n3_ := Aside0.mk (below_step (by repeat (first | (with_reducible first | exact HB.out | apply below_alloc | apply pw_below_drewN | apply below_drew1 | refine below_set ?_ GE220.out) | exact HB.out)) hb); clear HO223; clear BK220; clear HB; have HO223 := n0_; have HO226 := n1_; have BK220 := n2_; have HB := n3_; clear n0_ n1_ n2_ n3_; (try clear hb); (try clear hb2); (try clear hk); (try clear hi); (try clear ho0); have hcz10_0 : w9.cell? ⟨gb220, 0, none⟩ = some (.string a0_0) := (blk_cell BK220.out 0).trans rfl; have hcz10_1 : w9.cell? ⟨gb220, 1, none⟩ = some (.slice A0_1 l0_1.length c0_1) := (blk_cell BK220.out 1).trans rfl; have hcz10_2 : w9.cell? ⟨gb220, 2, none⟩ = some (.slice A0_2 l0_2.length c0_2) := (blk_cell BK220.out 2).trans rfl; have hcz10_3 : w9.cell? ⟨gb220, 3, none⟩ = some (.string a0_3) := (blk_cell BK220.out 3).trans rfl; have hfz10_0 := blk_frozen BK220.out 0; have hfz10_1 := blk_frozen BK220.out 1; have hfz10_2 := blk_frozen BK220.out 2; have hfz10_3 := blk_frozen BK220.out 3) | ((with_reducible refine gate_callee (f := 31) rfl ?_); refine goesL_ (some 13) rfl rfl Try.func31 (by kernel_rfl) rfl #[.agg #[.string a0_0, .slice A0_1 l0_1.length c0_1, .slice A0_2 l0_2.length c0_2, .string a0_3], .string (⟨#[82]⟩ : ByteArray)] rfl (by (try simp only [List.map_toArray, List.map_cons, List.map_nil]); first | done | rfl | (simp only [List.length_drop, List.length_take]; rfl)) ?_; (with_reducible refine (busbarref12_Ancestors.calls k a0_0 _ _ l0_1 _ _ l0_2 a0_3 (⟨#[82]⟩ : ByteArray) t227 _ ?side1 ?side2 ?side3 ?side4 A4.out).mono ?_); (case side1 => repeat (first | exact (Kd.C_below HR0_1.out HB.out) | (with_reducible refine Kd.C_alloc ?_ _) | (with_reducible refine Kd.C_drewN ?_ _) | (with_reducible refine Kd.C_drew ?_))); (case side2 => exact HC0_1.out); (case side3 => repeat (first | exact (Kd.C_below HR0_2.out HB.out) | (with_reducible refine Kd.C_alloc ?_ _) | (with_reducible refine Kd.C_drewN ?_ _) | (with_reducible refine Kd.C_drew ?_))); (case side4 => exact HC0_2.out); rintro e w11 ⟨v228, rfl, ho0, hb⟩; refine ⟨_, rfl, ?_⟩; have n0_ := Aside0.mk (Kd.R_elder' (by (with_reducible repeat (first | apply Kd.R_alloc | apply Kd.R_drewN | apply Kd.R_drew)); exact HO223.out) (Kd.R_base ho0) hb); have n1_ := Aside0.mk (Kd.R_elder' (by (with_reducible repeat (first | apply Kd.R_alloc | apply Kd.R_drewN | apply Kd.R_drew)); exact HO226.out) (Kd.R_base ho0) hb); have n2_ := Aside0.mk (Kd.R_lower (Kd.R_new' (Kd.R_new' ho0 (Kd.R_lt (by (with_reducible repeat (first | apply Kd.R_alloc | apply Kd.R_drewN | apply Kd.R_drew)); exact HO223.out))) (Kd.R_lt (by (with_reducible repeat (first | apply Kd.R_alloc | apply Kd.R_drewN | apply Kd.R_drew)); exact HO226.out))) (below_size (by repeat (first | (with_reducible first | exact HB.out | apply below_alloc | apply pw_below_drewN | apply below_drew1 | refine below_set ?_ GE220.out) | exact HB.out)))); have n3_ := Aside0.mk (blk_below (g := gb220) (o := .cells #[.string a0_0, .slice A0_1 l0_1.length c0_1, .slice A0_2 l0_2.length c0_2, .string a0_3] 25 (0, 0)) (by (with_reducible repeat (first | refine blk_drewN ?_ _ | refine blk_drew ?_ | refine blk_alloc ?_ _)); exact BK220.out) hb); have n4_ := Aside0.mk (below_step (by repeat (first | (with_reducible first | exact HB.out | apply below_alloc | apply pw_below_drewN | apply below_drew1 | refine below_set ?_ GE220.out) | exact HB.out)) hb); clear HO223; clear HO226; clear BK220; clear HB; have HO223 := n0_; have HO226 := n1_; have HO229 := n2_; have BK220 := n3_; have HB := n4_; clear n0_ n1_ n2_ n3_ n4_; (try clear hb); (try clear hb2); (try clear hk); (try clear hi); (try clear ho0)))
  go_loopg [6, 7] k (fun kq v6 v7 w' => ∃ (x6_1 : List ByteArray) (x7_1 : Int), v7 = .int .i64 x7_1 ∧ Aside0 (busbarref13_DeadNodes.l0 kq t221 t224 t227 x6_1 x7_1 = some r) ∧ Aside0 (kq ≤ k) ∧ Aside0 (Kd.R Kd.string 9 w' w.heap.size (fun k_ => some k_ ≠ (v225 : Value).ownBlock ∧ some k_ ≠ (v228 : Value).ownBlock ∧ some k_ ≠ (v6 : Value).ownBlock) v222 t221) ∧ Aside0 (Kd.R Kd.string 9 w' w.heap.size (fun k_ => some k_ ≠ (v222 : Value).ownBlock ∧ some k_ ≠ (v228 : Value).ownBlock ∧ some k_ ≠ (v6 : Value).ownBlock) v225 t224) ∧ Aside0 (Kd.R Kd.string 9 w' w.heap.size (fun k_ => some k_ ≠ (v222 : Value).ownBlock ∧ some k_ ≠ (v225 : Value).ownBlock ∧ some k_ ≠ (v6 : Value).ownBlock) v228 t227) ∧ Aside0 (Kd.R Kd.string 9 w' w.heap.size (fun k_ => some k_ ≠ (v222 : Value).ownBlock ∧ some k_ ≠ (v225 : Value).ownBlock ∧ some k_ ≠ (v228 : Value).ownBlock) v6 x6_1) ∧ Aside0 (w'.heap[gb220]? = some (.cells #[.string a0_0, (.slice A0_1 l0_1.length c0_1), (.slice A0_2 l0_2.length c0_2), .string a0_3] 25 (0, 0))) ∧ Aside0 (Below w.heap.size w w'))
  case atStart => exact ⟨(([] : List ByteArray)), (0), (by first | rfl | (simp; done) | (simp [*]; done)), H', ⟨Nat.le_refl _⟩, ⟨by (with_reducible repeat (first | apply Kd.R_alloc | apply Kd.R_drewN | apply Kd.R_drew)); exact Kd.R_mono HO223.out (fun _ hk => ⟨hk.1.2, ⟨hk.2, (by simp [Value.ownBlock])⟩⟩)⟩, ⟨by (with_reducible repeat (first | apply Kd.R_alloc | apply Kd.R_drewN | apply Kd.R_drew)); exact Kd.R_mono HO226.out (fun _ hk => ⟨hk.1.2, ⟨hk.2, (by simp [Value.ownBlock])⟩⟩)⟩, ⟨by (with_reducible repeat (first | apply Kd.R_alloc | apply Kd.R_drewN | apply Kd.R_drew)); exact Kd.R_mono HO229.out (fun _ hk => ⟨hk.1.2, ⟨hk.2, (by simp [Value.ownBlock])⟩⟩)⟩, ⟨by first | exact Kd.R_nil _ _ _ _ _ | exact Kd.N_nil _ _ _ _ _ | exact Kd.V_nil _ _ _ _ _ | exact Kd.Q_nil _ _ _ _ _ | exact Kd.S_nil _ _ _ _ _⟩, ⟨by (with_reducible repeat (first | refine blk_drewN ?_ _ | refine blk_drew ?_ | refine blk_alloc ?_ _)); exact BK220.out⟩, ⟨by repeat (first | (with_reducible first | exact HB.out | apply below_alloc | apply pw_below_drewN | apply below_drew1 | refine below_set ?_ GE220.out) | exact HB.out)⟩⟩
  case round =>
    clear H'
    try clear c1
    try clear c2
    try clear p2
    try clear c3
    try clear hcz10_0
    try clear hcz10_1
    try clear hcz10_2
    try clear hcz10_3
    try clear hcz6_0
    try clear hcz6_1
    try clear hcz6_2
    try clear hcz6_3
    try clear hcz8_0
    try clear hcz8_1
    try clear hcz8_2
    try clear hcz8_3
    try clear hfz10_0
    try clear hfz10_1
    try clear hfz10_2
    try clear hfz10_3
    try clear hfz6_0
    try clear hfz6_1
    try clear hfz6_2
    try clear hfz6_3
    try clear hfz8_0
    try clear hfz8_1
    try clear hfz8_2
    try clear hfz8_3
    obtain ⟨x6_1, x7_1, rfl, HA, HK1, HO_3, HO_4, HO_5, HO_6, BK220, HB⟩ := hrel
    cases gk with
    | zero => exact absurd HA.out (by simp [busbarref13_DeadNodes.l0])
    | succ k1 =>
      have H := HA.out
      clear HA
      simp only [busbarref13_DeadNodes.l0] at H
      by_cases c12 : x7_1 < (t221.length : Int)
      · rw [if_pos c12] at H
        have c12b0 : decide (x7_1 < (t221.length : Int)) = true := decide_eq_true c12
        clear c12
        by_cases c13 : 0 ≤ x7_1
        · rw [if_pos c13] at H
          have c13b0 : decide (0 ≤ x7_1) = true := decide_eq_true c13
          clear c13
          replace H := Option.bind_eq_some_iff.mp H
          obtain ⟨t231, A140, H⟩ := H
          replace H : (if t231 = true then ((busbarref13_has.f k1 t227 (rdOf ByteArray.empty t221 x7_1)).bind fun t233 => (if t233 = true then (busbarref13_DeadNodes.l0 k1 t221 t224 t227 x6_1 (wrap64 (x7_1 + 1))) else (if x6_1.length < 8796093022208 then (busbarref13_DeadNodes.l0 k1 t221 t224 t227 (x6_1 ++ [rdOf ByteArray.empty t221 x7_1]) (wrap64 (x7_1 + 1))) else (none)))) else (if x6_1.length < 8796093022208 then (busbarref13_DeadNodes.l0 k1 t221 t224 t227 (x6_1 ++ [rdOf ByteArray.empty t221 x7_1]) (wrap64 (x7_1 + 1))) else (none))) = some r := H
          have A14 := Aside0.mk A140
          clear A140
          by_cases c15 : t231 = true
          · subst c15
            have H1 : ((busbarref13_has.f k1 t227 (rdOf ByteArray.empty t221 x7_1)).bind fun t233 => (if t233 = true then (busbarref13_DeadNodes.l0 k1 t221 t224 t227 x6_1 (wrap64 (x7_1 + 1))) else (if x6_1.length < 8796093022208 then (busbarref13_DeadNodes.l0 k1 t221 t224 t227 (x6_1 ++ [rdOf ByteArray.empty t221 x7_1]) (wrap64 (x7_1 + 1))) else (none)))) = some r := by rw [if_pos rfl] at H; exact H
            clear H
            have H := H1
            clear H1
            replace H := Option.bind_eq_some_iff.mp H
            obtain ⟨t233, A160, H⟩ := H
            replace H : (if t233 = true then (busbarref13_DeadNodes.l0 k1 t221 t224 t227 x6_1 (wrap64 (x7_1 + 1))) else (if x6_1.length < 8796093022208 then (busbarref13_DeadNodes.l0 k1 t221 t224 t227 (x6_1 ++ [rdOf ByteArray.empty t221 x7_1]) (wrap64 (x7_1 + 1))) else (none))) = some r := H
            have A16 := Aside0.mk A160
            clear A160
            by_cases c17 : t233 = true
            · subst c17
              have H1 : (busbarref13_DeadNodes.l0 k1 t221 t224 t227 x6_1 (wrap64 (x7_1 + 1))) = some r := by rw [if_pos rfl] at H; exact H
              clear H
              have H := H1
              clear H1
              have H' := Aside0.mk H
              clear H
              obtain ⟨Ao18, co18, eo18⟩ := Kd.R_slice HO_3.out
              subst eo18
              have p230 : 0 ≤ (x7_1 : Int) := of_decide_eq_true (by first | (with_reducible assumption) | assumption)
              have q230 : x7_1 < (t221.length : Int) := of_decide_eq_true (by first | (with_reducible assumption) | assumption)
              obtain ⟨ad230, e230, hx230_0⟩ := Kd.at_string (Kd.R_reads' HO_3.out).2.2 x7_1 p230 q230
              cases e230
              replace p230 := eq_true p230
              replace q230 := eq_true q230
              obtain ⟨Ao19, co19, eo19⟩ := Kd.R_slice HO_4.out
              subst eo19
              go_wp2_with (first | ((with_reducible refine gate_callee (f := 58) rfl ?_); refine goesL_ (some 25) rfl rfl Try.func58 (by kernel_rfl) rfl #[.slice Ao19 t224.length co19, .string (rdOf ByteArray.empty t221 x7_1)] rfl (by (try simp only [List.map_toArray, List.map_cons, List.map_nil]); first | done | rfl | (simp only [List.length_drop, List.length_take]; rfl)) ?_; (with_reducible refine (busbarref13_has.calls k1 _ _ t224 (rdOf ByteArray.empty t221 x7_1) true _ ?side1 ?side2 A14.out).mono ?_); (case side1 => repeat (first | exact (Kd.R_reads' HO_4.out).2.2 | (with_reducible refine Kd.C_alloc ?_ _) | (with_reducible refine Kd.C_drewN ?_ _) | (with_reducible refine Kd.C_drew ?_))); (case side2 => exact (Kd.R_reads' HO_4.out).2.1); rintro e w' ⟨rfl, ⟨nd, rfl⟩⟩; refine ⟨_, rfl, ?_⟩; have p232 : 0 ≤ (x7_1 : Int) := of_decide_eq_true (by first | (with_reducible assumption) | assumption); have q232 : x7_1 < (t221.length : Int) := of_decide_eq_true (by first | (with_reducible assumption) | assumption); obtain ⟨ad232, e232, hx232_0⟩ := Kd.at_string (Kd.R_reads' HO_3.out).2.2 x7_1 p232 q232; obtain rfl : ad230 = ad232 := (by injection e232); replace p232 := eq_true p232; replace q232 := eq_true q232; obtain ⟨Ao20, co20, eo20⟩ := Kd.R_slice HO_5.out; subst eo20) | (go_at_call 58; (with_reducible refine (busbarref13_has.calls k1 _ _ t227 (rdOf ByteArray.empty t221 x7_1) true _ ?side1 ?side2 A16.out).mono ?_); (case side1 => repeat (first | exact (Kd.R_reads' HO_5.out).2.2 | (with_reducible refine Kd.C_alloc ?_ _) | (with_reducible refine Kd.C_drewN ?_ _) | (with_reducible refine Kd.C_drew ?_))); (case side2 => exact (Kd.R_reads' HO_5.out).2.1); rintro e w' ⟨rfl, ⟨nd, rfl⟩⟩))
              go_roundg k1
              case measure => have := HK1.out; omega
              case rel => exact ⟨(x6_1), (wrap64 (x7_1 + 1)), (by first | rfl | (simp; done) | (simp [*]; done)), H', ⟨by have := HK1.out; omega⟩, ⟨by (with_reducible repeat (first | apply Kd.R_alloc | apply Kd.R_drewN | apply Kd.R_drew)); exact HO_3.out⟩, ⟨by (with_reducible repeat (first | apply Kd.R_alloc | apply Kd.R_drewN | apply Kd.R_drew)); exact HO_4.out⟩, ⟨by (with_reducible repeat (first | apply Kd.R_alloc | apply Kd.R_drewN | apply Kd.R_drew)); exact HO_5.out⟩, ⟨by (with_reducible repeat (first | apply Kd.R_alloc | apply Kd.R_drewN | apply Kd.R_drew)); exact HO_6.out⟩, ⟨by (with_reducible repeat (first | refine blk_drewN ?_ _ | refine blk_drew ?_ | refine blk_alloc ?_ _)); exact BK220.out⟩, ⟨by repeat (first | (with_reducible first | exact HB.out | apply below_alloc | apply pw_below_drewN | apply below_drew1 | refine below_set ?_ GE220.out) | exact HB.out)⟩⟩
            · replace c17 := Bool.eq_false_iff.mpr c17
              subst c17
              have H1 : (if x6_1.length < 8796093022208 then (busbarref13_DeadNodes.l0 k1 t221 t224 t227 (x6_1 ++ [rdOf ByteArray.empty t221 x7_1]) (wrap64 (x7_1 + 1))) else (none)) = some r := by rw [if_neg (show ¬ (false = true) by decide)] at H; exact H
              clear H
              have H := H1
              clear H1
              by_cases c21 : x6_1.length < 8796093022208
              · rw [if_pos c21] at H
                have LMc21 := Aside0.mk c21
                clear c21
                obtain ⟨y235, hy235⟩ : ∃ y_ : List ByteArray, y_ = (x6_1 ++ [rdOf ByteArray.empty t221 x7_1]) := ⟨_, rfl⟩
                replace H : (busbarref13_DeadNodes.l0 k1 t221 t224 t227 y235 (wrap64 (x7_1 + 1))) = some r := by first | (rw [hy235]; with_reducible exact H) | (have H2_ := (Option.bind_some _ _).symm.trans H; rw [hy235]; with_reducible exact H2_) | (have H2_ := (Option.bind_some _ _).symm.trans H; with_reducible exact H2_) | with_reducible exact H | (rw [hy235]; exact H) | exact H
                have Ny235 := Aside0.mk hy235
                clear hy235
                have H' := Aside0.mk H
                clear H
                obtain ⟨Ao22, co22, eo22⟩ := Kd.R_slice HO_3.out
                subst eo22
                have p230 : 0 ≤ (x7_1 : Int) := of_decide_eq_true (by first | (with_reducible assumption) | assumption)
                have q230 : x7_1 < (t221.length : Int) := of_decide_eq_true (by first | (with_reducible assumption) | assumption)
                obtain ⟨ad230, e230, hx230_0⟩ := Kd.at_string (Kd.R_reads' HO_3.out).2.2 x7_1 p230 q230
                cases e230
                replace p230 := eq_true p230
                replace q230 := eq_true q230
                obtain ⟨Ao23, co23, eo23⟩ := Kd.R_slice HO_4.out
                subst eo23
                go_wp2_with (first | ((with_reducible refine gate_callee (f := 58) rfl ?_); refine goesL_ (some 25) rfl rfl Try.func58 (by kernel_rfl) rfl #[.slice Ao23 t224.length co23, .string (rdOf ByteArray.empty t221 x7_1)] rfl (by (try simp only [List.map_toArray, List.map_cons, List.map_nil]); first | done | rfl | (simp only [List.length_drop, List.length_take]; rfl)) ?_; (with_reducible refine (busbarref13_has.calls k1 _ _ t224 (rdOf ByteArray.empty t221 x7_1) true _ ?side1 ?side2 A14.out).mono ?_); (case side1 => repeat (first | exact (Kd.R_reads' HO_4.out).2.2 | (with_reducible refine Kd.C_alloc ?_ _) | (with_reducible refine Kd.C_drewN ?_ _) | (with_reducible refine Kd.C_drew ?_))); (case side2 => exact (Kd.R_reads' HO_4.out).2.1); rintro e w' ⟨rfl, ⟨nd, rfl⟩⟩; refine ⟨_, rfl, ?_⟩; have p232 : 0 ≤ (x7_1 : Int) := of_decide_eq_true (by first | (with_reducible assumption) | assumption); have q232 : x7_1 < (t221.length : Int) := of_decide_eq_true (by first | (with_reducible assumption) | assumption); obtain ⟨ad232, e232, hx232_0⟩ := Kd.at_string (Kd.R_reads' HO_3.out).2.2 x7_1 p232 q232; obtain rfl : ad230 = ad232 := (by injection e232); replace p232 := eq_true p232; replace q232 := eq_true q232; obtain ⟨Ao24, co24, eo24⟩ := Kd.R_slice HO_5.out; subst eo24) | (go_at_call 58; (with_reducible refine (busbarref13_has.calls k1 _ _ t227 (rdOf ByteArray.empty t221 x7_1) false _ ?side1 ?side2 A16.out).mono ?_); (case side1 => repeat (first | exact (Kd.R_reads' HO_5.out).2.2 | (with_reducible refine Kd.C_alloc ?_ _) | (with_reducible refine Kd.C_drewN ?_ _) | (with_reducible refine Kd.C_drew ?_))); (case side2 => exact (Kd.R_reads' HO_5.out).2.1); rintro e w' ⟨rfl, ⟨nd, rfl⟩⟩; have p234 : 0 ≤ (x7_1 : Int) := of_decide_eq_true (by first | (with_reducible assumption) | assumption); have q234 : x7_1 < (t221.length : Int) := of_decide_eq_true (by first | (with_reducible assumption) | assumption); obtain ⟨ad234, e234, hx234_0⟩ := Kd.at_string (Kd.R_reads' HO_3.out).2.2 x7_1 p234 q234; obtain rfl : ad230 = ad234 := (by injection e234); replace p234 := eq_true p234; replace q234 := eq_true q234) | ((with_reducible refine gate_builtin (b := .append) (xs := #[.tmp 36, .tmp 41]) rfl ?_); at_builtin; refine Kd.R_append Kd.string (w0 := w) w.heap.size rfl (.tmp 36) (.tmp 41) 29 9 (.string ⟨#[]⟩) 16 rfl Try.underlying29 info9 rfl (by decide) (by omega) u6 x6_1 (rdOf ByteArray.empty t221 x7_1) [.string (rdOf ByteArray.empty t221 x7_1)] (fun k_ => some k_ ≠ (.slice (some ad230) t221.length co22 : Value).ownBlock ∧ some k_ ≠ (.slice Ao23 t224.length co23 : Value).ownBlock ∧ some k_ ≠ (.slice Ao24 t227.length co24 : Value).ownBlock) (fun _ => False) rfl rfl ?aP (fun _ hk => hk.elim) ?aF ?aO ?aB ?aS ?aL ?_; (case aP => exact rfl); (case aB => exact (by repeat (first | (with_reducible first | exact HB.out | apply below_alloc | apply pw_below_drewN | apply below_drew1 | refine below_set ?_ GE220.out) | exact HB.out))); (case aF => exact (fun k_ hk => ⟨Kd.fresh' (Kd.R_lt (by (with_reducible repeat (first | apply Kd.R_alloc | apply Kd.R_drewN | apply Kd.R_drew)); exact HO_3.out)) k_ hk, Kd.fresh' (Kd.R_lt (by (with_reducible repeat (first | apply Kd.R_alloc | apply Kd.R_drewN | apply Kd.R_drew)); exact HO_4.out)) k_ hk, Kd.fresh' (Kd.R_lt (by (with_reducible repeat (first | apply Kd.R_alloc | apply Kd.R_drewN | apply Kd.R_drew)); exact HO_5.out)) k_ hk⟩)); (case aO => exact (by (with_reducible repeat (first | apply Kd.R_alloc | apply Kd.R_drewN | apply Kd.R_drew)); exact HO_6.out)); (case aS => exact (below_size (by repeat (first | (with_reducible first | exact HB.out | apply below_alloc | apply pw_below_drewN | apply below_drew1 | refine below_set ?_ GE220.out) | exact HB.out)))); (case aL => have := LMc21.out; omega); intro v236 w25 ho hb hg hat; rw [← Ny235.out] at ho; have n0_ := Aside0.mk (Kd.R_after (ok := (fun k_ => some k_ ≠ (.slice Ao23 t224.length co23 : Value).ownBlock ∧ some k_ ≠ (.slice Ao24 t227.length co24 : Value).ownBlock)) (by (with_reducible repeat (first | apply Kd.R_alloc | apply Kd.R_drewN | apply Kd.R_drew)); exact Kd.R_mono HO_3.out (fun _ hk => ⟨⟨hk.1, hk.2.1⟩, hk.2.2⟩)) hg hat); have n1_ := Aside0.mk (Kd.R_after (ok := (fun k_ => some k_ ≠ (.slice (some ad230) t221.length co22 : Value).ownBlock ∧ some k_ ≠ (.slice Ao24 t227.length co24 : Value).ownBlock)) (by (with_reducible repeat (first | apply Kd.R_alloc | apply Kd.R_drewN | apply Kd.R_drew)); exact Kd.R_mono HO_4.out (fun _ hk => ⟨⟨hk.1, hk.2.1⟩, hk.2.2⟩)) hg hat); have n2_ := Aside0.mk (Kd.R_after (ok := (fun k_ => some k_ ≠ (.slice (some ad230) t221.length co22 : Value).ownBlock ∧ some k_ ≠ (.slice Ao23 t224.length co23 : Value).ownBlock)) (by (with_reducible repeat (first | apply Kd.R_alloc | apply Kd.R_drewN | apply Kd.R_drew)); exact Kd.R_mono HO_5.out (fun _ hk => ⟨⟨hk.1, hk.2.1⟩, hk.2.2⟩)) hg hat); have n3_ := Aside0.mk (blk_grown (g := gb220) (o := .cells #[.string a0_0, .slice A0_1 l0_1.length c0_1, .slice A0_2 l0_2.length c0_2, .string a0_3] 25 (0, 0)) (by (with_reducible repeat (first | refine blk_drewN ?_ _ | refine blk_drew ?_ | refine blk_alloc ?_ _)); exact BK220.out) hg (Kd.R_ne HO_6.out BK220.out (by decide))); have n4_ := Aside0.mk (hb); have n5_ := Aside0.mk (ho); clear HO_3; clear HO_4; clear HO_5; clear BK220; clear HB; clear HO_6; have HO_3 := n0_; have HO_4 := n1_; have HO_5 := n2_; have BK220 := n3_; have HB := n4_; have HO237 := n5_; clear n0_ n1_ n2_ n3_ n4_ n5_; clear ho hb hg hat))
                go_roundg k1
                case measure => have := HK1.out; omega
                case rel => exact ⟨(y235), (wrap64 (x7_1 + 1)), (by first | rfl | (simp; done) | (simp [*]; done)), H', ⟨by have := HK1.out; omega⟩, ⟨by (with_reducible repeat (first | apply Kd.R_alloc | apply Kd.R_drewN | apply Kd.R_drew)); exact Kd.R_mono HO_3.out (fun _ hk => ⟨hk.1.1, ⟨hk.1.2, hk.2⟩⟩)⟩, ⟨by (with_reducible repeat (first | apply Kd.R_alloc | apply Kd.R_drewN | apply Kd.R_drew)); exact Kd.R_mono HO_4.out (fun _ hk => ⟨hk.1.1, ⟨hk.1.2, hk.2⟩⟩)⟩, ⟨by (with_reducible repeat (first | apply Kd.R_alloc | apply Kd.R_drewN | apply Kd.R_drew)); exact Kd.R_mono HO_5.out (fun _ hk => ⟨hk.1.1, ⟨hk.1.2, hk.2⟩⟩)⟩, ⟨by (with_reducible repeat (first | apply Kd.R_alloc | apply Kd.R_drewN | apply Kd.R_drew)); exact HO237.out⟩, ⟨by (with_reducible repeat (first | refine blk_drewN ?_ _ | refine blk_drew ?_ | refine blk_alloc ?_ _)); exact BK220.out⟩, ⟨by repeat (first | (with_reducible first | exact HB.out | apply below_alloc | apply pw_below_drewN | apply below_drew1 | refine below_set ?_ GE220.out) | exact HB.out)⟩⟩
              · rw [if_neg c21] at H
                exact absurd H (by simp)
          · replace c15 := Bool.eq_false_iff.mpr c15
            subst c15
            have H1 : (if x6_1.length < 8796093022208 then (busbarref13_DeadNodes.l0 k1 t221 t224 t227 (x6_1 ++ [rdOf ByteArray.empty t221 x7_1]) (wrap64 (x7_1 + 1))) else (none)) = some r := by rw [if_neg (show ¬ (false = true) by decide)] at H; exact H
            clear H
            have H := H1
            clear H1
            by_cases c26 : x6_1.length < 8796093022208
            · rw [if_pos c26] at H
              have LMc26 := Aside0.mk c26
              clear c26
              obtain ⟨y239, hy239⟩ : ∃ y_ : List ByteArray, y_ = (x6_1 ++ [rdOf ByteArray.empty t221 x7_1]) := ⟨_, rfl⟩
              replace H : (busbarref13_DeadNodes.l0 k1 t221 t224 t227 y239 (wrap64 (x7_1 + 1))) = some r := by first | (rw [hy239]; with_reducible exact H) | (have H2_ := (Option.bind_some _ _).symm.trans H; rw [hy239]; with_reducible exact H2_) | (have H2_ := (Option.bind_some _ _).symm.trans H; with_reducible exact H2_) | with_reducible exact H | (rw [hy239]; exact H) | exact H
              have Ny239 := Aside0.mk hy239
              clear hy239
              have H' := Aside0.mk H
              clear H
              obtain ⟨Ao27, co27, eo27⟩ := Kd.R_slice HO_3.out
              subst eo27
              have p230 : 0 ≤ (x7_1 : Int) := of_decide_eq_true (by first | (with_reducible assumption) | assumption)
              have q230 : x7_1 < (t221.length : Int) := of_decide_eq_true (by first | (with_reducible assumption) | assumption)
              obtain ⟨ad230, e230, hx230_0⟩ := Kd.at_string (Kd.R_reads' HO_3.out).2.2 x7_1 p230 q230
              cases e230
              replace p230 := eq_true p230
              replace q230 := eq_true q230
              obtain ⟨Ao28, co28, eo28⟩ := Kd.R_slice HO_4.out
              subst eo28
              go_wp2_with (first | ((with_reducible refine gate_callee (f := 58) rfl ?_); refine goesL_ (some 25) rfl rfl Try.func58 (by kernel_rfl) rfl #[.slice Ao28 t224.length co28, .string (rdOf ByteArray.empty t221 x7_1)] rfl (by (try simp only [List.map_toArray, List.map_cons, List.map_nil]); first | done | rfl | (simp only [List.length_drop, List.length_take]; rfl)) ?_; (with_reducible refine (busbarref13_has.calls k1 _ _ t224 (rdOf ByteArray.empty t221 x7_1) false _ ?side1 ?side2 A14.out).mono ?_); (case side1 => repeat (first | exact (Kd.R_reads' HO_4.out).2.2 | (with_reducible refine Kd.C_alloc ?_ _) | (with_reducible refine Kd.C_drewN ?_ _) | (with_reducible refine Kd.C_drew ?_))); (case side2 => exact (Kd.R_reads' HO_4.out).2.1); rintro e w' ⟨rfl, ⟨nd, rfl⟩⟩; refine ⟨_, rfl, ?_⟩; have p238 : 0 ≤ (x7_1 : Int) := of_decide_eq_true (by first | (with_reducible assumption) | assumption); have q238 : x7_1 < (t221.length : Int) := of_decide_eq_true (by first | (with_reducible assumption) | assumption); obtain ⟨ad238, e238, hx238_0⟩ := Kd.at_string (Kd.R_reads' HO_3.out).2.2 x7_1 p238 q238; obtain rfl : ad230 = ad238 := (by injection e238); replace p238 := eq_true p238; replace q238 := eq_true q238) | ((with_reducible refine gate_builtin (b := .append) (xs := #[.tmp 36, .tmp 41]) rfl ?_); at_builtin; refine Kd.R_append Kd.string (w0 := w) w.heap.size rfl (.tmp 36) (.tmp 41) 29 9 (.string ⟨#[]⟩) 16 rfl Try.underlying29 info9 rfl (by decide) (by omega) u6 x6_1 (rdOf ByteArray.empty t221 x7_1) [.string (rdOf ByteArray.empty t221 x7_1)] (fun k_ => some k_ ≠ (.slice (some ad230) t221.length co27 : Value).ownBlock ∧ some k_ ≠ (.slice Ao28 t224.length co28 : Value).ownBlock ∧ some k_ ≠ (v228 : Value).ownBlock) (fun _ => False) rfl rfl ?aP (fun _ hk => hk.elim) ?aF ?aO ?aB ?aS ?aL ?_; (case aP => exact rfl); (case aB => exact (by repeat (first | (with_reducible first | exact HB.out | apply below_alloc | apply pw_below_drewN | apply below_drew1 | refine below_set ?_ GE220.out) | exact HB.out))); (case aF => exact (fun k_ hk => ⟨Kd.fresh' (Kd.R_lt (by (with_reducible repeat (first | apply Kd.R_alloc | apply Kd.R_drewN | apply Kd.R_drew)); exact HO_3.out)) k_ hk, Kd.fresh' (Kd.R_lt (by (with_reducible repeat (first | apply Kd.R_alloc | apply Kd.R_drewN | apply Kd.R_drew)); exact HO_4.out)) k_ hk, Kd.fresh' (Kd.R_lt (by (with_reducible repeat (first | apply Kd.R_alloc | apply Kd.R_drewN | apply Kd.R_drew)); exact HO_5.out)) k_ hk⟩)); (case aO => exact (by (with_reducible repeat (first | apply Kd.R_alloc | apply Kd.R_drewN | apply Kd.R_drew)); exact HO_6.out)); (case aS => exact (below_size (by repeat (first | (with_reducible first | exact HB.out | apply below_alloc | apply pw_below_drewN | apply below_drew1 | refine below_set ?_ GE220.out) | exact HB.out)))); (case aL => have := LMc26.out; omega); intro v240 w29 ho hb hg hat; rw [← Ny239.out] at ho; have n0_ := Aside0.mk (Kd.R_after (ok := (fun k_ => some k_ ≠ (.slice Ao28 t224.length co28 : Value).ownBlock ∧ some k_ ≠ (v228 : Value).ownBlock)) (by (with_reducible repeat (first | apply Kd.R_alloc | apply Kd.R_drewN | apply Kd.R_drew)); exact Kd.R_mono HO_3.out (fun _ hk => ⟨⟨hk.1, hk.2.1⟩, hk.2.2⟩)) hg hat); have n1_ := Aside0.mk (Kd.R_after (ok := (fun k_ => some k_ ≠ (.slice (some ad230) t221.length co27 : Value).ownBlock ∧ some k_ ≠ (v228 : Value).ownBlock)) (by (with_reducible repeat (first | apply Kd.R_alloc | apply Kd.R_drewN | apply Kd.R_drew)); exact Kd.R_mono HO_4.out (fun _ hk => ⟨⟨hk.1, hk.2.1⟩, hk.2.2⟩)) hg hat); have n2_ := Aside0.mk (Kd.R_after (ok := (fun k_ => some k_ ≠ (.slice (some ad230) t221.length co27 : Value).ownBlock ∧ some k_ ≠ (.slice Ao28 t224.length co28 : Value).ownBlock)) (by (with_reducible repeat (first | apply Kd.R_alloc | apply Kd.R_drewN | apply Kd.R_drew)); exact Kd.R_mono HO_5.out (fun _ hk => ⟨⟨hk.1, hk.2.1⟩, hk.2.2⟩)) hg hat); have n3_ := Aside0.mk (blk_grown (g := gb220) (o := .cells #[.string a0_0, .slice A0_1 l0_1.length c0_1, .slice A0_2 l0_2.length c0_2, .string a0_3] 25 (0, 0)) (by (with_reducible repeat (first | refine blk_drewN ?_ _ | refine blk_drew ?_ | refine blk_alloc ?_ _)); exact BK220.out) hg (Kd.R_ne HO_6.out BK220.out (by decide))); have n4_ := Aside0.mk (hb); have n5_ := Aside0.mk (ho); clear HO_3; clear HO_4; clear HO_5; clear BK220; clear HB; clear HO_6; have HO_3 := n0_; have HO_4 := n1_; have HO_5 := n2_; have BK220 := n3_; have HB := n4_; have HO241 := n5_; clear n0_ n1_ n2_ n3_ n4_ n5_; clear ho hb hg hat))
              go_roundg k1
              case measure => have := HK1.out; omega
              case rel => exact ⟨(y239), (wrap64 (x7_1 + 1)), (by first | rfl | (simp; done) | (simp [*]; done)), H', ⟨by have := HK1.out; omega⟩, ⟨by (with_reducible repeat (first | apply Kd.R_alloc | apply Kd.R_drewN | apply Kd.R_drew)); exact Kd.R_mono HO_3.out (fun _ hk => ⟨hk.1.1, ⟨hk.1.2, hk.2⟩⟩)⟩, ⟨by (with_reducible repeat (first | apply Kd.R_alloc | apply Kd.R_drewN | apply Kd.R_drew)); exact Kd.R_mono HO_4.out (fun _ hk => ⟨hk.1.1, ⟨hk.1.2, hk.2⟩⟩)⟩, ⟨by (with_reducible repeat (first | apply Kd.R_alloc | apply Kd.R_drewN | apply Kd.R_drew)); exact Kd.R_mono HO_5.out (fun _ hk => ⟨hk.1.1, ⟨hk.1.2, hk.2⟩⟩)⟩, ⟨by (with_reducible repeat (first | apply Kd.R_alloc | apply Kd.R_drewN | apply Kd.R_drew)); exact HO241.out⟩, ⟨by (with_reducible repeat (first | refine blk_drewN ?_ _ | refine blk_drew ?_ | refine blk_alloc ?_ _)); exact BK220.out⟩, ⟨by repeat (first | (with_reducible first | exact HB.out | apply below_alloc | apply pw_below_drewN | apply below_drew1 | refine below_set ?_ GE220.out) | exact HB.out)⟩⟩
            · rw [if_neg c26] at H
              exact absurd H (by simp)
        · rw [if_neg c13] at H
          exact absurd H (by simp)
      · rw [if_neg c12] at H
        have c12b0 : decide (x7_1 < (t221.length : Int)) = false := decide_eq_false c12
        clear c12
        obtain rfl := Option.some.inj H
        obtain ⟨Ao30, co30, eo30⟩ := Kd.R_slice HO_3.out
        subst eo30
        go_wp2
        go_ret
        exact ⟨_, by first | rfl | (simp [errW_none, errW_some] <;> rfl) | (simp [*, errW_none, errW_some] <;> rfl), by (with_reducible repeat (first | apply Kd.R_alloc | apply Kd.R_drewN | apply Kd.R_drew)); exact Kd.R_mono HO_6.out (fun _ hk => trivial), by repeat (first | (with_reducible first | exact HB.out | apply below_alloc | apply pw_below_drewN | apply below_drew1 | refine below_set ?_ GE220.out) | exact HB.out)⟩

end Go.Proofs.Ytmacdknicgfglaa.Impl
end
