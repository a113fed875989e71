/- GraphReachabilityMatchesReference, walked. -/
import Derived.Test.YtmacdknicgfglaaAl
import Derived.Test.YtmacdknicgfglaaTl
import Derived.Test.YtmacdknicgfglaaGa
import Derived.Test.YtmacdknicgfglaaPq
namespace Go.Proofs.Ytmacdknicgfglaa.Gp
theorem topoR_len {l : List Ed} {all : List ByteArray} : ∀ (k : Nat) (out r : List ByteArray), topoR l all k out = some r → r.length = out.length + k
  | 0, out, r, h => by obtain rfl : out = r := by simpa [topoR] using h
                       rfl
  | k + 1, out, r, h => by
    unfold topoR at h
    split at h
    · cases h
    · rename_i s hs
      have := topoR_len k _ r h
      simp only [List.length_append, List.length_singleton] at this
      omega
theorem topo_len (l : List Ed) : ((topo l).getD []).length ≤ (nodesL l).length := by
  cases h : topo l with
  | none => simp
  | some r =>
    rw [topo_R] at h
    have := topoR_len _ _ _ h
    simp only [List.length_nil, Nat.zero_add] at this
    simp [this]
theorem gath_len (l : List Ed) (q : ByteArray → List ByteArray) (n : ByteArray) : (gathL l q n).length ≤ (nodesL l).length := by
  unfold gathL
  split
  · exact List.length_filter_le _ _
  · simp
end Go.Proofs.Ytmacdknicgfglaa.Gp
namespace Go.Proofs.Ytmacdknicgfglaa.Gw
open Go.RowKit Go.Shelf Go.Proofs.YtmacdknicgfglaaW.PrintWords Go.Proofs.YtmacdknicgfglaaW.PrintMore Go.Proofs.YtmacdknicgfglaaW.PrintLast Go.Proofs.Ytmacdknicgfglaa.Chg Go.Proofs.Ytmacdknicgfglaa.Evt Go.Proofs.Ytmacdknicgfglaa.Impl Go.Proofs.Ytmacdknicgfglaa.Gp Go.Proofs.Ytmacdknicgfglaa.Mp Go.Proofs.Ytmacdknicgfglaa.Open
open Go.Proofs.Ytmacdknicgfglaa.Pe (tl)
set_option linter.unusedVariables false
set_option linter.unusedSimpArgs false
set_option maxRecDepth 100000
section
variable {A1 A2 : Option Addr} {c1 c2 : Nat} {l1 : List S41} {l2 : List S101} {a0 a3 s : ByteArray}
theorem reftopo_any (w : World) (h : Rg w A1 c1 l1 A2 c2 l2) (hn : l1.length ≤ 1000) : Calls Try.prog 28 #[.agg #[.string a0, .slice A1 l1.length c1, .slice A2 l2.length c2, .string a3]] w fun e w' => ∃ v, e = .returned (.tuple #[v, .int .i64 (errT (topo (es l1)))]) ∧ Ro Kd.string 9 w w' v ((topo (es l1)).getD []) ∧ Below w.heap.size w w' := by
  obtain ⟨k, hk⟩ := (Pe.rtopo_ev (a0 := a0) (a3 := a3) (l2 := l2) hn).rounds
  exact (busbarref12_TopoSort.calls k a0 A1 c1 l1 A2 c2 l2 a3 _ _ w h.r1 h.h1 h.r2 h.h2 hk).mono (by rintro e w' ⟨v, rfl, ho, hb⟩; exact ⟨v, rfl, ⟨ho⟩, hb⟩)
theorem refreach_any (w : World) (h : Rg w A1 c1 l1 A2 c2 l2) (hn : l1.length ≤ 1000) : Calls Try.prog 29 #[.agg #[.string a0, .slice A1 l1.length c1, .slice A2 l2.length c2, .string a3], .string s] w fun e w' => ∃ v, e = .returned v ∧ Ro Kd.string 9 w w' v (reachL (es l1) s) ∧ Below w.heap.size w w' := by
  obtain ⟨k, hk⟩ := (Pe.rreach_ev (a0 := a0) (a3 := a3) (l2 := l2) hn s).rounds
  exact (busbarref12_Reachable.calls k a0 A1 c1 l1 A2 c2 l2 a3 s _ w h.r1 h.h1 h.r2 h.h2 hk).mono (by rintro e w' ⟨v, rfl, ho, hb⟩; exact ⟨v, rfl, ⟨ho⟩, hb⟩)
theorem refanc_any (w : World) (h : Rg w A1 c1 l1 A2 c2 l2) (hn : l1.length ≤ 1000) : Calls Try.prog 31 #[.agg #[.string a0, .slice A1 l1.length c1, .slice A2 l2.length c2, .string a3], .string s] w fun e w' => ∃ v, e = .returned v ∧ Ro Kd.string 9 w w' v (ancL (es l1) s) ∧ Below w.heap.size w w' := by
  obtain ⟨k, hk⟩ := (Pe.ranc_ev (a0 := a0) (a3 := a3) (l2 := l2) hn s).rounds
  exact (busbarref12_Ancestors.calls k a0 A1 c1 l1 A2 c2 l2 a3 s _ w h.r1 h.h1 h.r2 h.h2 hk).mono (by rintro e w' ⟨v, rfl, ho, hb⟩; exact ⟨v, rfl, ⟨ho⟩, hb⟩)
/-- What is known of a rung that is not too large. -/
structure Ok12 (l1 : List S41) : Prop where
  ok : okG (es l1) = true
  ln : l1.length ≤ 60
  nl : (nodesL (es l1)).length ≤ 200
theorem Ok12.of {l1 : List S41} (hb : tl (es l1) ≤ 0) : Ok12 l1 := by
  have h := Pe.tl_ok hb
  have h2 := h.2
  have h3 := nodesL_len (es l1)
  rw [es_len] at h2 h3
  exact ⟨h.1, h2, by omega⟩
theorem tl_0 {l : List Ed} (hb : tl l ≤ 0) : tl l = 0 := by unfold tl at hb ⊢; split at hb; omega; rename_i hh; rw [if_neg hh]
theorem tl_1 {l : List Ed} (hb : ¬ tl l ≤ 0) : tl l = 1 := by unfold tl at hb ⊢; split at hb; rename_i hh; rw [if_pos hh]; omega
set_option maxHeartbeats 4000000 in
theorem rmr_core (w : World) (h : Rg w A1 c1 l1 A2 c2 l2) (hz : SzR l1) : Calls Try.prog 6 #[.agg #[.string a0, .slice A1 l1.length c1, .slice A2 l2.length c2, .string a3], .string s] w fun x w' => x = .returned (.bool true) ∧ Below w.heap.size w w' := by
  have SZ := Aside0.mk hz
  have HB := Aside0.mk (Below.refl w.heap.size w)
  have R := Aside0.mk (h)
  clear h hz
  by_cases hb : tl (es l1) ≤ 0
  · have OK := Aside0.mk (Ok12.of hb).ok
    have LN : l1.length ≤ 1000 := by have := (Ok12.of hb).ln; omega
    have LT : Aside0 (((topo (es l1)).getD []).length ≤ 1000000) := ⟨by have := topo_len (es l1); have := (Ok12.of hb).nl; omega⟩
    have LR : Aside0 ((reachL (es l1) s).length ≤ 1000000) := ⟨by have := gath_len (es l1) (sucL (es l1)) s; have := (Ok12.of hb).nl; unfold reachL; omega⟩
    have LA : Aside0 ((ancL (es l1) s).length ≤ 1000000) := ⟨by have := gath_len (es l1) (preL (es l1)) s; have := (Ok12.of hb).nl; unfold ancL; omega⟩
    have TL := Aside0.mk (tl_0 hb)
    clear hb
    skip
    go_enter Try.func6, Try.ntmps6
    go_wp2_with (first | ((with_reducible refine gate_dst (N := 2) rfl ?_); refine box_event ?hg (N := 2) ?hd (cs := #[.string a0, .slice A1 l1.length c1, .slice A2 l2.length c2, .string a3]) (t := 25) ?hr ?_; (case hd => rfl); (case hg => rfl); (case hr => first | (go_simp; done) | (go_simp; rfl)); intro g2 hg w1 hbox hb; have hbx : Below w.heap.size w w1 := below_step (by repeat (first | (with_reducible first | exact Below.refl _ _ | apply below_alloc | apply pw_below_drewN | apply below_drew1) | exact Below.refl _ _)) hb; have n_R := Aside0.mk (R.out.below hbx); have n_HB := Aside0.mk (below_step HB.out hbx); clear HB R; have R := n_R; have HB := n_HB; clear hbx n_R n_HB; have BK2 := Aside0.mk (Bk.mk (hbox : Blk w1 g2 25 #[.string a0, .slice A1 l1.length c1, .slice A2 l2.length c2, .string a3])); clear hbox hg hb; have zBK2_0 : w1.cell? ⟨g2, 0, none⟩ = some (.string a0) := (blk_cell BK2.out.blk 0).trans rfl; have zBK2_1 : w1.cell? ⟨g2, 1, none⟩ = some (.slice A1 l1.length c1) := (blk_cell BK2.out.blk 1).trans rfl; have zBK2_2 : w1.cell? ⟨g2, 2, none⟩ = some (.slice A2 l2.length c2) := (blk_cell BK2.out.blk 2).trans rfl; have zBK2_3 : w1.cell? ⟨g2, 3, none⟩ = some (.string a3) := (blk_cell BK2.out.blk 3).trans rfl) | ((with_reducible refine gate_callee (f := 15) rfl ?_); refine goesL_ (some 10) rfl rfl Try.func15 (by kernel_rfl) rfl #[.agg #[.string a0, .slice A1 l1.length c1, .slice A2 l2.length c2, .string a3]] rfl (by (try simp only [List.map_toArray, List.map_cons, List.map_nil]); first | done | rfl | (simp only [List.length_drop, List.length_take]; rfl)) ?_; (with_reducible refine (Pe.tl_any _ (R.out.below (by repeat (first | (with_reducible first | exact Below.refl _ _ | apply below_alloc | apply pw_below_drewN | apply below_drew1) | exact Below.refl _ _))) SZ.out TL.out).mono ?_); rintro e w2 ⟨rfl, hb⟩; have hbx : Below w1.heap.size w1 w2 := below_step (by repeat (first | (with_reducible first | exact Below.refl _ _ | apply below_alloc | apply pw_below_drewN | apply below_drew1) | exact Below.refl _ _)) hb; clear zBK2_0 zBK2_1 zBK2_2 zBK2_3; have n_R := Aside0.mk (R.out.below hbx); have n_BK2 := Aside0.mk (BK2.out.below hbx); have n_HB := Aside0.mk (below_step HB.out hbx); clear HB R BK2; have R := n_R; have BK2 := n_BK2; have HB := n_HB; clear hbx n_R n_BK2 n_HB; clear hb; have zBK2_0 : w2.cell? ⟨g2, 0, none⟩ = some (.string a0) := (blk_cell BK2.out.blk 0).trans rfl; have zBK2_1 : w2.cell? ⟨g2, 1, none⟩ = some (.slice A1 l1.length c1) := (blk_cell BK2.out.blk 1).trans rfl; have zBK2_2 : w2.cell? ⟨g2, 2, none⟩ = some (.slice A2 l2.length c2) := (blk_cell BK2.out.blk 2).trans rfl; have zBK2_3 : w2.cell? ⟨g2, 3, none⟩ = some (.string a3) := (blk_cell BK2.out.blk 3).trans rfl; refine ⟨_, rfl, ?_⟩) | ((with_reducible refine gate_callee (f := 25) rfl ?_); refine goesL_ (some 15) rfl rfl Try.func25 (by kernel_rfl) rfl #[.agg #[.string a0, .slice A1 l1.length c1, .slice A2 l2.length c2, .string a3]] rfl (by (try simp only [List.map_toArray, List.map_cons, List.map_nil]); first | done | rfl | (simp only [List.length_drop, List.length_take]; rfl)) ?_; (with_reducible refine (topo_any _ (R.out.below (by repeat (first | (with_reducible first | exact Below.refl _ _ | apply below_alloc | apply pw_below_drewN | apply below_drew1) | exact Below.refl _ _))) OK.out).mono ?_); rintro e w3 ⟨v, rfl, ho, hb⟩; have hbx : Below w2.heap.size w2 w3 := below_step (by repeat (first | (with_reducible first | exact Below.refl _ _ | apply below_alloc | apply pw_below_drewN | apply below_drew1) | exact Below.refl _ _)) hb; obtain ⟨Y1, y1, rfl, hw_⟩ := Ro.sliceS ho; clear zBK2_0 zBK2_1 zBK2_2 zBK2_3; have n_R := Aside0.mk (R.out.below hbx); have n_BK2 := Aside0.mk (BK2.out.below hbx); have n_HB := Aside0.mk (below_step HB.out hbx); clear HB R BK2; have R := n_R; have BK2 := n_BK2; have HB := n_HB; clear hbx n_R n_BK2 n_HB; have T1 := Aside0.mk (hw_.out); clear hb; clear ho hw_; have zBK2_0 : w3.cell? ⟨g2, 0, none⟩ = some (.string a0) := (blk_cell BK2.out.blk 0).trans rfl; have zBK2_1 : w3.cell? ⟨g2, 1, none⟩ = some (.slice A1 l1.length c1) := (blk_cell BK2.out.blk 1).trans rfl; have zBK2_2 : w3.cell? ⟨g2, 2, none⟩ = some (.slice A2 l2.length c2) := (blk_cell BK2.out.blk 2).trans rfl; have zBK2_3 : w3.cell? ⟨g2, 3, none⟩ = some (.string a3) := (blk_cell BK2.out.blk 3).trans rfl; refine ⟨_, rfl, ?_⟩) | ((with_reducible refine gate_callee (f := 28) rfl ?_); refine goesL_ (some 20) rfl rfl Try.func28 (by kernel_rfl) rfl #[.agg #[.string a0, .slice A1 l1.length c1, .slice A2 l2.length c2, .string a3]] rfl (by (try simp only [List.map_toArray, List.map_cons, List.map_nil]); first | done | rfl | (simp only [List.length_drop, List.length_take]; rfl)) ?_; (with_reducible refine (reftopo_any _ (R.out.below (by repeat (first | (with_reducible first | exact Below.refl _ _ | apply below_alloc | apply pw_below_drewN | apply below_drew1) | exact Below.refl _ _))) LN).mono ?_); rintro e w4 ⟨v, rfl, ho, hb⟩; have hbx : Below w3.heap.size w3 w4 := below_step (by repeat (first | (with_reducible first | exact Below.refl _ _ | apply below_alloc | apply pw_below_drewN | apply below_drew1) | exact Below.refl _ _)) hb; obtain ⟨Y2, y2, rfl, hw_⟩ := Ro.sliceS ho; clear zBK2_0 zBK2_1 zBK2_2 zBK2_3; have n_R := Aside0.mk (R.out.below hbx); have n_BK2 := Aside0.mk (BK2.out.below hbx); have n_T1 := Aside0.mk (T1.out.below hbx); have n_HB := Aside0.mk (below_step HB.out hbx); clear HB R BK2 T1; have R := n_R; have BK2 := n_BK2; have T1 := n_T1; have HB := n_HB; clear hbx n_R n_BK2 n_T1 n_HB; have T2 := Aside0.mk (hw_.out); clear hb; clear ho hw_; have zBK2_0 : w4.cell? ⟨g2, 0, none⟩ = some (.string a0) := (blk_cell BK2.out.blk 0).trans rfl; have zBK2_1 : w4.cell? ⟨g2, 1, none⟩ = some (.slice A1 l1.length c1) := (blk_cell BK2.out.blk 1).trans rfl; have zBK2_2 : w4.cell? ⟨g2, 2, none⟩ = some (.slice A2 l2.length c2) := (blk_cell BK2.out.blk 2).trans rfl; have zBK2_3 : w4.cell? ⟨g2, 3, none⟩ = some (.string a3) := (blk_cell BK2.out.blk 3).trans rfl; refine ⟨_, rfl, ?_⟩))
    have KP : Aside0 (∀ w', Below w4.heap.size w4 w' → (w'.cell? ⟨g2, 0, none⟩ = some (.string a0) ∧ w'.cell? ⟨g2, 1, none⟩ = some (.slice A1 l1.length c1) ∧ w'.cell? ⟨g2, 2, none⟩ = some (.slice A2 l2.length c2) ∧ w'.cell? ⟨g2, 3, none⟩ = some (.string a3))) := Aside0.mk (fun w' hb => ⟨(blk_cell (BK2.out.below hb).blk 0).trans rfl, (blk_cell (BK2.out.below hb).blk 1).trans rfl, (blk_cell (BK2.out.below hb).blk 2).trans rfl, (blk_cell (BK2.out.below hb).blk 3).trans rfl⟩)
    clear zBK2_0 zBK2_1 zBK2_2 zBK2_3
    refine Evt.ow_start (w0 := w4) (T := (true, [([], []), ([0, 0], [0]), ([1], [1]), ([1], [1]), ([2, 3, 1, 1], [1, 2, 3]), ([1], [1]), ([1], [1]), ([5, 6, 4, 1], [1, 5, 6]), ([4, 7, 7, 1], [1, 4, 7]), ([1, 8], [1, 8]), ([9, 8], [9]), ([10], [10]), ([10], [10]), ([11, 12, 10, 10], [10, 11, 12]), ([10], [10]), ([10], [10]), ([14, 15, 13, 10], [10, 14, 15]), ([13, 16, 16, 10], [10, 13, 16]), ([10, 17], [10, 17]), ([18, 17], [18]), ([19], [19]), ([19], [19]), ([20, 21, 19, 19], [19, 20, 21]), ([19, 22], [19, 22]), ([23, 22], [23]), ([24], [24]), ([24], [24]), ([25, 26, 24], [24, 25, 26]), ([24, 27], [24, 27]), ([28, 24, 0, 1, 2, 3, 4, 5, 6, 7, 8, 9, 10, 11, 12, 13, 14, 15, 16, 17, 18, 19, 20, 21, 22, 23, 24, 25, 26, 27, 28], [28])])) (B := [0, 1, 3, 3, 15, 3, 3, 127, 255, 511, 1023, 2047, 2047, 8191, 2047, 2047, 65535, 131071, 262143, 524287, 1048575, 1048575, 4194303, 8388607, 16777215, 33554431, 33554431, 134217727, 268435455, 536870911]) 30 [(0, some 23), (1, some 24), (3, some 26), (6, some 29), (2, some 25), (5, some 28), (4, some 27), (7, some 30), (8, some 31), (9, some 32), (10, some 33), (12, some 35), (15, some 38), (11, some 34), (14, some 37), (13, some 36), (16, some 39), (17, some 40), (18, some 41), (19, some 42), (20, some 43), (21, some 44), (22, some 45), (23, some 46), (24, some 47), (25, some 48), (26, some 49), (27, some 50), (28, some 51), (29, some 4)] (by kernel_rfl) rfl (by kernel_rfl) (by kernel_rfl) (by kernel_rfl) (by repeat (first | (with_reducible first | exact Below.refl _ _ | apply below_alloc | apply pw_below_drewN | apply below_drew1) | exact Below.refl _ _)) ?_
    intro HT_ HW_ w_ hHeld
    refine Evt.ow_call HT_ hHeld rfl rfl rfl (by kernel_rfl) Try.func16 (by kernel_rfl) rfl #[] (by rfl) (by (try simp only [List.map_toArray, List.map_cons, List.map_nil]); first | done | rfl | (simp only [List.length_drop, List.length_take]; rfl)) ?_
    (with_reducible refine (alive_any _).mono ?_)
    rintro e w_ ⟨rfl, hb⟩
    refine ⟨_, rfl, hb, fun hHeld_ => ?_⟩
    clear hHeld hb
    have hHeld := hHeld_
    clear hHeld_
    refine Evt.ow_norm (a' := ?_) ?_ ?_
    rotate_left
    · simp only [Act.put, List.setIfInBounds_toArray, List.set_cons_zero, List.set_cons_succ, i64_w, i32_w]; rfl
    iterate 5 (first | (refine Evt.ow_off (a' := ?_) HT_ rfl rfl (by rfl) (by kernel_rfl) (fun _ _ _ h => h) ?_ ?_; rotate_left; (· (try simp only [Act.put, List.setIfInBounds_toArray, List.set_cons_zero, List.set_cons_succ, i64_w, i32_w]); rfl)) | (refine Evt.ow_pure (a' := ?_) (v := ?_) HT_ rfl rfl rfl (by rfl) (by kernel_rfl) (fun _ _ _ h => h) ?_ ?_ ?_; rotate_left 2; (· intro w'; go_simp; with_reducible rfl); (· (try simp only [Act.put, List.setIfInBounds_toArray, List.set_cons_zero, List.set_cons_succ, i64_w, i32_w]); rfl)) | (refine Evt.ow_load (a' := ?_) (v := ?_) HT_ HW_ hHeld rfl rfl rfl (by rfl) (by kernel_rfl) (fun _ _ _ h => h) ?_ ?_ ?_; rotate_left 2; (· intro w' hS_; obtain ⟨s0, s1, s2, s3⟩ := KP.out w' hS_.out; go_simp; with_reducible rfl); (· (try simp only [Act.put, List.setIfInBounds_toArray, List.set_cons_zero, List.set_cons_succ, i64_w, i32_w]); rfl)))
    refine Evt.ow_call HT_ hHeld rfl rfl rfl (by kernel_rfl) Try.func27 (by kernel_rfl) rfl #[.agg #[.string a0, .slice A1 l1.length c1, .slice A2 l2.length c2, .string a3], .string s] (by rfl) (by (try simp only [List.map_toArray, List.map_cons, List.map_nil]); first | done | rfl | (simp only [List.length_drop, List.length_take]; rfl)) ?_
    (with_reducible refine (reach_any _ (R.out.below hHeld.out) OK.out s).mono ?_)
    rintro e w_ ⟨v, rfl, ho, hb⟩
    obtain ⟨X1, x1, rfl, N1⟩ := Ro.sliceS ho; clear ho
    refine ⟨_, rfl, hb, fun hHeld_ => ?_⟩
    clear hHeld hb
    have hHeld := hHeld_
    clear hHeld_
    refine Evt.ow_norm (a' := ?_) ?_ ?_
    rotate_left
    · simp only [Act.put, List.setIfInBounds_toArray, List.set_cons_zero, List.set_cons_succ, i64_w, i32_w]; rfl
    refine Evt.ow_call HT_ hHeld rfl rfl rfl (by kernel_rfl) Try.func29 (by kernel_rfl) rfl #[.agg #[.string a0, .slice A1 l1.length c1, .slice A2 l2.length c2, .string a3], .string s] (by rfl) (by (try simp only [List.map_toArray, List.map_cons, List.map_nil]); first | done | rfl | (simp only [List.length_drop, List.length_take]; rfl)) ?_
    (with_reducible refine (refreach_any _ (R.out.below hHeld.out) LN).mono ?_)
    rintro e w_ ⟨v, rfl, ho, hb⟩
    obtain ⟨X2, x2, rfl, N2⟩ := Ro.sliceS ho; clear ho; have n_ := Aside0.mk (N1.out.below hb); clear N1; have N1 := n_; clear n_
    refine ⟨_, rfl, hb, fun hHeld_ => ?_⟩
    clear hHeld hb
    have hHeld := hHeld_
    clear hHeld_
    refine Evt.ow_norm (a' := ?_) ?_ ?_
    rotate_left
    · simp only [Act.put, List.setIfInBounds_toArray, List.set_cons_zero, List.set_cons_succ, i64_w, i32_w]; rfl
    refine Evt.ow_call HT_ hHeld rfl rfl rfl (by kernel_rfl) Try.func17 (by kernel_rfl) rfl #[.slice X1 (reachL (es l1) s).length x1, .slice X2 (reachL (es l1) s).length x2] (by rfl) (by (try simp only [List.map_toArray, List.map_cons, List.map_nil]); first | done | rfl | (simp only [List.length_drop, List.length_take]; rfl)) ?_
    (with_reducible refine (eqS_any X1 x1 _ X2 x2 _ _ N1.out N2.out LR.out (decide_eq_true rfl)).mono ?_)
    rintro e w_ ⟨rfl, hb⟩
    refine ⟨_, rfl, hb, fun hHeld_ => ?_⟩
    clear hHeld hb
    have hHeld := hHeld_
    clear hHeld_
    refine Evt.ow_norm (a' := ?_) ?_ ?_
    rotate_left
    · simp only [Act.put, List.setIfInBounds_toArray, List.set_cons_zero, List.set_cons_succ, i64_w, i32_w]; rfl
    iterate 6 (first | (refine Evt.ow_off (a' := ?_) HT_ rfl rfl (by rfl) (by kernel_rfl) (fun _ _ _ h => h) ?_ ?_; rotate_left; (· (try simp only [Act.put, List.setIfInBounds_toArray, List.set_cons_zero, List.set_cons_succ, i64_w, i32_w]); rfl)) | (refine Evt.ow_pure (a' := ?_) (v := ?_) HT_ rfl rfl rfl (by rfl) (by kernel_rfl) (fun _ _ _ h => h) ?_ ?_ ?_; rotate_left 2; (· intro w'; go_simp; with_reducible rfl); (· (try simp only [Act.put, List.setIfInBounds_toArray, List.set_cons_zero, List.set_cons_succ, i64_w, i32_w]); rfl)) | (refine Evt.ow_load (a' := ?_) (v := ?_) HT_ HW_ hHeld rfl rfl rfl (by rfl) (by kernel_rfl) (fun _ _ _ h => h) ?_ ?_ ?_; rotate_left 2; (· intro w' hS_; obtain ⟨s0, s1, s2, s3⟩ := KP.out w' hS_.out; go_simp; with_reducible rfl); (· (try simp only [Act.put, List.setIfInBounds_toArray, List.set_cons_zero, List.set_cons_succ, i64_w, i32_w]); rfl)))
    refine Evt.ow_call HT_ hHeld rfl rfl rfl (by kernel_rfl) Try.func30 (by kernel_rfl) rfl #[.agg #[.string a0, .slice A1 l1.length c1, .slice A2 l2.length c2, .string a3], .string s] (by rfl) (by (try simp only [List.map_toArray, List.map_cons, List.map_nil]); first | done | rfl | (simp only [List.length_drop, List.length_take]; rfl)) ?_
    (with_reducible refine (anc_any _ (R.out.below hHeld.out) OK.out s).mono ?_)
    rintro e w_ ⟨v, rfl, ho, hb⟩
    obtain ⟨X3, x3, rfl, N3⟩ := Ro.sliceS ho; clear ho
    refine ⟨_, rfl, hb, fun hHeld_ => ?_⟩
    clear hHeld hb
    have hHeld := hHeld_
    clear hHeld_
    refine Evt.ow_norm (a' := ?_) ?_ ?_
    rotate_left
    · simp only [Act.put, List.setIfInBounds_toArray, List.set_cons_zero, List.set_cons_succ, i64_w, i32_w]; rfl
    refine Evt.ow_call HT_ hHeld rfl rfl rfl (by kernel_rfl) Try.func31 (by kernel_rfl) rfl #[.agg #[.string a0, .slice A1 l1.length c1, .slice A2 l2.length c2, .string a3], .string s] (by rfl) (by (try simp only [List.map_toArray, List.map_cons, List.map_nil]); first | done | rfl | (simp only [List.length_drop, List.length_take]; rfl)) ?_
    (with_reducible refine (refanc_any _ (R.out.below hHeld.out) LN).mono ?_)
    rintro e w_ ⟨v, rfl, ho, hb⟩
    obtain ⟨X4, x4, rfl, N4⟩ := Ro.sliceS ho; clear ho; have n_ := Aside0.mk (N3.out.below hb); clear N3; have N3 := n_; clear n_
    refine ⟨_, rfl, hb, fun hHeld_ => ?_⟩
    clear hHeld hb
    have hHeld := hHeld_
    clear hHeld_
    refine Evt.ow_norm (a' := ?_) ?_ ?_
    rotate_left
    · simp only [Act.put, List.setIfInBounds_toArray, List.set_cons_zero, List.set_cons_succ, i64_w, i32_w]; rfl
    refine Evt.ow_call HT_ hHeld rfl rfl rfl (by kernel_rfl) Try.func17 (by kernel_rfl) rfl #[.slice X3 (ancL (es l1) s).length x3, .slice X4 (ancL (es l1) s).length x4] (by rfl) (by (try simp only [List.map_toArray, List.map_cons, List.map_nil]); first | done | rfl | (simp only [List.length_drop, List.length_take]; rfl)) ?_
    (with_reducible refine (eqS_any X3 x3 _ X4 x4 _ _ N3.out N4.out LA.out (decide_eq_true rfl)).mono ?_)
    rintro e w_ ⟨rfl, hb⟩
    refine ⟨_, rfl, hb, fun hHeld_ => ?_⟩
    clear hHeld hb
    have hHeld := hHeld_
    clear hHeld_
    refine Evt.ow_norm (a' := ?_) ?_ ?_
    rotate_left
    · simp only [Act.put, List.setIfInBounds_toArray, List.set_cons_zero, List.set_cons_succ, i64_w, i32_w]; rfl
    iterate 4 (first | (refine Evt.ow_off (a' := ?_) HT_ rfl rfl (by rfl) (by kernel_rfl) (fun _ _ _ h => h) ?_ ?_; rotate_left; (· (try simp only [Act.put, List.setIfInBounds_toArray, List.set_cons_zero, List.set_cons_succ, i64_w, i32_w]); rfl)) | (refine Evt.ow_pure (a' := ?_) (v := ?_) HT_ rfl rfl rfl (by rfl) (by kernel_rfl) (fun _ _ _ h => h) ?_ ?_ ?_; rotate_left 2; (· intro w'; go_simp; with_reducible rfl); (· (try simp only [Act.put, List.setIfInBounds_toArray, List.set_cons_zero, List.set_cons_succ, i64_w, i32_w]); rfl)) | (refine Evt.ow_load (a' := ?_) (v := ?_) HT_ HW_ hHeld rfl rfl rfl (by rfl) (by kernel_rfl) (fun _ _ _ h => h) ?_ ?_ ?_; rotate_left 2; (· intro w' hS_; obtain ⟨s0, s1, s2, s3⟩ := KP.out w' hS_.out; go_simp; with_reducible rfl); (· (try simp only [Act.put, List.setIfInBounds_toArray, List.set_cons_zero, List.set_cons_succ, i64_w, i32_w]); rfl)))
    refine Evt.ow_call HT_ hHeld rfl rfl rfl (by kernel_rfl) Try.func17 (by kernel_rfl) rfl #[.slice Y1 ((topo (es l1)).getD []).length y1, .slice Y2 ((topo (es l1)).getD []).length y2] (by rfl) (by (try simp only [List.map_toArray, List.map_cons, List.map_nil]); first | done | rfl | (simp only [List.length_drop, List.length_take]; rfl)) ?_
    (with_reducible refine (eqS_any Y1 y1 _ Y2 y2 _ _ (T1.out.below hHeld.out) (T2.out.below hHeld.out) LT.out (decide_eq_true rfl)).mono ?_)
    rintro e w_ ⟨rfl, hb⟩
    refine ⟨_, rfl, hb, fun hHeld_ => ?_⟩
    clear hHeld hb
    have hHeld := hHeld_
    clear hHeld_
    refine Evt.ow_norm (a' := ?_) ?_ ?_
    rotate_left
    · simp only [Act.put, List.setIfInBounds_toArray, List.set_cons_zero, List.set_cons_succ, i64_w, i32_w]; rfl
    iterate 7 (first | (refine Evt.ow_off (a' := ?_) HT_ rfl rfl (by rfl) (by kernel_rfl) (fun _ _ _ h => h) ?_ ?_; rotate_left; (· (try simp only [Act.put, List.setIfInBounds_toArray, List.set_cons_zero, List.set_cons_succ, i64_w, i32_w]); rfl)) | (refine Evt.ow_pure (a' := ?_) (v := ?_) HT_ rfl rfl rfl (by rfl) (by kernel_rfl) (fun _ _ _ h => h) ?_ ?_ ?_; rotate_left 2; (· intro w'; go_simp; with_reducible rfl); (· (try simp only [Act.put, List.setIfInBounds_toArray, List.set_cons_zero, List.set_cons_succ, i64_w, i32_w]); rfl)) | (refine Evt.ow_load (a' := ?_) (v := ?_) HT_ HW_ hHeld rfl rfl rfl (by rfl) (by kernel_rfl) (fun _ _ _ h => h) ?_ ?_ ?_; rotate_left 2; (· intro w' hS_; obtain ⟨s0, s1, s2, s3⟩ := KP.out w' hS_.out; go_simp; with_reducible rfl); (· (try simp only [Act.put, List.setIfInBounds_toArray, List.set_cons_zero, List.set_cons_succ, i64_w, i32_w]); rfl)))
    refine Evt.ow_done HT_ (by kernel_rfl) ?_
    refine Evt.gen_any (w0 := w4) hHeld.out ?_
    intro w5 hbx
    clear hHeld HT_ HW_ KP
    have n_R := Aside0.mk (R.out.below hbx)
    have n_BK2 := Aside0.mk (BK2.out.below hbx)
    have n_T1 := Aside0.mk (T1.out.below hbx)
    have n_T2 := Aside0.mk (T2.out.below hbx)
    have n_HB := Aside0.mk (below_step HB.out hbx)
    clear HB R BK2 T1 T2
    have R := n_R
    have BK2 := n_BK2
    have T1 := n_T1
    have T2 := n_T2
    have HB := n_HB
    clear hbx n_R n_BK2 n_T1 n_T2 n_HB
    have zBK2_0 : w5.cell? ⟨g2, 0, none⟩ = some (.string a0) := (blk_cell BK2.out.blk 0).trans rfl
    have zBK2_1 : w5.cell? ⟨g2, 1, none⟩ = some (.slice A1 l1.length c1) := (blk_cell BK2.out.blk 1).trans rfl
    have zBK2_2 : w5.cell? ⟨g2, 2, none⟩ = some (.slice A2 l2.length c2) := (blk_cell BK2.out.blk 2).trans rfl
    have zBK2_3 : w5.cell? ⟨g2, 3, none⟩ = some (.string a3) := (blk_cell BK2.out.blk 3).trans rfl
    go_wp2
    go_ret
    exact ⟨rfl, HB.out⟩
    skip
  · have TL := Aside0.mk (tl_1 hb)
    clear hb
    go_enter Try.func6, Try.ntmps6
    go_wp2_with (first | ((with_reducible refine gate_dst (N := 2) rfl ?_); refine box_event ?hg (N := 2) ?hd (cs := #[.string a0, .slice A1 l1.length c1, .slice A2 l2.length c2, .string a3]) (t := 25) ?hr ?_; (case hd => rfl); (case hg => rfl); (case hr => first | (go_simp; done) | (go_simp; rfl)); intro g2 hg w1 hbox hb; have hbx : Below w.heap.size w w1 := below_step (by repeat (first | (with_reducible first | exact Below.refl _ _ | apply below_alloc | apply pw_below_drewN | apply below_drew1) | exact Below.refl _ _)) hb; have n_R := Aside0.mk (R.out.below hbx); have n_HB := Aside0.mk (below_step HB.out hbx); clear HB R; have R := n_R; have HB := n_HB; clear hbx n_R n_HB; have BK2 := Aside0.mk (Bk.mk (hbox : Blk w1 g2 25 #[.string a0, .slice A1 l1.length c1, .slice A2 l2.length c2, .string a3])); clear hbox hg hb; have zBK2_0 : w1.cell? ⟨g2, 0, none⟩ = some (.string a0) := (blk_cell BK2.out.blk 0).trans rfl; have zBK2_1 : w1.cell? ⟨g2, 1, none⟩ = some (.slice A1 l1.length c1) := (blk_cell BK2.out.blk 1).trans rfl; have zBK2_2 : w1.cell? ⟨g2, 2, none⟩ = some (.slice A2 l2.length c2) := (blk_cell BK2.out.blk 2).trans rfl; have zBK2_3 : w1.cell? ⟨g2, 3, none⟩ = some (.string a3) := (blk_cell BK2.out.blk 3).trans rfl) | ((with_reducible refine gate_callee (f := 15) rfl ?_); refine goesL_ (some 10) rfl rfl Try.func15 (by kernel_rfl) rfl #[.agg #[.string a0, .slice A1 l1.length c1, .slice A2 l2.length c2, .string a3]] rfl (by (try simp only [List.map_toArray, List.map_cons, List.map_nil]); first | done | rfl | (simp only [List.length_drop, List.length_take]; rfl)) ?_; (with_reducible refine (Pe.tl_any _ (R.out.below (by repeat (first | (with_reducible first | exact Below.refl _ _ | apply below_alloc | apply pw_below_drewN | apply below_drew1) | exact Below.refl _ _))) SZ.out TL.out).mono ?_); rintro e w2 ⟨rfl, hb⟩; have hbx : Below w1.heap.size w1 w2 := below_step (by repeat (first | (with_reducible first | exact Below.refl _ _ | apply below_alloc | apply pw_below_drewN | apply below_drew1) | exact Below.refl _ _)) hb; clear zBK2_0 zBK2_1 zBK2_2 zBK2_3; have n_R := Aside0.mk (R.out.below hbx); have n_BK2 := Aside0.mk (BK2.out.below hbx); have n_HB := Aside0.mk (below_step HB.out hbx); clear HB R BK2; have R := n_R; have BK2 := n_BK2; have HB := n_HB; clear hbx n_R n_BK2 n_HB; clear hb; have zBK2_0 : w2.cell? ⟨g2, 0, none⟩ = some (.string a0) := (blk_cell BK2.out.blk 0).trans rfl; have zBK2_1 : w2.cell? ⟨g2, 1, none⟩ = some (.slice A1 l1.length c1) := (blk_cell BK2.out.blk 1).trans rfl; have zBK2_2 : w2.cell? ⟨g2, 2, none⟩ = some (.slice A2 l2.length c2) := (blk_cell BK2.out.blk 2).trans rfl; have zBK2_3 : w2.cell? ⟨g2, 3, none⟩ = some (.string a3) := (blk_cell BK2.out.blk 3).trans rfl; refine ⟨_, rfl, ?_⟩) | ((with_reducible refine gate_callee (f := 16) rfl ?_); refine goesL_ (some 12) rfl rfl Try.func16 (by kernel_rfl) rfl #[] rfl (by (try simp only [List.map_toArray, List.map_cons, List.map_nil]); first | done | rfl | (simp only [List.length_drop, List.length_take]; rfl)) ?_; (with_reducible refine (alive_any _).mono ?_); rintro e w3 ⟨rfl, hb⟩; have hbx : Below w2.heap.size w2 w3 := below_step (by repeat (first | (with_reducible first | exact Below.refl _ _ | apply below_alloc | apply pw_below_drewN | apply below_drew1) | exact Below.refl _ _)) hb; clear zBK2_0 zBK2_1 zBK2_2 zBK2_3; have n_R := Aside0.mk (R.out.below hbx); have n_BK2 := Aside0.mk (BK2.out.below hbx); have n_HB := Aside0.mk (below_step HB.out hbx); clear HB R BK2; have R := n_R; have BK2 := n_BK2; have HB := n_HB; clear hbx n_R n_BK2 n_HB; clear hb; have zBK2_0 : w3.cell? ⟨g2, 0, none⟩ = some (.string a0) := (blk_cell BK2.out.blk 0).trans rfl; have zBK2_1 : w3.cell? ⟨g2, 1, none⟩ = some (.slice A1 l1.length c1) := (blk_cell BK2.out.blk 1).trans rfl; have zBK2_2 : w3.cell? ⟨g2, 2, none⟩ = some (.slice A2 l2.length c2) := (blk_cell BK2.out.blk 2).trans rfl; have zBK2_3 : w3.cell? ⟨g2, 3, none⟩ = some (.string a3) := (blk_cell BK2.out.blk 3).trans rfl; refine ⟨_, rfl, ?_⟩))
    go_ret
    exact ⟨rfl, HB.out⟩
theorem rmr_walk (w : World) (k1 : List Value) (y1 : ByteArray × List S41 × List S101 × ByteArray) (h1 : KRung.K w y1 k1) (hq : QRung y1) (s : ByteArray) (_ : s.size ≤ maxLen) :
    Calls Try.prog 6 #[.agg k1.toArray, .string s] w fun x w' => x = .returned (.bool true) ∧ Below w.heap.size w w' := by
  obtain ⟨A1, c1, A2, c2, rfl, r1, hz⟩ := rung_form h1 hq
  exact rmr_core w r1 hz
end
end Go.Proofs.Ytmacdknicgfglaa.Gw
