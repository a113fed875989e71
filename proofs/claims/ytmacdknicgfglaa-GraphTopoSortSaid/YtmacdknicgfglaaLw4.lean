/- GraphTopoSort, walked. -/
import Derived.Test.YtmacdknicgfglaaLw3
import Derived.Test.YtmacdknicgfglaaPo
namespace Go.Proofs.Ytmacdknicgfglaa.Gw
open Go.RowKit Go.Shelf Go.Proofs.YtmacdknicgfglaaW.PrintWords Go.Proofs.YtmacdknicgfglaaW.PrintMore Go.Proofs.YtmacdknicgfglaaW.PrintLast Go.Proofs.Ytmacdknicgfglaa.Chg Go.Proofs.Ytmacdknicgfglaa.Evt Go.Proofs.Ytmacdknicgfglaa.Impl Go.Proofs.Ytmacdknicgfglaa.Gp Go.Proofs.Ytmacdknicgfglaa.Mp Go.Proofs.Ytmacdknicgfglaa.Open
open Go.Proofs.Ytmacdknicgfglaa.Pe (tl)
set_option linter.unusedVariables false
set_option linter.unusedSimpArgs false
set_option maxRecDepth 100000
theorem comes_take {l : List Ed} {j : Nat} (hj : j < l.length) : comesL l (l.take (j + 1)) = (comesL l (l.take j) || decide (l[j].1 ∈ reachL l l[j].2)) := by
  unfold comesL
  rw [List.take_succ_eq_append_getElem hj, List.any_append]
  simp
section
variable {A1 A2 : Option Addr} {c1 c2 : Nat} {l1 : List S41} {l2 : List S101} {a0 a3 s : ByteArray}
set_option maxHeartbeats 8000000 in
theorem gt_none (w : World) (h : Rg w A1 c1 l1 A2 c2 l2) (hz : SzR l1) (hb : tl (es l1) ≤ 0) (ht : topo (es l1) = none) : Calls Try.prog 4 #[.agg #[.string a0, .slice A1 l1.length c1, .slice A2 l2.length c2, .string a3]] w fun x w' => x = .returned (.bool true) ∧ Below w.heap.size w w' := by
    have SZ := Aside0.mk hz
    have O12 := Aside0.mk (Ok12.of hb)
    have TL := Aside0.mk (tl_0 hb)
    have TT := Aside0.mk ht
    have LN : l1.length ≤ 1000 := by have := O12.out.ln; omega
    have HB := Aside0.mk (Below.refl w.heap.size w)
    have R := Aside0.mk (h)
    clear h hz hb ht
    go_enter Try.func4, Try.ntmps4
    go_wp2_with (first | ((with_reducible refine gate_dst (N := 1) rfl ?_); refine box_event ?hg (N := 1) ?hd (cs := #[.string a0, .slice A1 l1.length c1, .slice A2 l2.length c2, .string a3]) (t := 25) ?hr ?_; (case hd => rfl); (case hg => rfl); (case hr => first | (go_simp; done) | (go_simp; rfl)); intro g1 hg w1 hbox hb; have hbx : Below w.heap.size w w1 := below_step (by repeat (first | (with_reducible first | exact Below.refl _ _ | apply below_alloc | apply pw_below_drewN | apply below_drew1) | exact Below.refl _ _)) hb; have n_R := Aside0.mk (R.out.below hbx); have n_HB := Aside0.mk (below_step HB.out hbx); clear HB R; have R := n_R; have HB := n_HB; clear hbx n_R n_HB; have BK1 := Aside0.mk (Bk.mk (hbox : Blk w1 g1 25 #[.string a0, .slice A1 l1.length c1, .slice A2 l2.length c2, .string a3])); clear hbox hg hb; have zBK1_0 : w1.cell? ⟨g1, 0, none⟩ = some (.string a0) := (blk_cell BK1.out.blk 0).trans rfl; have zBK1_1 : w1.cell? ⟨g1, 1, none⟩ = some (.slice A1 l1.length c1) := (blk_cell BK1.out.blk 1).trans rfl; have zBK1_2 : w1.cell? ⟨g1, 2, none⟩ = some (.slice A2 l2.length c2) := (blk_cell BK1.out.blk 2).trans rfl; have zBK1_3 : w1.cell? ⟨g1, 3, none⟩ = some (.string a3) := (blk_cell BK1.out.blk 3).trans rfl) | ((with_reducible refine gate_callee (f := 15) rfl ?_); refine goesL_ (some 17) rfl rfl Try.func15 (by kernel_rfl) rfl #[.agg #[.string a0, .slice A1 l1.length c1, .slice A2 l2.length c2, .string a3]] rfl (by (try simp only [List.map_toArray, List.map_cons, List.map_nil]); first | done | rfl | (simp only [List.length_drop, List.length_take]; rfl)) ?_; (with_reducible refine (Pe.tl_any _ (R.out.below (by repeat (first | (with_reducible first | exact Below.refl _ _ | apply below_alloc | apply pw_below_drewN | apply below_drew1) | exact Below.refl _ _))) SZ.out TL.out).mono ?_); rintro e w2 ⟨rfl, hb⟩; have hbx : Below w1.heap.size w1 w2 := below_step (by repeat (first | (with_reducible first | exact Below.refl _ _ | apply below_alloc | apply pw_below_drewN | apply below_drew1) | exact Below.refl _ _)) hb; clear zBK1_0 zBK1_1 zBK1_2 zBK1_3; have n_R := Aside0.mk (R.out.below hbx); have n_BK1 := Aside0.mk (BK1.out.below hbx); have n_HB := Aside0.mk (below_step HB.out hbx); clear HB R BK1; have R := n_R; have BK1 := n_BK1; have HB := n_HB; clear hbx n_R n_BK1 n_HB; clear hb; have zBK1_0 : w2.cell? ⟨g1, 0, none⟩ = some (.string a0) := (blk_cell BK1.out.blk 0).trans rfl; have zBK1_1 : w2.cell? ⟨g1, 1, none⟩ = some (.slice A1 l1.length c1) := (blk_cell BK1.out.blk 1).trans rfl; have zBK1_2 : w2.cell? ⟨g1, 2, none⟩ = some (.slice A2 l2.length c2) := (blk_cell BK1.out.blk 2).trans rfl; have zBK1_3 : w2.cell? ⟨g1, 3, none⟩ = some (.string a3) := (blk_cell BK1.out.blk 3).trans rfl; refine ⟨_, rfl, ?_⟩) | ((with_reducible refine gate_callee (f := 25) rfl ?_); refine goesL_ (some 22) rfl rfl Try.func25 (by kernel_rfl) rfl #[.agg #[.string a0, .slice A1 l1.length c1, .slice A2 l2.length c2, .string a3]] rfl (by (try simp only [List.map_toArray, List.map_cons, List.map_nil]); first | done | rfl | (simp only [List.length_drop, List.length_take]; rfl)) ?_; (with_reducible refine (topo_any' _ (R.out.below (by repeat (first | (with_reducible first | exact Below.refl _ _ | apply below_alloc | apply pw_below_drewN | apply below_drew1) | exact Below.refl _ _))) O12.out.ok TT.out).mono ?_); rintro e w3 ⟨v, rfl, ho, hb⟩; have hbx : Below w2.heap.size w2 w3 := below_step (by repeat (first | (with_reducible first | exact Below.refl _ _ | apply below_alloc | apply pw_below_drewN | apply below_drew1) | exact Below.refl _ _)) hb; obtain ⟨Y1, y1, rfl, hw_⟩ := Ro.sliceS ho; clear zBK1_0 zBK1_1 zBK1_2 zBK1_3; have n_R := Aside0.mk (R.out.below hbx); have n_BK1 := Aside0.mk (BK1.out.below hbx); have n_HB := Aside0.mk (below_step HB.out hbx); clear HB R BK1; have R := n_R; have BK1 := n_BK1; have HB := n_HB; clear hbx n_R n_BK1 n_HB; have TW := Aside0.mk (hw_.out); clear hb; clear ho hw_; have zBK1_0 : w3.cell? ⟨g1, 0, none⟩ = some (.string a0) := (blk_cell BK1.out.blk 0).trans rfl; have zBK1_1 : w3.cell? ⟨g1, 1, none⟩ = some (.slice A1 l1.length c1) := (blk_cell BK1.out.blk 1).trans rfl; have zBK1_2 : w3.cell? ⟨g1, 2, none⟩ = some (.slice A2 l2.length c2) := (blk_cell BK1.out.blk 2).trans rfl; have zBK1_3 : w3.cell? ⟨g1, 3, none⟩ = some (.string a3) := (blk_cell BK1.out.blk 3).trans rfl; refine ⟨_, rfl, ?_⟩))
    have HB3 := HB
    have R3 := R
    have B3 := BK1
    have T3 := TW
    clear HB R BK1 TW zBK1_0 zBK1_1 zBK1_2 zBK1_3
    go_loopg [5, 28] l1.length (fun kq v5 v28 wr => ∃ j : Nat, v28 = .int .i64 j ∧ v5 = .bool (comesL (es l1) ((es l1).take j)) ∧ Aside0 (j + kq = l1.length) ∧ Aside0 (Below w3.heap.size w3 wr))
    case atStart => exact ⟨0, rfl, rfl, ⟨by omega⟩, ⟨Below.refl _ _⟩⟩
    case round =>
      obtain ⟨j, rfl, rfl, hj, HR⟩ := hrel
      cases gk with
      | succ k1 =>
        have hjl : j < l1.length := by have := hj.out; omega
        have q0 : decide (j < l1.length) = true := decide_eq_true hjl
        have q1 : decide ((j : Int) < (l1.length : Int)) = true := decide_eq_true (by omega)
        obtain ⟨ad, rfl, x0, x1, x2, x3, x4⟩ := (R3.out.below HR.out).at hjl
        have CT := Aside0.mk (comes_take (l := es l1) (j := j) (by rw [es_len]; exact hjl))
        rw [es_get hjl] at CT
        obtain ⟨cc, hcc⟩ : ∃ cc, Aside0 (comesL (es l1) ((es l1).take j) = cc) := ⟨_, ⟨rfl⟩⟩
        obtain ⟨dd, hdd⟩ : ∃ dd, Aside0 (decide (l1[j].f2 ∈ reachL (es l1) l1[j].f3) = dd) := ⟨_, ⟨rfl⟩⟩
        have LR : Aside0 ((reachL (es l1) l1[j].f3).length ≤ 1000000) := ⟨by have := gath_len (es l1) (sucL (es l1)) l1[j].f3; have := O12.out.nl; unfold reachL; omega⟩
        rw [hcc.out] at CT ⊢
        have hddo := hdd.out
        rw [show decide ((l1[j].f2, l1[j].f3).1 ∈ reachL (es l1) (l1[j].f2, l1[j].f3).2) = dd from hddo] at CT
        clear hddo
        have HB := Aside0.mk (Below.refl wr.heap.size wr)
        have R := Aside0.mk (R3.out.below HR.out)
        have BK1 : Aside0 (Bk wr g1 25 #[.string a0, .slice (some ad) l1.length c1, .slice A2 l2.length c2, .string a3]) := Aside0.mk (B3.out.below HR.out)
        have zBK1_0 : wr.cell? ⟨g1, 0, none⟩ = some (.string a0) := (blk_cell BK1.out.blk 0).trans rfl
        have zBK1_1 : wr.cell? ⟨g1, 1, none⟩ = some (.slice (some ad) l1.length c1) := (blk_cell BK1.out.blk 1).trans rfl
        have zBK1_2 : wr.cell? ⟨g1, 2, none⟩ = some (.slice A2 l2.length c2) := (blk_cell BK1.out.blk 2).trans rfl
        have zBK1_3 : wr.cell? ⟨g1, 3, none⟩ = some (.string a3) := (blk_cell BK1.out.blk 3).trans rfl
        cases cc with
        | true =>
          skip
          go_wp2_with (((with_reducible refine gate_dst (N := 7) rfl ?_); refine Evt.box2 ?hg (N := 7) ?hd (z := #[.int .i64 0, .int .i64 0, .int .i64 0, .string ⟨#[]⟩, .string ⟨#[]⟩]) (cs := #[.int .i64 l1[j].f0, .int .i64 l1[j].f1.f0, .int .i64 l1[j].f1.f1, .string l1[j].f2, .string l1[j].f3]) (T := 41) ?hr ?hg2 (.tmp 31) ?ho2 ?hd2 ?hy ?hx ?hi ?hz ?h1 ?_; (case hd => rfl); (case hg => rfl); (case hr => first | (go_simp; done) | (go_simp; rfl)); (case hg2 => rfl); (case ho2 => rfl); (case hd2 => rfl); (case hy => first | rfl | (go_simp; done)); (case hx => first | rfl | (go_simp; done)); (case hi => kernel_rfl); (case hz => rfl); (case h1 => first | rfl | (simp [Value.oneCell'])); intro g7 hg w1 hbox hb; have hbx : Below wr.heap.size wr w1 := below_step (by repeat (first | (with_reducible first | exact Below.refl _ _ | apply below_alloc | apply pw_below_drewN | apply below_drew1) | exact Below.refl _ _)) hb; clear zBK1_0 zBK1_1 zBK1_2 zBK1_3; have n_R := Aside0.mk (R.out.below hbx); have n_BK1 := Aside0.mk (BK1.out.below hbx); have n_HB := Aside0.mk (below_step HB.out hbx); clear HB R BK1; have R := n_R; have BK1 := n_BK1; have HB := n_HB; clear hbx n_R n_BK1 n_HB; have BK7 := Aside0.mk (Bk.mk (hbox : Blk w1 g7 41 #[.int .i64 l1[j].f0, .int .i64 l1[j].f1.f0, .int .i64 l1[j].f1.f1, .string l1[j].f2, .string l1[j].f3])); clear hbox hg hb; have zBK1_0 : w1.cell? ⟨g1, 0, none⟩ = some (.string a0) := (blk_cell BK1.out.blk 0).trans rfl; have zBK1_1 : w1.cell? ⟨g1, 1, none⟩ = some (.slice (some ad) l1.length c1) := (blk_cell BK1.out.blk 1).trans rfl; have zBK1_2 : w1.cell? ⟨g1, 2, none⟩ = some (.slice A2 l2.length c2) := (blk_cell BK1.out.blk 2).trans rfl; have zBK1_3 : w1.cell? ⟨g1, 3, none⟩ = some (.string a3) := (blk_cell BK1.out.blk 3).trans rfl; have zBK7_0 : w1.cell? ⟨g7, 0, none⟩ = some (.int .i64 l1[j].f0) := (blk_cell BK7.out.blk 0).trans rfl; have zBK7_1 : w1.cell? ⟨g7, 1, none⟩ = some (.int .i64 l1[j].f1.f0) := (blk_cell BK7.out.blk 1).trans rfl; have zBK7_2 : w1.cell? ⟨g7, 2, none⟩ = some (.int .i64 l1[j].f1.f1) := (blk_cell BK7.out.blk 2).trans rfl; have zBK7_3 : w1.cell? ⟨g7, 3, none⟩ = some (.string l1[j].f2) := (blk_cell BK7.out.blk 3).trans rfl; have zBK7_4 : w1.cell? ⟨g7, 4, none⟩ = some (.string l1[j].f3) := (blk_cell BK7.out.blk 4).trans rfl))
          have KP : Aside0 (∀ w', Below w1.heap.size w1 w' → (w'.cell? ⟨g1, 0, none⟩ = some (.string a0) ∧ w'.cell? ⟨g1, 1, none⟩ = some (.slice (some ad) l1.length c1) ∧ w'.cell? ⟨g1, 2, none⟩ = some (.slice A2 l2.length c2) ∧ w'.cell? ⟨g1, 3, none⟩ = some (.string a3) ∧ w'.cell? ⟨g7, 0, none⟩ = some (.int .i64 l1[j].f0) ∧ w'.cell? ⟨g7, 1, none⟩ = some (.int .i64 l1[j].f1.f0) ∧ w'.cell? ⟨g7, 2, none⟩ = some (.int .i64 l1[j].f1.f1) ∧ w'.cell? ⟨g7, 3, none⟩ = some (.string l1[j].f2) ∧ w'.cell? ⟨g7, 4, none⟩ = some (.string l1[j].f3))) := Aside0.mk (fun w' hb => ⟨(blk_cell (BK1.out.below hb).blk 0).trans rfl, (blk_cell (BK1.out.below hb).blk 1).trans rfl, (blk_cell (BK1.out.below hb).blk 2).trans rfl, (blk_cell (BK1.out.below hb).blk 3).trans rfl, (blk_cell (BK7.out.below hb).blk 0).trans rfl, (blk_cell (BK7.out.below hb).blk 1).trans rfl, (blk_cell (BK7.out.below hb).blk 2).trans rfl, (blk_cell (BK7.out.below hb).blk 3).trans rfl, (blk_cell (BK7.out.below hb).blk 4).trans rfl⟩)
          clear zBK1_0 zBK1_1 zBK1_2 zBK1_3 zBK7_0 zBK7_1 zBK7_2 zBK7_3 zBK7_4
          refine Evt.ow_start (w0 := w1) (T := (true, [([], []), ([0], [0]), ([1], [1]), ([1], [1]), ([3, 1], [1, 3]), ([2, 4, 1, 1], [1, 2, 4]), ([1], [1]), ([6, 1], [1, 6]), ([5, 7, 5, 1], [1, 5, 7]), ([1, 8], [1, 8]), ([9, 8, 0, 1, 2, 3, 4, 5, 6, 7, 8, 9], [0, 9])])) (B := [0, 1, 3, 3, 11, 31, 3, 67, 255, 511, 1023]) 11 [(0, some 32), (1, some 33), (2, some 34), (3, some 35), (4, some 36), (5, some 37), (6, some 38), (7, some 39), (8, some 40), (9, some 41), (10, some 5)] (by kernel_rfl) rfl (by kernel_rfl) (by kernel_rfl) (by kernel_rfl) (by repeat (first | (with_reducible first | exact Below.refl _ _ | apply below_alloc | apply pw_below_drewN | apply below_drew1) | exact Below.refl _ _)) ?_
          intro HT_ HW_ w_ hHeld
          iterate 11 (first | (refine Evt.ow_off (a' := ?_) HT_ rfl rfl (by rfl) (by kernel_rfl) (fun _ _ _ h => h) ?_ ?_; rotate_left; (· (try simp only [Act.put, List.setIfInBounds_toArray, List.set_cons_zero, List.set_cons_succ, i64_w, i32_w]); rfl)) | (refine Evt.ow_pure (a' := ?_) (v := ?_) HT_ rfl rfl rfl (by rfl) (by kernel_rfl) (fun _ _ _ h => h) ?_ ?_ ?_; rotate_left 2; (· intro w'; go_simp; with_reducible rfl); (· (try simp only [Act.put, List.setIfInBounds_toArray, List.set_cons_zero, List.set_cons_succ, i64_w, i32_w]); rfl)) | (refine Evt.ow_load (a' := ?_) (v := ?_) HT_ HW_ hHeld rfl rfl rfl (by rfl) (by kernel_rfl) (fun _ _ _ h => h) ?_ ?_ ?_; rotate_left 2; (· intro w' hS_; obtain ⟨s0, s1, s2, s3, s4, s5, s6, s7, s8⟩ := KP.out w' hS_.out; go_simp; with_reducible rfl); (· (try simp only [Act.put, List.setIfInBounds_toArray, List.set_cons_zero, List.set_cons_succ, i64_w, i32_w]); rfl)))
          refine Evt.ow_done HT_ (by kernel_rfl) ?_
          refine Evt.gen_any (w0 := w1) hHeld.out ?_
          intro w2 hbx
          clear hHeld HT_ HW_ KP
          have n_R := Aside0.mk (R.out.below hbx)
          have n_BK1 := Aside0.mk (BK1.out.below hbx)
          have n_BK7 := Aside0.mk (BK7.out.below hbx)
          have n_HB := Aside0.mk (below_step HB.out hbx)
          clear HB R BK1 BK7
          have R := n_R
          have BK1 := n_BK1
          have BK7 := n_BK7
          have HB := n_HB
          clear hbx n_R n_BK1 n_BK7 n_HB
          have zBK1_0 : w2.cell? ⟨g1, 0, none⟩ = some (.string a0) := (blk_cell BK1.out.blk 0).trans rfl
          have zBK1_1 : w2.cell? ⟨g1, 1, none⟩ = some (.slice (some ad) l1.length c1) := (blk_cell BK1.out.blk 1).trans rfl
          have zBK1_2 : w2.cell? ⟨g1, 2, none⟩ = some (.slice A2 l2.length c2) := (blk_cell BK1.out.blk 2).trans rfl
          have zBK1_3 : w2.cell? ⟨g1, 3, none⟩ = some (.string a3) := (blk_cell BK1.out.blk 3).trans rfl
          have zBK7_0 : w2.cell? ⟨g7, 0, none⟩ = some (.int .i64 l1[j].f0) := (blk_cell BK7.out.blk 0).trans rfl
          have zBK7_1 : w2.cell? ⟨g7, 1, none⟩ = some (.int .i64 l1[j].f1.f0) := (blk_cell BK7.out.blk 1).trans rfl
          have zBK7_2 : w2.cell? ⟨g7, 2, none⟩ = some (.int .i64 l1[j].f1.f1) := (blk_cell BK7.out.blk 2).trans rfl
          have zBK7_3 : w2.cell? ⟨g7, 3, none⟩ = some (.string l1[j].f2) := (blk_cell BK7.out.blk 3).trans rfl
          have zBK7_4 : w2.cell? ⟨g7, 4, none⟩ = some (.string l1[j].f3) := (blk_cell BK7.out.blk 4).trans rfl
          go_wp2
          go_roundg k1
          case measure => omega
          case rel => exact ⟨j + 1, by go_num, by rw [CT.out]; rfl, ⟨by have := hj.out; omega⟩, ⟨below_step HR.out HB.out⟩⟩
          skip
        | false =>
          skip
          go_wp2_with (((with_reducible refine gate_dst (N := 7) rfl ?_); refine Evt.box2 ?hg (N := 7) ?hd (z := #[.int .i64 0, .int .i64 0, .int .i64 0, .string ⟨#[]⟩, .string ⟨#[]⟩]) (cs := #[.int .i64 l1[j].f0, .int .i64 l1[j].f1.f0, .int .i64 l1[j].f1.f1, .string l1[j].f2, .string l1[j].f3]) (T := 41) ?hr ?hg2 (.tmp 31) ?ho2 ?hd2 ?hy ?hx ?hi ?hz ?h1 ?_; (case hd => rfl); (case hg => rfl); (case hr => first | (go_simp; done) | (go_simp; rfl)); (case hg2 => rfl); (case ho2 => rfl); (case hd2 => rfl); (case hy => first | rfl | (go_simp; done)); (case hx => first | rfl | (go_simp; done)); (case hi => kernel_rfl); (case hz => rfl); (case h1 => first | rfl | (simp [Value.oneCell'])); intro g7 hg w1 hbox hb; have hbx : Below wr.heap.size wr w1 := below_step (by repeat (first | (with_reducible first | exact Below.refl _ _ | apply below_alloc | apply pw_below_drewN | apply below_drew1) | exact Below.refl _ _)) hb; clear zBK1_0 zBK1_1 zBK1_2 zBK1_3; have n_R := Aside0.mk (R.out.below hbx); have n_BK1 := Aside0.mk (BK1.out.below hbx); have n_HB := Aside0.mk (below_step HB.out hbx); clear HB R BK1; have R := n_R; have BK1 := n_BK1; have HB := n_HB; clear hbx n_R n_BK1 n_HB; have BK7 := Aside0.mk (Bk.mk (hbox : Blk w1 g7 41 #[.int .i64 l1[j].f0, .int .i64 l1[j].f1.f0, .int .i64 l1[j].f1.f1, .string l1[j].f2, .string l1[j].f3])); clear hbox hg hb; have zBK1_0 : w1.cell? ⟨g1, 0, none⟩ = some (.string a0) := (blk_cell BK1.out.blk 0).trans rfl; have zBK1_1 : w1.cell? ⟨g1, 1, none⟩ = some (.slice (some ad) l1.length c1) := (blk_cell BK1.out.blk 1).trans rfl; have zBK1_2 : w1.cell? ⟨g1, 2, none⟩ = some (.slice A2 l2.length c2) := (blk_cell BK1.out.blk 2).trans rfl; have zBK1_3 : w1.cell? ⟨g1, 3, none⟩ = some (.string a3) := (blk_cell BK1.out.blk 3).trans rfl; have zBK7_0 : w1.cell? ⟨g7, 0, none⟩ = some (.int .i64 l1[j].f0) := (blk_cell BK7.out.blk 0).trans rfl; have zBK7_1 : w1.cell? ⟨g7, 1, none⟩ = some (.int .i64 l1[j].f1.f0) := (blk_cell BK7.out.blk 1).trans rfl; have zBK7_2 : w1.cell? ⟨g7, 2, none⟩ = some (.int .i64 l1[j].f1.f1) := (blk_cell BK7.out.blk 2).trans rfl; have zBK7_3 : w1.cell? ⟨g7, 3, none⟩ = some (.string l1[j].f2) := (blk_cell BK7.out.blk 3).trans rfl; have zBK7_4 : w1.cell? ⟨g7, 4, none⟩ = some (.string l1[j].f3) := (blk_cell BK7.out.blk 4).trans rfl))
          have KP : Aside0 (∀ w', Below w1.heap.size w1 w' → (w'.cell? ⟨g1, 0, none⟩ = some (.string a0) ∧ w'.cell? ⟨g1, 1, none⟩ = some (.slice (some ad) l1.length c1) ∧ w'.cell? ⟨g1, 2, none⟩ = some (.slice A2 l2.length c2) ∧ w'.cell? ⟨g1, 3, none⟩ = some (.string a3) ∧ w'.cell? ⟨g7, 0, none⟩ = some (.int .i64 l1[j].f0) ∧ w'.cell? ⟨g7, 1, none⟩ = some (.int .i64 l1[j].f1.f0) ∧ w'.cell? ⟨g7, 2, none⟩ = some (.int .i64 l1[j].f1.f1) ∧ w'.cell? ⟨g7, 3, none⟩ = some (.string l1[j].f2) ∧ w'.cell? ⟨g7, 4, none⟩ = some (.string l1[j].f3))) := Aside0.mk (fun w' hb => ⟨(blk_cell (BK1.out.below hb).blk 0).trans rfl, (blk_cell (BK1.out.below hb).blk 1).trans rfl, (blk_cell (BK1.out.below hb).blk 2).trans rfl, (blk_cell (BK1.out.below hb).blk 3).trans rfl, (blk_cell (BK7.out.below hb).blk 0).trans rfl, (blk_cell (BK7.out.below hb).blk 1).trans rfl, (blk_cell (BK7.out.below hb).blk 2).trans rfl, (blk_cell (BK7.out.below hb).blk 3).trans rfl, (blk_cell (BK7.out.below hb).blk 4).trans rfl⟩)
          clear zBK1_0 zBK1_1 zBK1_2 zBK1_3 zBK7_0 zBK7_1 zBK7_2 zBK7_3 zBK7_4
          refine Evt.ow_start (w0 := w1) (T := (true, [([], []), ([0], [0]), ([1], [1]), ([1], [1]), ([3, 1], [1, 3]), ([2, 4, 1, 1], [1, 2, 4]), ([1], [1]), ([6, 1], [1, 6]), ([5, 7, 5, 1], [1, 5, 7]), ([1, 8], [1, 8]), ([9, 8, 0, 1, 2, 3, 4, 5, 6, 7, 8, 9], [0, 9])])) (B := [0, 1, 3, 3, 11, 31, 3, 67, 255, 511, 1023]) 11 [(0, some 32), (1, some 33), (3, some 35), (6, some 38), (2, some 34), (4, some 36), (7, some 39), (5, some 37), (8, some 40), (9, some 41), (10, some 5)] (by kernel_rfl) rfl (by kernel_rfl) (by kernel_rfl) (by kernel_rfl) (by repeat (first | (with_reducible first | exact Below.refl _ _ | apply below_alloc | apply pw_below_drewN | apply below_drew1) | exact Below.refl _ _)) ?_
          intro HT_ HW_ w_ hHeld
          iterate 7 (first | (refine Evt.ow_off (a' := ?_) HT_ rfl rfl (by rfl) (by kernel_rfl) (fun _ _ _ h => h) ?_ ?_; rotate_left; (· (try simp only [Act.put, List.setIfInBounds_toArray, List.set_cons_zero, List.set_cons_succ, i64_w, i32_w]); rfl)) | (refine Evt.ow_pure (a' := ?_) (v := ?_) HT_ rfl rfl rfl (by rfl) (by kernel_rfl) (fun _ _ _ h => h) ?_ ?_ ?_; rotate_left 2; (· intro w'; go_simp; with_reducible rfl); (· (try simp only [Act.put, List.setIfInBounds_toArray, List.set_cons_zero, List.set_cons_succ, i64_w, i32_w]); rfl)) | (refine Evt.ow_load (a' := ?_) (v := ?_) HT_ HW_ hHeld rfl rfl rfl (by rfl) (by kernel_rfl) (fun _ _ _ h => h) ?_ ?_ ?_; rotate_left 2; (· intro w' hS_; obtain ⟨s0, s1, s2, s3, s4, s5, s6, s7, s8⟩ := KP.out w' hS_.out; go_simp; with_reducible rfl); (· (try simp only [Act.put, List.setIfInBounds_toArray, List.set_cons_zero, List.set_cons_succ, i64_w, i32_w]); rfl)))
          refine Evt.ow_call HT_ hHeld rfl rfl rfl (by kernel_rfl) Try.func27 (by kernel_rfl) rfl #[.agg #[.string a0, .slice (some ad) l1.length c1, .slice A2 l2.length c2, .string a3], .string l1[j].f3] (by rfl) (by (try simp only [List.map_toArray, List.map_cons, List.map_nil]); first | done | rfl | (simp only [List.length_drop, List.length_take]; rfl)) ?_
          (with_reducible refine (reach_any _ (R.out.below hHeld.out) O12.out.ok l1[j].f3).mono ?_)
          rintro e w_ ⟨v, rfl, ho, hb⟩
          obtain ⟨X1, x1_, rfl, N1⟩ := Ro.sliceS ho; clear ho
          refine ⟨_, rfl, hb, fun hHeld_ => ?_⟩
          clear hHeld hb
          have hHeld := hHeld_
          clear hHeld_
          refine Evt.ow_norm (a' := ?_) ?_ ?_
          rotate_left
          · simp only [Act.put, List.setIfInBounds_toArray, List.set_cons_zero, List.set_cons_succ, i64_w, i32_w]; rfl
          refine Evt.ow_call HT_ hHeld rfl rfl rfl (by kernel_rfl) Try.func26 (by kernel_rfl) rfl #[.slice X1 (reachL (es l1) l1[j].f3).length x1_, .string l1[j].f2] (by rfl) (by (try simp only [List.map_toArray, List.map_cons, List.map_nil]); first | done | rfl | (simp only [List.length_drop, List.length_take]; rfl)) ?_
          (with_reducible refine (conS_b X1 x1_ _ l1[j].f2 _ N1.out LR.out hdd.out).mono ?_)
          rintro e w_ ⟨rfl, hb⟩
          refine ⟨_, rfl, hb, fun hHeld_ => ?_⟩
          clear hHeld hb
          have hHeld := hHeld_
          clear hHeld_
          refine Evt.ow_norm (a' := ?_) ?_ ?_
          rotate_left
          · simp only [Act.put, List.setIfInBounds_toArray, List.set_cons_zero, List.set_cons_succ, i64_w, i32_w]; rfl
          iterate 2 (first | (refine Evt.ow_off (a' := ?_) HT_ rfl rfl (by rfl) (by kernel_rfl) (fun _ _ _ h => h) ?_ ?_; rotate_left; (· (try simp only [Act.put, List.setIfInBounds_toArray, List.set_cons_zero, List.set_cons_succ, i64_w, i32_w]); rfl)) | (refine Evt.ow_pure (a' := ?_) (v := ?_) HT_ rfl rfl rfl (by rfl) (by kernel_rfl) (fun _ _ _ h => h) ?_ ?_ ?_; rotate_left 2; (· intro w'; go_simp; with_reducible rfl); (· (try simp only [Act.put, List.setIfInBounds_toArray, List.set_cons_zero, List.set_cons_succ, i64_w, i32_w]); rfl)) | (refine Evt.ow_load (a' := ?_) (v := ?_) HT_ HW_ hHeld rfl rfl rfl (by rfl) (by kernel_rfl) (fun _ _ _ h => h) ?_ ?_ ?_; rotate_left 2; (· intro w' hS_; obtain ⟨s0, s1, s2, s3, s4, s5, s6, s7, s8⟩ := KP.out w' hS_.out; go_simp; with_reducible rfl); (· (try simp only [Act.put, List.setIfInBounds_toArray, List.set_cons_zero, List.set_cons_succ, i64_w, i32_w]); rfl)))
          refine Evt.ow_done HT_ (by kernel_rfl) ?_
          refine Evt.gen_any (w0 := w1) hHeld.out ?_
          intro w2 hbx
          clear hHeld HT_ HW_ KP
          have n_R := Aside0.mk (R.out.below hbx)
          have n_BK1 := Aside0.mk (BK1.out.below hbx)
          have n_BK7 := Aside0.mk (BK7.out.below hbx)
          have n_HB := Aside0.mk (below_step HB.out hbx)
          clear HB R BK1 BK7
          have R := n_R
          have BK1 := n_BK1
          have BK7 := n_BK7
          have HB := n_HB
          clear hbx n_R n_BK1 n_BK7 n_HB
          have zBK1_0 : w2.cell? ⟨g1, 0, none⟩ = some (.string a0) := (blk_cell BK1.out.blk 0).trans rfl
          have zBK1_1 : w2.cell? ⟨g1, 1, none⟩ = some (.slice (some ad) l1.length c1) := (blk_cell BK1.out.blk 1).trans rfl
          have zBK1_2 : w2.cell? ⟨g1, 2, none⟩ = some (.slice A2 l2.length c2) := (blk_cell BK1.out.blk 2).trans rfl
          have zBK1_3 : w2.cell? ⟨g1, 3, none⟩ = some (.string a3) := (blk_cell BK1.out.blk 3).trans rfl
          have zBK7_0 : w2.cell? ⟨g7, 0, none⟩ = some (.int .i64 l1[j].f0) := (blk_cell BK7.out.blk 0).trans rfl
          have zBK7_1 : w2.cell? ⟨g7, 1, none⟩ = some (.int .i64 l1[j].f1.f0) := (blk_cell BK7.out.blk 1).trans rfl
          have zBK7_2 : w2.cell? ⟨g7, 2, none⟩ = some (.int .i64 l1[j].f1.f1) := (blk_cell BK7.out.blk 2).trans rfl
          have zBK7_3 : w2.cell? ⟨g7, 3, none⟩ = some (.string l1[j].f2) := (blk_cell BK7.out.blk 3).trans rfl
          have zBK7_4 : w2.cell? ⟨g7, 4, none⟩ = some (.string l1[j].f3) := (blk_cell BK7.out.blk 4).trans rfl
          go_wp2
          go_roundg k1
          case measure => omega
          case rel => exact ⟨j + 1, by go_num, by rw [CT.out]; rfl, ⟨by have := hj.out; omega⟩, ⟨below_step HR.out HB.out⟩⟩
          skip
      | zero =>
        have e0 : j = l1.length := by have := hj.out; omega
        have q0 : decide (j < l1.length) = false := decide_eq_false (by omega)
        have q1 : decide ((j : Int) < (l1.length : Int)) = false := decide_eq_false (by omega)
        rw [show comesL (es l1) ((es l1).take j) = true by rw [List.take_of_length_le (by rw [es_len, e0]; exact Nat.le_refl _)]; exact comes_some TT.out]
        clear e0 hj
        have HB := Aside0.mk (Below.refl wr.heap.size wr)
        go_wp2_with (((with_reducible refine gate_callee (f := 16) rfl ?_); refine goesL_ (some 45) rfl rfl Try.func16 (by kernel_rfl) rfl #[] rfl (by (try simp only [List.map_toArray, List.map_cons, List.map_nil]); first | done | rfl | (simp only [List.length_drop, List.length_take]; rfl)) ?_; (with_reducible refine (alive_any _).mono ?_); rintro e w1 ⟨rfl, hb⟩; have hbx : Below wr.heap.size wr w1 := below_step (by repeat (first | (with_reducible first | exact Below.refl _ _ | apply below_alloc | apply pw_below_drewN | apply below_drew1) | exact Below.refl _ _)) hb; have n_HB := Aside0.mk (below_step HB.out hbx); clear HB ; have HB := n_HB; clear hbx n_HB; clear hb; refine ⟨_, rfl, ?_⟩))
        go_ret
        exact ⟨rfl, below_step HB3.out (below_step HR.out HB.out)⟩
/-- The places so far. -/
def pAt (r : List ByteArray) (j : Nat) (x : ByteArray) : Option Int := if x ∈ r.take j then some (posL r x : Int) else none
theorem pAt_succ {r : List ByteArray} (hd : r.Nodup) {j : Nat} (hj : j < r.length) (x : ByteArray) : (if x = r[j] then some (j : Int) else pAt r j x) = pAt r (j + 1) x := by
  have hm : x ∈ r.take (j + 1) ↔ x ∈ r.take j ∨ x = r[j] := by rw [List.take_succ_eq_append_getElem hj, List.mem_append, List.mem_singleton]
  unfold pAt
  by_cases e : x = r[j]
  · rw [if_pos e, if_pos (hm.2 (.inr e)), e, posL_at hd hj]
  · rw [if_neg e]
    by_cases h1 : x ∈ r.take j
    · rw [if_pos h1, if_pos (hm.2 (.inl h1))]
    · rw [if_neg h1, if_neg (fun h => (hm.1 h).elim h1 e)]
theorem pAt_new {r : List ByteArray} (hd : r.Nodup) {j : Nat} (hj : j < r.length) : pAt r j r[j] = none := by
  unfold pAt
  rw [if_neg]
  intro h
  obtain ⟨i, hi, e⟩ := List.getElem_of_mem h
  rw [List.length_take] at hi
  rw [List.getElem_take] at e
  exact (List.pairwise_iff_getElem.1 hd) i j (by omega) hj (by omega) e
theorem pAt_all {r : List ByteArray} {x : ByteArray} (hx : x ∈ r) : pAt r r.length x = some (posL r x : Int) := by
  unfold pAt
  rw [List.take_length, if_pos hx]
theorem topo_some (w : World) (h : Rg w A1 c1 l1 A2 c2 l2) (hok : okG (es l1) = true) {r : List ByteArray} (ho : topo (es l1) = some r) : Calls Try.prog 25 #[.agg #[.string a0, .slice A1 l1.length c1, .slice A2 l2.length c2, .string a3]] w fun e w' => ∃ v, e = .returned (.tuple #[v, .int .i64 0]) ∧ Ro Kd.string 9 w w' v r ∧ Below w.heap.size w w' := topo_any' w h hok ho
set_option maxHeartbeats 8000000 in
theorem gt_some (w : World) (h : Rg w A1 c1 l1 A2 c2 l2) (hz : SzR l1) (hb : tl (es l1) ≤ 0) {r : List ByteArray} (ht : topo (es l1) = some r) : Calls Try.prog 4 #[.agg #[.string a0, .slice A1 l1.length c1, .slice A2 l2.length c2, .string a3]] w fun x w' => x = .returned (.bool true) ∧ Below w.heap.size w w' := by
    have SZ := Aside0.mk hz
    have O12 := Aside0.mk (Ok12.of hb)
    have TL := Aside0.mk (tl_0 hb)
    have TT := Aside0.mk ht
    have LN : l1.length ≤ 1000 := by have := O12.out.ln; omega
    have RO := Aside0.mk (topo_ord ht)
    have RL := Aside0.mk (topo_ord ht).2
    have LNL : (nodesL (es l1)).length ≤ 200 := O12.out.nl
    have LNL1 : Aside0 ((nodesL (es l1)).length ≤ 1000000) := ⟨by omega⟩
    have HB := Aside0.mk (Below.refl w.heap.size w)
    have R := Aside0.mk (h)
    clear h hz hb ht
    go_enter Try.func4, Try.ntmps4
    go_wp2_with (first | ((with_reducible refine gate_dst (N := 1) rfl ?_); refine box_event ?hg (N := 1) ?hd (cs := #[.string a0, .slice A1 l1.length c1, .slice A2 l2.length c2, .string a3]) (t := 25) ?hr ?_; (case hd => rfl); (case hg => rfl); (case hr => first | (go_simp; done) | (go_simp; rfl)); intro g1 hg w1 hbox hb; have hbx : Below w.heap.size w w1 := below_step (by repeat (first | (with_reducible first | exact Below.refl _ _ | apply below_alloc | apply pw_below_drewN | apply below_drew1) | exact Below.refl _ _)) hb; have n_R := Aside0.mk (R.out.below hbx); have n_HB := Aside0.mk (below_step HB.out hbx); clear HB R; have R := n_R; have HB := n_HB; clear hbx n_R n_HB; have BK1 := Aside0.mk (Bk.mk (hbox : Blk w1 g1 25 #[.string a0, .slice A1 l1.length c1, .slice A2 l2.length c2, .string a3])); clear hbox hg hb; have zBK1_0 : w1.cell? ⟨g1, 0, none⟩ = some (.string a0) := (blk_cell BK1.out.blk 0).trans rfl; have zBK1_1 : w1.cell? ⟨g1, 1, none⟩ = some (.slice A1 l1.length c1) := (blk_cell BK1.out.blk 1).trans rfl; have zBK1_2 : w1.cell? ⟨g1, 2, none⟩ = some (.slice A2 l2.length c2) := (blk_cell BK1.out.blk 2).trans rfl; have zBK1_3 : w1.cell? ⟨g1, 3, none⟩ = some (.string a3) := (blk_cell BK1.out.blk 3).trans rfl) | ((with_reducible refine gate_callee (f := 15) rfl ?_); refine goesL_ (some 17) rfl rfl Try.func15 (by kernel_rfl) rfl #[.agg #[.string a0, .slice A1 l1.length c1, .slice A2 l2.length c2, .string a3]] rfl (by (try simp only [List.map_toArray, List.map_cons, List.map_nil]); first | done | rfl | (simp only [List.length_drop, List.length_take]; rfl)) ?_; (with_reducible refine (Pe.tl_any _ (R.out.below (by repeat (first | (with_reducible first | exact Below.refl _ _ | apply below_alloc | apply pw_below_drewN | apply below_drew1) | exact Below.refl _ _))) SZ.out TL.out).mono ?_); rintro e w2 ⟨rfl, hb⟩; have hbx : Below w1.heap.size w1 w2 := below_step (by repeat (first | (with_reducible first | exact Below.refl _ _ | apply below_alloc | apply pw_below_drewN | apply below_drew1) | exact Below.refl _ _)) hb; clear zBK1_0 zBK1_1 zBK1_2 zBK1_3; have n_R := Aside0.mk (R.out.below hbx); have n_BK1 := Aside0.mk (BK1.out.below hbx); have n_HB := Aside0.mk (below_step HB.out hbx); clear HB R BK1; have R := n_R; have BK1 := n_BK1; have HB := n_HB; clear hbx n_R n_BK1 n_HB; clear hb; have zBK1_0 : w2.cell? ⟨g1, 0, none⟩ = some (.string a0) := (blk_cell BK1.out.blk 0).trans rfl; have zBK1_1 : w2.cell? ⟨g1, 1, none⟩ = some (.slice A1 l1.length c1) := (blk_cell BK1.out.blk 1).trans rfl; have zBK1_2 : w2.cell? ⟨g1, 2, none⟩ = some (.slice A2 l2.length c2) := (blk_cell BK1.out.blk 2).trans rfl; have zBK1_3 : w2.cell? ⟨g1, 3, none⟩ = some (.string a3) := (blk_cell BK1.out.blk 3).trans rfl; refine ⟨_, rfl, ?_⟩) | ((with_reducible refine gate_callee (f := 25) rfl ?_); refine goesL_ (some 22) rfl rfl Try.func25 (by kernel_rfl) rfl #[.agg #[.string a0, .slice A1 l1.length c1, .slice A2 l2.length c2, .string a3]] rfl (by (try simp only [List.map_toArray, List.map_cons, List.map_nil]); first | done | rfl | (simp only [List.length_drop, List.length_take]; rfl)) ?_; (with_reducible refine (topo_some _ (R.out.below (by repeat (first | (with_reducible first | exact Below.refl _ _ | apply below_alloc | apply pw_below_drewN | apply below_drew1) | exact Below.refl _ _))) O12.out.ok TT.out).mono ?_); rintro e w3 ⟨v, rfl, ho, hb⟩; have hbx : Below w2.heap.size w2 w3 := below_step (by repeat (first | (with_reducible first | exact Below.refl _ _ | apply below_alloc | apply pw_below_drewN | apply below_drew1) | exact Below.refl _ _)) hb; obtain ⟨Y1, y1, rfl, hw_⟩ := Ro.sliceS ho; clear zBK1_0 zBK1_1 zBK1_2 zBK1_3; have n_R := Aside0.mk (R.out.below hbx); have n_BK1 := Aside0.mk (BK1.out.below hbx); have n_HB := Aside0.mk (below_step HB.out hbx); clear HB R BK1; have R := n_R; have BK1 := n_BK1; have HB := n_HB; clear hbx n_R n_BK1 n_HB; have TW := Aside0.mk (hw_.out); clear hb; clear ho hw_; have zBK1_0 : w3.cell? ⟨g1, 0, none⟩ = some (.string a0) := (blk_cell BK1.out.blk 0).trans rfl; have zBK1_1 : w3.cell? ⟨g1, 1, none⟩ = some (.slice A1 l1.length c1) := (blk_cell BK1.out.blk 1).trans rfl; have zBK1_2 : w3.cell? ⟨g1, 2, none⟩ = some (.slice A2 l2.length c2) := (blk_cell BK1.out.blk 2).trans rfl; have zBK1_3 : w3.cell? ⟨g1, 3, none⟩ = some (.string a3) := (blk_cell BK1.out.blk 3).trans rfl; refine ⟨_, rfl, ?_⟩))
    have HB3 := HB
    have R3 := R
    have B3 := BK1
    have T3 := TW
    clear HB R BK1 TW zBK1_0 zBK1_1 zBK1_2 zBK1_3
    go_loopg [5, 28] l1.length (fun kq v5 v28 wr => ∃ j : Nat, v28 = .int .i64 j ∧ v5 = .bool (comesL (es l1) ((es l1).take j)) ∧ Aside0 (j + kq = l1.length) ∧ Aside0 (Below w3.heap.size w3 wr))
    case atStart => exact ⟨0, rfl, rfl, ⟨by omega⟩, ⟨Below.refl _ _⟩⟩
    case round =>
      obtain ⟨j, rfl, rfl, hj, HR⟩ := hrel
      cases gk with
      | succ k1 =>
        have hjl : j < l1.length := by have := hj.out; omega
        have q0 : decide (j < l1.length) = true := decide_eq_true hjl
        have q1 : decide ((j : Int) < (l1.length : Int)) = true := decide_eq_true (by omega)
        obtain ⟨ad, rfl, x0, x1, x2, x3, x4⟩ := (R3.out.below HR.out).at hjl
        have CT := Aside0.mk (comes_take (l := es l1) (j := j) (by rw [es_len]; exact hjl))
        rw [es_get hjl] at CT
        obtain ⟨cc, hcc⟩ : ∃ cc, Aside0 (comesL (es l1) ((es l1).take j) = cc) := ⟨_, ⟨rfl⟩⟩
        obtain ⟨dd, hdd⟩ : ∃ dd, Aside0 (decide (l1[j].f2 ∈ reachL (es l1) l1[j].f3) = dd) := ⟨_, ⟨rfl⟩⟩
        have LR : Aside0 ((reachL (es l1) l1[j].f3).length ≤ 1000000) := ⟨by have := gath_len (es l1) (sucL (es l1)) l1[j].f3; have := O12.out.nl; unfold reachL; omega⟩
        rw [hcc.out] at CT ⊢
        have hddo := hdd.out
        rw [show decide ((l1[j].f2, l1[j].f3).1 ∈ reachL (es l1) (l1[j].f2, l1[j].f3).2) = dd from hddo] at CT
        clear hddo
        have HB := Aside0.mk (Below.refl wr.heap.size wr)
        have R := Aside0.mk (R3.out.below HR.out)
        have BK1 : Aside0 (Bk wr g1 25 #[.string a0, .slice (some ad) l1.length c1, .slice A2 l2.length c2, .string a3]) := Aside0.mk (B3.out.below HR.out)
        have zBK1_0 : wr.cell? ⟨g1, 0, none⟩ = some (.string a0) := (blk_cell BK1.out.blk 0).trans rfl
        have zBK1_1 : wr.cell? ⟨g1, 1, none⟩ = some (.slice (some ad) l1.length c1) := (blk_cell BK1.out.blk 1).trans rfl
        have zBK1_2 : wr.cell? ⟨g1, 2, none⟩ = some (.slice A2 l2.length c2) := (blk_cell BK1.out.blk 2).trans rfl
        have zBK1_3 : wr.cell? ⟨g1, 3, none⟩ = some (.string a3) := (blk_cell BK1.out.blk 3).trans rfl
        cases cc with
        | true =>
          skip
          go_wp2_with (((with_reducible refine gate_dst (N := 7) rfl ?_); refine Evt.box2 ?hg (N := 7) ?hd (z := #[.int .i64 0, .int .i64 0, .int .i64 0, .string ⟨#[]⟩, .string ⟨#[]⟩]) (cs := #[.int .i64 l1[j].f0, .int .i64 l1[j].f1.f0, .int .i64 l1[j].f1.f1, .string l1[j].f2, .string l1[j].f3]) (T := 41) ?hr ?hg2 (.tmp 31) ?ho2 ?hd2 ?hy ?hx ?hi ?hz ?h1 ?_; (case hd => rfl); (case hg => rfl); (case hr => first | (go_simp; done) | (go_simp; rfl)); (case hg2 => rfl); (case ho2 => rfl); (case hd2 => rfl); (case hy => first | rfl | (go_simp; done)); (case hx => first | rfl | (go_simp; done)); (case hi => kernel_rfl); (case hz => rfl); (case h1 => first | rfl | (simp [Value.oneCell'])); intro g7 hg w1 hbox hb; have hbx : Below wr.heap.size wr w1 := below_step (by repeat (first | (with_reducible first | exact Below.refl _ _ | apply below_alloc | apply pw_below_drewN | apply below_drew1) | exact Below.refl _ _)) hb; clear zBK1_0 zBK1_1 zBK1_2 zBK1_3; have n_R := Aside0.mk (R.out.below hbx); have n_BK1 := Aside0.mk (BK1.out.below hbx); have n_HB := Aside0.mk (below_step HB.out hbx); clear HB R BK1; have R := n_R; have BK1 := n_BK1; have HB := n_HB; clear hbx n_R n_BK1 n_HB; have BK7 := Aside0.mk (Bk.mk (hbox : Blk w1 g7 41 #[.int .i64 l1[j].f0, .int .i64 l1[j].f1.f0, .int .i64 l1[j].f1.f1, .string l1[j].f2, .string l1[j].f3])); clear hbox hg hb; have zBK1_0 : w1.cell? ⟨g1, 0, none⟩ = some (.string a0) := (blk_cell BK1.out.blk 0).trans rfl; have zBK1_1 : w1.cell? ⟨g1, 1, none⟩ = some (.slice (some ad) l1.length c1) := (blk_cell BK1.out.blk 1).trans rfl; have zBK1_2 : w1.cell? ⟨g1, 2, none⟩ = some (.slice A2 l2.length c2) := (blk_cell BK1.out.blk 2).trans rfl; have zBK1_3 : w1.cell? ⟨g1, 3, none⟩ = some (.string a3) := (blk_cell BK1.out.blk 3).trans rfl; have zBK7_0 : w1.cell? ⟨g7, 0, none⟩ = some (.int .i64 l1[j].f0) := (blk_cell BK7.out.blk 0).trans rfl; have zBK7_1 : w1.cell? ⟨g7, 1, none⟩ = some (.int .i64 l1[j].f1.f0) := (blk_cell BK7.out.blk 1).trans rfl; have zBK7_2 : w1.cell? ⟨g7, 2, none⟩ = some (.int .i64 l1[j].f1.f1) := (blk_cell BK7.out.blk 2).trans rfl; have zBK7_3 : w1.cell? ⟨g7, 3, none⟩ = some (.string l1[j].f2) := (blk_cell BK7.out.blk 3).trans rfl; have zBK7_4 : w1.cell? ⟨g7, 4, none⟩ = some (.string l1[j].f3) := (blk_cell BK7.out.blk 4).trans rfl))
          have KP : Aside0 (∀ w', Below w1.heap.size w1 w' → (w'.cell? ⟨g1, 0, none⟩ = some (.string a0) ∧ w'.cell? ⟨g1, 1, none⟩ = some (.slice (some ad) l1.length c1) ∧ w'.cell? ⟨g1, 2, none⟩ = some (.slice A2 l2.length c2) ∧ w'.cell? ⟨g1, 3, none⟩ = some (.string a3) ∧ w'.cell? ⟨g7, 0, none⟩ = some (.int .i64 l1[j].f0) ∧ w'.cell? ⟨g7, 1, none⟩ = some (.int .i64 l1[j].f1.f0) ∧ w'.cell? ⟨g7, 2, none⟩ = some (.int .i64 l1[j].f1.f1) ∧ w'.cell? ⟨g7, 3, none⟩ = some (.string l1[j].f2) ∧ w'.cell? ⟨g7, 4, none⟩ = some (.string l1[j].f3))) := Aside0.mk (fun w' hb => ⟨(blk_cell (BK1.out.below hb).blk 0).trans rfl, (blk_cell (BK1.out.below hb).blk 1).trans rfl, (blk_cell (BK1.out.below hb).blk 2).trans rfl, (blk_cell (BK1.out.below hb).blk 3).trans rfl, (blk_cell (BK7.out.below hb).blk 0).trans rfl, (blk_cell (BK7.out.below hb).blk 1).trans rfl, (blk_cell (BK7.out.below hb).blk 2).trans rfl, (blk_cell (BK7.out.below hb).blk 3).trans rfl, (blk_cell (BK7.out.below hb).blk 4).trans rfl⟩)
          clear zBK1_0 zBK1_1 zBK1_2 zBK1_3 zBK7_0 zBK7_1 zBK7_2 zBK7_3 zBK7_4
          refine Evt.ow_start (w0 := w1) (T := (true, [([], []), ([0], [0]), ([1], [1]), ([1], [1]), ([3, 1], [1, 3]), ([2, 4, 1, 1], [1, 2, 4]), ([1], [1]), ([6, 1], [1, 6]), ([5, 7, 5, 1], [1, 5, 7]), ([1, 8], [1, 8]), ([9, 8, 0, 1, 2, 3, 4, 5, 6, 7, 8, 9], [0, 9])])) (B := [0, 1, 3, 3, 11, 31, 3, 67, 255, 511, 1023]) 11 [(0, some 32), (1, some 33), (2, some 34), (3, some 35), (4, some 36), (5, some 37), (6, some 38), (7, some 39), (8, some 40), (9, some 41), (10, some 5)] (by kernel_rfl) rfl (by kernel_rfl) (by kernel_rfl) (by kernel_rfl) (by repeat (first | (with_reducible first | exact Below.refl _ _ | apply below_alloc | apply pw_below_drewN | apply below_drew1) | exact Below.refl _ _)) ?_
          intro HT_ HW_ w_ hHeld
          iterate 11 (first | (refine Evt.ow_off (a' := ?_) HT_ rfl rfl (by rfl) (by kernel_rfl) (fun _ _ _ h => h) ?_ ?_; rotate_left; (· (try simp only [Act.put, List.setIfInBounds_toArray, List.set_cons_zero, List.set_cons_succ, i64_w, i32_w]); rfl)) | (refine Evt.ow_pure (a' := ?_) (v := ?_) HT_ rfl rfl rfl (by rfl) (by kernel_rfl) (fun _ _ _ h => h) ?_ ?_ ?_; rotate_left 2; (· intro w'; go_simp; with_reducible rfl); (· (try simp only [Act.put, List.setIfInBounds_toArray, List.set_cons_zero, List.set_cons_succ, i64_w, i32_w]); rfl)) | (refine Evt.ow_load (a' := ?_) (v := ?_) HT_ HW_ hHeld rfl rfl rfl (by rfl) (by kernel_rfl) (fun _ _ _ h => h) ?_ ?_ ?_; rotate_left 2; (· intro w' hS_; obtain ⟨s0, s1, s2, s3, s4, s5, s6, s7, s8⟩ := KP.out w' hS_.out; go_simp; with_reducible rfl); (· (try simp only [Act.put, List.setIfInBounds_toArray, List.set_cons_zero, List.set_cons_succ, i64_w, i32_w]); rfl)))
          refine Evt.ow_done HT_ (by kernel_rfl) ?_
          refine Evt.gen_any (w0 := w1) hHeld.out ?_
          intro w2 hbx
          clear hHeld HT_ HW_ KP
          have n_R := Aside0.mk (R.out.below hbx)
          have n_BK1 := Aside0.mk (BK1.out.below hbx)
          have n_BK7 := Aside0.mk (BK7.out.below hbx)
          have n_HB := Aside0.mk (below_step HB.out hbx)
          clear HB R BK1 BK7
          have R := n_R
          have BK1 := n_BK1
          have BK7 := n_BK7
          have HB := n_HB
          clear hbx n_R n_BK1 n_BK7 n_HB
          have zBK1_0 : w2.cell? ⟨g1, 0, none⟩ = some (.string a0) := (blk_cell BK1.out.blk 0).trans rfl
          have zBK1_1 : w2.cell? ⟨g1, 1, none⟩ = some (.slice (some ad) l1.length c1) := (blk_cell BK1.out.blk 1).trans rfl
          have zBK1_2 : w2.cell? ⟨g1, 2, none⟩ = some (.slice A2 l2.length c2) := (blk_cell BK1.out.blk 2).trans rfl
          have zBK1_3 : w2.cell? ⟨g1, 3, none⟩ = some (.string a3) := (blk_cell BK1.out.blk 3).trans rfl
          have zBK7_0 : w2.cell? ⟨g7, 0, none⟩ = some (.int .i64 l1[j].f0) := (blk_cell BK7.out.blk 0).trans rfl
          have zBK7_1 : w2.cell? ⟨g7, 1, none⟩ = some (.int .i64 l1[j].f1.f0) := (blk_cell BK7.out.blk 1).trans rfl
          have zBK7_2 : w2.cell? ⟨g7, 2, none⟩ = some (.int .i64 l1[j].f1.f1) := (blk_cell BK7.out.blk 2).trans rfl
          have zBK7_3 : w2.cell? ⟨g7, 3, none⟩ = some (.string l1[j].f2) := (blk_cell BK7.out.blk 3).trans rfl
          have zBK7_4 : w2.cell? ⟨g7, 4, none⟩ = some (.string l1[j].f3) := (blk_cell BK7.out.blk 4).trans rfl
          go_wp2
          go_roundg k1
          case measure => omega
          case rel => exact ⟨j + 1, by go_num, by rw [CT.out]; rfl, ⟨by have := hj.out; omega⟩, ⟨below_step HR.out HB.out⟩⟩
          skip
        | false =>
          skip
          go_wp2_with (((with_reducible refine gate_dst (N := 7) rfl ?_); refine Evt.box2 ?hg (N := 7) ?hd (z := #[.int .i64 0, .int .i64 0, .int .i64 0, .string ⟨#[]⟩, .string ⟨#[]⟩]) (cs := #[.int .i64 l1[j].f0, .int .i64 l1[j].f1.f0, .int .i64 l1[j].f1.f1, .string l1[j].f2, .string l1[j].f3]) (T := 41) ?hr ?hg2 (.tmp 31) ?ho2 ?hd2 ?hy ?hx ?hi ?hz ?h1 ?_; (case hd => rfl); (case hg => rfl); (case hr => first | (go_simp; done) | (go_simp; rfl)); (case hg2 => rfl); (case ho2 => rfl); (case hd2 => rfl); (case hy => first | rfl | (go_simp; done)); (case hx => first | rfl | (go_simp; done)); (case hi => kernel_rfl); (case hz => rfl); (case h1 => first | rfl | (simp [Value.oneCell'])); intro g7 hg w1 hbox hb; have hbx : Below wr.heap.size wr w1 := below_step (by repeat (first | (with_reducible first | exact Below.refl _ _ | apply below_alloc | apply pw_below_drewN | apply below_drew1) | exact Below.refl _ _)) hb; clear zBK1_0 zBK1_1 zBK1_2 zBK1_3; have n_R := Aside0.mk (R.out.below hbx); have n_BK1 := Aside0.mk (BK1.out.below hbx); have n_HB := Aside0.mk (below_step HB.out hbx); clear HB R BK1; have R := n_R; have BK1 := n_BK1; have HB := n_HB; clear hbx n_R n_BK1 n_HB; have BK7 := Aside0.mk (Bk.mk (hbox : Blk w1 g7 41 #[.int .i64 l1[j].f0, .int .i64 l1[j].f1.f0, .int .i64 l1[j].f1.f1, .string l1[j].f2, .string l1[j].f3])); clear hbox hg hb; have zBK1_0 : w1.cell? ⟨g1, 0, none⟩ = some (.string a0) := (blk_cell BK1.out.blk 0).trans rfl; have zBK1_1 : w1.cell? ⟨g1, 1, none⟩ = some (.slice (some ad) l1.length c1) := (blk_cell BK1.out.blk 1).trans rfl; have zBK1_2 : w1.cell? ⟨g1, 2, none⟩ = some (.slice A2 l2.length c2) := (blk_cell BK1.out.blk 2).trans rfl; have zBK1_3 : w1.cell? ⟨g1, 3, none⟩ = some (.string a3) := (blk_cell BK1.out.blk 3).trans rfl; have zBK7_0 : w1.cell? ⟨g7, 0, none⟩ = some (.int .i64 l1[j].f0) := (blk_cell BK7.out.blk 0).trans rfl; have zBK7_1 : w1.cell? ⟨g7, 1, none⟩ = some (.int .i64 l1[j].f1.f0) := (blk_cell BK7.out.blk 1).trans rfl; have zBK7_2 : w1.cell? ⟨g7, 2, none⟩ = some (.int .i64 l1[j].f1.f1) := (blk_cell BK7.out.blk 2).trans rfl; have zBK7_3 : w1.cell? ⟨g7, 3, none⟩ = some (.string l1[j].f2) := (blk_cell BK7.out.blk 3).trans rfl; have zBK7_4 : w1.cell? ⟨g7, 4, none⟩ = some (.string l1[j].f3) := (blk_cell BK7.out.blk 4).trans rfl))
          have KP : Aside0 (∀ w', Below w1.heap.size w1 w' → (w'.cell? ⟨g1, 0, none⟩ = some (.string a0) ∧ w'.cell? ⟨g1, 1, none⟩ = some (.slice (some ad) l1.length c1) ∧ w'.cell? ⟨g1, 2, none⟩ = some (.slice A2 l2.length c2) ∧ w'.cell? ⟨g1, 3, none⟩ = some (.string a3) ∧ w'.cell? ⟨g7, 0, none⟩ = some (.int .i64 l1[j].f0) ∧ w'.cell? ⟨g7, 1, none⟩ = some (.int .i64 l1[j].f1.f0) ∧ w'.cell? ⟨g7, 2, none⟩ = some (.int .i64 l1[j].f1.f1) ∧ w'.cell? ⟨g7, 3, none⟩ = some (.string l1[j].f2) ∧ w'.cell? ⟨g7, 4, none⟩ = some (.string l1[j].f3))) := Aside0.mk (fun w' hb => ⟨(blk_cell (BK1.out.below hb).blk 0).trans rfl, (blk_cell (BK1.out.below hb).blk 1).trans rfl, (blk_cell (BK1.out.below hb).blk 2).trans rfl, (blk_cell (BK1.out.below hb).blk 3).trans rfl, (blk_cell (BK7.out.below hb).blk 0).trans rfl, (blk_cell (BK7.out.below hb).blk 1).trans rfl, (blk_cell (BK7.out.below hb).blk 2).trans rfl, (blk_cell (BK7.out.below hb).blk 3).trans rfl, (blk_cell (BK7.out.below hb).blk 4).trans rfl⟩)
          clear zBK1_0 zBK1_1 zBK1_2 zBK1_3 zBK7_0 zBK7_1 zBK7_2 zBK7_3 zBK7_4
          refine Evt.ow_start (w0 := w1) (T := (true, [([], []), ([0], [0]), ([1], [1]), ([1], [1]), ([3, 1], [1, 3]), ([2, 4, 1, 1], [1, 2, 4]), ([1], [1]), ([6, 1], [1, 6]), ([5, 7, 5, 1], [1, 5, 7]), ([1, 8], [1, 8]), ([9, 8, 0, 1, 2, 3, 4, 5, 6, 7, 8, 9], [0, 9])])) (B := [0, 1, 3, 3, 11, 31, 3, 67, 255, 511, 1023]) 11 [(0, some 32), (1, some 33), (3, some 35), (6, some 38), (2, some 34), (4, some 36), (7, some 39), (5, some 37), (8, some 40), (9, some 41), (10, some 5)] (by kernel_rfl) rfl (by kernel_rfl) (by kernel_rfl) (by kernel_rfl) (by repeat (first | (with_reducible first | exact Below.refl _ _ | apply below_alloc | apply pw_below_drewN | apply below_drew1) | exact Below.refl _ _)) ?_
          intro HT_ HW_ w_ hHeld
          iterate 7 (first | (refine Evt.ow_off (a' := ?_) HT_ rfl rfl (by rfl) (by kernel_rfl) (fun _ _ _ h => h) ?_ ?_; rotate_left; (· (try simp only [Act.put, List.setIfInBounds_toArray, List.set_cons_zero, List.set_cons_succ, i64_w, i32_w]); rfl)) | (refine Evt.ow_pure (a' := ?_) (v := ?_) HT_ rfl rfl rfl (by rfl) (by kernel_rfl) (fun _ _ _ h => h) ?_ ?_ ?_; rotate_left 2; (· intro w'; go_simp; with_reducible rfl); (· (try simp only [Act.put, List.setIfInBounds_toArray, List.set_cons_zero, List.set_cons_succ, i64_w, i32_w]); rfl)) | (refine Evt.ow_load (a' := ?_) (v := ?_) HT_ HW_ hHeld rfl rfl rfl (by rfl) (by kernel_rfl) (fun _ _ _ h => h) ?_ ?_ ?_; rotate_left 2; (· intro w' hS_; obtain ⟨s0, s1, s2, s3, s4, s5, s6, s7, s8⟩ := KP.out w' hS_.out; go_simp; with_reducible rfl); (· (try simp only [Act.put, List.setIfInBounds_toArray, List.set_cons_zero, List.set_cons_succ, i64_w, i32_w]); rfl)))
          refine Evt.ow_call HT_ hHeld rfl rfl rfl (by kernel_rfl) Try.func27 (by kernel_rfl) rfl #[.agg #[.string a0, .slice (some ad) l1.length c1, .slice A2 l2.length c2, .string a3], .string l1[j].f3] (by rfl) (by (try simp only [List.map_toArray, List.map_cons, List.map_nil]); first | done | rfl | (simp only [List.length_drop, List.length_take]; rfl)) ?_
          (with_reducible refine (reach_any _ (R.out.below hHeld.out) O12.out.ok l1[j].f3).mono ?_)
          rintro e w_ ⟨v, rfl, ho, hb⟩
          obtain ⟨X1, x1_, rfl, N1⟩ := Ro.sliceS ho; clear ho
          refine ⟨_, rfl, hb, fun hHeld_ => ?_⟩
          clear hHeld hb
          have hHeld := hHeld_
          clear hHeld_
          refine Evt.ow_norm (a' := ?_) ?_ ?_
          rotate_left
          · simp only [Act.put, List.setIfInBounds_toArray, List.set_cons_zero, List.set_cons_succ, i64_w, i32_w]; rfl
          refine Evt.ow_call HT_ hHeld rfl rfl rfl (by kernel_rfl) Try.func26 (by kernel_rfl) rfl #[.slice X1 (reachL (es l1) l1[j].f3).length x1_, .string l1[j].f2] (by rfl) (by (try simp only [List.map_toArray, List.map_cons, List.map_nil]); first | done | rfl | (simp only [List.length_drop, List.length_take]; rfl)) ?_
          (with_reducible refine (conS_b X1 x1_ _ l1[j].f2 _ N1.out LR.out hdd.out).mono ?_)
          rintro e w_ ⟨rfl, hb⟩
          refine ⟨_, rfl, hb, fun hHeld_ => ?_⟩
          clear hHeld hb
          have hHeld := hHeld_
          clear hHeld_
          refine Evt.ow_norm (a' := ?_) ?_ ?_
          rotate_left
          · simp only [Act.put, List.setIfInBounds_toArray, List.set_cons_zero, List.set_cons_succ, i64_w, i32_w]; rfl
          iterate 2 (first | (refine Evt.ow_off (a' := ?_) HT_ rfl rfl (by rfl) (by kernel_rfl) (fun _ _ _ h => h) ?_ ?_; rotate_left; (· (try simp only [Act.put, List.setIfInBounds_toArray, List.set_cons_zero, List.set_cons_succ, i64_w, i32_w]); rfl)) | (refine Evt.ow_pure (a' := ?_) (v := ?_) HT_ rfl rfl rfl (by rfl) (by kernel_rfl) (fun _ _ _ h => h) ?_ ?_ ?_; rotate_left 2; (· intro w'; go_simp; with_reducible rfl); (· (try simp only [Act.put, List.setIfInBounds_toArray, List.set_cons_zero, List.set_cons_succ, i64_w, i32_w]); rfl)) | (refine Evt.ow_load (a' := ?_) (v := ?_) HT_ HW_ hHeld rfl rfl rfl (by rfl) (by kernel_rfl) (fun _ _ _ h => h) ?_ ?_ ?_; rotate_left 2; (· intro w' hS_; obtain ⟨s0, s1, s2, s3, s4, s5, s6, s7, s8⟩ := KP.out w' hS_.out; go_simp; with_reducible rfl); (· (try simp only [Act.put, List.setIfInBounds_toArray, List.set_cons_zero, List.set_cons_succ, i64_w, i32_w]); rfl)))
          refine Evt.ow_done HT_ (by kernel_rfl) ?_
          refine Evt.gen_any (w0 := w1) hHeld.out ?_
          intro w2 hbx
          clear hHeld HT_ HW_ KP
          have n_R := Aside0.mk (R.out.below hbx)
          have n_BK1 := Aside0.mk (BK1.out.below hbx)
          have n_BK7 := Aside0.mk (BK7.out.below hbx)
          have n_HB := Aside0.mk (below_step HB.out hbx)
          clear HB R BK1 BK7
          have R := n_R
          have BK1 := n_BK1
          have BK7 := n_BK7
          have HB := n_HB
          clear hbx n_R n_BK1 n_BK7 n_HB
          have zBK1_0 : w2.cell? ⟨g1, 0, none⟩ = some (.string a0) := (blk_cell BK1.out.blk 0).trans rfl
          have zBK1_1 : w2.cell? ⟨g1, 1, none⟩ = some (.slice (some ad) l1.length c1) := (blk_cell BK1.out.blk 1).trans rfl
          have zBK1_2 : w2.cell? ⟨g1, 2, none⟩ = some (.slice A2 l2.length c2) := (blk_cell BK1.out.blk 2).trans rfl
          have zBK1_3 : w2.cell? ⟨g1, 3, none⟩ = some (.string a3) := (blk_cell BK1.out.blk 3).trans rfl
          have zBK7_0 : w2.cell? ⟨g7, 0, none⟩ = some (.int .i64 l1[j].f0) := (blk_cell BK7.out.blk 0).trans rfl
          have zBK7_1 : w2.cell? ⟨g7, 1, none⟩ = some (.int .i64 l1[j].f1.f0) := (blk_cell BK7.out.blk 1).trans rfl
          have zBK7_2 : w2.cell? ⟨g7, 2, none⟩ = some (.int .i64 l1[j].f1.f1) := (blk_cell BK7.out.blk 2).trans rfl
          have zBK7_3 : w2.cell? ⟨g7, 3, none⟩ = some (.string l1[j].f2) := (blk_cell BK7.out.blk 3).trans rfl
          have zBK7_4 : w2.cell? ⟨g7, 4, none⟩ = some (.string l1[j].f3) := (blk_cell BK7.out.blk 4).trans rfl
          go_wp2
          go_roundg k1
          case measure => omega
          case rel => exact ⟨j + 1, by go_num, by rw [CT.out]; rfl, ⟨by have := hj.out; omega⟩, ⟨below_step HR.out HB.out⟩⟩
          skip
      | zero =>
        have e0 : j = l1.length := by have := hj.out; omega
        have q0 : decide (j < l1.length) = false := decide_eq_false (by omega)
        have q1 : decide ((j : Int) < (l1.length : Int)) = false := decide_eq_false (by omega)
        rw [show comesL (es l1) ((es l1).take j) = false by rw [List.take_of_length_le (by rw [es_len, e0]; exact Nat.le_refl _)]; exact comes_none TT.out]
        clear e0 hj
        have HW := Aside0.mk (below_step HB3.out HR.out)
        have HB := Aside0.mk (Below.refl wr.heap.size wr)
        have R := Aside0.mk (R3.out.below HR.out)
        have TW := Aside0.mk (T3.out.below HR.out)
        have BK1 : Aside0 (Bk wr g1 25 #[.string a0, .slice A1 l1.length c1, .slice A2 l2.length c2, .string a3]) := Aside0.mk (B3.out.below HR.out)
        have zBK1_0 : wr.cell? ⟨g1, 0, none⟩ = some (.string a0) := (blk_cell BK1.out.blk 0).trans rfl
        have zBK1_1 : wr.cell? ⟨g1, 1, none⟩ = some (.slice A1 l1.length c1) := (blk_cell BK1.out.blk 1).trans rfl
        have zBK1_2 : wr.cell? ⟨g1, 2, none⟩ = some (.slice A2 l2.length c2) := (blk_cell BK1.out.blk 2).trans rfl
        have zBK1_3 : wr.cell? ⟨g1, 3, none⟩ = some (.string a3) := (blk_cell BK1.out.blk 3).trans rfl
        have eR : decide ((r.length : Int) = ((nodesL (es l1)).length : Int)) = true := decide_eq_true (by have := RL.out; omega)
        have RLp : r.length = (nodesL (es l1)).length := RL.out
        go_wp2_with (first | ((with_reducible refine gate_callee (f := 18) rfl ?_); refine goesL_ (some 59) rfl rfl Try.func18 (by kernel_rfl) rfl #[.agg #[.string a0, .slice A1 l1.length c1, .slice A2 l2.length c2, .string a3]] rfl (by (try simp only [List.map_toArray, List.map_cons, List.map_nil]); first | done | rfl | (simp only [List.length_drop, List.length_take]; rfl)) ?_; (with_reducible refine (nodes_any _ (R.out.below (by repeat (first | (with_reducible first | exact Below.refl _ _ | apply below_alloc | apply pw_below_drewN | apply below_drew1) | exact Below.refl _ _))) O12.out.ok).mono ?_); rintro e w1 ⟨v, rfl, ho, hb⟩; have hbx : Below wr.heap.size wr w1 := below_step (by repeat (first | (with_reducible first | exact Below.refl _ _ | apply below_alloc | apply pw_below_drewN | apply below_drew1) | exact Below.refl _ _)) hb; obtain ⟨N1, n1, rfl, hw_⟩ := Ro.sliceS ho; clear zBK1_0 zBK1_1 zBK1_2 zBK1_3; have n_R := Aside0.mk (R.out.below hbx); have n_TW := Aside0.mk (TW.out.below hbx); have n_BK1 := Aside0.mk (BK1.out.below hbx); have n_HB := Aside0.mk (below_step HB.out hbx); clear HB R TW BK1; have R := n_R; have TW := n_TW; have BK1 := n_BK1; have HB := n_HB; clear hbx n_R n_TW n_BK1 n_HB; have NW := Aside0.mk (hw_.out); clear hb; clear ho hw_; have zBK1_0 : w1.cell? ⟨g1, 0, none⟩ = some (.string a0) := (blk_cell BK1.out.blk 0).trans rfl; have zBK1_1 : w1.cell? ⟨g1, 1, none⟩ = some (.slice A1 l1.length c1) := (blk_cell BK1.out.blk 1).trans rfl; have zBK1_2 : w1.cell? ⟨g1, 2, none⟩ = some (.slice A2 l2.length c2) := (blk_cell BK1.out.blk 2).trans rfl; have zBK1_3 : w1.cell? ⟨g1, 3, none⟩ = some (.string a3) := (blk_cell BK1.out.blk 3).trans rfl; refine ⟨_, rfl, ?_⟩) | (refine Mp.mkI_ev rfl (N := 68) rfl rfl ?_; intro b68 hg_ w9 hM_ hb_; have GE : Aside0 (w1.heap.size ≤ b68) := Aside0.mk (by rw [hg_]; exact below_size (show Below w1.heap.size w1 _ from (by repeat (first | (with_reducible first | exact Below.refl _ _ | apply below_alloc | apply pw_below_drewN | apply below_drew1) | exact Below.refl _ _)))); have M0 := Aside0.mk hM_; have H9 : Aside0 (Below w1.heap.size w1 w9) := Aside0.mk (below_step (by repeat (first | (with_reducible first | exact Below.refl _ _ | apply below_alloc | apply pw_below_drewN | apply below_drew1) | exact Below.refl _ _)) hb_); clear hM_ hb_ hg_))
        have NP : 0 < r.length := by have := nodes_pos (es l1); have := RL.out; omega
        have RLN : r.length ≤ 200 := by have := RL.out; omega
        obtain ⟨ad, rfl⟩ := Rw.someS TW.out NP
        have HV := Aside0.mk (below_step HW.out HB.out)
        have M1 : Aside0 (MI w9 b68 0 (pAt r 0)) := Aside0.mk (M0.out.congr (fun x => by unfold pAt; simp))
        clear HB HR M0 R3 T3 B3 HB3 HW
        go_loopg [71] (nodesL (es l1)).length (fun kq v71 wr => ∃ j : Nat, v71 = .int .i64 j ∧ Aside0 (j + kq = (nodesL (es l1)).length) ∧ Aside0 (Below w1.heap.size w1 wr ∧ MI wr b68 j (pAt r j)))
        case atStart => exact ⟨0, rfl, ⟨by omega⟩, ⟨H9.out, M1.out⟩⟩
        case round =>
          clear H9 M1
          obtain ⟨j, rfl, hj, HM⟩ := hrel
          cases gk with
          | succ k1 =>
            have hjl : j < r.length := by have := hj.out; omega
            have q0 : decide (j < (nodesL (es l1)).length) = true := decide_eq_true (by omega)
            have q1 : decide ((j : Int) < ((nodesL (es l1)).length : Int)) = true := decide_eq_true (by omega)
            have x0 := Rw.atS (TW.out.below HM.out.1) hjl
            obtain ⟨n, hn⟩ : ∃ n, Aside0 (r[j] = n) := ⟨_, ⟨rfl⟩⟩
            have IN : Aside0 (n ∈ nodesL (es l1)) := Aside0.mk (RO.out.1.sub n (by rw [← hn.out]; exact List.getElem_mem hjl))
            have CN := Aside0.mk (decide_eq_true IN.out)
            have SN : Aside0 (n.size ≤ maxLen) := Aside0.mk (by have := nodesL_size O12.out.ok IN.out; unfold maxLen; omega)
            have PN : Aside0 (pAt r j n = none) := Aside0.mk (by rw [← hn.out]; exact pAt_new RO.out.1.nd hjl)
            have PS : Aside0 (∀ x, (if x = n then some (j : Int) else pAt r j x) = pAt r (j + 1) x) := Aside0.mk (fun x => by rw [← hn.out]; exact pAt_succ RO.out.1.nd hjl x)
            rw [hn.out] at x0
            have HB := Aside0.mk (Below.refl wr.heap.size wr)
            have NV := Aside0.mk (NW.out.below HM.out.1)
            have MM := Aside0.mk (HM.out.2)
            go_wp2_with (first | (refine Mp.getI2_ev rfl rfl (s := n) (v := 0) (ok := false) rfl rfl SN.out HM.out.2 (by rw [PN.out]; rfl) (by rw [PN.out]; rfl) ?_) | (go_at_call 26; (with_reducible refine (conS_b N1 n1 _ n _ (NV.out.below (by repeat (first | (with_reducible first | exact Below.refl _ _ | apply below_alloc | apply pw_below_drewN | apply below_drew1) | exact Below.refl _ _))) LNL1.out CN.out).mono ?_); rintro e w1 ⟨rfl, hb⟩; have hbx : Below wr.heap.size wr w1 := below_step (by repeat (first | (with_reducible first | exact Below.refl _ _ | apply below_alloc | apply pw_below_drewN | apply below_drew1) | exact Below.refl _ _)) hb; have n_NV := Aside0.mk (NV.out.below hbx); have n_MM := Aside0.mk (MM.out.below hbx); have n_HB := Aside0.mk (below_step HB.out hbx); clear HB NV MM; have NV := n_NV; have MM := n_MM; have HB := n_HB; clear hbx n_NV n_MM n_HB; clear hb) | (refine Mp.putI_ev rfl (.inl rfl) (s := n) (v := (j : Int)) rfl rfl rfl (WalkArith.wf_i64 (by omega)) SN.out (by unfold maxLen; omega) MM.out ?_; intro wp hM_ hg_; have HM2 := Aside0.mk (And.intro ((below_step HM.out.1 HB.out).grown hg_ (below_step HM.out.1 HB.out).size (fun k hk => by cases hk; exact GE.out)) (hM_.congr PS.out)); clear hM_ hg_ MM NV HM))
            go_roundg k1
            case measure => omega
            case rel => exact ⟨j + 1, by go_num, ⟨by have := hj.out; omega⟩, HM2⟩
          | zero =>
            have e0 : j = r.length := by have := hj.out; omega
            have q0 : decide (j < (nodesL (es l1)).length) = false := decide_eq_false (by omega)
            have q1 : decide ((j : Int) < ((nodesL (es l1)).length : Int)) = false := decide_eq_false (by omega)
            have HF : Aside0 (Below w1.heap.size w1 wr ∧ MI wr b68 r.length (pAt r r.length)) := Aside0.mk (by rw [← e0]; exact HM.out)
            clear e0 hj HM
            have B7 := BK1
            have HB := Aside0.mk (Below.refl wr.heap.size wr)
            have BK1 : Aside0 (Bk wr g1 25 #[.string a0, .slice A1 l1.length c1, .slice A2 l2.length c2, .string a3]) := Aside0.mk (B7.out.below HF.out.1)
            have zBK1_0 : wr.cell? ⟨g1, 0, none⟩ = some (.string a0) := (blk_cell BK1.out.blk 0).trans rfl
            have zBK1_1 : wr.cell? ⟨g1, 1, none⟩ = some (.slice A1 l1.length c1) := (blk_cell BK1.out.blk 1).trans rfl
            have zBK1_2 : wr.cell? ⟨g1, 2, none⟩ = some (.slice A2 l2.length c2) := (blk_cell BK1.out.blk 2).trans rfl
            have zBK1_3 : wr.cell? ⟨g1, 3, none⟩ = some (.string a3) := (blk_cell BK1.out.blk 3).trans rfl
            go_wp2
            clear BK1 zBK1_0 zBK1_1 zBK1_2 zBK1_3 HB
            go_loopg [96] l1.length (fun kq v96 wr => ∃ j : Nat, v96 = .int .i64 j ∧ Aside0 (j + kq = l1.length) ∧ Aside0 (Below w1.heap.size w1 wr ∧ MI wr b68 r.length (pAt r r.length)))
            case atStart => exact ⟨0, rfl, ⟨by omega⟩, HF⟩
            case round =>
              clear HF
              obtain ⟨j, rfl, hj, HM⟩ := hrel
              cases gk with
              | zero =>
                have q0 : decide (j < l1.length) = false := decide_eq_false (by have := hj.out; omega)
                have q1 : decide ((j : Int) < (l1.length : Int)) = false := decide_eq_false (by have := hj.out; omega)
                have HB := Aside0.mk (Below.refl wr.heap.size wr)
                go_wp2_with (((with_reducible refine gate_callee (f := 16) rfl ?_); refine goesL_ (some 110) rfl rfl Try.func16 (by kernel_rfl) rfl #[] rfl (by (try simp only [List.map_toArray, List.map_cons, List.map_nil]); first | done | rfl | (simp only [List.length_drop, List.length_take]; rfl)) ?_; (with_reducible refine (alive_any _).mono ?_); rintro e w1 ⟨rfl, hb⟩; have hbx : Below wr.heap.size wr w1 := below_step (by repeat (first | (with_reducible first | exact Below.refl _ _ | apply below_alloc | apply pw_below_drewN | apply below_drew1) | exact Below.refl _ _)) hb; have n_HB := Aside0.mk (below_step HB.out hbx); clear HB ; have HB := n_HB; clear hbx n_HB; clear hb; refine ⟨_, rfl, ?_⟩))
                go_ret
                exact ⟨rfl, below_step HV.out (below_step HM.out.1 HB.out)⟩
              | succ k1 =>
                have hjl : j < l1.length := by have := hj.out; omega
                have q0 : decide (j < l1.length) = true := decide_eq_true hjl
                have q1 : decide ((j : Int) < (l1.length : Int)) = true := decide_eq_true (by omega)
                have MEM : ((l1[j].f2, l1[j].f3) : Ed) ∈ es l1 := by rw [← es_get hjl]; exact List.getElem_mem _
                have F2 : Aside0 (pAt r r.length l1[j].f2 = some (posL r l1[j].f2 : Int)) := Aside0.mk (pAt_all (full RO.out.1.nd RO.out.1.sub RO.out.2 _ (nodes_1 MEM)))
                have F3 : Aside0 (pAt r r.length l1[j].f3 = some (posL r l1[j].f3 : Int)) := Aside0.mk (pAt_all (full RO.out.1.nd RO.out.1.sub RO.out.2 _ (nodes_2 MEM)))
                have LT := ord_lt TT.out MEM
                have Z2 : Aside0 (l1[j].f2.size ≤ maxLen) := Aside0.mk (by have := nodesL_size O12.out.ok (nodes_1 MEM); unfold maxLen; simp only at this; omega)
                have Z3 : Aside0 (l1[j].f3.size ≤ maxLen) := Aside0.mk (by have := nodesL_size O12.out.ok (nodes_2 MEM); unfold maxLen; simp only at this; omega)
                have c0 : decide ((posL r l1[j].f2 : Int) ≥ (posL r l1[j].f3 : Int)) = false := decide_eq_false (by simp only at LT; omega)
                have c1' : decide ((posL r l1[j].f3 : Int) ≤ (posL r l1[j].f2 : Int)) = false := decide_eq_false (by simp only at LT; omega)
                have c2' : decide (posL r l1[j].f3 ≤ posL r l1[j].f2) = false := decide_eq_false (by simp only at LT; omega)
                clear LT MEM
                obtain ⟨ad4, rfl, x0, x1, x2, x3, x4⟩ := (R.out.below HM.out.1).at hjl
                have HB := Aside0.mk (Below.refl wr.heap.size wr)
                have MM := Aside0.mk (HM.out.2)
                go_wp2_with (first | ((with_reducible refine gate_dst (N := 15) rfl ?_); refine Evt.box2 ?hg (N := 15) ?hd (z := #[.int .i64 0, .int .i64 0, .int .i64 0, .string ⟨#[]⟩, .string ⟨#[]⟩]) (cs := #[.int .i64 l1[j].f0, .int .i64 l1[j].f1.f0, .int .i64 l1[j].f1.f1, .string l1[j].f2, .string l1[j].f3]) (T := 41) ?hr ?hg2 (.tmp 99) ?ho2 ?hd2 ?hy ?hx ?hi ?hz ?h1 ?_; (case hd => rfl); (case hg => rfl); (case hr => first | (go_simp; done) | (go_simp; rfl)); (case hg2 => rfl); (case ho2 => rfl); (case hd2 => rfl); (case hy => first | rfl | (go_simp; done)); (case hx => first | rfl | (go_simp; done)); (case hi => kernel_rfl); (case hz => rfl); (case h1 => first | rfl | (simp [Value.oneCell'])); intro g15 hg w1 hbox hb; have hbx : Below wr.heap.size wr w1 := below_step (by repeat (first | (with_reducible first | exact Below.refl _ _ | apply below_alloc | apply pw_below_drewN | apply below_drew1) | exact Below.refl _ _)) hb; have n_MM := Aside0.mk (MM.out.below hbx); have n_HB := Aside0.mk (below_step HB.out hbx); clear HB MM; have MM := n_MM; have HB := n_HB; clear hbx n_MM n_HB; have BK15 := Aside0.mk (Bk.mk (hbox : Blk w1 g15 41 #[.int .i64 l1[j].f0, .int .i64 l1[j].f1.f0, .int .i64 l1[j].f1.f1, .string l1[j].f2, .string l1[j].f3])); clear hbox hg hb; have zBK15_0 : w1.cell? ⟨g15, 0, none⟩ = some (.int .i64 l1[j].f0) := (blk_cell BK15.out.blk 0).trans rfl; have zBK15_1 : w1.cell? ⟨g15, 1, none⟩ = some (.int .i64 l1[j].f1.f0) := (blk_cell BK15.out.blk 1).trans rfl; have zBK15_2 : w1.cell? ⟨g15, 2, none⟩ = some (.int .i64 l1[j].f1.f1) := (blk_cell BK15.out.blk 2).trans rfl; have zBK15_3 : w1.cell? ⟨g15, 3, none⟩ = some (.string l1[j].f2) := (blk_cell BK15.out.blk 3).trans rfl; have zBK15_4 : w1.cell? ⟨g15, 4, none⟩ = some (.string l1[j].f3) := (blk_cell BK15.out.blk 4).trans rfl) | (refine Mp.getI_ev rfl rfl (s := l1[j].f2) (v := (posL r l1[j].f2 : Int)) rfl rfl Z2.out (MM.out.below (by repeat (first | (with_reducible first | exact Below.refl _ _ | apply below_alloc | apply pw_below_drewN | apply below_drew1) | exact Below.refl _ _))) (by rw [F2.out]; rfl) ?_) | (refine Mp.getI_ev rfl rfl (s := l1[j].f3) (v := (posL r l1[j].f3 : Int)) rfl rfl Z3.out (MM.out.below (by repeat (first | (with_reducible first | exact Below.refl _ _ | apply below_alloc | apply pw_below_drewN | apply below_drew1) | exact Below.refl _ _))) (by rw [F3.out]; rfl) ?_))
                go_roundg k1
                case measure => omega
                case rel => exact ⟨j + 1, by go_num, ⟨by have := hj.out; omega⟩, ⟨⟨below_step HM.out.1 HB.out, MM.out⟩⟩⟩
set_option maxHeartbeats 2000000 in
theorem gt_big (w : World) (h : Rg w A1 c1 l1 A2 c2 l2) (hz : SzR l1) (hb : ¬ tl (es l1) ≤ 0) : Calls Try.prog 4 #[.agg #[.string a0, .slice A1 l1.length c1, .slice A2 l2.length c2, .string a3]] w fun x w' => x = .returned (.bool true) ∧ Below w.heap.size w w' := by
  have SZ := Aside0.mk hz
  have TL := Aside0.mk (tl_1 hb)
  have HB := Aside0.mk (Below.refl w.heap.size w)
  have R := Aside0.mk (h)
  clear h hz hb
  go_enter Try.func4, Try.ntmps4
  go_wp2_with (first | ((with_reducible refine gate_dst (N := 1) rfl ?_); refine box_event ?hg (N := 1) ?hd (cs := #[.string a0, .slice A1 l1.length c1, .slice A2 l2.length c2, .string a3]) (t := 25) ?hr ?_; (case hd => rfl); (case hg => rfl); (case hr => first | (go_simp; done) | (go_simp; rfl)); intro g1 hg w1 hbox hb; have hbx : Below w.heap.size w w1 := below_step (by repeat (first | (with_reducible first | exact Below.refl _ _ | apply below_alloc | apply pw_below_drewN | apply below_drew1) | exact Below.refl _ _)) hb; have n_R := Aside0.mk (R.out.below hbx); have n_HB := Aside0.mk (below_step HB.out hbx); clear HB R; have R := n_R; have HB := n_HB; clear hbx n_R n_HB; have BK1 := Aside0.mk (Bk.mk (hbox : Blk w1 g1 25 #[.string a0, .slice A1 l1.length c1, .slice A2 l2.length c2, .string a3])); clear hbox hg hb; have zBK1_0 : w1.cell? ⟨g1, 0, none⟩ = some (.string a0) := (blk_cell BK1.out.blk 0).trans rfl; have zBK1_1 : w1.cell? ⟨g1, 1, none⟩ = some (.slice A1 l1.length c1) := (blk_cell BK1.out.blk 1).trans rfl; have zBK1_2 : w1.cell? ⟨g1, 2, none⟩ = some (.slice A2 l2.length c2) := (blk_cell BK1.out.blk 2).trans rfl; have zBK1_3 : w1.cell? ⟨g1, 3, none⟩ = some (.string a3) := (blk_cell BK1.out.blk 3).trans rfl) | ((with_reducible refine gate_callee (f := 15) rfl ?_); refine goesL_ (some 17) rfl rfl Try.func15 (by kernel_rfl) rfl #[.agg #[.string a0, .slice A1 l1.length c1, .slice A2 l2.length c2, .string a3]] rfl (by (try simp only [List.map_toArray, List.map_cons, List.map_nil]); first | done | rfl | (simp only [List.length_drop, List.length_take]; rfl)) ?_; (with_reducible refine (Pe.tl_any _ (R.out.below (by repeat (first | (with_reducible first | exact Below.refl _ _ | apply below_alloc | apply pw_below_drewN | apply below_drew1) | exact Below.refl _ _))) SZ.out TL.out).mono ?_); rintro e w2 ⟨rfl, hb⟩; have hbx : Below w1.heap.size w1 w2 := below_step (by repeat (first | (with_reducible first | exact Below.refl _ _ | apply below_alloc | apply pw_below_drewN | apply below_drew1) | exact Below.refl _ _)) hb; clear zBK1_0 zBK1_1 zBK1_2 zBK1_3; have n_R := Aside0.mk (R.out.below hbx); have n_BK1 := Aside0.mk (BK1.out.below hbx); have n_HB := Aside0.mk (below_step HB.out hbx); clear HB R BK1; have R := n_R; have BK1 := n_BK1; have HB := n_HB; clear hbx n_R n_BK1 n_HB; clear hb; have zBK1_0 : w2.cell? ⟨g1, 0, none⟩ = some (.string a0) := (blk_cell BK1.out.blk 0).trans rfl; have zBK1_1 : w2.cell? ⟨g1, 1, none⟩ = some (.slice A1 l1.length c1) := (blk_cell BK1.out.blk 1).trans rfl; have zBK1_2 : w2.cell? ⟨g1, 2, none⟩ = some (.slice A2 l2.length c2) := (blk_cell BK1.out.blk 2).trans rfl; have zBK1_3 : w2.cell? ⟨g1, 3, none⟩ = some (.string a3) := (blk_cell BK1.out.blk 3).trans rfl; refine ⟨_, rfl, ?_⟩) | ((with_reducible refine gate_callee (f := 16) rfl ?_); refine goesL_ (some 19) rfl rfl Try.func16 (by kernel_rfl) rfl #[] rfl (by (try simp only [List.map_toArray, List.map_cons, List.map_nil]); first | done | rfl | (simp only [List.length_drop, List.length_take]; rfl)) ?_; (with_reducible refine (alive_any _).mono ?_); rintro e w3 ⟨rfl, hb⟩; have hbx : Below w2.heap.size w2 w3 := below_step (by repeat (first | (with_reducible first | exact Below.refl _ _ | apply below_alloc | apply pw_below_drewN | apply below_drew1) | exact Below.refl _ _)) hb; clear zBK1_0 zBK1_1 zBK1_2 zBK1_3; have n_R := Aside0.mk (R.out.below hbx); have n_BK1 := Aside0.mk (BK1.out.below hbx); have n_HB := Aside0.mk (below_step HB.out hbx); clear HB R BK1; have R := n_R; have BK1 := n_BK1; have HB := n_HB; clear hbx n_R n_BK1 n_HB; clear hb; have zBK1_0 : w3.cell? ⟨g1, 0, none⟩ = some (.string a0) := (blk_cell BK1.out.blk 0).trans rfl; have zBK1_1 : w3.cell? ⟨g1, 1, none⟩ = some (.slice A1 l1.length c1) := (blk_cell BK1.out.blk 1).trans rfl; have zBK1_2 : w3.cell? ⟨g1, 2, none⟩ = some (.slice A2 l2.length c2) := (blk_cell BK1.out.blk 2).trans rfl; have zBK1_3 : w3.cell? ⟨g1, 3, none⟩ = some (.string a3) := (blk_cell BK1.out.blk 3).trans rfl; refine ⟨_, rfl, ?_⟩))
  go_ret
  exact ⟨rfl, HB.out⟩
theorem gt_walk (w : World) (k1 : List Value) (y1 : ByteArray × List S41 × List S101 × ByteArray) (h1 : KRung.K w y1 k1) (hq : QRung y1) :
    Calls Try.prog 4 #[.agg k1.toArray] w fun x w' => x = .returned (.bool true) ∧ Below w.heap.size w w' := by
  obtain ⟨A1, c1, A2, c2, rfl, r1, hz⟩ := rung_form h1 hq
  by_cases hb : tl (es y1.2.1) ≤ 0
  · cases ht : topo (es y1.2.1) with
    | none => exact gt_none w r1 hz hb ht
    | some r => exact gt_some w r1 hz hb ht
  · exact gt_big w r1 hz hb
end
end Go.Proofs.Ytmacdknicgfglaa.Gw
