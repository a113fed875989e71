/- VmBranchStack, walked. -/
import Derived.Test.YtjohdkbciafpfaaBs
import Derived.Test.YtjohdkbciafpfaaBl
import Derived.Test.YtjohdkbciafpfaaOp03
namespace Go.Proofs.Ytjohdkbciafpfaa.Vm6
open Go.RowKit Go.Proofs.YtjohdkbciafpfaaW.PrintWords Go.Proofs.YtjohdkbciafpfaaW.PrintMore Go.Proofs.YtjohdkbciafpfaaW.PrintLast Go.Proofs.Ytjohdkbciafpfaa.Chg Go.Proofs.Ytjohdkbciafpfaa.Evt Go.Proofs.Ytjohdkbciafpfaa.Impl Go.Proofs.Ytjohdkbciafpfaa.Open
set_option linter.unusedVariables false
set_option linter.unusedSimpArgs false
set_option maxRecDepth 100000
theorem bs_go (w : World) (n : Nat) (or : Bool) (l : List Bool) {r : Bool} (hr : bsF or l = r) {C : List S66} (hC : bsC (n + 1) or = C) {w0 : World} {A A0 : Option Addr} {c c0 g : Nat} (hR : Ro k66 66 w0 w (.slice A C.length c) C) (hI : Rw Kd.bool w A0 c0 l) (hl : l.length = n + 1) (hM : Bk w g 4 #[.bool false]) (hn : n ≤ 59) :
    Calls Try.prog 34 #[.slice A C.length c, .slice A0 (n + 1) c0, .agg #[.slice none 0 0, .slice (some ⟨g, 0, none⟩) 1 1, .slice none 0 0]] w fun x w' => ∃ X0 x0 X1 x1 X2 x2, x = .returned (.agg #[.slice X0 0 x0, .slice X1 1 x1, .slice X2 0 x2, .int .i64 (C.length : Nat), .int .i64 ((3 * n + 2 : Nat) : Int), .int .i64 0]) ∧ Sb w' X0 x0 X1 x1 X2 x2 [] [r] [] ∧ (Lf X0 [] ∧ Lf X1 [r] ∧ Lf X2 []) ∧ Below w.heap.size w w' := by
  subst hC hr
  have e1 := bs_run or l n hl (by omega)
  have h := run_any (l := bsC (n + 1) or) (cC := c) w (Ro66.C hR) hI ⟨⟨Rw.nil _ _ 0, Rw_of_blk (l := [false]) (c := 1) hM (by decide) (by decide), Rw.nil _ _ 0⟩, by decide, by decide, by decide⟩ (by rw [bsC_len]; omega) (by omega) (bsC_wf _ or) e1
  rw [hl] at h
  refine h.mono ?_
  rintro x w' ⟨X0, x0, X1, x1, X2, x2, rfl, h⟩
  refine ⟨X0, x0, X1, x1, X2, x2, ?_, h⟩
  rw [bsC_len]
  rfl
theorem rw_bit {w : World} {A : Option Addr} {c : Nat} {l : List Bool} (h : Rw Kd.bool w A c l) {i : Nat} (hi : i < l.length) : ∃ ad, A = some ad ∧ w.cell? (ad.add i) = some (.bool (l.getD i false)) := by
  obtain ⟨ad, e, hc⟩ := h.row.2.2 (by omega)
  refine ⟨ad, e, ?_⟩
  obtain ⟨cs, hl, hK, hcell⟩ := hc i _ (List.getElem?_eq_getElem hi)
  obtain rfl : cs = [.bool l[i]] := hK
  have h0 := hcell 0 _ rfl
  have e1 : i * Kd.bool.sz + 0 = i := by show i * 1 + 0 = i; omega
  rw [e1] at h0
  rw [h0, List.getD_eq_getElem?_getD, List.getElem?_eq_getElem hi]
  rfl
theorem rw_one {w : World} {g c : Nat} {x : Bool} (h : Rw Kd.bool w (some ⟨g, 0, none⟩) c [x]) : w.cell? ⟨g, 0, none⟩ = some (.bool x) := by
  obtain ⟨ad, e, h1⟩ := rw_bit h (i := 0) (by simp)
  injection e with e
  subst e
  rw [Addr.add_zero'] at h1
  exact h1
theorem take_all {l : List Bool} {i : Nat} (hi : i < l.length) : ((l.take i).all id && l.getD i false) = (l.take (i + 1)).all id ∧ ((l.take i).any id || l.getD i false) = (l.take (i + 1)).any id := by
  have e : l.take (i + 1) = l.take i ++ [l.getD i false] := by
    rw [List.take_add_one, List.getD_eq_getElem?_getD, List.getElem?_eq_getElem hi]
    rfl
  rw [e, List.all_append, List.any_append]
  simp only [List.all_cons, List.all_nil, List.any_cons, List.any_nil, Bool.and_true, Bool.or_false, id]
  exact ⟨trivial, trivial⟩
set_option maxHeartbeats 16000000 in
theorem bs_main (w : World) {A0 : Option Addr} {c0 : Nat} {l : List Bool} (hI : Rw Kd.bool w A0 c0 l) (n : Nat) (hn : l.length = n + 1) (h59 : n ≤ 59) (or : Bool) : Calls Try.prog 10 #[.slice A0 (n + 1) c0, .bool or] w fun x w' => x = .returned (.bool true) ∧ Below w.heap.size w w' := by
  have HI := Aside0.mk hI
  have HN := Aside0.mk hn
  clear hI hn
  obtain ⟨ko, KO⟩ : ∃ ko : Int, Aside0 ((if or = true then 10 else 9) = ko) := ⟨_, ⟨rfl⟩⟩
  have t0 : ((n : Int) + 1 == 0) = false := by simp; omega
  have t1 : decide ((n : Int) + 1 = 0) = false := decide_eq_false (by omega)
  have t2 : decide (60 < (n : Int) + 1) = false := decide_eq_false (by omega)
  have t3 : decide ((n : Int) + 1 > 60) = false := decide_eq_false (by omega)
  have HB := Aside0.mk (Below.refl w.heap.size w)
  go_enter Try.func10, Try.ntmps10
  go_wp2_with fail
  have RN := Aside0.mk (show Ro k66 66 w w (.slice none 0 0) (bsP 0) from ⟨Kd.R_nil _ _ _ _ _⟩)
  go_loopg [5, 6, 7, 22] (n + 1) (fun kq v5 v6 v7 v22 wr => ∃ (i : Nat) (va vs : Bool), v22 = .int .i64 i ∧ v6 = .bool va ∧ v7 = .bool vs ∧ Aside0 (i + kq = n + 1) ∧ Aside0 ((l.take i).all id = va ∧ (l.take i).any id = vs) ∧ Aside0 (Below w.heap.size w wr ∧ Ro k66 66 w wr v5 (bsP i)))
  case atStart => exact ⟨0, true, false, rfl, rfl, rfl, ⟨by omega⟩, ⟨⟨rfl, rfl⟩⟩, ⟨HB.out, RN.out⟩⟩
  case round =>
    clear RN
    obtain ⟨i, va, vs, rfl, rfl, rfl, hi, VA, I⟩ := hrel
    cases gk with
    | zero =>
      have e0 : i = n + 1 := by have := hi.out; omega
      have VB : Aside0 (l.all id = va ∧ l.any id = vs) := ⟨by have := VA.out; rw [List.take_of_length_le (by have := HN.out; omega)] at this; exact this⟩
      have q1 : decide ((i : Int) < (n : Int) + 1) = false := decide_eq_false (by omega)
      have INV : Aside0 (Below w.heap.size w wr ∧ Ro k66 66 w wr u5 (bsI (n + 1) or 0)) := ⟨I.out.1, by have := I.out.2; rw [e0] at this; unfold bsI; rw [List.replicate_zero, List.append_nil]; exact this⟩
      clear I hi HB VA e0
      go_wp2_with fail
      go_loopg [5, 51] n (fun kq v5 v51 wr => ∃ j : Nat, v51 = .int .i64 j ∧ Aside0 (j + kq = n) ∧ Aside0 (Below w.heap.size w wr ∧ Ro k66 66 w wr v5 (bsI (n + 1) or j)))
      case atStart => exact ⟨0, rfl, ⟨by omega⟩, INV⟩
      case round =>
        clear INV
        obtain ⟨j, rfl, hj, J⟩ := hrel
        cases gk with
        | zero =>
          have e2 : j = n := by have := hj.out; omega
          subst e2
          have q4 : decide ((j : Int) < (j : Int)) = false := decide_eq_false (by omega)
          have HB := Aside0.mk (Below.refl wr.heap.size wr)
          have HB := Aside0.mk J.out.1
          skip
          have ROj := Aside0.mk J.out.2
          clear J hj
          skip
          obtain ⟨C, CE⟩ : ∃ C, Aside0 (bsC (j + 1) or = C) := ⟨_, ⟨rfl⟩⟩
          obtain ⟨r, R⟩ : ∃ r, Aside0 (bsF or l = r) := ⟨_, ⟨rfl⟩⟩
          have R2 : Aside0 ((if or = true then vs else va) = r) := ⟨by rw [← R.out, ← VB.out.1, ← VB.out.2]; rfl⟩
          go_wp2_with (first | ((with_reducible refine gate_dst (N := 66) rfl ?_); refine Evt.slice_event ?hg (N := 66) ?hd (cs := #[.int .i64 11, .int .i64 2, .int .i64 0, .int .i64 0, .int .i64 16, .int .i64 0, .int .i64 0, .int .i64 0]) (t := 66) (n := 2) ?hr ?_; (case hd => rfl); (case hg => rfl); (case hr => first | (go_simp; done) | (go_simp; rfl)); intro g66 hg w1 hbox hb; have hbx : Below wr.heap.size wr w1 := below_step (by repeat (first | (with_reducible first | exact Below.refl _ _ | apply below_alloc | apply pw_below_drewN | apply below_drew1) | exact Below.refl _ _)) hb; replace ROj := Aside0.mk (ROj.out.below hbx); replace HB := Aside0.mk (below_step HB.out hbx); clear hbx; have BK66 := Aside0.mk (Bk.mk (hbox : Blk w1 g66 66 #[.int .i64 11, .int .i64 2, .int .i64 0, .int .i64 0, .int .i64 16, .int .i64 0, .int .i64 0, .int .i64 0])); clear hbox hg hb; have zBK66_0 : w1.cell? ⟨g66, 0, none⟩ = some (.int .i64 11) := (blk_cell BK66.out.blk 0).trans rfl; have zBK66_1 : w1.cell? ⟨g66, 1, none⟩ = some (.int .i64 2) := (blk_cell BK66.out.blk 1).trans rfl; have zBK66_2 : w1.cell? ⟨g66, 2, none⟩ = some (.int .i64 0) := (blk_cell BK66.out.blk 2).trans rfl; have zBK66_3 : w1.cell? ⟨g66, 3, none⟩ = some (.int .i64 0) := (blk_cell BK66.out.blk 3).trans rfl; have zBK66_4 : w1.cell? ⟨g66, 4, none⟩ = some (.int .i64 16) := (blk_cell BK66.out.blk 4).trans rfl; have zBK66_5 : w1.cell? ⟨g66, 5, none⟩ = some (.int .i64 0) := (blk_cell BK66.out.blk 5).trans rfl; have zBK66_6 : w1.cell? ⟨g66, 6, none⟩ = some (.int .i64 0) := (blk_cell BK66.out.blk 6).trans rfl; have zBK66_7 : w1.cell? ⟨g66, 7, none⟩ = some (.int .i64 0) := (blk_cell BK66.out.blk 7).trans rfl) | ((with_reducible refine gate_dst (N := 67) rfl ?_); at_builtin; refine app66 (w0 := w) rfl (.tmp 62) (.tmp 66) rfl u5 (bsI (j + 1) or j) bsE (some ⟨g66, 0, none⟩) 2 2 rfl rfl ((ROj.out.below (by repeat (first | (with_reducible first | exact Below.refl _ _ | apply below_alloc | apply pw_below_drewN | apply below_drew1) | exact Below.refl _ _)))) (C66_2 BK66.out) (below_step HB.out (by repeat (first | (with_reducible first | exact Below.refl _ _ | apply below_alloc | apply pw_below_drewN | apply below_drew1) | exact Below.refl _ _))) (by rw [bsI_len]; omega) ?_; intro v67 w2 ho hb hg; clear zBK66_0 zBK66_1 zBK66_2 zBK66_3 zBK66_4 zBK66_5 zBK66_6 zBK66_7; clear HB hg ROj BK66; have HB := Aside0.mk hb; have RO67 := Aside0.mk ho; clear ho hb; rw [show bsI (j + 1) or j ++ bsE = C from CE.out] at RO67; obtain ⟨AC, cC, rfl⟩ := Kd.R_slice RO67.out.row) | ((with_reducible refine gate_dst (N := 70) rfl ?_); refine Evt.slice_event ?hg (N := 70) ?hd (cs := #[.bool false]) (t := 4) (n := 1) ?hr ?_; (case hd => rfl); (case hg => rfl); (case hr => first | (go_simp; done) | (go_simp; rfl)); intro g70 hg w3 hbox hb; have hbx : Below w2.heap.size w2 w3 := below_step (by repeat (first | (with_reducible first | exact Below.refl _ _ | apply below_alloc | apply pw_below_drewN | apply below_drew1) | exact Below.refl _ _)) hb; replace RO67 := Aside0.mk (RO67.out.below hbx); replace HB := Aside0.mk (below_step HB.out hbx); clear hbx; have BK70 := Aside0.mk (Bk.mk (hbox : Blk w3 g70 4 #[.bool false])); clear hbox hg hb; have zBK70_0 : w3.cell? ⟨g70, 0, none⟩ = some (.bool false) := (blk_cell BK70.out.blk 0).trans rfl) | ((with_reducible refine gate_callee (f := 34) rfl ?_); refine goesL_ (some 72) rfl rfl Try.func34 (by kernel_rfl) rfl #[.slice AC C.length cC, .slice A0 (j + 1) c0, .agg #[.slice none 0 0, .slice (some ⟨g70, 0, none⟩) 1 1, .slice none 0 0]] rfl (by (try simp only [List.map_toArray, List.map_cons, List.map_nil]); first | done | rfl | (simp only [List.length_drop, List.length_take]; rfl)) ?_; (with_reducible refine (bs_go _ j or l R.out CE.out (RO67.out.below (by repeat (first | (with_reducible first | exact Below.refl _ _ | apply below_alloc | apply pw_below_drewN | apply below_drew1) | exact Below.refl _ _))) (HI.out.below (below_step HB.out (by repeat (first | (with_reducible first | exact Below.refl _ _ | apply below_alloc | apply pw_below_drewN | apply below_drew1) | exact Below.refl _ _)))) HN.out (BK70.out.below (by repeat (first | (with_reducible first | exact Below.refl _ _ | apply below_alloc | apply pw_below_drewN | apply below_drew1) | exact Below.refl _ _))) h59).mono ?_); rintro e w4 ⟨X0, x0, X1, x1, X2, x2, rfl, hs_, hl_, hb⟩; have hbx : Below w3.heap.size w3 w4 := below_step (by repeat (first | (with_reducible first | exact Below.refl _ _ | apply below_alloc | apply pw_below_drewN | apply below_drew1) | exact Below.refl _ _)) hb; obtain ⟨gr, rfl⟩ := hl_.2.1 (show 0 < 1 by decide); clear hl_; clear zBK70_0; replace RO67 := Aside0.mk (RO67.out.below hbx); replace BK70 := Aside0.mk (BK70.out.below hbx); replace HB := Aside0.mk (below_step HB.out hbx); clear hbx; have SS := Aside0.mk (hs_); clear hb; clear hs_; have zBK70_0 : w4.cell? ⟨g70, 0, none⟩ = some (.bool false) := (blk_cell BK70.out.blk 0).trans rfl; refine ⟨_, rfl, ?_⟩) | ((with_reducible refine gate_dst (N := 10) rfl ?_); refine Evt.box2 ?hg (N := 10) ?hd (z := #[.slice none 0 0, .slice none 0 0, .slice none 0 0, .int .i64 0, .int .i64 0, .int .i64 0]) (cs := #[.slice X0 0 x0, .slice (some ⟨gr, 0, none⟩) 1 x1, .slice X2 0 x2, .int .i64 (C.length : Nat), .int .i64 ((3 * j + 2 : Nat) : Int), .int .i64 0]) (T := 60) ?hr ?hg2 (.tmp 72) ?ho2 ?hd2 ?hy ?hx ?hi ?hz ?h1 ?_; (case hd => rfl); (case hg => rfl); (case hr => first | (go_simp; done) | (go_simp; rfl)); (case hg2 => rfl); (case ho2 => rfl); (case hd2 => rfl); (case hy => first | rfl | (go_simp; done)); (case hx => first | rfl | (go_simp; done)); (case hi => kernel_rfl); (case hz => rfl); (case h1 => first | rfl | (simp [Value.oneCell'])); intro g10 hg w5 hbox hb; have hbx : Below w4.heap.size w4 w5 := below_step (by repeat (first | (with_reducible first | exact Below.refl _ _ | apply below_alloc | apply pw_below_drewN | apply below_drew1) | exact Below.refl _ _)) hb; clear zBK70_0; replace RO67 := Aside0.mk (RO67.out.below hbx); replace BK70 := Aside0.mk (BK70.out.below hbx); replace SS := Aside0.mk (SS.out.below hbx); replace HB := Aside0.mk (below_step HB.out hbx); clear hbx; have BK10 := Aside0.mk (Bk.mk (hbox : Blk w5 g10 60 #[.slice X0 0 x0, .slice (some ⟨gr, 0, none⟩) 1 x1, .slice X2 0 x2, .int .i64 (C.length : Nat), .int .i64 ((3 * j + 2 : Nat) : Int), .int .i64 0])); clear hbox hg hb; have zBK70_0 : w5.cell? ⟨g70, 0, none⟩ = some (.bool false) := (blk_cell BK70.out.blk 0).trans rfl; obtain ⟨zBK10_0, zBK10_1, zBK10_2, zBK10_3, zBK10_4, zBK10_5⟩ := BK10.out.c6))
          have KP := Aside0.mk (fun w' (hb : Below w5.heap.size w5 w') => And.intro ((BK10.out.below hb).c6) ((show w'.cell? ⟨gr, 0, none⟩ = some (.bool r) from rw_one (SS.out.below hb).sr.r1)))
          clear zBK70_0 zBK10_0 zBK10_1 zBK10_2 zBK10_3 zBK10_4 zBK10_5
          refine Evt.ol_start (ds := []) (w0 := w5) (T := (true, [([], []), ([0, 0], [0]), ([1], [1]), ([2, 1], [1, 2]), ([3, 1], [1, 3]), ([1, 4], [1, 4]), ([5, 1], [5]), ([6], [6]), ([7, 6], [6, 7]), ([6], [6]), ([9, 6], [6, 9]), ([8, 10, 6], [6, 8, 10]), ([6, 11], [6, 11]), ([12, 6], [12]), ([13], [13]), ([14, 13], [13, 14]), ([15, 13], [13, 15]), ([16, 13], [13, 16]), ([17, 13], [13, 17]), ([13, 18], [13, 18]), ([19, 13], [19]), ([20], [20]), ([21, 20], [20, 21]), ([22, 20], [20, 22]), ([23, 20], [20, 23]), ([24, 20], [20, 24]), ([20], [20]), ([20], [20]), ([26, 27, 20], [20, 26, 27]), ([20], [20]), ([26, 29, 20], [20, 26, 29]), ([26, 20, 27, 28, 29, 30], [20, 26]), ([20], [20]), ([31, 32, 20], [20, 31, 32]), ([25, 33, 20], [20, 25, 33]), ([20, 34], [20, 34]), ([35, 20, 0, 1, 2, 3, 4, 5, 6, 7, 8, 9, 10, 11, 12, 13, 14, 15, 16, 17, 18, 19, 20, 21, 22, 23, 24, 25, 26, 27, 28, 29, 30, 31, 32, 33, 34, 35], [35])])) (B := [0, 1, 3, 7, 15, 31, 63, 127, 255, 127, 639, 2047, 4095, 8191, 16383, 32767, 65535, 131071, 262143, 524287, 1048575, 2097151, 4194303, 8388607, 16777215, 33554431, 2097151, 2097151, 203423743, 2097151, 606076927, 2082471935, 2097151, 8524922879, 17179869183, 34359738367, 68719476735]) 37 [(0, some 73), (1, some 74), (2, some 75), (3, some 76), (4, some 77), (5, some 78), (6, some 79), (7, some 80), (9, some 82), (10, some 83), (8, some 81), (11, some 84), (12, some 85), (13, some 86), (14, some 87), (15, some 88), (16, some 89), (17, some 90), (18, some 91), (19, some 92), (20, some 93), (21, some 94), (22, some 95), (27, some 100), (29, some 101), (32, some 103), (23, some 96), (24, some 97), (25, some 98), (26, some 99), (28, none), (30, none), (31, some 102), (33, some 104), (34, some 105), (35, some 106), (36, some 4)] (by kernel_rfl) rfl (by kernel_rfl) (by kernel_rfl) (by kernel_rfl) (by repeat (first | (with_reducible first | exact Below.refl _ _ | apply below_alloc | apply pw_below_drewN | apply below_drew1) | exact Below.refl _ _)) ?_
          intro HT_ HW_ w_ hHeld
          refine Evt.ol_callg HT_ hHeld rfl rfl (by simp) rfl Try.func33 (by kernel_rfl) rfl #[] (by kernel_rfl) (by rfl) (by (try simp only [List.map_toArray, List.map_cons, List.map_nil]); first | done | rfl | (simp only [List.length_drop, List.length_take]; rfl)) ?_
          (with_reducible refine (alive_any _).mono ?_)
          rintro e_ w_ ⟨rfl, hb_⟩
          refine ⟨_, rfl, hb_, fun hHeld_ => ?_⟩
          clear hHeld hb_
          have hHeld := hHeld_
          clear hHeld_
          refine Evt.ol_norm (a' := ?_) ?_ ?_
          rotate_left
          · simp only [Act.put, List.setIfInBounds_toArray, List.set_cons_zero, List.set_cons_succ, i64_w, i32_w]; rfl
          iterate 28 (first | (refine Evt.ol_off (a' := ?_) HT_ rfl rfl (by rfl) (by kernel_rfl) (fun _ _ _ h => h) ?_ ?_; rotate_left; (· (try simp only [Act.put, List.setIfInBounds_toArray, List.set_cons_zero, List.set_cons_succ, i64_w, i32_w]); rfl)) | (refine Evt.ol_pure (a' := ?_) (v := ?_) HT_ rfl rfl rfl (by rfl) (by kernel_rfl) (fun _ _ _ h => h) ?_ ?_ ?_; rotate_left 2; (· intro w'; go_simp; with_reducible rfl); (· (try simp only [Act.put, List.setIfInBounds_toArray, List.set_cons_zero, List.set_cons_succ, i64_w, i32_w]); rfl)) | (refine Evt.ol_load (a' := ?_) (v := ?_) HT_ HW_ hHeld rfl rfl rfl (by rfl) (by kernel_rfl) (fun _ _ _ h => h) ?_ ?_ ?_; rotate_left 2; (· intro w' hS_; obtain ⟨⟨s0, s1, s2, s3, s4, s5⟩, s6⟩ := KP.out w' hS_.out; go_simp; with_reducible rfl); (· (try simp only [Act.put, List.setIfInBounds_toArray, List.set_cons_zero, List.set_cons_succ, i64_w, i32_w]); rfl)))
          refine Evt.ol_value (a' := ?_) (v := .map (some w_.heap.size)) (w1 := w_.alloc (.map #[] 0)) HT_ hHeld rfl rfl (by simp) (by rfl) (by kernel_rfl) ?_ (below_alloc (Below.refl _ _) _) ?_ ?_
          rotate_left
          · simp [execOp, @run_makeMap, Result.andThen]
          · simp only [Act.put, List.setIfInBounds_toArray, List.set_cons_zero, List.set_cons_succ, i64_w, i32_w]; rfl
          intro hHeld_
          have HM0 := Aside0.mk (Bm.Mp.made (k := Bm.kBB) w_)
          have GM := Aside0.mk (show w5.heap.size ≤ w_.heap.size from hHeld.out.size)
          obtain ⟨bM, hbM⟩ : ∃ bM, w_.heap.size = bM := ⟨_, rfl⟩
          obtain ⟨wz, hwz⟩ : ∃ wz, w_.alloc (.map #[] 0) = wz := ⟨_, rfl⟩
          rw [hwz, hbM] at HM0
          rw [hwz] at hHeld_
          rw [hbM] at GM
          rw [hwz, hbM]
          clear hwz hbM hHeld
          have hHeld := hHeld_
          clear hHeld_
          refine Evt.ol_join (σ := Unit) 5 [(31, some 102), (33, some 104), (34, some 105), (35, some 106), (36, some 4)] (fun _ => []) (fun _ w' => Bm.Mp Bm.kBB w' bM 2 (fun s => if s = true then vs else va)) ?_ ?_
          · intro JN
            refine Evt.ol_two (i := 28) (j := 30) [(30, none), (31, some 102), (33, some 104), (34, some 105), (35, some 106), (36, some 4)] [(28, none), (31, some 102), (33, some 104), (34, some 105), (35, some 106), (36, some 4)] HT_ rfl rfl rfl rfl (by kernel_rfl) (fun K_ hK_ => ?_) (fun K_ hK_ => ?_)
            · refine Bm.k_mput hK_ hHeld rfl (by rfl) Bm.gBB (.inr rfl) (s := false) (v := va) rfl rfl rfl trivial (Bm.pB _) (by decide) HM0.out GM.out ?_
              intro w1_ hM_ hg_ hH_
              refine Evt.ol_one (i := 30) [(31, some 102), (33, some 104), (34, some 105), (35, some 106), (36, some 4)] HT_ rfl rfl (by kernel_rfl) (fun K2_ hK2_ => ?_)
              refine Bm.k_mput hK2_ hH_ rfl (by rfl) Bm.gBB (.inr rfl) (s := true) (v := vs) rfl rfl rfl trivial (Bm.pB _) (by decide) hM_ GM.out ?_
              intro w2_ hM2_ hg2_ hH2_
              exact JN () _ hH2_ (hM2_.congr (by intro s_; cases s_ <;> rfl))
            · refine Bm.k_mput hK_ hHeld rfl (by rfl) Bm.gBB (.inr rfl) (s := true) (v := vs) rfl rfl rfl trivial (Bm.pB _) (by decide) HM0.out GM.out ?_
              intro w1_ hM_ hg_ hH_
              refine Evt.ol_one (i := 28) [(31, some 102), (33, some 104), (34, some 105), (35, some 106), (36, some 4)] HT_ rfl rfl (by kernel_rfl) (fun K2_ hK2_ => ?_)
              refine Bm.k_mput hK2_ hH_ rfl (by rfl) Bm.gBB (.inr rfl) (s := false) (v := va) rfl rfl rfl trivial (Bm.pB _) (by decide) hM_ GM.out ?_
              intro w2_ hM2_ hg2_ hH2_
              exact JN () _ hH2_ (hM2_.congr (by intro s_; cases s_ <;> rfl))
          clear hHeld HM0
          rintro _ w_ hHeld hM_
          have HM := Aside0.mk hM_
          clear hM_
          refine Evt.ol_norm (a' := ?_) ?_ ?_
          rotate_left
          · simp only [putAll, Act.put, List.setIfInBounds_toArray, List.set_cons_zero, List.set_cons_succ, i64_w, i32_w]; rfl
          (first | (refine Evt.ol_off (a' := ?_) HT_ rfl rfl (by rfl) (by kernel_rfl) (fun _ _ _ h => h) ?_ ?_; rotate_left; (· (try simp only [Act.put, List.setIfInBounds_toArray, List.set_cons_zero, List.set_cons_succ, i64_w, i32_w]); rfl)) | (refine Evt.ol_pure (a' := ?_) (v := ?_) HT_ rfl rfl rfl (by rfl) (by kernel_rfl) (fun _ _ _ h => h) ?_ ?_ ?_; rotate_left 2; (· intro w'; go_simp; with_reducible rfl); (· (try simp only [Act.put, List.setIfInBounds_toArray, List.set_cons_zero, List.set_cons_succ, i64_w, i32_w]); rfl)) | (refine Evt.ol_load (a' := ?_) (v := ?_) HT_ HW_ hHeld rfl rfl rfl (by rfl) (by kernel_rfl) (fun _ _ _ h => h) ?_ ?_ ?_; rotate_left 2; (· intro w' hS_; obtain ⟨⟨s0, s1, s2, s3, s4, s5⟩, s6⟩ := KP.out w' hS_.out; go_simp; with_reducible rfl); (· (try simp only [Act.put, List.setIfInBounds_toArray, List.set_cons_zero, List.set_cons_succ, i64_w, i32_w]); rfl)))
          refine Evt.ol_value (a' := ?_) (v := .bool r) (w1 := _) HT_ hHeld rfl rfl (by simp) (by rfl) (by kernel_rfl) ?_ (Below.refl _ _) ?_ ?_
          rotate_left
          · (have lk_ := Bm.lkBB HM.out R2.out; first | (simp [execOp, lk_, Result.andThen]; done) | (go_simp; exact lk_) | (go_simp; done))
          · simp only [Act.put, List.setIfInBounds_toArray, List.set_cons_zero, List.set_cons_succ, i64_w, i32_w]; rfl
          intro hHeld_
          clear hHeld
          have hHeld := hHeld_
          clear hHeld_
          iterate 3 (first | (refine Evt.ol_off (a' := ?_) HT_ rfl rfl (by rfl) (by kernel_rfl) (fun _ _ _ h => h) ?_ ?_; rotate_left; (· (try simp only [Act.put, List.setIfInBounds_toArray, List.set_cons_zero, List.set_cons_succ, i64_w, i32_w]); rfl)) | (refine Evt.ol_pure (a' := ?_) (v := ?_) HT_ rfl rfl rfl (by rfl) (by kernel_rfl) (fun _ _ _ h => h) ?_ ?_ ?_; rotate_left 2; (· intro w'; go_simp; with_reducible rfl); (· (try simp only [Act.put, List.setIfInBounds_toArray, List.set_cons_zero, List.set_cons_succ, i64_w, i32_w]); rfl)) | (refine Evt.ol_load (a' := ?_) (v := ?_) HT_ HW_ hHeld rfl rfl rfl (by rfl) (by kernel_rfl) (fun _ _ _ h => h) ?_ ?_ ?_; rotate_left 2; (· intro w' hS_; obtain ⟨⟨s0, s1, s2, s3, s4, s5⟩, s6⟩ := KP.out w' hS_.out; go_simp; with_reducible rfl); (· (try simp only [Act.put, List.setIfInBounds_toArray, List.set_cons_zero, List.set_cons_succ, i64_w, i32_w]); rfl)))
          refine Evt.ol_done HT_ (by kernel_rfl) ?_
          go_wp2
          go_ret
          exact ⟨rfl, below_step HB.out hHeld.out⟩
        | succ k2 =>
          have j1 : j < n := by have := hj.out; omega
          have q4 : decide ((j : Int) < (n : Int)) = true := decide_eq_true (by omega)
          have HB := Aside0.mk (Below.refl wr.heap.size wr)
          have HB := Aside0.mk J.out.1
          skip
          have ROj := Aside0.mk J.out.2
          clear J
          skip
          go_wp2_with (first | ((with_reducible refine gate_dst (N := 54) rfl ?_); refine Bm.lit2_ev (k := Bm.kBI) (s := false) (v := 9) (s' := true) (v' := 10) Bm.gBI rfl (N := 54) rfl rfl rfl rfl rfl rfl rfl rfl (fun _ => rfl) (fun _ => rfl) (fun _ => rfl) (fun _ => rfl) (fun _ => rfl) trivial trivial (Bm.pI 9 rfl) (Bm.pI 10 rfl) ?_; intro b54 w1 hM_ hb; have hbx : Below wr.heap.size wr w1 := below_step (by repeat (first | (with_reducible first | exact Below.refl _ _ | apply below_alloc | apply pw_below_drewN | apply below_drew1) | exact Below.refl _ _)) hb; replace ROj := Aside0.mk (ROj.out.below hbx); replace HB := Aside0.mk (below_step HB.out hbx); clear hbx; have M54 := Aside0.mk hM_; clear hM_ hb) | ((with_reducible refine gate_dst (N := 57) rfl ?_); refine Bm.get_ev (k := Bm.kBI) (s := or) (v := ko) (u := (.int .i64 ko)) Bm.gBI rfl rfl rfl rfl trivial (M54.out.below (by repeat (first | (with_reducible first | exact Below.refl _ _ | apply below_alloc | apply pw_below_drewN | apply below_drew1) | exact Below.refl _ _))) (by rw [← KO.out]; cases or <;> rfl) rfl ?_) | ((with_reducible refine gate_dst (N := 59) rfl ?_); refine Evt.slice_event ?hg (N := 59) ?hd (cs := #[.int .i64 ko, .int .i64 0, .int .i64 0, .int .i64 0]) (t := 66) (n := 1) ?hr ?_; (case hd => rfl); (case hg => rfl); (case hr => first | (go_simp; done) | (go_simp; rfl)); intro g59 hg w2 hbox hb; have hbx : Below w1.heap.size w1 w2 := below_step (by repeat (first | (with_reducible first | exact Below.refl _ _ | apply below_alloc | apply pw_below_drewN | apply below_drew1) | exact Below.refl _ _)) hb; replace ROj := Aside0.mk (ROj.out.below hbx); replace M54 := Aside0.mk (M54.out.below hbx); replace HB := Aside0.mk (below_step HB.out hbx); clear hbx; have BK59 := Aside0.mk (Bk.mk (hbox : Blk w2 g59 66 #[.int .i64 ko, .int .i64 0, .int .i64 0, .int .i64 0])); clear hbox hg hb; obtain ⟨zBK59_0, zBK59_1, zBK59_2, zBK59_3⟩ := BK59.out.c4) | ((with_reducible refine gate_dst (N := 60) rfl ?_); at_builtin; refine app66 (w0 := w) rfl (.tmp 53) (.tmp 59) rfl u5 (bsI (n + 1) or j) [bsO or] (some ⟨g59, 0, none⟩) 1 1 rfl rfl ((ROj.out.below (by repeat (first | (with_reducible first | exact Below.refl _ _ | apply below_alloc | apply pw_below_drewN | apply below_drew1) | exact Below.refl _ _)))) ((by have h := C66_1 BK59.out; rw [← KO.out] at h; exact h)) (below_step HB.out (by repeat (first | (with_reducible first | exact Below.refl _ _ | apply below_alloc | apply pw_below_drewN | apply below_drew1) | exact Below.refl _ _))) (by rw [bsI_len]; omega) ?_; intro v60 w3 ho hb hg; clear zBK59_0 zBK59_1 zBK59_2 zBK59_3; clear HB hg ROj M54 BK59; have HB := Aside0.mk hb; have RO60 := Aside0.mk ho; clear ho hb; rw [bsI_next] at RO60))
          go_roundg k2
          case measure => omega
          case rel => exact ⟨j + 1, by go_num, ⟨by have := hj.out; omega⟩, ⟨HB.out, RO60.out⟩⟩
    | succ k1 =>
      have i1 : i ≤ n := by have := hi.out; omega
      have q1 : decide ((i : Int) < (n : Int) + 1) = true := decide_eq_true (by omega)
      have HB := Aside0.mk (Below.refl wr.heap.size wr)
      clear HB
      have HB := Aside0.mk I.out.1
      skip
      have ROi := Aside0.mk I.out.2
      clear I
      skip
      obtain ⟨ad, rfl, hx⟩ := rw_bit (HI.out.below HB.out) (i := i) (by have := HN.out; omega)
      have VN := Aside0.mk (take_all (l := l) (i := i) (by have := HN.out; omega))
      obtain ⟨x, hxe⟩ : ∃ x, l.getD i false = x := ⟨_, rfl⟩
      rw [hxe] at hx VN
      clear hxe
      have DN : Aside0 ((l.take (i + 1)).all id = (va && x) ∧ (l.take (i + 1)).any id = (vs || x)) := ⟨by rw [← VN.out.1, ← VN.out.2, VA.out.1, VA.out.2]; exact ⟨rfl, rfl⟩⟩
      clear VN VA
      cases i with
      | zero =>
        rw [Addr.add_zero'] at hx
        have q2 : decide ((0 : Int) < (n : Int) + 1) = true := decide_eq_true (by omega)
        skip
        cases va <;> cases vs
        all_goals
          go_wp2_with (first | ((with_reducible refine gate_dst (N := 37) rfl ?_); refine Evt.slice_event ?hg (N := 37) ?hd (cs := #[.int .i64 0, .int .i64 0, .int .i64 0, .int .i64 0]) (t := 66) (n := 1) ?hr ?_; (case hd => rfl); (case hg => rfl); (case hr => first | (go_simp; done) | (go_simp; rfl)); intro g37 hg w1 hbox hb; have hbx : Below wr.heap.size wr w1 := below_step (by repeat (first | (with_reducible first | exact Below.refl _ _ | apply below_alloc | apply pw_below_drewN | apply below_drew1) | exact Below.refl _ _)) hb; replace ROi := Aside0.mk (ROi.out.below hbx); replace HB := Aside0.mk (below_step HB.out hbx); clear hbx; have BK37 := Aside0.mk (Bk.mk (hbox : Blk w1 g37 66 #[.int .i64 0, .int .i64 0, .int .i64 0, .int .i64 0])); clear hbox hg hb; obtain ⟨zBK37_0, zBK37_1, zBK37_2, zBK37_3⟩ := BK37.out.c4) | ((with_reducible refine gate_dst (N := 38) rfl ?_); at_builtin; refine app66 (w0 := w) rfl (.tmp 33) (.tmp 37) rfl u5 (bsP 0) [ldi 0] (some ⟨g37, 0, none⟩) 1 1 rfl rfl ((ROi.out.below (by repeat (first | (with_reducible first | exact Below.refl _ _ | apply below_alloc | apply pw_below_drewN | apply below_drew1) | exact Below.refl _ _)))) (C66_1 BK37.out) (below_step HB.out (by repeat (first | (with_reducible first | exact Below.refl _ _ | apply below_alloc | apply pw_below_drewN | apply below_drew1) | exact Below.refl _ _))) (by decide) ?_; intro v38 w2 ho hb hg; clear zBK37_0 zBK37_1 zBK37_2 zBK37_3; clear HB hg ROi BK37; have HB := Aside0.mk hb; have RO38 := Aside0.mk ho; clear ho hb))
          go_roundg k1
          case measure => omega
          case rel => exact ⟨1, _, _, by go_num, rfl, rfl, ⟨by have := hi.out; omega⟩, DN, ⟨HB.out, RO38.out⟩⟩
        skip
      | succ i =>
        have i2 : i ≤ 58 := by omega
        have q2 : decide ((0 : Int) < (i : Int) + 1) = true := decide_eq_true (by omega)
        rw [Addr.add_succ'] at hx
        have q4 : decide (i < n) = true := decide_eq_true (by omega)
        have q3 : decide ((i : Int) + 1 < (n : Int) + 1) = true := decide_eq_true (by omega)
        cases va <;> cases vs
        all_goals
          go_wp2_with (first | ((with_reducible refine gate_dst (N := 31) rfl ?_); refine Evt.slice_event ?hg (N := 31) ?hd (cs := #[.int .i64 8, .int .i64 0, .int .i64 0, .int .i64 0]) (t := 66) (n := 1) ?hr ?_; (case hd => rfl); (case hg => rfl); (case hr => first | (go_simp; done) | (go_simp; rfl)); intro g31 hg w1 hbox hb; have hbx : Below wr.heap.size wr w1 := below_step (by repeat (first | (with_reducible first | exact Below.refl _ _ | apply below_alloc | apply pw_below_drewN | apply below_drew1) | exact Below.refl _ _)) hb; replace ROi := Aside0.mk (ROi.out.below hbx); replace HB := Aside0.mk (below_step HB.out hbx); clear hbx; have BK31 := Aside0.mk (Bk.mk (hbox : Blk w1 g31 66 #[.int .i64 8, .int .i64 0, .int .i64 0, .int .i64 0])); clear hbox hg hb; obtain ⟨zBK31_0, zBK31_1, zBK31_2, zBK31_3⟩ := BK31.out.c4) | ((with_reducible refine gate_dst (N := 32) rfl ?_); at_builtin; refine app66 (w0 := w) rfl (.tmp 29) (.tmp 31) rfl u5 (bsP (i + 1)) [psh] (some ⟨g31, 0, none⟩) 1 1 rfl rfl ((ROi.out.below (by repeat (first | (with_reducible first | exact Below.refl _ _ | apply below_alloc | apply pw_below_drewN | apply below_drew1) | exact Below.refl _ _)))) (C66_1 BK31.out) (below_step HB.out (by repeat (first | (with_reducible first | exact Below.refl _ _ | apply below_alloc | apply pw_below_drewN | apply below_drew1) | exact Below.refl _ _))) (by rw [bsP_len]; omega) ?_; intro v32 w2 ho hb hg; clear zBK31_0 zBK31_1 zBK31_2 zBK31_3; clear HB hg ROi BK31; have HB := Aside0.mk hb; have RO32 := Aside0.mk ho; clear ho hb) | ((with_reducible refine gate_dst (N := 37) rfl ?_); refine Evt.slice_event ?hg (N := 37) ?hd (cs := #[.int .i64 0, .int .i64 0, .int .i64 (i + 1 : Nat), .int .i64 0]) (t := 66) (n := 1) ?hr ?_; (case hd => rfl); (case hg => rfl); (case hr => first | (go_simp; done) | (go_simp; rfl)); intro g37 hg w3 hbox hb; have hbx : Below w2.heap.size w2 w3 := below_step (by repeat (first | (with_reducible first | exact Below.refl _ _ | apply below_alloc | apply pw_below_drewN | apply below_drew1) | exact Below.refl _ _)) hb; replace RO32 := Aside0.mk (RO32.out.below hbx); replace HB := Aside0.mk (below_step HB.out hbx); clear hbx; have BK37 := Aside0.mk (Bk.mk (hbox : Blk w3 g37 66 #[.int .i64 0, .int .i64 0, .int .i64 (i + 1 : Nat), .int .i64 0])); clear hbox hg hb; obtain ⟨zBK37_0, zBK37_1, zBK37_2, zBK37_3⟩ := BK37.out.c4) | ((with_reducible refine gate_dst (N := 38) rfl ?_); at_builtin; refine app66 (w0 := w) rfl (.tmp 33) (.tmp 37) rfl v32 (bsP (i + 1) ++ [psh]) [ldi (i + 1)] (some ⟨g37, 0, none⟩) 1 1 rfl rfl ((RO32.out.below (by repeat (first | (with_reducible first | exact Below.refl _ _ | apply below_alloc | apply pw_below_drewN | apply below_drew1) | exact Below.refl _ _)))) (C66_1 BK37.out) (below_step HB.out (by repeat (first | (with_reducible first | exact Below.refl _ _ | apply below_alloc | apply pw_below_drewN | apply below_drew1) | exact Below.refl _ _))) (by rw [List.length_append, bsP_len]; simp; omega) ?_; intro v38 w4 ho hb hg; clear zBK37_0 zBK37_1 zBK37_2 zBK37_3; clear HB hg RO32 BK37; have HB := Aside0.mk hb; have RO38 := Aside0.mk ho; clear ho hb))
          go_roundg k1
          case measure => omega
          case rel => exact ⟨i + 2, _, _, by go_num, rfl, rfl, ⟨by have := hi.out; omega⟩, DN, ⟨HB.out, RO38.out⟩⟩
set_option maxHeartbeats 16000000 in
theorem bs_off (w : World) {A0 : Option Addr} {c0 n : Nat} (hn : n = 0 ∨ 60 < n) (or : Bool) : Calls Try.prog 10 #[.slice A0 n c0, .bool or] w fun x w' => x = .returned (.bool true) ∧ Below w.heap.size w w' := by
  have HB := Aside0.mk (Below.refl w.heap.size w)
  rcases hn with rfl | hn
  · skip
    go_enter Try.func10, Try.ntmps10
    go_wp2_with (first | ((with_reducible refine gate_callee (f := 33) rfl ?_); refine goesL_ (some 19) rfl rfl Try.func33 (by kernel_rfl) rfl #[] rfl (by (try simp only [List.map_toArray, List.map_cons, List.map_nil]); first | done | rfl | (simp only [List.length_drop, List.length_take]; rfl)) ?_; (with_reducible refine (alive_any _).mono ?_); rintro e w1 ⟨rfl, hb⟩; have hbx : Below w.heap.size w w1 := below_step (by repeat (first | (with_reducible first | exact Below.refl _ _ | apply below_alloc | apply pw_below_drewN | apply below_drew1) | exact Below.refl _ _)) hb; replace HB := Aside0.mk (below_step HB.out hbx); clear hbx; clear hb; refine ⟨_, rfl, ?_⟩))
    go_ret
    exact ⟨rfl, HB.out⟩
    skip
  · have t0 : ((n : Int) == 0) = false := by simp; omega
    have t1 : decide ((n : Int) = 0) = false := decide_eq_false (by omega)
    have t2 : decide (60 < (n : Int)) = true := decide_eq_true (by omega)
    have t3 : decide ((n : Int) > 60) = true := decide_eq_true (by omega)
    have t4 : decide (n = 0) = false := decide_eq_false (by omega)
    have t5 : (n == 0) = false := by simp; omega
    have t6 : decide (60 < n) = true := decide_eq_true hn
    go_enter Try.func10, Try.ntmps10
    go_wp2_with (first | ((with_reducible refine gate_callee (f := 33) rfl ?_); refine goesL_ (some 19) rfl rfl Try.func33 (by kernel_rfl) rfl #[] rfl (by (try simp only [List.map_toArray, List.map_cons, List.map_nil]); first | done | rfl | (simp only [List.length_drop, List.length_take]; rfl)) ?_; (with_reducible refine (alive_any _).mono ?_); rintro e w1 ⟨rfl, hb⟩; have hbx : Below w.heap.size w w1 := below_step (by repeat (first | (with_reducible first | exact Below.refl _ _ | apply below_alloc | apply pw_below_drewN | apply below_drew1) | exact Below.refl _ _)) hb; replace HB := Aside0.mk (below_step HB.out hbx); clear hbx; clear hb; refine ⟨_, rfl, ?_⟩))
    go_ret
    exact ⟨rfl, HB.out⟩
theorem bs_walk (w : World) (A0 : Option Addr) (c0 : Nat) (l : List Bool) (hl : l.length ≤ c0) (hC : Kd.C Kd.bool w A0 l.length l) (hQ : SlQ (fun _ : Bool => True) l) (or : Bool) : Calls Try.prog 10 #[.slice A0 l.length c0, .bool or] w fun x w' => x = .returned (.bool true) ∧ Below w.heap.size w w' := by
  by_cases h : l.length = 0 ∨ 60 < l.length
  · exact bs_off w h or
  · have e : l.length = (l.length - 1) + 1 := by omega
    have h1 := bs_main w (A0 := A0) (c0 := c0) (l := l) ⟨hl, hC⟩ (l.length - 1) e (by omega) or
    rw [← e] at h1
    exact h1
end Go.Proofs.Ytjohdkbciafpfaa.Vm6
