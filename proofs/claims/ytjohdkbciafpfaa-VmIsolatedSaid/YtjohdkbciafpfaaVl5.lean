/- VmIsolated, walked. Written by gen/l5.py. -/
import Derived.Test.YtjohdkbciafpfaaOp06
import Derived.Test.YtjohdkbciafpfaaVg
import Derived.Test.YtjohdkbciafpfaaFs
namespace Go.Proofs.Ytjohdkbciafpfaa.Vm6
open Go.RowKit Go.Proofs.YtjohdkbciafpfaaW.PrintWords Go.Proofs.YtjohdkbciafpfaaW.PrintMore Go.Proofs.YtjohdkbciafpfaaW.PrintLast Go.Proofs.Ytjohdkbciafpfaa.Chg Go.Proofs.Ytjohdkbciafpfaa.Evt Go.Proofs.Ytjohdkbciafpfaa.Impl Go.Proofs.Ytjohdkbciafpfaa.St03 Go.Proofs.Ytjohdkbciafpfaa.Open
set_option linter.unusedVariables false
set_option linter.unusedSimpArgs false
set_option maxRecDepth 100000
section
variable {AC AI AQ AM AE : Option Addr} {cC cI cQ cM cE : Nat} {l : List S66} {li q m e : List Bool}
set_option maxHeartbeats 64000000 in
theorem is_go (w : World) (hC : Kd.C k66 w AC l.length l) (hI : Rw Kd.bool w AI cI li) (hS : Sb w AQ cQ AM cM AE cE q m e) (hwf : WfC l) (hsm : Small l li q m e) (TL : ∀ w', Below w.heap.size w w' → Calls Try.prog 32 #[.slice AC l.length cC, .slice AI li.length cI, .agg #[.slice AQ q.length cQ, .slice AM m.length cM, .slice AE e.length cE]] w' fun x w2 => x = .returned (.bool false) ∧ Below w'.heap.size w' w2) :
    Calls Try.prog 14 #[.slice AC l.length cC, .slice AI li.length cI, .agg #[.slice AQ q.length cQ, .slice AM m.length cM, .slice AE e.length cE]] w fun x w' => x = .returned (.bool true) ∧ Below w.heap.size w w' := by
  obtain ⟨sF, nF, hr⟩ : ∃ sF nF, runV l li (l.length + 2) (ini q m e) 0 = (sF, nF) := ⟨_, _, rfl⟩
  have L300 : l.length ≤ 300 := hsm.l
  have HC := Aside0.mk hC
  have HR := Aside0.mk hr
  have HW := Aside0.mk hwf
  have HT := Aside0.mk TL
  have HB := Aside0.mk (Below.refl w.heap.size w)
  have SB := Aside0.mk (hS)
  have RI := Aside0.mk (hI)
  have LI : li.length ≤ 20000 := by have := hsm.i; omega
  have B0 := hS.b0
  have B1 := hS.b1
  have B2 := hS.b2
  clear hC hI hS hr hwf TL hsm
  go_enter Try.func14, Try.ntmps14
  go_wp2_with (first | ((with_reducible refine gate_dst (N := 5) rfl ?_); refine box_event ?hg (N := 5) ?hd (cs := #[.slice AQ q.length cQ, .slice AM m.length cM, .slice AE e.length cE]) (t := 24) ?hr ?_; (case hd => rfl); (case hg => rfl); (case hr => first | (go_simp; done) | (go_simp; rfl)); intro g5 hg w1 hbox hb; have hbx : Below w.heap.size w w1 := below_step (by repeat (first | (with_reducible first | exact Below.refl _ _ | apply below_alloc | apply pw_below_drewN | apply below_drew1) | exact Below.refl _ _)) hb; replace SB := Aside0.mk (SB.out.below hbx); replace RI := Aside0.mk (RI.out.below hbx); replace HB := Aside0.mk (below_step HB.out hbx); clear hbx; have BK5 := Aside0.mk (Bk.mk (hbox : Blk w1 g5 24 #[.slice AQ q.length cQ, .slice AM m.length cM, .slice AE e.length cE])); clear hbox hg hb; obtain ⟨zBK5_0, zBK5_1, zBK5_2⟩ := BK5.out.c3) | (go_at_call 32; (with_reducible refine (HT.out _ (below_step HB.out (by repeat (first | (with_reducible first | exact Below.refl _ _ | apply below_alloc | apply pw_below_drewN | apply below_drew1) | exact Below.refl _ _)))).mono ?_); rintro e w2 ⟨rfl, hb⟩; have hbx : Below w1.heap.size w1 w2 := below_step (by repeat (first | (with_reducible first | exact Below.refl _ _ | apply below_alloc | apply pw_below_drewN | apply below_drew1) | exact Below.refl _ _)) hb; clear zBK5_0 zBK5_1 zBK5_2; replace SB := Aside0.mk (SB.out.below hbx); replace RI := Aside0.mk (RI.out.below hbx); replace BK5 := Aside0.mk (BK5.out.below hbx); replace HB := Aside0.mk (below_step HB.out hbx); clear hbx; clear hb; obtain ⟨zBK5_0, zBK5_1, zBK5_2⟩ := BK5.out.c3) | ((with_reducible refine gate_callee (f := 34) rfl ?_); refine goesL_ (some 27) rfl rfl Try.func34 (by kernel_rfl) rfl #[.slice AC l.length cC, .slice AI li.length cI, .agg #[.slice AQ q.length cQ, .slice AM m.length cM, .slice AE e.length cE]] rfl (by (try simp only [List.map_toArray, List.map_cons, List.map_nil]); first | done | rfl | (simp only [List.length_drop, List.length_take]; rfl)) ?_; (with_reducible refine (run_any _ (Kd.C_below HC.out (below_step HB.out (by repeat (first | (with_reducible first | exact Below.refl _ _ | apply below_alloc | apply pw_below_drewN | apply below_drew1) | exact Below.refl _ _)))) (RI.out.below (by repeat (first | (with_reducible first | exact Below.refl _ _ | apply below_alloc | apply pw_below_drewN | apply below_drew1) | exact Below.refl _ _))) (SB.out.below (by repeat (first | (with_reducible first | exact Below.refl _ _ | apply below_alloc | apply pw_below_drewN | apply below_drew1) | exact Below.refl _ _))) (by omega) LI HW.out HR.out).mono ?_); rintro e w3 ⟨X0, x0, X1, x1, X2, x2, rfl, hs_, _, hb⟩; have hbx : Below w2.heap.size w2 w3 := below_step (by repeat (first | (with_reducible first | exact Below.refl _ _ | apply below_alloc | apply pw_below_drewN | apply below_drew1) | exact Below.refl _ _)) hb; clear zBK5_0 zBK5_1 zBK5_2; replace SB := Aside0.mk (SB.out.below hbx); replace RI := Aside0.mk (RI.out.below hbx); replace BK5 := Aside0.mk (BK5.out.below hbx); replace HB := Aside0.mk (below_step HB.out hbx); clear hbx; have SS := Aside0.mk (hs_); clear hb; clear hs_; obtain ⟨zBK5_0, zBK5_1, zBK5_2⟩ := BK5.out.c3; refine ⟨_, rfl, ?_⟩) | ((with_reducible refine gate_dst (N := 7) rfl ?_); refine Evt.box2 ?hg (N := 7) ?hd (z := #[.slice none 0 0, .slice none 0 0, .slice none 0 0, .int .i64 0, .int .i64 0, .int .i64 0]) (cs := #[.slice X0 sF.q.length x0, .slice X1 sF.m.length x1, .slice X2 sF.e.length x2, .int .i64 nF, .int .i64 sF.pc, .int .i64 sF.fault]) (T := 60) ?hr ?hg2 (.tmp 27) ?ho2 ?hd2 ?hy ?hx ?hi ?hz ?h1 ?_; (case hd => rfl); (case hg => rfl); (case hr => first | (go_simp; done) | (go_simp; rfl)); (case hg2 => rfl); (case ho2 => rfl); (case hd2 => rfl); (case hy => first | rfl | (go_simp; done)); (case hx => first | rfl | (go_simp; done)); (case hi => kernel_rfl); (case hz => rfl); (case h1 => first | rfl | (simp [Value.oneCell'])); intro g7 hg w4 hbox hb; have hbx : Below w3.heap.size w3 w4 := below_step (by repeat (first | (with_reducible first | exact Below.refl _ _ | apply below_alloc | apply pw_below_drewN | apply below_drew1) | exact Below.refl _ _)) hb; clear zBK5_0 zBK5_1 zBK5_2; replace SB := Aside0.mk (SB.out.below hbx); replace RI := Aside0.mk (RI.out.below hbx); replace BK5 := Aside0.mk (BK5.out.below hbx); replace SS := Aside0.mk (SS.out.below hbx); replace HB := Aside0.mk (below_step HB.out hbx); clear hbx; have BK7 := Aside0.mk (Bk.mk (hbox : Blk w4 g7 60 #[.slice X0 sF.q.length x0, .slice X1 sF.m.length x1, .slice X2 sF.e.length x2, .int .i64 nF, .int .i64 sF.pc, .int .i64 sF.fault])); clear hbox hg hb; obtain ⟨zBK5_0, zBK5_1, zBK5_2⟩ := BK5.out.c3; obtain ⟨zBK7_0, zBK7_1, zBK7_2, zBK7_3, zBK7_4, zBK7_5⟩ := BK7.out.c6) | ((with_reducible refine gate_callee (f := 23) rfl ?_); refine goesL_ (some 29) rfl rfl Try.func23 (by kernel_rfl) rfl #[.agg #[.slice AQ q.length cQ, .slice AM m.length cM, .slice AE e.length cE]] rfl (by (try simp only [List.map_toArray, List.map_cons, List.map_nil]); first | done | rfl | (simp only [List.length_drop, List.length_take]; rfl)) ?_; (with_reducible refine (cloneR (SB.out.below (by repeat (first | (with_reducible first | exact Below.refl _ _ | apply below_alloc | apply pw_below_drewN | apply below_drew1) | exact Below.refl _ _)))).mono ?_); rintro e w5 ⟨Y0, y0, Y1, y1, Y2, y2, rfl, ho_, hb⟩; have hbx : Below w4.heap.size w4 w5 := below_step (by repeat (first | (with_reducible first | exact Below.refl _ _ | apply below_alloc | apply pw_below_drewN | apply below_drew1) | exact Below.refl _ _)) hb; have hs_ := ho_.lower (show w4.heap.size ≤ _ from (below_size (by repeat (first | (with_reducible first | exact Below.refl _ _ | apply below_alloc | apply pw_below_drewN | apply below_drew1) | exact Below.refl _ _)))); clear ho_; have wn_ := Bw.mk hbx; have HB0 := HB; have K7 := BK7; have SN := SS; clear zBK5_0 zBK5_1 zBK5_2 zBK7_0 zBK7_1 zBK7_2 zBK7_3 zBK7_4 zBK7_5; replace SB := Aside0.mk (SB.out.below hbx); replace RI := Aside0.mk (RI.out.below hbx); replace BK5 := Aside0.mk (BK5.out.below hbx); replace SS := Aside0.mk (SS.out.below hbx); replace BK7 := Aside0.mk (BK7.out.below hbx); replace HB := Aside0.mk (below_step HB.out hbx); clear hbx; have OW := Aside0.mk (hs_); have WN := Aside0.mk (wn_); clear hb; clear hs_ wn_; obtain ⟨zBK5_0, zBK5_1, zBK5_2⟩ := BK5.out.c3; obtain ⟨zBK7_0, zBK7_1, zBK7_2, zBK7_3, zBK7_4, zBK7_5⟩ := BK7.out.c6; refine ⟨_, rfl, ?_⟩) | ((with_reducible refine gate_dst (N := 8) rfl ?_); refine Evt.box2 ?hg (N := 8) ?hd (z := #[.slice none 0 0, .slice none 0 0, .slice none 0 0]) (cs := #[.slice Y0 q.length y0, .slice Y1 m.length y1, .slice Y2 e.length y2]) (T := 24) ?hr ?hg2 (.tmp 29) ?ho2 ?hd2 ?hy ?hx ?hi ?hz ?h1 ?_; (case hd => rfl); (case hg => rfl); (case hr => first | (go_simp; done) | (go_simp; rfl)); (case hg2 => rfl); (case ho2 => rfl); (case hd2 => rfl); (case hy => first | rfl | (go_simp; done)); (case hx => first | rfl | (go_simp; done)); (case hi => kernel_rfl); (case hz => rfl); (case h1 => first | rfl | (simp [Value.oneCell'])); intro g8 hg w6 hbox hb; have hbx : Below w5.heap.size w5 w6 := below_step (by repeat (first | (with_reducible first | exact Below.refl _ _ | apply below_alloc | apply pw_below_drewN | apply below_drew1) | exact Below.refl _ _)) hb; clear zBK5_0 zBK5_1 zBK5_2 zBK7_0 zBK7_1 zBK7_2 zBK7_3 zBK7_4 zBK7_5; replace SB := Aside0.mk (SB.out.below hbx); replace RI := Aside0.mk (RI.out.below hbx); replace BK5 := Aside0.mk (BK5.out.below hbx); replace SS := Aside0.mk (SS.out.below hbx); replace BK7 := Aside0.mk (BK7.out.below hbx); replace OW := Aside0.mk (OW.out.below hbx); replace WN := Aside0.mk (WN.out.below hbx); replace HB := Aside0.mk (below_step HB.out hbx); clear hbx; have BK8 := Aside0.mk (Bk.mk (hbox : Blk w6 g8 24 #[.slice Y0 q.length y0, .slice Y1 m.length y1, .slice Y2 e.length y2])); clear hbox hg hb; obtain ⟨zBK5_0, zBK5_1, zBK5_2⟩ := BK5.out.c3; obtain ⟨zBK7_0, zBK7_1, zBK7_2, zBK7_3, zBK7_4, zBK7_5⟩ := BK7.out.c6; obtain ⟨zBK8_0, zBK8_1, zBK8_2⟩ := BK8.out.c3) | ((with_reducible refine gate_callee (f := 36) rfl ?_); refine goesL_ (some 33) rfl rfl Try.func36 (by kernel_rfl) rfl #[.slice AC l.length cC, .slice AI li.length cI, .agg #[.slice Y0 q.length y0, .slice Y1 m.length y1, .slice Y2 e.length y2]] rfl (by (try simp only [List.map_toArray, List.map_cons, List.map_nil]); first | done | rfl | (simp only [List.length_drop, List.length_take]; rfl)) ?_; (with_reducible refine (new_c _ (B := w4.heap.size) (Nat.le_trans WN.out.out.size (below_size (by repeat (first | (with_reducible first | exact Below.refl _ _ | apply below_alloc | apply pw_below_drewN | apply below_drew1) | exact Below.refl _ _)))) (Kd.C_below HC.out (below_step HB.out (by repeat (first | (with_reducible first | exact Below.refl _ _ | apply below_alloc | apply pw_below_drewN | apply below_drew1) | exact Below.refl _ _)))) (RI.out.below (by repeat (first | (with_reducible first | exact Below.refl _ _ | apply below_alloc | apply pw_below_drewN | apply below_drew1) | exact Below.refl _ _))) ⟨(OW.out.below (by repeat (first | (with_reducible first | exact Below.refl _ _ | apply below_alloc | apply pw_below_drewN | apply below_drew1) | exact Below.refl _ _))).sr, B0, B1, B2⟩ (by omega) LI).mono ?_); rintro e w7 ⟨gm, U0, rfl, hv_, hu_, hb⟩; have hbx : Below w6.heap.size w6 w7 := below_step (by repeat (first | (with_reducible first | exact Below.refl _ _ | apply below_alloc | apply pw_below_drewN | apply below_drew1) | exact Below.refl _ _)) hb; have UW := Aside0.mk (show ∀ k, U0 k → w6.heap.size ≤ k from fun k hk => Nat.le_trans (below_size (by repeat (first | (with_reducible first | exact Below.refl _ _ | apply below_alloc | apply pw_below_drewN | apply below_drew1) | exact Below.refl _ _))) (hu_ k hk).1); have OL := Aside0.mk (show Own3 w6 w4.heap.size (.slice Y0 q.length y0) (.slice Y1 m.length y1) (.slice Y2 e.length y2) q m e from OW.out); clear hu_; clear zBK5_0 zBK5_1 zBK5_2 zBK7_0 zBK7_1 zBK7_2 zBK7_3 zBK7_4 zBK7_5 zBK8_0 zBK8_1 zBK8_2; replace SB := Aside0.mk (SB.out.below hbx); replace RI := Aside0.mk (RI.out.below hbx); replace BK5 := Aside0.mk (BK5.out.below hbx); replace SS := Aside0.mk (SS.out.below hbx); replace BK7 := Aside0.mk (BK7.out.below hbx); replace OW := Aside0.mk (OW.out.below hbx); replace WN := Aside0.mk (WN.out.below hbx); replace BK8 := Aside0.mk (BK8.out.below hbx); replace HB := Aside0.mk (below_step HB.out hbx); clear hbx; have VP := Aside0.mk (hv_); clear hb; clear hv_; obtain ⟨zBK5_0, zBK5_1, zBK5_2⟩ := BK5.out.c3; obtain ⟨zBK7_0, zBK7_1, zBK7_2, zBK7_3, zBK7_4, zBK7_5⟩ := BK7.out.c6; obtain ⟨zBK8_0, zBK8_1, zBK8_2⟩ := BK8.out.c3; refine ⟨_, rfl, ?_⟩) | ((with_reducible refine gate_dst (N := 42) rfl ?_); refine Evt.slice_event ?hg (N := 42) ?hd (cs := #[.slice Y0 q.length y0, .slice Y1 m.length y1, .slice Y2 e.length y2]) (t := 22) (n := 3) ?hr ?_; (case hd => rfl); (case hg => rfl); (case hr => first | (go_simp; done) | (go_simp; rfl)); intro g42 hg w8 hbox hb; have hbx : Below w7.heap.size w7 w8 := below_step (by repeat (first | (with_reducible first | exact Below.refl _ _ | apply below_alloc | apply pw_below_drewN | apply below_drew1) | exact Below.refl _ _)) hb; clear zBK5_0 zBK5_1 zBK5_2 zBK7_0 zBK7_1 zBK7_2 zBK7_3 zBK7_4 zBK7_5 zBK8_0 zBK8_1 zBK8_2; replace SB := Aside0.mk (SB.out.below hbx); replace RI := Aside0.mk (RI.out.below hbx); replace BK5 := Aside0.mk (BK5.out.below hbx); replace SS := Aside0.mk (SS.out.below hbx); replace BK7 := Aside0.mk (BK7.out.below hbx); replace OW := Aside0.mk (OW.out.below hbx); replace WN := Aside0.mk (WN.out.below hbx); replace BK8 := Aside0.mk (BK8.out.below hbx); replace VP := Aside0.mk (VP.out.below hbx); replace HB := Aside0.mk (below_step HB.out hbx); clear hbx; have BK42 := Aside0.mk (Bk.mk (hbox : Blk w8 g42 22 #[.slice Y0 q.length y0, .slice Y1 m.length y1, .slice Y2 e.length y2])); clear hbox hg hb; obtain ⟨zBK5_0, zBK5_1, zBK5_2⟩ := BK5.out.c3; obtain ⟨zBK7_0, zBK7_1, zBK7_2, zBK7_3, zBK7_4, zBK7_5⟩ := BK7.out.c6; obtain ⟨zBK8_0, zBK8_1, zBK8_2⟩ := BK8.out.c3; obtain ⟨zBK42_0, zBK42_1, zBK42_2⟩ := BK42.out.c3))
  have FX : Aside0 (Fx w4 w8 gm U0 l li (ini q m e) g42) := ⟨⟨WN.out.out, VP.out, rows_of BK42.out OW.out OL.out (fun k h1 h2 => ⟨h1, fun hu => Nat.not_le_of_lt h2 (UW.out k hu)⟩) B0 B1 B2⟩⟩
  clear zBK5_0 zBK5_1 zBK5_2 zBK7_0 zBK7_1 zBK7_2 zBK7_3 zBK7_4 zBK7_5 zBK8_0 zBK8_1 zBK8_2 zBK42_0 zBK42_1 zBK42_2
  clear SB RI BK5 SS BK7 BK8 BK42 HB VP WN OW OL UW HT HC
  go_loopg [44] 3 (fun kq v44 wr => ∃ jf : Nat, v44 = .int .i64 jf ∧ Aside0 (jf + kq = 3) ∧ Aside0 (Fx w4 wr gm U0 l li (ini q m e) g42))
  case atStart => exact ⟨0, rfl, ⟨rfl⟩, FX⟩
  case round =>
    clear FX
    obtain ⟨jf, rfl, hjf, FX⟩ := hrel
    cases gk with
    | succ ka =>
      have jf3 : jf < 3 := by have := hjf.out; omega
      have jf4 : (jf : Int) ≤ 2 := by omega
      have pf0 : decide (jf < 3) = true := decide_eq_true jf3
      have pf1 : decide ((jf : Int) < 3) = true := decide_eq_true (by omega)
      have pf2 : ((jf : Int)).toNat = jf := Int.toNat_natCast jf
      obtain ⟨X, n, x, hc, hf, hn⟩ := FX.out.rows.at jf3
      have FL := Aside0.mk hf
      clear hf
      go_wp2_with fail
      clear hc
      go_loopg [50] n (fun kq v50 wr => ∃ i : Nat, v50 = .int .i64 i ∧ Aside0 (i + kq = n) ∧ Aside0 (Fx w4 wr gm U0 l li (ini q m e) g42 ∧ Fl wr (fun k => w4.heap.size ≤ k ∧ ¬ U0 k) X n))
      case atStart => exact ⟨0, rfl, ⟨by omega⟩, ⟨FX.out, FL.out⟩⟩
      case round =>
        clear FX FL
        obtain ⟨i, rfl, hi, F2⟩ := hrel
        cases gk with
        | zero =>
          have pf3 : decide ((i : Int) < (n : Int)) = false := decide_eq_false (by have := hi.out; omega)
          have pf4 : decide (i < n) = false := decide_eq_false (by have := hi.out; omega)
          go_wp2_with fail
          go_roundg ka
          case measure => omega
          case rel => exact ⟨jf + 1, by go_num, ⟨by have := hjf.out; omega⟩, ⟨F2.out.1⟩⟩
        | succ kb =>
          have i1 : i < n := by have := hi.out; omega
          have pf3 : decide ((i : Int) < (n : Int)) = true := decide_eq_true (by omega)
          have pf4 : decide (i < n) = true := decide_eq_true i1
          obtain ⟨gx, cs, rfl, hk, hok, hcs⟩ := F2.out.2.resolve_left (by omega)
          obtain ⟨b, hb⟩ := hcs i i1
          have z1 : wr.cell? ⟨gx, i, none⟩ = some (.bool b) := hk.blk.cell i hb
          have z2 : wr.frozen? ⟨gx, i, none⟩ = false := blk_frozen hk.blk i
          have HK := Aside0.mk hk
          have HO := Aside0.mk hok
          have i2 : (i : Int) ≤ 20000 := by omega
          clear hk hok hcs hb
          go_wp2_with fail
          go_roundg kb
          case measure => omega
          case rel => exact ⟨i + 1, by go_num, ⟨by have := hi.out; omega⟩, ⟨F2.out.1.set HK.out HO.out i _, F2.out.2.set HK.out i _⟩⟩
    | zero =>
      have pf0 : decide (jf < 3) = false := decide_eq_false (by have := hjf.out; omega)
      have pf1 : decide ((jf : Int) < 3) = false := decide_eq_false (by have := hjf.out; omega)
      have INV : Aside0 (IsI w4 wr gm l li (l.length + 1) 0 0 (ini q m e) sF nF) := ⟨⟨FX.out.hb, ⟨_, FX.out.vm⟩, Ok.ini q m e, rfl, by omega, by show (l.length : Int) + 1 ≤ 0 + _; omega, HR.out⟩⟩
      clear FX hjf HR
      go_wp2_with fail
      go_loopg [66] (l.length + 1) (fun kq v66 wr => ∃ (j n : Nat) (s : MS), v66 = .int .i64 j ∧ Aside0 (IsI w4 wr gm l li kq j n s sF nF))
      case atStart => exact ⟨0, 0, _, rfl, INV⟩
      case round =>
        clear INV
        obtain ⟨j, n, s, rfl, TI⟩ := hrel
        cases gk with
        | zero => have h1_ := TI.out.pk; have h2_ := TI.out.ok.p1; omega
        | succ k1 =>
          have q0 : decide (j < l.length + 1) = true := decide_eq_true (by have := TI.out.jk; omega)
          have q1 : decide ((j : Int) < (l.length : Int) + 1) = true := decide_eq_true (by have := TI.out.jk; omega)
          have q3 : (j : Int) ≤ 302 := by have := TI.out.jk; omega
          obtain ⟨U, hv⟩ := TI.out.vm
          have VP := Aside0.mk hv
          clear hv
          cases hg : (stepV l li s).1.1 with
          | true =>
            have GV := Aside0.mk hg
            have ER := Aside0.mk ((TI.out.ok.sf (li := li)).go hg).2.1
            clear hg
            skip
            have HB := Aside0.mk (Below.refl w4.heap.size w4)
            clear HB
            have HB := Aside0.mk TI.out.hb
            skip
            go_wp2_with (first | ((with_reducible refine gate_callee (f := 38) rfl ?_); refine goesL_ (some 70) rfl rfl Try.func38 (by kernel_rfl) rfl #[.pointer (some ⟨gm, 0, none⟩)] rfl (by (try simp only [List.map_toArray, List.map_cons, List.map_nil]); first | done | rfl | (simp only [List.length_drop, List.length_take]; rfl)) ?_; (with_reducible refine (step_c (VP.out.below (by repeat (first | (with_reducible first | exact Below.refl _ _ | apply below_alloc | apply pw_below_drewN | apply below_drew1) | exact Below.refl _ _))) HW.out TI.out.ok.p0 GV.out ER.out).mono ?_); rintro e_ w8' ⟨rfl, hs_⟩; have NX := Aside0.mk (vm_nx HB.out VP.out hs_); clear hs_ VP HB; obtain ⟨U8, hv_⟩ := NX.out.2; have UB := Aside0.mk hv_.lt; have VP := Aside0.mk hv_; have HB := Aside0.mk NX.out.1; have HB8 := HB; clear hv_ NX; skip; refine ⟨_, rfl, ?_⟩) | ((with_reducible refine gate_callee (f := 39) rfl ?_); refine goesL_ (some 74) rfl rfl Try.func39 (by kernel_rfl) rfl #[.pointer (some ⟨gm, 0, none⟩)] rfl (by (try simp only [List.map_toArray, List.map_cons, List.map_nil]); first | done | rfl | (simp only [List.length_drop, List.length_take]; rfl)) ?_; (with_reducible refine (state_any (VP.out.below (by repeat (first | (with_reducible first | exact Below.refl _ _ | apply below_alloc | apply pw_below_drewN | apply below_drew1) | exact Below.refl _ _)))).mono ?_); rintro e w1 ⟨Z0, z0, Z1, z1, Z2, z2, rfl, ho_, hb⟩; have hbx : Below w8'.heap.size w8' w1 := below_step (by repeat (first | (with_reducible first | exact Below.refl _ _ | apply below_alloc | apply pw_below_drewN | apply below_drew1) | exact Below.refl _ _)) hb; have hs_ := ho_.lower (show w8'.heap.size ≤ _ from (below_size (by repeat (first | (with_reducible first | exact Below.refl _ _ | apply below_alloc | apply pw_below_drewN | apply below_drew1) | exact Below.refl _ _)))); clear ho_; replace VP := Aside0.mk (VP.out.below hbx); replace HB := Aside0.mk (below_step HB.out hbx); clear hbx; have SO := Aside0.mk (hs_); clear hb; clear hs_; refine ⟨_, rfl, ?_⟩) | ((with_reducible refine gate_dst (N := 15) rfl ?_); refine Evt.box2 ?hg (N := 15) ?hd (z := #[.slice none 0 0, .slice none 0 0, .slice none 0 0]) (cs := #[.slice Z0 (stepV l li s).2.q.length z0, .slice Z1 (stepV l li s).2.m.length z1, .slice Z2 (stepV l li s).2.e.length z2]) (T := 24) ?hr ?hg2 (.tmp 74) ?ho2 ?hd2 ?hy ?hx ?hi ?hz ?h1 ?_; (case hd => rfl); (case hg => rfl); (case hr => first | (go_simp; done) | (go_simp; rfl)); (case hg2 => rfl); (case ho2 => rfl); (case hd2 => rfl); (case hy => first | rfl | (go_simp; done)); (case hx => first | rfl | (go_simp; done)); (case hi => kernel_rfl); (case hz => rfl); (case h1 => first | rfl | (simp [Value.oneCell'])); intro g15 hg w2 hbox hb; have hbx : Below w1.heap.size w1 w2 := below_step (by repeat (first | (with_reducible first | exact Below.refl _ _ | apply below_alloc | apply pw_below_drewN | apply below_drew1) | exact Below.refl _ _)) hb; replace VP := Aside0.mk (VP.out.below hbx); replace SO := Aside0.mk (SO.out.below hbx); replace HB := Aside0.mk (below_step HB.out hbx); clear hbx; have BK15 := Aside0.mk (Bk.mk (hbox : Blk w2 g15 24 #[.slice Z0 (stepV l li s).2.q.length z0, .slice Z1 (stepV l li s).2.m.length z1, .slice Z2 (stepV l li s).2.e.length z2])); clear hbox hg hb; obtain ⟨zBK15_0, zBK15_1, zBK15_2⟩ := BK15.out.c3) | ((with_reducible refine gate_dst (N := 97) rfl ?_); refine Evt.slice_event ?hg (N := 97) ?hd (cs := #[.slice Z0 (stepV l li s).2.q.length z0, .slice Z1 (stepV l li s).2.m.length z1, .slice Z2 (stepV l li s).2.e.length z2]) (t := 22) (n := 3) ?hr ?_; (case hd => rfl); (case hg => rfl); (case hr => first | (go_simp; done) | (go_simp; rfl)); intro g97 hg w3 hbox hb; have hbx : Below w2.heap.size w2 w3 := below_step (by repeat (first | (with_reducible first | exact Below.refl _ _ | apply below_alloc | apply pw_below_drewN | apply below_drew1) | exact Below.refl _ _)) hb; clear zBK15_0 zBK15_1 zBK15_2; replace VP := Aside0.mk (VP.out.below hbx); replace SO := Aside0.mk (SO.out.below hbx); replace BK15 := Aside0.mk (BK15.out.below hbx); replace HB := Aside0.mk (below_step HB.out hbx); clear hbx; have BK97 := Aside0.mk (Bk.mk (hbox : Blk w3 g97 22 #[.slice Z0 (stepV l li s).2.q.length z0, .slice Z1 (stepV l li s).2.m.length z1, .slice Z2 (stepV l li s).2.e.length z2])); clear hbox hg hb; obtain ⟨zBK15_0, zBK15_1, zBK15_2⟩ := BK15.out.c3; obtain ⟨zBK97_0, zBK97_1, zBK97_2⟩ := BK97.out.c3))
            have FX : Aside0 (Fx w4 w3 gm U8 l li (stepV l li s).2 g97) := ⟨⟨HB.out, VP.out, rows_of BK97.out SO.out SO.out (fun k h1 h2 => ⟨Nat.le_trans HB8.out.size h1, fun hu => Nat.not_le_of_lt (UB.out k hu) h1⟩) VP.out.ft.q VP.out.ft.m VP.out.ft.e⟩⟩
            have TN : Aside0 (∀ w', Below w4.heap.size w4 w' → (∃ U, VmP w' w4.heap.size U gm l li (stepV l li s).2) → IsI w4 w' gm l li k1 (j + 1) (n + 1) (stepV l li s).2 sF nF) := ⟨fun w' h1 h2 => TI.out.more GV.out h1 h2⟩
            clear zBK15_0 zBK15_1 zBK15_2 zBK97_0 zBK97_1 zBK97_2
            clear BK15 BK97 SO HB VP UB HB8 TI GV ER
            go_loopg [99] 3 (fun kq v99 wr => ∃ jf : Nat, v99 = .int .i64 jf ∧ Aside0 (jf + kq = 3) ∧ Aside0 (Fx w4 wr gm U8 l li (stepV l li s).2 g97))
            case atStart => exact ⟨0, rfl, ⟨rfl⟩, FX⟩
            case round =>
              clear FX
              obtain ⟨jf, rfl, hjf, FX⟩ := hrel
              cases gk with
              | succ ka =>
                have jf3 : jf < 3 := by have := hjf.out; omega
                have jf4 : (jf : Int) ≤ 2 := by omega
                have pf0 : decide (jf < 3) = true := decide_eq_true jf3
                have pf1 : decide ((jf : Int) < 3) = true := decide_eq_true (by omega)
                have pf2 : ((jf : Int)).toNat = jf := Int.toNat_natCast jf
                obtain ⟨X, n, x, hc, hf, hn⟩ := FX.out.rows.at jf3
                have FL := Aside0.mk hf
                clear hf
                go_wp2_with fail
                clear hc
                go_loopg [105] n (fun kq v105 wr => ∃ i : Nat, v105 = .int .i64 i ∧ Aside0 (i + kq = n) ∧ Aside0 (Fx w4 wr gm U8 l li (stepV l li s).2 g97 ∧ Fl wr (fun k => w4.heap.size ≤ k ∧ ¬ U8 k) X n))
                case atStart => exact ⟨0, rfl, ⟨by omega⟩, ⟨FX.out, FL.out⟩⟩
                case round =>
                  clear FX FL
                  obtain ⟨i, rfl, hi, F2⟩ := hrel
                  cases gk with
                  | zero =>
                    have pf3 : decide ((i : Int) < (n : Int)) = false := decide_eq_false (by have := hi.out; omega)
                    have pf4 : decide (i < n) = false := decide_eq_false (by have := hi.out; omega)
                    go_wp2_with fail
                    go_roundg ka
                    case measure => omega
                    case rel => exact ⟨jf + 1, by go_num, ⟨by have := hjf.out; omega⟩, ⟨F2.out.1⟩⟩
                  | succ kb =>
                    have i1 : i < n := by have := hi.out; omega
                    have pf3 : decide ((i : Int) < (n : Int)) = true := decide_eq_true (by omega)
                    have pf4 : decide (i < n) = true := decide_eq_true i1
                    obtain ⟨gx, cs, rfl, hk, hok, hcs⟩ := F2.out.2.resolve_left (by omega)
                    obtain ⟨b, hb⟩ := hcs i i1
                    have z1 : wr.cell? ⟨gx, i, none⟩ = some (.bool b) := hk.blk.cell i hb
                    have z2 : wr.frozen? ⟨gx, i, none⟩ = false := blk_frozen hk.blk i
                    have HK := Aside0.mk hk
                    have HO := Aside0.mk hok
                    have i2 : (i : Int) ≤ 20000 := by omega
                    clear hk hok hcs hb
                    go_wp2_with fail
                    go_roundg kb
                    case measure => omega
                    case rel => exact ⟨i + 1, by go_num, ⟨by have := hi.out; omega⟩, ⟨F2.out.1.set HK.out HO.out i _, F2.out.2.set HK.out i _⟩⟩
              | zero =>
                have pf0 : decide (jf < 3) = false := decide_eq_false (by have := hjf.out; omega)
                have pf1 : decide ((jf : Int) < 3) = false := decide_eq_false (by have := hjf.out; omega)
                go_wp2_with fail
                go_roundg k1
                case measure => omega
                case rel => exact ⟨j + 1, n + 1, _, by go_num, ⟨TN.out _ FX.out.hb ⟨_, FX.out.vm⟩⟩⟩
            skip
          | false =>
            have GV := Aside0.mk hg
            have ER : Aside0 ((stepV l li s).1.2 = (stepV l li s).1.2) := ⟨rfl⟩
            clear hg
            have T1 := Aside0.mk (TI.out.last GV.out)
            have e2 : (sF.pc == sF.pc) = true := beq_self_eq_true _
            skip
            have HB := Aside0.mk (Below.refl w4.heap.size w4)
            clear HB
            have HB := Aside0.mk TI.out.hb
            skip
            go_wp2_with (first | ((with_reducible refine gate_callee (f := 38) rfl ?_); refine goesL_ (some 70) rfl rfl Try.func38 (by kernel_rfl) rfl #[.pointer (some ⟨gm, 0, none⟩)] rfl (by (try simp only [List.map_toArray, List.map_cons, List.map_nil]); first | done | rfl | (simp only [List.length_drop, List.length_take]; rfl)) ?_; (with_reducible refine (step_c (VP.out.below (by repeat (first | (with_reducible first | exact Below.refl _ _ | apply below_alloc | apply pw_below_drewN | apply below_drew1) | exact Below.refl _ _))) HW.out TI.out.ok.p0 GV.out ER.out).mono ?_); rintro e_ w8' ⟨rfl, hs_⟩; rw [T1.out] at hs_; have NX := Aside0.mk (vm_nx HB.out VP.out hs_); clear hs_ VP HB; obtain ⟨U8, hv_⟩ := NX.out.2; have UB := Aside0.mk hv_.lt; have VP := Aside0.mk hv_; have HB := Aside0.mk NX.out.1; have HB8 := HB; clear hv_ NX; skip; refine ⟨_, rfl, ?_⟩) | ((with_reducible refine gate_callee (f := 39) rfl ?_); refine goesL_ (some 74) rfl rfl Try.func39 (by kernel_rfl) rfl #[.pointer (some ⟨gm, 0, none⟩)] rfl (by (try simp only [List.map_toArray, List.map_cons, List.map_nil]); first | done | rfl | (simp only [List.length_drop, List.length_take]; rfl)) ?_; (with_reducible refine (state_any (VP.out.below (by repeat (first | (with_reducible first | exact Below.refl _ _ | apply below_alloc | apply pw_below_drewN | apply below_drew1) | exact Below.refl _ _)))).mono ?_); rintro e w1 ⟨Z0, z0, Z1, z1, Z2, z2, rfl, ho_, hb⟩; have hbx : Below w8'.heap.size w8' w1 := below_step (by repeat (first | (with_reducible first | exact Below.refl _ _ | apply below_alloc | apply pw_below_drewN | apply below_drew1) | exact Below.refl _ _)) hb; have hs_ := ho_.lower (show w8'.heap.size ≤ _ from (below_size (by repeat (first | (with_reducible first | exact Below.refl _ _ | apply below_alloc | apply pw_below_drewN | apply below_drew1) | exact Below.refl _ _)))); clear ho_; replace VP := Aside0.mk (VP.out.below hbx); replace HB := Aside0.mk (below_step HB.out hbx); clear hbx; have SO := Aside0.mk (hs_); clear hb; clear hs_; refine ⟨_, rfl, ?_⟩) | ((with_reducible refine gate_dst (N := 15) rfl ?_); refine Evt.box2 ?hg (N := 15) ?hd (z := #[.slice none 0 0, .slice none 0 0, .slice none 0 0]) (cs := #[.slice Z0 sF.q.length z0, .slice Z1 sF.m.length z1, .slice Z2 sF.e.length z2]) (T := 24) ?hr ?hg2 (.tmp 74) ?ho2 ?hd2 ?hy ?hx ?hi ?hz ?h1 ?_; (case hd => rfl); (case hg => rfl); (case hr => first | (go_simp; done) | (go_simp; rfl)); (case hg2 => rfl); (case ho2 => rfl); (case hd2 => rfl); (case hy => first | rfl | (go_simp; done)); (case hx => first | rfl | (go_simp; done)); (case hi => kernel_rfl); (case hz => rfl); (case h1 => first | rfl | (simp [Value.oneCell'])); intro g15 hg w2 hbox hb; have hbx : Below w1.heap.size w1 w2 := below_step (by repeat (first | (with_reducible first | exact Below.refl _ _ | apply below_alloc | apply pw_below_drewN | apply below_drew1) | exact Below.refl _ _)) hb; replace VP := Aside0.mk (VP.out.below hbx); replace SO := Aside0.mk (SO.out.below hbx); replace HB := Aside0.mk (below_step HB.out hbx); clear hbx; have BK15 := Aside0.mk (Bk.mk (hbox : Blk w2 g15 24 #[.slice Z0 sF.q.length z0, .slice Z1 sF.m.length z1, .slice Z2 sF.e.length z2])); clear hbox hg hb; obtain ⟨zBK15_0, zBK15_1, zBK15_2⟩ := BK15.out.c3))
            have SS := Aside0.mk (SN.out.below HB.out)
            have BK7 := Aside0.mk (K7.out.below HB.out)
            have SS := Aside0.mk (SS.out)
            have BK7 : Aside0 (Bk w2 g7 60 #[.slice X0 sF.q.length x0, .slice X1 sF.m.length x1, .slice X2 sF.e.length x2, .int .i64 nF, .int .i64 sF.pc, .int .i64 sF.fault]) := Aside0.mk (BK7.out)
            have SY := Aside0.mk (show Sb _ Z0 z0 Z1 z1 Z2 z2 sF.q sF.m sF.e from ⟨SO.out.sr, VP.out.ft.q, VP.out.ft.m, VP.out.ft.e⟩)
            have KP := Aside0.mk (fun w' (hb : Below w2.heap.size w2 w') => And.intro ((BK15.out.below hb).c3) ((BK7.out.below hb).c6))
            clear zBK15_0 zBK15_1 zBK15_2
            refine Evt.ow_start (w0 := w2) (T := (true, [([], []), ([0, 0], [0]), ([1], [1]), ([1], [1]), ([3, 1], [1, 3]), ([2, 4, 1, 1], [1, 2, 4]), ([1, 5], [1, 5]), ([6, 5], [6]), ([7], [7]), ([8, 7, 7], [7, 8]), ([7], [7]), ([10, 7], [7, 10]), ([9, 11, 7], [7, 9, 11]), ([7, 12], [7, 12]), ([13, 9, 0, 1, 2, 3, 4, 5, 6, 7, 8, 9, 10, 11, 12, 13], [13])])) (B := [0, 1, 3, 3, 11, 31, 63, 127, 255, 511, 255, 1279, 4095, 8191, 16383]) 15 [(0, some 77), (1, some 78), (3, some 80), (2, some 79), (4, some 81), (5, some 82), (6, some 83), (7, some 84), (8, some 85), (10, some 87), (11, some 88), (9, some 86), (12, some 89), (13, some 90), (14, some 6)] (by kernel_rfl) rfl (by kernel_rfl) (by kernel_rfl) (by kernel_rfl) (by repeat (first | (with_reducible first | exact Below.refl _ _ | apply below_alloc | apply pw_below_drewN | apply below_drew1) | exact Below.refl _ _)) ?_
            intro HT_ HW_ w_ hHeld
            refine Evt.ow_call HT_ hHeld rfl rfl rfl (by kernel_rfl) Try.func33 (by kernel_rfl) rfl #[] (by rfl) (by (try simp only [List.map_toArray, List.map_cons, List.map_nil]); first | done | rfl | (simp only [List.length_drop, List.length_take]; rfl)) ?_
            (with_reducible refine (alive_any _).mono ?_)
            rintro e w_ ⟨rfl, hb⟩
            refine ⟨_, rfl, hb, fun hHeld_ => ?_⟩
            clear hHeld hb
            have hHeld := hHeld_
            clear hHeld_
            refine Evt.ow_norm (a' := ?_) ?_ ?_
            rotate_left
            · simp only [Act.put, List.setIfInBounds_toArray, List.set_cons_zero, List.set_cons_succ, i64_w, i32_w]; rfl
            iterate 4 (first | (refine Evt.ow_off (a' := ?_) HT_ rfl rfl (by rfl) (by kernel_rfl) (fun _ _ _ h => h) ?_ ?_; rotate_left; (· (try simp only [Act.put, List.setIfInBounds_toArray, List.set_cons_zero, List.set_cons_succ, i64_w, i32_w]); rfl)) | (refine Evt.ow_pure (a' := ?_) (v := ?_) HT_ rfl rfl rfl (by rfl) (by kernel_rfl) (fun _ _ _ h => h) ?_ ?_ ?_; rotate_left 2; (· intro w'; go_simp; with_reducible rfl); (· (try simp only [Act.put, List.setIfInBounds_toArray, List.set_cons_zero, List.set_cons_succ, i64_w, i32_w]); rfl)) | (refine Evt.ow_load (a' := ?_) (v := ?_) HT_ HW_ hHeld rfl rfl rfl (by rfl) (by kernel_rfl) (fun _ _ _ h => h) ?_ ?_ ?_; rotate_left 2; (· intro w' hS_; obtain ⟨⟨s0, s1, s2⟩, ⟨s3, s4, s5, s6, s7, s8⟩⟩ := KP.out w' hS_.out; go_simp; with_reducible rfl); (· (try simp only [Act.put, List.setIfInBounds_toArray, List.set_cons_zero, List.set_cons_succ, i64_w, i32_w]); rfl)))
            refine Evt.ow_call HT_ hHeld rfl rfl rfl (by kernel_rfl) Try.func22 (by kernel_rfl) rfl #[.agg #[.slice Z0 sF.q.length z0, .slice Z1 sF.m.length z1, .slice Z2 sF.e.length z2], .agg #[.slice X0 sF.q.length x0, .slice X1 sF.m.length x1, .slice X2 sF.e.length x2]] (by rfl) (by (try simp only [List.map_toArray, List.map_cons, List.map_nil]); first | done | rfl | (simp only [List.length_drop, List.length_take]; rfl)) ?_
            (with_reducible refine (equalS (SY.out.below hHeld.out) (SS.out.below hHeld.out)).mono ?_)
            rintro e w_ ⟨rfl, hb⟩
            refine ⟨_, rfl, hb, fun hHeld_ => ?_⟩
            clear hHeld hb
            have hHeld := hHeld_
            clear hHeld_
            refine Evt.ow_norm (a' := ?_) ?_ ?_
            rotate_left
            · simp only [Act.put, List.setIfInBounds_toArray, List.set_cons_zero, List.set_cons_succ, i64_w, i32_w]; rfl
            iterate 5 (first | (refine Evt.ow_off (a' := ?_) HT_ rfl rfl (by rfl) (by kernel_rfl) (fun _ _ _ h => h) ?_ ?_; rotate_left; (· (try simp only [Act.put, List.setIfInBounds_toArray, List.set_cons_zero, List.set_cons_succ, i64_w, i32_w]); rfl)) | (refine Evt.ow_pure (a' := ?_) (v := ?_) HT_ rfl rfl rfl (by rfl) (by kernel_rfl) (fun _ _ _ h => h) ?_ ?_ ?_; rotate_left 2; (· intro w'; go_simp; with_reducible rfl); (· (try simp only [Act.put, List.setIfInBounds_toArray, List.set_cons_zero, List.set_cons_succ, i64_w, i32_w]); rfl)) | (refine Evt.ow_load (a' := ?_) (v := ?_) HT_ HW_ hHeld rfl rfl rfl (by rfl) (by kernel_rfl) (fun _ _ _ h => h) ?_ ?_ ?_; rotate_left 2; (· intro w' hS_; obtain ⟨⟨s0, s1, s2⟩, ⟨s3, s4, s5, s6, s7, s8⟩⟩ := KP.out w' hS_.out; go_simp; with_reducible rfl); (· (try simp only [Act.put, List.setIfInBounds_toArray, List.set_cons_zero, List.set_cons_succ, i64_w, i32_w]); rfl)))
            refine Evt.ow_call HT_ hHeld rfl rfl rfl (by kernel_rfl) Try.func37 (by kernel_rfl) rfl #[.pointer (some ⟨gm, 0, none⟩)] (by rfl) (by (try simp only [List.map_toArray, List.map_cons, List.map_nil]); first | done | rfl | (simp only [List.length_drop, List.length_take]; rfl)) ?_
            (with_reducible refine (at_any (VP.out.below hHeld.out)).mono ?_)
            rintro e w_ ⟨rfl, hb⟩
            refine ⟨_, rfl, hb, fun hHeld_ => ?_⟩
            clear hHeld hb
            have hHeld := hHeld_
            clear hHeld_
            refine Evt.ow_norm (a' := ?_) ?_ ?_
            rotate_left
            · simp only [Act.put, List.setIfInBounds_toArray, List.set_cons_zero, List.set_cons_succ, i64_w, i32_w]; rfl
            iterate 3 (first | (refine Evt.ow_off (a' := ?_) HT_ rfl rfl (by rfl) (by kernel_rfl) (fun _ _ _ h => h) ?_ ?_; rotate_left; (· (try simp only [Act.put, List.setIfInBounds_toArray, List.set_cons_zero, List.set_cons_succ, i64_w, i32_w]); rfl)) | (refine Evt.ow_pure (a' := ?_) (v := ?_) HT_ rfl rfl rfl (by rfl) (by kernel_rfl) (fun _ _ _ h => h) ?_ ?_ ?_; rotate_left 2; (· intro w'; go_simp; with_reducible rfl); (· (try simp only [Act.put, List.setIfInBounds_toArray, List.set_cons_zero, List.set_cons_succ, i64_w, i32_w]); rfl)) | (refine Evt.ow_load (a' := ?_) (v := ?_) HT_ HW_ hHeld rfl rfl rfl (by rfl) (by kernel_rfl) (fun _ _ _ h => h) ?_ ?_ ?_; rotate_left 2; (· intro w' hS_; obtain ⟨⟨s0, s1, s2⟩, ⟨s3, s4, s5, s6, s7, s8⟩⟩ := KP.out w' hS_.out; go_simp; with_reducible rfl); (· (try simp only [Act.put, List.setIfInBounds_toArray, List.set_cons_zero, List.set_cons_succ, i64_w, i32_w]); rfl)))
            refine Evt.ow_done HT_ (by kernel_rfl) ?_
            refine Evt.gen_any (w0 := w2) hHeld.out ?_
            intro w3 hbx
            clear hHeld HT_ HW_ KP
            replace VP := Aside0.mk (VP.out.below hbx)
            replace SO := Aside0.mk (SO.out.below hbx)
            replace BK15 := Aside0.mk (BK15.out.below hbx)
            replace SS := Aside0.mk (SS.out.below hbx)
            replace BK7 := Aside0.mk (BK7.out.below hbx)
            replace HB := Aside0.mk (below_step HB.out hbx)
            clear hbx
            obtain ⟨zBK15_0, zBK15_1, zBK15_2⟩ := BK15.out.c3
            obtain ⟨zBK7_0, zBK7_1, zBK7_2, zBK7_3, zBK7_4, zBK7_5⟩ := BK7.out.c6
            go_wp2
            go_ret
            exact ⟨rfl, below_step HB0.out HB.out⟩
            skip
set_option maxHeartbeats 4000000 in
theorem is_big (w : World) (hS : Sr Kd.bool w AQ cQ AM cM AE cE q m e) (TL : ∀ w', Below w.heap.size w w' → Calls Try.prog 32 #[.slice AC l.length cC, .slice AI li.length cI, .agg #[.slice AQ q.length cQ, .slice AM m.length cM, .slice AE e.length cE]] w' fun x w2 => x = .returned (.bool true) ∧ Below w'.heap.size w' w2) :
    Calls Try.prog 14 #[.slice AC l.length cC, .slice AI li.length cI, .agg #[.slice AQ q.length cQ, .slice AM m.length cM, .slice AE e.length cE]] w fun x w' => x = .returned (.bool true) ∧ Below w.heap.size w w' := by
  have HT := Aside0.mk TL
  have HB := Aside0.mk (Below.refl w.heap.size w)
  clear hS TL
  go_enter Try.func14, Try.ntmps14
  go_wp2_with (first | ((with_reducible refine gate_dst (N := 5) rfl ?_); refine box_event ?hg (N := 5) ?hd (cs := #[.slice AQ q.length cQ, .slice AM m.length cM, .slice AE e.length cE]) (t := 24) ?hr ?_; (case hd => rfl); (case hg => rfl); (case hr => first | (go_simp; done) | (go_simp; rfl)); intro g5 hg w1 hbox hb; have hbx : Below w.heap.size w w1 := below_step (by repeat (first | (with_reducible first | exact Below.refl _ _ | apply below_alloc | apply pw_below_drewN | apply below_drew1) | exact Below.refl _ _)) hb; replace HB := Aside0.mk (below_step HB.out hbx); clear hbx; have BK5 := Aside0.mk (Bk.mk (hbox : Blk w1 g5 24 #[.slice AQ q.length cQ, .slice AM m.length cM, .slice AE e.length cE])); clear hbox hg hb; obtain ⟨zBK5_0, zBK5_1, zBK5_2⟩ := BK5.out.c3) | (go_at_call 32; (with_reducible refine (HT.out _ (below_step HB.out (by repeat (first | (with_reducible first | exact Below.refl _ _ | apply below_alloc | apply pw_below_drewN | apply below_drew1) | exact Below.refl _ _)))).mono ?_); rintro e w2 ⟨rfl, hb⟩; have hbx : Below w1.heap.size w1 w2 := below_step (by repeat (first | (with_reducible first | exact Below.refl _ _ | apply below_alloc | apply pw_below_drewN | apply below_drew1) | exact Below.refl _ _)) hb; clear zBK5_0 zBK5_1 zBK5_2; replace BK5 := Aside0.mk (BK5.out.below hbx); replace HB := Aside0.mk (below_step HB.out hbx); clear hbx; clear hb; obtain ⟨zBK5_0, zBK5_1, zBK5_2⟩ := BK5.out.c3) | (go_at_call 33; (with_reducible refine (alive_any _).mono ?_); rintro e w3 ⟨rfl, hb⟩; have hbx : Below w2.heap.size w2 w3 := below_step (by repeat (first | (with_reducible first | exact Below.refl _ _ | apply below_alloc | apply pw_below_drewN | apply below_drew1) | exact Below.refl _ _)) hb; clear zBK5_0 zBK5_1 zBK5_2; replace BK5 := Aside0.mk (BK5.out.below hbx); replace HB := Aside0.mk (below_step HB.out hbx); clear hbx; clear hb; obtain ⟨zBK5_0, zBK5_1, zBK5_2⟩ := BK5.out.c3))
  go_ret
  exact ⟨rfl, HB.out⟩
end
theorem is_walk (w : World) (A0 : Option Addr) (c0 : Nat) (l : List S66) (w0 : l.length ≤ c0) (y0 : Kd.C k66 w A0 l.length l) (z0 : SlQ (fun y : S66 => I64 y.f0 ∧ (I64 y.f1.f0 ∧ I64 y.f1.f1) ∧ I64 y.f2) l) (A1 : Option Addr) (c1 : Nat) (li : List Bool) (w1 : li.length ≤ c1) (y1 : Kd.C Kd.bool w A1 li.length li) (z1 : SlQ (fun _ : Bool => True) li) (cs : List Value) (y : List Bool × List Bool × List Bool) (y2 : KSt.K w y cs) (z2 : SlQ (fun _ : Bool => True) y.1 ∧ SlQ (fun _ : Bool => True) y.2.1 ∧ SlQ (fun _ : Bool => True) y.2.2) :
    Calls Try.prog 14 #[.slice A0 l.length c0, .slice A1 li.length c1, .agg cs.toArray] w fun x w' => x = .returned (.bool true) ∧ Below w.heap.size w w' := by
  obtain ⟨AQ, cQ, AM, cM, AE, cE, rfl, r1⟩ := st_form y2
  obtain ⟨b, hb, ht⟩ := too_any l li y.1 y.2.1 y.2.2
  cases b with
  | true => exact is_big w r1 (fun w' h => ht w' (r1.below h))
  | false =>
    have hs := hb rfl
    have := hs.q; have := hs.m; have := hs.e
    exact is_go w y0 ⟨w1, y1⟩ ⟨r1, by omega, by omega, by omega⟩ (WfC.sl z0) hs (fun w' h => ht w' (r1.below h))
end Go.Proofs.Ytjohdkbciafpfaa.Vm6
