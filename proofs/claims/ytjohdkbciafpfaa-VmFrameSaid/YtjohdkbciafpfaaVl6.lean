/- VmFrame, walked. Written by gen/l6.py. -/
import Derived.Test.YtjohdkbciafpfaaOp06
import Derived.Test.YtjohdkbciafpfaaVg
import Derived.Test.YtjohdkbciafpfaaMt
namespace Go.Proofs.Ytjohdkbciafpfaa.Vm6
open Go.RowKit Go.Proofs.YtjohdkbciafpfaaW.PrintWords Go.Proofs.YtjohdkbciafpfaaW.PrintMore Go.Proofs.YtjohdkbciafpfaaW.PrintLast Go.Proofs.Ytjohdkbciafpfaa.Chg Go.Proofs.Ytjohdkbciafpfaa.Evt Go.Proofs.Ytjohdkbciafpfaa.Impl Go.Proofs.Ytjohdkbciafpfaa.St03 Go.Proofs.Ytjohdkbciafpfaa.Open
set_option linter.unusedVariables false
set_option linter.unusedSimpArgs false
set_option maxRecDepth 100000
section
variable {AC AI AQ AM AE : Option Addr} {cC cI cQ cM cE : Nat} {l : List S66} {li q m e : List Bool}
theorem fr_run {X : Option Addr} {c n : Nat} {L : List Bool} (w : World) (hC : Kd.C k66 w AC l.length l) (hI : Rw Kd.bool w X c L) (hL : L.length = n) (hS : Sb w AQ cQ AM cM AE cE q m e) (hl : l.length ≤ 10000) (hi : n ≤ 20000) (hwf : WfC l) {sF : MS} {nF : Nat} (hr : runV l L (l.length + 2) (ini q m e) 0 = (sF, nF)) :
    Calls Try.prog 34 #[.slice AC l.length cC, .slice X n c, .agg #[.slice AQ q.length cQ, .slice AM m.length cM, .slice AE e.length cE]] w fun x w' => RunRes w x w' sF nF := by
  subst hL
  exact run_any w hC hI hS hl hi hwf hr
set_option maxHeartbeats 64000000 in
theorem fr_go (w : World) (hC : Kd.C k66 w AC l.length l) (hQ : ∀ y ∈ l, I64 y.f0 ∧ (I64 y.f1.f0 ∧ I64 y.f1.f1) ∧ I64 y.f2) (hI : Rw Kd.bool w AI cI li) (hS : Sb w AQ cQ AM cM AE cE q m e) (hwf : WfC l) (hsm : Small l li q m e) (TL : ∀ w', Below w.heap.size w w' → Calls Try.prog 32 #[.slice AC l.length cC, .slice AI li.length cI, .agg #[.slice AQ q.length cQ, .slice AM m.length cM, .slice AE e.length cE]] w' fun x w2 => x = .returned (.bool false) ∧ Below w'.heap.size w' w2) :
    Calls Try.prog 12 #[.slice AC l.length cC, .slice AI li.length cI, .agg #[.slice AQ q.length cQ, .slice AM m.length cM, .slice AE e.length cE]] w fun x w' => x = .returned (.bool true) ∧ Below w.heap.size w w' := by
  obtain ⟨sF, nF, hr⟩ : ∃ sF nF, runV l li (l.length + 2) (ini q m e) 0 = (sF, nF) := ⟨_, _, rfl⟩
  have HF : Aside0 (Rf l li (ini q m e) 0 (sF, nF)) := ⟨by rw [← hr]; exact runV_facts _ 0 (Ok.ini q m e) rfl (by show (l.length : Int) + 1 ≤ 0 + _; omega)⟩
  have FI : Aside0 (Fi l (ini q m e) sF) := ⟨by have h := runV_fi (l := l) (li := li) (l.length + 2) 0 (Ok.ini q m e) Fi.refl; rw [hr] at h; exact h⟩
  have L300 : l.length ≤ 300 := hsm.l
  have hl := HF.out.lens
  simp only [lens, ini, Prod.mk.injEq] at hl
  have d4 : ((sF.q.length : Int) != (q.length : Int)) = false := by rw [hl.1]; simp
  have d5 : ((sF.m.length : Int) != (m.length : Int)) = false := by rw [hl.2.1]; simp
  have d6 : ((sF.e.length : Int) != (e.length : Int)) = false := by rw [hl.2.2]; simp
  have LQ := Aside0.mk hl.1
  have LM := Aside0.mk hl.2.1
  have LE := Aside0.mk hl.2.2
  have HC := Aside0.mk hC
  have HR := Aside0.mk hr
  have HW := Aside0.mk hwf
  have HT := Aside0.mk TL
  have HQ := Aside0.mk hQ
  have HB := Aside0.mk (Below.refl w.heap.size w)
  have SB := Aside0.mk (hS)
  have RI := Aside0.mk (hI)
  have LI : li.length ≤ 500 := hsm.i
  have B0 : q.length ≤ 1000 := hsm.q
  have B1 : m.length ≤ 1000 := hsm.m
  have B2 : e.length ≤ 1000 := hsm.e
  clear hC hI hS hr hwf TL hsm hQ hl
  go_enter Try.func12, Try.ntmps12
  go_wp2_with (first | ((with_reducible refine gate_dst (N := 5) rfl ?_); refine box_event ?hg (N := 5) ?hd (cs := #[.slice AQ q.length cQ, .slice AM m.length cM, .slice AE e.length cE]) (t := 24) ?hr ?_; (case hd => rfl); (case hg => rfl); (case hr => first | (go_simp; done) | (go_simp; rfl)); intro g5 hg w1 hbox hb; have hbx : Below w.heap.size w w1 := below_step (by repeat (first | (with_reducible first | exact Below.refl _ _ | apply below_alloc | apply pw_below_drewN | apply below_drew1) | exact Below.refl _ _)) hb; replace SB := Aside0.mk (SB.out.below hbx); replace RI := Aside0.mk (RI.out.below hbx); replace HB := Aside0.mk (below_step HB.out hbx); clear hbx; have BK5 := Aside0.mk (Bk.mk (hbox : Blk w1 g5 24 #[.slice AQ q.length cQ, .slice AM m.length cM, .slice AE e.length cE])); clear hbox hg hb; obtain ⟨zBK5_0, zBK5_1, zBK5_2⟩ := BK5.out.c3) | (go_at_call 32; (with_reducible refine (HT.out _ (below_step HB.out (by repeat (first | (with_reducible first | exact Below.refl _ _ | apply below_alloc | apply pw_below_drewN | apply below_drew1) | exact Below.refl _ _)))).mono ?_); rintro e w2 ⟨rfl, hb⟩; have hbx : Below w1.heap.size w1 w2 := below_step (by repeat (first | (with_reducible first | exact Below.refl _ _ | apply below_alloc | apply pw_below_drewN | apply below_drew1) | exact Below.refl _ _)) hb; clear zBK5_0 zBK5_1 zBK5_2; replace SB := Aside0.mk (SB.out.below hbx); replace RI := Aside0.mk (RI.out.below hbx); replace BK5 := Aside0.mk (BK5.out.below hbx); replace HB := Aside0.mk (below_step HB.out hbx); clear hbx; clear hb; obtain ⟨zBK5_0, zBK5_1, zBK5_2⟩ := BK5.out.c3) | ((with_reducible refine gate_callee (f := 34) rfl ?_); refine goesL_ (some 27) rfl rfl Try.func34 (by kernel_rfl) rfl #[.slice AC l.length cC, .slice AI li.length cI, .agg #[.slice AQ q.length cQ, .slice AM m.length cM, .slice AE e.length cE]] rfl (by (try simp only [List.map_toArray, List.map_cons, List.map_nil]); first | done | rfl | (simp only [List.length_drop, List.length_take]; rfl)) ?_; (with_reducible refine (run_any _ (Kd.C_below HC.out (below_step HB.out (by repeat (first | (with_reducible first | exact Below.refl _ _ | apply below_alloc | apply pw_below_drewN | apply below_drew1) | exact Below.refl _ _)))) (RI.out.below (by repeat (first | (with_reducible first | exact Below.refl _ _ | apply below_alloc | apply pw_below_drewN | apply below_drew1) | exact Below.refl _ _))) (SB.out.below (by repeat (first | (with_reducible first | exact Below.refl _ _ | apply below_alloc | apply pw_below_drewN | apply below_drew1) | exact Below.refl _ _))) (by omega) (by omega) HW.out HR.out).mono ?_); rintro e w3 ⟨X0, x0, X1, x1, X2, x2, rfl, hs_, _, hb⟩; have hbx : Below w2.heap.size w2 w3 := below_step (by repeat (first | (with_reducible first | exact Below.refl _ _ | apply below_alloc | apply pw_below_drewN | apply below_drew1) | exact Below.refl _ _)) hb; clear zBK5_0 zBK5_1 zBK5_2; replace SB := Aside0.mk (SB.out.below hbx); replace RI := Aside0.mk (RI.out.below hbx); replace BK5 := Aside0.mk (BK5.out.below hbx); replace HB := Aside0.mk (below_step HB.out hbx); clear hbx; have SS := Aside0.mk (hs_); clear hb; clear hs_; obtain ⟨zBK5_0, zBK5_1, zBK5_2⟩ := BK5.out.c3; refine ⟨_, rfl, ?_⟩) | (((with_reducible refine gate_dst (N := 7) rfl ?_); refine Evt.box2 ?hg (N := 7) ?hd (z := #[.slice none 0 0, .slice none 0 0, .slice none 0 0, .int .i64 0, .int .i64 0, .int .i64 0]) (cs := #[.slice X0 sF.q.length x0, .slice X1 sF.m.length x1, .slice X2 sF.e.length x2, .int .i64 nF, .int .i64 sF.pc, .int .i64 sF.fault]) (T := 60) ?hr ?hg2 (.tmp 27) ?ho2 ?hd2 ?hy ?hx ?hi ?hz ?h1 ?_; (case hd => rfl); (case hg => rfl); (case hr => first | (go_simp; done) | (go_simp; rfl)); (case hg2 => rfl); (case ho2 => rfl); (case hd2 => rfl); (case hy => first | rfl | (go_simp; done)); (case hx => first | rfl | (go_simp; done)); (case hi => kernel_rfl); (case hz => rfl); (case h1 => first | rfl | (simp [Value.oneCell'])); intro g7 hg w4 hbox hb; have hbx : Below w3.heap.size w3 w4 := below_step (by repeat (first | (with_reducible first | exact Below.refl _ _ | apply below_alloc | apply pw_below_drewN | apply below_drew1) | exact Below.refl _ _)) hb; clear zBK5_0 zBK5_1 zBK5_2; replace SB := Aside0.mk (SB.out.below hbx); replace RI := Aside0.mk (RI.out.below hbx); replace BK5 := Aside0.mk (BK5.out.below hbx); replace SS := Aside0.mk (SS.out.below hbx); replace HB := Aside0.mk (below_step HB.out hbx); clear hbx; have BK7 := Aside0.mk (Bk.mk (hbox : Blk w4 g7 60 #[.slice X0 sF.q.length x0, .slice X1 sF.m.length x1, .slice X2 sF.e.length x2, .int .i64 nF, .int .i64 sF.pc, .int .i64 sF.fault])); clear hbox hg hb; obtain ⟨zBK5_0, zBK5_1, zBK5_2⟩ := BK5.out.c3; obtain ⟨zBK7_0, zBK7_1, zBK7_2, zBK7_3, zBK7_4, zBK7_5⟩ := BK7.out.c6); have WM := Aside0.mk (Bv.mk (Below.refl _ w4)); have K5 := BK5; have K7 := BK7; have SN := SS; have HB0 := HB; have SB4 := SB; have RI4 := RI) | ((with_reducible refine gate_dst (N := 56) rfl ?_); refine Bm.mk_ev (k := Bm.kAB) rfl (N := 56) rfl rfl ?_; intro b56 hg w5 hM_ hb; have GE56 := Aside0.mk (show w4.heap.size ≤ b56 from (by rw [hg]; exact Nat.le_trans WM.out.out.size (below_size (by repeat (first | (with_reducible first | exact Below.refl _ _ | apply below_alloc | apply pw_below_drewN | apply below_drew1) | exact Below.refl _ _))))); have hbx : Below w4.heap.size w4 w5 := below_step (by repeat (first | (with_reducible first | exact Below.refl _ _ | apply below_alloc | apply pw_below_drewN | apply below_drew1) | exact Below.refl _ _)) hb; clear zBK5_0 zBK5_1 zBK5_2 zBK7_0 zBK7_1 zBK7_2 zBK7_3 zBK7_4 zBK7_5; replace SB := Aside0.mk (SB.out.below hbx); replace RI := Aside0.mk (RI.out.below hbx); replace BK5 := Aside0.mk (BK5.out.below hbx); replace SS := Aside0.mk (SS.out.below hbx); replace BK7 := Aside0.mk (BK7.out.below hbx); replace WM := Aside0.mk (WM.out.below hbx); replace HB := Aside0.mk (below_step HB.out hbx); clear hbx; have M56 := Aside0.mk hM_; clear hM_ hg hb; obtain ⟨zBK5_0, zBK5_1, zBK5_2⟩ := BK5.out.c3; obtain ⟨zBK7_0, zBK7_1, zBK7_2, zBK7_3, zBK7_4, zBK7_5⟩ := BK7.out.c6) | ((with_reducible refine gate_dst (N := 57) rfl ?_); refine Bm.mk_ev (k := Bm.kIB) rfl (N := 57) rfl rfl ?_; intro b57 hg w6 hM_ hb; have GE57 := Aside0.mk (show w4.heap.size ≤ b57 from (by rw [hg]; exact Nat.le_trans WM.out.out.size (below_size (by repeat (first | (with_reducible first | exact Below.refl _ _ | apply below_alloc | apply pw_below_drewN | apply below_drew1) | exact Below.refl _ _))))); have NE56_57 := Aside0.mk (show b56 ≠ b57 from (by have h_ := M56.out.lt; have h2_ : w5.heap.size ≤ b57 := (by rw [hg]; exact below_size (show Below w5.heap.size w5 _ from (by repeat (first | (with_reducible first | exact Below.refl _ _ | apply below_alloc | apply pw_below_drewN | apply below_drew1) | exact Below.refl _ _)))); omega)); have hbx : Below w5.heap.size w5 w6 := below_step (by repeat (first | (with_reducible first | exact Below.refl _ _ | apply below_alloc | apply pw_below_drewN | apply below_drew1) | exact Below.refl _ _)) hb; clear zBK5_0 zBK5_1 zBK5_2 zBK7_0 zBK7_1 zBK7_2 zBK7_3 zBK7_4 zBK7_5; replace SB := Aside0.mk (SB.out.below hbx); replace RI := Aside0.mk (RI.out.below hbx); replace BK5 := Aside0.mk (BK5.out.below hbx); replace SS := Aside0.mk (SS.out.below hbx); replace BK7 := Aside0.mk (BK7.out.below hbx); replace WM := Aside0.mk (WM.out.below hbx); replace M56 := Aside0.mk (M56.out.below hbx); replace HB := Aside0.mk (below_step HB.out hbx); clear hbx; have M57 := Aside0.mk hM_; clear hM_ hg hb; obtain ⟨zBK5_0, zBK5_1, zBK5_2⟩ := BK5.out.c3; obtain ⟨zBK7_0, zBK7_1, zBK7_2, zBK7_3, zBK7_4, zBK7_5⟩ := BK7.out.c6) | ((with_reducible refine gate_dst (N := 58) rfl ?_); refine Bm.mk_ev (k := Bm.kIB) rfl (N := 58) rfl rfl ?_; intro b58 hg w7 hM_ hb; have GE58 := Aside0.mk (show w4.heap.size ≤ b58 from (by rw [hg]; exact Nat.le_trans WM.out.out.size (below_size (by repeat (first | (with_reducible first | exact Below.refl _ _ | apply below_alloc | apply pw_below_drewN | apply below_drew1) | exact Below.refl _ _))))); have NE56_58 := Aside0.mk (show b56 ≠ b58 from (by have h_ := M56.out.lt; have h2_ : w6.heap.size ≤ b58 := (by rw [hg]; exact below_size (show Below w6.heap.size w6 _ from (by repeat (first | (with_reducible first | exact Below.refl _ _ | apply below_alloc | apply pw_below_drewN | apply below_drew1) | exact Below.refl _ _)))); omega)); have NE57_58 := Aside0.mk (show b57 ≠ b58 from (by have h_ := M57.out.lt; have h2_ : w6.heap.size ≤ b58 := (by rw [hg]; exact below_size (show Below w6.heap.size w6 _ from (by repeat (first | (with_reducible first | exact Below.refl _ _ | apply below_alloc | apply pw_below_drewN | apply below_drew1) | exact Below.refl _ _)))); omega)); have hbx : Below w6.heap.size w6 w7 := below_step (by repeat (first | (with_reducible first | exact Below.refl _ _ | apply below_alloc | apply pw_below_drewN | apply below_drew1) | exact Below.refl _ _)) hb; clear zBK5_0 zBK5_1 zBK5_2 zBK7_0 zBK7_1 zBK7_2 zBK7_3 zBK7_4 zBK7_5; replace SB := Aside0.mk (SB.out.below hbx); replace RI := Aside0.mk (RI.out.below hbx); replace BK5 := Aside0.mk (BK5.out.below hbx); replace SS := Aside0.mk (SS.out.below hbx); replace BK7 := Aside0.mk (BK7.out.below hbx); replace WM := Aside0.mk (WM.out.below hbx); replace M56 := Aside0.mk (M56.out.below hbx); replace M57 := Aside0.mk (M57.out.below hbx); replace HB := Aside0.mk (below_step HB.out hbx); clear hbx; have M58 := Aside0.mk hM_; clear hM_ hg hb; obtain ⟨zBK5_0, zBK5_1, zBK5_2⟩ := BK5.out.c3; obtain ⟨zBK7_0, zBK7_1, zBK7_2, zBK7_3, zBK7_4, zBK7_5⟩ := BK7.out.c6))
  have INV : Aside0 (Below w4.heap.size w4 w7 ∧ M3 w4 w7 b56 b57 b58 (2 * 0) (wrP (l.take 0)) (seP (l.take 0)) (asP (l.take 0))) := ⟨⟨WM.out.out, ⟨⟨0, Nat.le_refl _, M56.out.congr (fun _ => rfl)⟩, ⟨0, Nat.le_refl _, M57.out.congr (fun _ => rfl)⟩, ⟨0, Nat.le_refl _, M58.out.congr (fun _ => rfl)⟩, ⟨NE56_57.out, NE56_58.out, NE57_58.out⟩, ⟨GE56.out, GE57.out, GE58.out⟩⟩⟩⟩
  clear zBK5_0 zBK5_1 zBK5_2 zBK7_0 zBK7_1 zBK7_2 zBK7_3 zBK7_4 zBK7_5
  clear SB RI BK5 SS BK7 HB M56 M57 M58 NE56_57 NE56_58 NE57_58 GE56 GE57 GE58 WM HT d4 d5 d6
  go_loopg [61] l.length (fun kq v61 wr => ∃ i : Nat, v61 = .int .i64 i ∧ Aside0 (i + kq = l.length) ∧ Aside0 (Below w4.heap.size w4 wr ∧ M3 w4 wr b56 b57 b58 (2 * i) (wrP (l.take i)) (seP (l.take i)) (asP (l.take i))))
  case atStart => exact ⟨0, rfl, ⟨by omega⟩, INV⟩
  case round =>
    clear INV
    obtain ⟨i, rfl, hi, I⟩ := hrel
    cases gk with
    | succ k1 =>
      have i1 : i < l.length := by have := hi.out; omega
      have i2 : (i : Int) ≤ 300 := by omega
      have p1 : decide (i < l.length) = true := decide_eq_true i1
      have p2 : decide ((i : Int) < (l.length : Int)) = true := decide_eq_true (by omega)
      obtain ⟨ad, rfl, h0, h1, h2, h3⟩ := at_T66 (Kd.C_below HC.out (below_step HB0.out I.out.1)) (i : Int) (by omega) (by omega)
      have WK := HQ.out _ (rd_mem (l := l) (pc := (i : Int)) (by omega) (by omega))
      obtain ⟨k, a, b, j, K⟩ : ∃ k a b j, Aside0 (rd_T66 l (i : Int) = ⟨k, ⟨a, b⟩, j⟩) := ⟨_, _, _, _, ⟨rfl⟩⟩
      rw [K.out] at h0 h1 h2 h3 WK
      rw [Int.toNat_natCast] at h0 h1 h2 h3
      have SP := Aside0.mk (rd_split i1 K.out)
      obtain ⟨wk, ⟨wa, wb⟩, wj⟩ := WK
      have WA := Aside0.mk wa
      have WB := Aside0.mk wb
      have WJ := Aside0.mk wj
      clear wk wa wb wj K
      rcases (show (k < 0) ∨ (0 ≤ k ∧ k ≤ 5 ∧ a = 0) ∨ (0 ≤ k ∧ k ≤ 5 ∧ ¬ a = 0) ∨ (k = 6 ∧ a = 0) ∨ (k = 6 ∧ ¬ a = 0) ∨ (k = 7 ∧ a = 0) ∨ (k = 7 ∧ ¬ a = 0) ∨ (8 ≤ k ∧ k ≤ 10) ∨ (11 ≤ k ∧ k ≤ 14) ∨ (15 ≤ k) by omega) with hc | hc | hc | hc | hc | hc | hc | hc | hc | hc
      · have g1 : decide (11 ≤ k) = false := decide_eq_false (by omega)
        have g3 : decide (k = 6) = false := decide_eq_false (by omega)
        have g3' : (k == 6) = false := by simp; omega
        have g4 : decide (k = 7) = false := decide_eq_false (by omega)
        have g4' : (k == 7) = false := by simp; omega
        have g5 : decide (0 ≤ k) = false := decide_eq_false (by omega)
        skip
        have HB := Aside0.mk (Below.refl wr.heap.size wr)
        clear HB
        have HB := Aside0.mk I.out.1
        skip
        have MM := Aside0.mk I.out.2
        clear I
        skip
        go_wp2_with (first | ((with_reducible refine gate_dst (N := 12) rfl ?_); refine Evt.box2 ?hg (N := 12) ?hd (z := #[.int .i64 0, .int .i64 0, .int .i64 0, .int .i64 0]) (cs := #[.int .i64 k, .int .i64 a, .int .i64 b, .int .i64 j]) (T := 66) ?hr ?hg2 (.tmp 64) ?ho2 ?hd2 ?hy ?hx ?hi ?hz ?h1 ?_; (case hd => rfl); (case hg => rfl); (case hr => first | (go_simp; done) | (go_simp; rfl)); (case hg2 => rfl); (case ho2 => rfl); (case hd2 => rfl); (case hy => first | rfl | (go_simp; done)); (case hx => first | rfl | (go_simp; done)); (case hi => kernel_rfl); (case hz => rfl); (case h1 => first | rfl | (simp [Value.oneCell'])); intro g12 hg w1 hbox hb; have hbx : Below wr.heap.size wr w1 := below_step (by repeat (first | (with_reducible first | exact Below.refl _ _ | apply below_alloc | apply pw_below_drewN | apply below_drew1) | exact Below.refl _ _)) hb; replace MM := Aside0.mk (MM.out.below hbx); replace HB := Aside0.mk (below_step HB.out hbx); clear hbx; have BK12 := Aside0.mk (Bk.mk (hbox : Blk w1 g12 66 #[.int .i64 k, .int .i64 a, .int .i64 b, .int .i64 j])); clear hbox hg hb; obtain ⟨zBK12_0, zBK12_1, zBK12_2, zBK12_3⟩ := BK12.out.c4))
        go_roundg k1
        case measure => omega
        case rel => exact ⟨i + 1, by go_num, ⟨by have := hi.out; omega⟩, ⟨HB.out, by rw [SP.out]; exact MM.out.congr (by omega) (wr_off (by omega)) (se_off (by omega)) (as_off (by omega))⟩⟩
        skip
      · have g1 : decide (11 ≤ k) = false := decide_eq_false (by omega)
        have g3 : decide (k = 6) = false := decide_eq_false (by omega)
        have g3' : (k == 6) = false := by simp; omega
        have g4 : decide (k = 7) = false := decide_eq_false (by omega)
        have g4' : (k == 7) = false := by simp; omega
        have g5 : decide (0 ≤ k) = true := decide_eq_true (by omega)
        have g6 : decide (k ≤ 7) = true := decide_eq_true (by omega)
        have g7 : decide (a = 0) = true := decide_eq_true (by omega)
        have g7' : (a == 0) = true := by simp; omega
        skip
        have HB := Aside0.mk (Below.refl wr.heap.size wr)
        clear HB
        have HB := Aside0.mk I.out.1
        skip
        have MM := Aside0.mk I.out.2
        clear I
        skip
        go_wp2_with (first | ((with_reducible refine gate_dst (N := 12) rfl ?_); refine Evt.box2 ?hg (N := 12) ?hd (z := #[.int .i64 0, .int .i64 0, .int .i64 0, .int .i64 0]) (cs := #[.int .i64 k, .int .i64 a, .int .i64 b, .int .i64 j]) (T := 66) ?hr ?hg2 (.tmp 64) ?ho2 ?hd2 ?hy ?hx ?hi ?hz ?h1 ?_; (case hd => rfl); (case hg => rfl); (case hr => first | (go_simp; done) | (go_simp; rfl)); (case hg2 => rfl); (case ho2 => rfl); (case hd2 => rfl); (case hy => first | rfl | (go_simp; done)); (case hx => first | rfl | (go_simp; done)); (case hi => kernel_rfl); (case hz => rfl); (case h1 => first | rfl | (simp [Value.oneCell'])); intro g12 hg w1 hbox hb; have hbx : Below wr.heap.size wr w1 := below_step (by repeat (first | (with_reducible first | exact Below.refl _ _ | apply below_alloc | apply pw_below_drewN | apply below_drew1) | exact Below.refl _ _)) hb; replace MM := Aside0.mk (MM.out.below hbx); replace HB := Aside0.mk (below_step HB.out hbx); clear hbx; have BK12 := Aside0.mk (Bk.mk (hbox : Blk w1 g12 66 #[.int .i64 k, .int .i64 a, .int .i64 b, .int .i64 j])); clear hbox hg hb; obtain ⟨zBK12_0, zBK12_1, zBK12_2, zBK12_3⟩ := BK12.out.c4) | (refine Vm6.M3.put10_ev (MM.out.below (by repeat (first | (with_reducible first | exact Below.refl _ _ | apply below_alloc | apply pw_below_drewN | apply below_drew1) | exact Below.refl _ _))) rfl rfl (s := b) rfl rfl rfl WB.out (by omega) ?_; intro w2 hM_ hK_ hB_; clear zBK12_0 zBK12_1 zBK12_2 zBK12_3; have n_BK12 := Aside0.mk (Evt.Bk.mk (hK_ _ _ _ (BK12.out.below (by repeat (first | (with_reducible first | exact Below.refl _ _ | apply below_alloc | apply pw_below_drewN | apply below_drew1) | exact Below.refl _ _))).blk)); have n_HB := Aside0.mk (hB_ (below_step HB.out (by repeat (first | (with_reducible first | exact Below.refl _ _ | apply below_alloc | apply pw_below_drewN | apply below_drew1) | exact Below.refl _ _)))); clear MM HB BK12; have BK12 := n_BK12; have HB := n_HB; have MM := Aside0.mk hM_; clear hM_ hK_ hB_ n_BK12 n_HB; obtain ⟨zBK12_0, zBK12_1, zBK12_2, zBK12_3⟩ := BK12.out.c4))
        go_roundg k1
        case measure => omega
        case rel => exact ⟨i + 1, by go_num, ⟨by have := hi.out; omega⟩, ⟨HB.out, by rw [SP.out]; exact MM.out.congr (by omega) (wr_off (by omega)) (se_off (by omega)) (as_on (by omega) (by omega))⟩⟩
        skip
      · have g1 : decide (11 ≤ k) = false := decide_eq_false (by omega)
        have g3 : decide (k = 6) = false := decide_eq_false (by omega)
        have g3' : (k == 6) = false := by simp; omega
        have g4 : decide (k = 7) = false := decide_eq_false (by omega)
        have g4' : (k == 7) = false := by simp; omega
        have g5 : decide (0 ≤ k) = true := decide_eq_true (by omega)
        have g6 : decide (k ≤ 7) = true := decide_eq_true (by omega)
        have g7 : decide (a = 0) = false := decide_eq_false (by omega)
        have g7' : (a == 0) = false := by simp; omega
        skip
        have HB := Aside0.mk (Below.refl wr.heap.size wr)
        clear HB
        have HB := Aside0.mk I.out.1
        skip
        have MM := Aside0.mk I.out.2
        clear I
        skip
        go_wp2_with (first | ((with_reducible refine gate_dst (N := 12) rfl ?_); refine Evt.box2 ?hg (N := 12) ?hd (z := #[.int .i64 0, .int .i64 0, .int .i64 0, .int .i64 0]) (cs := #[.int .i64 k, .int .i64 a, .int .i64 b, .int .i64 j]) (T := 66) ?hr ?hg2 (.tmp 64) ?ho2 ?hd2 ?hy ?hx ?hi ?hz ?h1 ?_; (case hd => rfl); (case hg => rfl); (case hr => first | (go_simp; done) | (go_simp; rfl)); (case hg2 => rfl); (case ho2 => rfl); (case hd2 => rfl); (case hy => first | rfl | (go_simp; done)); (case hx => first | rfl | (go_simp; done)); (case hi => kernel_rfl); (case hz => rfl); (case h1 => first | rfl | (simp [Value.oneCell'])); intro g12 hg w1 hbox hb; have hbx : Below wr.heap.size wr w1 := below_step (by repeat (first | (with_reducible first | exact Below.refl _ _ | apply below_alloc | apply pw_below_drewN | apply below_drew1) | exact Below.refl _ _)) hb; replace MM := Aside0.mk (MM.out.below hbx); replace HB := Aside0.mk (below_step HB.out hbx); clear hbx; have BK12 := Aside0.mk (Bk.mk (hbox : Blk w1 g12 66 #[.int .i64 k, .int .i64 a, .int .i64 b, .int .i64 j])); clear hbox hg hb; obtain ⟨zBK12_0, zBK12_1, zBK12_2, zBK12_3⟩ := BK12.out.c4))
        go_roundg k1
        case measure => omega
        case rel => exact ⟨i + 1, by go_num, ⟨by have := hi.out; omega⟩, ⟨HB.out, by rw [SP.out]; exact MM.out.congr (by omega) (wr_off (by omega)) (se_off (by omega)) (as_off (by omega))⟩⟩
        skip
      · obtain ⟨rfl, hc⟩ := hc
        have g7 : decide (a = 0) = true := decide_eq_true (by omega)
        have g7' : (a == 0) = true := by simp; omega
        skip
        have HB := Aside0.mk (Below.refl wr.heap.size wr)
        clear HB
        have HB := Aside0.mk I.out.1
        skip
        have MM := Aside0.mk I.out.2
        clear I
        skip
        go_wp2_with (first | ((with_reducible refine gate_dst (N := 12) rfl ?_); refine Evt.box2 ?hg (N := 12) ?hd (z := #[.int .i64 0, .int .i64 0, .int .i64 0, .int .i64 0]) (cs := #[.int .i64 6, .int .i64 a, .int .i64 b, .int .i64 j]) (T := 66) ?hr ?hg2 (.tmp 64) ?ho2 ?hd2 ?hy ?hx ?hi ?hz ?h1 ?_; (case hd => rfl); (case hg => rfl); (case hr => first | (go_simp; done) | (go_simp; rfl)); (case hg2 => rfl); (case ho2 => rfl); (case hd2 => rfl); (case hy => first | rfl | (go_simp; done)); (case hx => first | rfl | (go_simp; done)); (case hi => kernel_rfl); (case hz => rfl); (case h1 => first | rfl | (simp [Value.oneCell'])); intro g12 hg w1 hbox hb; have hbx : Below wr.heap.size wr w1 := below_step (by repeat (first | (with_reducible first | exact Below.refl _ _ | apply below_alloc | apply pw_below_drewN | apply below_drew1) | exact Below.refl _ _)) hb; replace MM := Aside0.mk (MM.out.below hbx); replace HB := Aside0.mk (below_step HB.out hbx); clear hbx; have BK12 := Aside0.mk (Bk.mk (hbox : Blk w1 g12 66 #[.int .i64 6, .int .i64 a, .int .i64 b, .int .i64 j])); clear hbox hg hb; obtain ⟨zBK12_0, zBK12_1, zBK12_2, zBK12_3⟩ := BK12.out.c4) | (refine Vm6.M3.put9_ev (MM.out.below (by repeat (first | (with_reducible first | exact Below.refl _ _ | apply below_alloc | apply pw_below_drewN | apply below_drew1) | exact Below.refl _ _))) rfl rfl (s := j) rfl rfl rfl WJ.out (by omega) ?_; intro w2 hM_ hK_ hB_; clear zBK12_0 zBK12_1 zBK12_2 zBK12_3; have n_BK12 := Aside0.mk (Evt.Bk.mk (hK_ _ _ _ (BK12.out.below (by repeat (first | (with_reducible first | exact Below.refl _ _ | apply below_alloc | apply pw_below_drewN | apply below_drew1) | exact Below.refl _ _))).blk)); have n_HB := Aside0.mk (hB_ (below_step HB.out (by repeat (first | (with_reducible first | exact Below.refl _ _ | apply below_alloc | apply pw_below_drewN | apply below_drew1) | exact Below.refl _ _)))); clear MM HB BK12; have BK12 := n_BK12; have HB := n_HB; have MM := Aside0.mk hM_; clear hM_ hK_ hB_ n_BK12 n_HB; obtain ⟨zBK12_0, zBK12_1, zBK12_2, zBK12_3⟩ := BK12.out.c4) | (refine Vm6.M3.put10_ev (MM.out.below (by repeat (first | (with_reducible first | exact Below.refl _ _ | apply below_alloc | apply pw_below_drewN | apply below_drew1) | exact Below.refl _ _))) rfl rfl (s := b) rfl rfl rfl WB.out (by omega) ?_; intro w3 hM_ hK_ hB_; clear zBK12_0 zBK12_1 zBK12_2 zBK12_3; have n_BK12 := Aside0.mk (Evt.Bk.mk (hK_ _ _ _ (BK12.out.below (by repeat (first | (with_reducible first | exact Below.refl _ _ | apply below_alloc | apply pw_below_drewN | apply below_drew1) | exact Below.refl _ _))).blk)); have n_HB := Aside0.mk (hB_ (below_step HB.out (by repeat (first | (with_reducible first | exact Below.refl _ _ | apply below_alloc | apply pw_below_drewN | apply below_drew1) | exact Below.refl _ _)))); clear MM HB BK12; have BK12 := n_BK12; have HB := n_HB; have MM := Aside0.mk hM_; clear hM_ hK_ hB_ n_BK12 n_HB; obtain ⟨zBK12_0, zBK12_1, zBK12_2, zBK12_3⟩ := BK12.out.c4))
        go_roundg k1
        case measure => omega
        case rel => exact ⟨i + 1, by go_num, ⟨by have := hi.out; omega⟩, ⟨HB.out, by rw [SP.out]; exact MM.out.congr (by omega) (wr_off (by omega)) (se_on (by omega)) (as_on (by omega) (by omega))⟩⟩
        skip
      · obtain ⟨rfl, hc⟩ := hc
        have g7 : decide (a = 0) = false := decide_eq_false (by omega)
        have g7' : (a == 0) = false := by simp; omega
        skip
        have HB := Aside0.mk (Below.refl wr.heap.size wr)
        clear HB
        have HB := Aside0.mk I.out.1
        skip
        have MM := Aside0.mk I.out.2
        clear I
        skip
        go_wp2_with (first | ((with_reducible refine gate_dst (N := 12) rfl ?_); refine Evt.box2 ?hg (N := 12) ?hd (z := #[.int .i64 0, .int .i64 0, .int .i64 0, .int .i64 0]) (cs := #[.int .i64 6, .int .i64 a, .int .i64 b, .int .i64 j]) (T := 66) ?hr ?hg2 (.tmp 64) ?ho2 ?hd2 ?hy ?hx ?hi ?hz ?h1 ?_; (case hd => rfl); (case hg => rfl); (case hr => first | (go_simp; done) | (go_simp; rfl)); (case hg2 => rfl); (case ho2 => rfl); (case hd2 => rfl); (case hy => first | rfl | (go_simp; done)); (case hx => first | rfl | (go_simp; done)); (case hi => kernel_rfl); (case hz => rfl); (case h1 => first | rfl | (simp [Value.oneCell'])); intro g12 hg w1 hbox hb; have hbx : Below wr.heap.size wr w1 := below_step (by repeat (first | (with_reducible first | exact Below.refl _ _ | apply below_alloc | apply pw_below_drewN | apply below_drew1) | exact Below.refl _ _)) hb; replace MM := Aside0.mk (MM.out.below hbx); replace HB := Aside0.mk (below_step HB.out hbx); clear hbx; have BK12 := Aside0.mk (Bk.mk (hbox : Blk w1 g12 66 #[.int .i64 6, .int .i64 a, .int .i64 b, .int .i64 j])); clear hbox hg hb; obtain ⟨zBK12_0, zBK12_1, zBK12_2, zBK12_3⟩ := BK12.out.c4) | (refine Vm6.M3.put9_ev (MM.out.below (by repeat (first | (with_reducible first | exact Below.refl _ _ | apply below_alloc | apply pw_below_drewN | apply below_drew1) | exact Below.refl _ _))) rfl rfl (s := j) rfl rfl rfl WJ.out (by omega) ?_; intro w2 hM_ hK_ hB_; clear zBK12_0 zBK12_1 zBK12_2 zBK12_3; have n_BK12 := Aside0.mk (Evt.Bk.mk (hK_ _ _ _ (BK12.out.below (by repeat (first | (with_reducible first | exact Below.refl _ _ | apply below_alloc | apply pw_below_drewN | apply below_drew1) | exact Below.refl _ _))).blk)); have n_HB := Aside0.mk (hB_ (below_step HB.out (by repeat (first | (with_reducible first | exact Below.refl _ _ | apply below_alloc | apply pw_below_drewN | apply below_drew1) | exact Below.refl _ _)))); clear MM HB BK12; have BK12 := n_BK12; have HB := n_HB; have MM := Aside0.mk hM_; clear hM_ hK_ hB_ n_BK12 n_HB; obtain ⟨zBK12_0, zBK12_1, zBK12_2, zBK12_3⟩ := BK12.out.c4))
        go_roundg k1
        case measure => omega
        case rel => exact ⟨i + 1, by go_num, ⟨by have := hi.out; omega⟩, ⟨HB.out, by rw [SP.out]; exact MM.out.congr (by omega) (wr_off (by omega)) (se_on (by omega)) (as_off (by omega))⟩⟩
        skip
      · obtain ⟨rfl, hc⟩ := hc
        have g7 : decide (a = 0) = true := decide_eq_true (by omega)
        have g7' : (a == 0) = true := by simp; omega
        skip
        have HB := Aside0.mk (Below.refl wr.heap.size wr)
        clear HB
        have HB := Aside0.mk I.out.1
        skip
        have MM := Aside0.mk I.out.2
        clear I
        skip
        go_wp2_with (first | ((with_reducible refine gate_dst (N := 12) rfl ?_); refine Evt.box2 ?hg (N := 12) ?hd (z := #[.int .i64 0, .int .i64 0, .int .i64 0, .int .i64 0]) (cs := #[.int .i64 7, .int .i64 a, .int .i64 b, .int .i64 j]) (T := 66) ?hr ?hg2 (.tmp 64) ?ho2 ?hd2 ?hy ?hx ?hi ?hz ?h1 ?_; (case hd => rfl); (case hg => rfl); (case hr => first | (go_simp; done) | (go_simp; rfl)); (case hg2 => rfl); (case ho2 => rfl); (case hd2 => rfl); (case hy => first | rfl | (go_simp; done)); (case hx => first | rfl | (go_simp; done)); (case hi => kernel_rfl); (case hz => rfl); (case h1 => first | rfl | (simp [Value.oneCell'])); intro g12 hg w1 hbox hb; have hbx : Below wr.heap.size wr w1 := below_step (by repeat (first | (with_reducible first | exact Below.refl _ _ | apply below_alloc | apply pw_below_drewN | apply below_drew1) | exact Below.refl _ _)) hb; replace MM := Aside0.mk (MM.out.below hbx); replace HB := Aside0.mk (below_step HB.out hbx); clear hbx; have BK12 := Aside0.mk (Bk.mk (hbox : Blk w1 g12 66 #[.int .i64 7, .int .i64 a, .int .i64 b, .int .i64 j])); clear hbox hg hb; obtain ⟨zBK12_0, zBK12_1, zBK12_2, zBK12_3⟩ := BK12.out.c4) | (refine Vm6.M3.put9_ev (MM.out.below (by repeat (first | (with_reducible first | exact Below.refl _ _ | apply below_alloc | apply pw_below_drewN | apply below_drew1) | exact Below.refl _ _))) rfl rfl (s := j) rfl rfl rfl WJ.out (by omega) ?_; intro w2 hM_ hK_ hB_; clear zBK12_0 zBK12_1 zBK12_2 zBK12_3; have n_BK12 := Aside0.mk (Evt.Bk.mk (hK_ _ _ _ (BK12.out.below (by repeat (first | (with_reducible first | exact Below.refl _ _ | apply below_alloc | apply pw_below_drewN | apply below_drew1) | exact Below.refl _ _))).blk)); have n_HB := Aside0.mk (hB_ (below_step HB.out (by repeat (first | (with_reducible first | exact Below.refl _ _ | apply below_alloc | apply pw_below_drewN | apply below_drew1) | exact Below.refl _ _)))); clear MM HB BK12; have BK12 := n_BK12; have HB := n_HB; have MM := Aside0.mk hM_; clear hM_ hK_ hB_ n_BK12 n_HB; obtain ⟨zBK12_0, zBK12_1, zBK12_2, zBK12_3⟩ := BK12.out.c4) | (refine Vm6.M3.put10_ev (MM.out.below (by repeat (first | (with_reducible first | exact Below.refl _ _ | apply below_alloc | apply pw_below_drewN | apply below_drew1) | exact Below.refl _ _))) rfl rfl (s := b) rfl rfl rfl WB.out (by omega) ?_; intro w3 hM_ hK_ hB_; clear zBK12_0 zBK12_1 zBK12_2 zBK12_3; have n_BK12 := Aside0.mk (Evt.Bk.mk (hK_ _ _ _ (BK12.out.below (by repeat (first | (with_reducible first | exact Below.refl _ _ | apply below_alloc | apply pw_below_drewN | apply below_drew1) | exact Below.refl _ _))).blk)); have n_HB := Aside0.mk (hB_ (below_step HB.out (by repeat (first | (with_reducible first | exact Below.refl _ _ | apply below_alloc | apply pw_below_drewN | apply below_drew1) | exact Below.refl _ _)))); clear MM HB BK12; have BK12 := n_BK12; have HB := n_HB; have MM := Aside0.mk hM_; clear hM_ hK_ hB_ n_BK12 n_HB; obtain ⟨zBK12_0, zBK12_1, zBK12_2, zBK12_3⟩ := BK12.out.c4))
        go_roundg k1
        case measure => omega
        case rel => exact ⟨i + 1, by go_num, ⟨by have := hi.out; omega⟩, ⟨HB.out, by rw [SP.out]; exact MM.out.congr (by omega) (wr_off (by omega)) (se_on (by omega)) (as_on (by omega) (by omega))⟩⟩
        skip
      · obtain ⟨rfl, hc⟩ := hc
        have g7 : decide (a = 0) = false := decide_eq_false (by omega)
        have g7' : (a == 0) = false := by simp; omega
        skip
        have HB := Aside0.mk (Below.refl wr.heap.size wr)
        clear HB
        have HB := Aside0.mk I.out.1
        skip
        have MM := Aside0.mk I.out.2
        clear I
        skip
        go_wp2_with (first | ((with_reducible refine gate_dst (N := 12) rfl ?_); refine Evt.box2 ?hg (N := 12) ?hd (z := #[.int .i64 0, .int .i64 0, .int .i64 0, .int .i64 0]) (cs := #[.int .i64 7, .int .i64 a, .int .i64 b, .int .i64 j]) (T := 66) ?hr ?hg2 (.tmp 64) ?ho2 ?hd2 ?hy ?hx ?hi ?hz ?h1 ?_; (case hd => rfl); (case hg => rfl); (case hr => first | (go_simp; done) | (go_simp; rfl)); (case hg2 => rfl); (case ho2 => rfl); (case hd2 => rfl); (case hy => first | rfl | (go_simp; done)); (case hx => first | rfl | (go_simp; done)); (case hi => kernel_rfl); (case hz => rfl); (case h1 => first | rfl | (simp [Value.oneCell'])); intro g12 hg w1 hbox hb; have hbx : Below wr.heap.size wr w1 := below_step (by repeat (first | (with_reducible first | exact Below.refl _ _ | apply below_alloc | apply pw_below_drewN | apply below_drew1) | exact Below.refl _ _)) hb; replace MM := Aside0.mk (MM.out.below hbx); replace HB := Aside0.mk (below_step HB.out hbx); clear hbx; have BK12 := Aside0.mk (Bk.mk (hbox : Blk w1 g12 66 #[.int .i64 7, .int .i64 a, .int .i64 b, .int .i64 j])); clear hbox hg hb; obtain ⟨zBK12_0, zBK12_1, zBK12_2, zBK12_3⟩ := BK12.out.c4) | (refine Vm6.M3.put9_ev (MM.out.below (by repeat (first | (with_reducible first | exact Below.refl _ _ | apply below_alloc | apply pw_below_drewN | apply below_drew1) | exact Below.refl _ _))) rfl rfl (s := j) rfl rfl rfl WJ.out (by omega) ?_; intro w2 hM_ hK_ hB_; clear zBK12_0 zBK12_1 zBK12_2 zBK12_3; have n_BK12 := Aside0.mk (Evt.Bk.mk (hK_ _ _ _ (BK12.out.below (by repeat (first | (with_reducible first | exact Below.refl _ _ | apply below_alloc | apply pw_below_drewN | apply below_drew1) | exact Below.refl _ _))).blk)); have n_HB := Aside0.mk (hB_ (below_step HB.out (by repeat (first | (with_reducible first | exact Below.refl _ _ | apply below_alloc | apply pw_below_drewN | apply below_drew1) | exact Below.refl _ _)))); clear MM HB BK12; have BK12 := n_BK12; have HB := n_HB; have MM := Aside0.mk hM_; clear hM_ hK_ hB_ n_BK12 n_HB; obtain ⟨zBK12_0, zBK12_1, zBK12_2, zBK12_3⟩ := BK12.out.c4))
        go_roundg k1
        case measure => omega
        case rel => exact ⟨i + 1, by go_num, ⟨by have := hi.out; omega⟩, ⟨HB.out, by rw [SP.out]; exact MM.out.congr (by omega) (wr_off (by omega)) (se_on (by omega)) (as_off (by omega))⟩⟩
        skip
      · have g1 : decide (11 ≤ k) = false := decide_eq_false (by omega)
        have g3 : decide (k = 6) = false := decide_eq_false (by omega)
        have g3' : (k == 6) = false := by simp; omega
        have g4 : decide (k = 7) = false := decide_eq_false (by omega)
        have g4' : (k == 7) = false := by simp; omega
        have g5 : decide (0 ≤ k) = true := decide_eq_true (by omega)
        have g6 : decide (k ≤ 7) = false := decide_eq_false (by omega)
        skip
        have HB := Aside0.mk (Below.refl wr.heap.size wr)
        clear HB
        have HB := Aside0.mk I.out.1
        skip
        have MM := Aside0.mk I.out.2
        clear I
        skip
        go_wp2_with (first | ((with_reducible refine gate_dst (N := 12) rfl ?_); refine Evt.box2 ?hg (N := 12) ?hd (z := #[.int .i64 0, .int .i64 0, .int .i64 0, .int .i64 0]) (cs := #[.int .i64 k, .int .i64 a, .int .i64 b, .int .i64 j]) (T := 66) ?hr ?hg2 (.tmp 64) ?ho2 ?hd2 ?hy ?hx ?hi ?hz ?h1 ?_; (case hd => rfl); (case hg => rfl); (case hr => first | (go_simp; done) | (go_simp; rfl)); (case hg2 => rfl); (case ho2 => rfl); (case hd2 => rfl); (case hy => first | rfl | (go_simp; done)); (case hx => first | rfl | (go_simp; done)); (case hi => kernel_rfl); (case hz => rfl); (case h1 => first | rfl | (simp [Value.oneCell'])); intro g12 hg w1 hbox hb; have hbx : Below wr.heap.size wr w1 := below_step (by repeat (first | (with_reducible first | exact Below.refl _ _ | apply below_alloc | apply pw_below_drewN | apply below_drew1) | exact Below.refl _ _)) hb; replace MM := Aside0.mk (MM.out.below hbx); replace HB := Aside0.mk (below_step HB.out hbx); clear hbx; have BK12 := Aside0.mk (Bk.mk (hbox : Blk w1 g12 66 #[.int .i64 k, .int .i64 a, .int .i64 b, .int .i64 j])); clear hbox hg hb; obtain ⟨zBK12_0, zBK12_1, zBK12_2, zBK12_3⟩ := BK12.out.c4))
        go_roundg k1
        case measure => omega
        case rel => exact ⟨i + 1, by go_num, ⟨by have := hi.out; omega⟩, ⟨HB.out, by rw [SP.out]; exact MM.out.congr (by omega) (wr_off (by omega)) (se_off (by omega)) (as_off (by omega))⟩⟩
        skip
      · have g1 : decide (11 ≤ k) = true := decide_eq_true (by omega)
        have g2 : decide (k ≤ 14) = true := decide_eq_true (by omega)
        have g3 : decide (k = 6) = false := decide_eq_false (by omega)
        have g3' : (k == 6) = false := by simp; omega
        have g4 : decide (k = 7) = false := decide_eq_false (by omega)
        have g4' : (k == 7) = false := by simp; omega
        have g5 : decide (0 ≤ k) = true := decide_eq_true (by omega)
        have g6 : decide (k ≤ 7) = false := decide_eq_false (by omega)
        skip
        have HB := Aside0.mk (Below.refl wr.heap.size wr)
        clear HB
        have HB := Aside0.mk I.out.1
        skip
        have MM := Aside0.mk I.out.2
        clear I
        skip
        go_wp2_with (first | ((with_reducible refine gate_dst (N := 12) rfl ?_); refine Evt.box2 ?hg (N := 12) ?hd (z := #[.int .i64 0, .int .i64 0, .int .i64 0, .int .i64 0]) (cs := #[.int .i64 k, .int .i64 a, .int .i64 b, .int .i64 j]) (T := 66) ?hr ?hg2 (.tmp 64) ?ho2 ?hd2 ?hy ?hx ?hi ?hz ?h1 ?_; (case hd => rfl); (case hg => rfl); (case hr => first | (go_simp; done) | (go_simp; rfl)); (case hg2 => rfl); (case ho2 => rfl); (case hd2 => rfl); (case hy => first | rfl | (go_simp; done)); (case hx => first | rfl | (go_simp; done)); (case hi => kernel_rfl); (case hz => rfl); (case h1 => first | rfl | (simp [Value.oneCell'])); intro g12 hg w1 hbox hb; have hbx : Below wr.heap.size wr w1 := below_step (by repeat (first | (with_reducible first | exact Below.refl _ _ | apply below_alloc | apply pw_below_drewN | apply below_drew1) | exact Below.refl _ _)) hb; replace MM := Aside0.mk (MM.out.below hbx); replace HB := Aside0.mk (below_step HB.out hbx); clear hbx; have BK12 := Aside0.mk (Bk.mk (hbox : Blk w1 g12 66 #[.int .i64 k, .int .i64 a, .int .i64 b, .int .i64 j])); clear hbox hg hb; obtain ⟨zBK12_0, zBK12_1, zBK12_2, zBK12_3⟩ := BK12.out.c4) | (refine Vm6.M3.put8_ev (MM.out.below (by repeat (first | (with_reducible first | exact Below.refl _ _ | apply below_alloc | apply pw_below_drewN | apply below_drew1) | exact Below.refl _ _))) rfl rfl (s := (a, b)) rfl rfl rfl ⟨WA.out, WB.out⟩ (by omega) ?_; intro w2 hM_ hK_ hB_; clear zBK12_0 zBK12_1 zBK12_2 zBK12_3; have n_BK12 := Aside0.mk (Evt.Bk.mk (hK_ _ _ _ (BK12.out.below (by repeat (first | (with_reducible first | exact Below.refl _ _ | apply below_alloc | apply pw_below_drewN | apply below_drew1) | exact Below.refl _ _))).blk)); have n_HB := Aside0.mk (hB_ (below_step HB.out (by repeat (first | (with_reducible first | exact Below.refl _ _ | apply below_alloc | apply pw_below_drewN | apply below_drew1) | exact Below.refl _ _)))); clear MM HB BK12; have BK12 := n_BK12; have HB := n_HB; have MM := Aside0.mk hM_; clear hM_ hK_ hB_ n_BK12 n_HB; obtain ⟨zBK12_0, zBK12_1, zBK12_2, zBK12_3⟩ := BK12.out.c4))
        go_roundg k1
        case measure => omega
        case rel => exact ⟨i + 1, by go_num, ⟨by have := hi.out; omega⟩, ⟨HB.out, by rw [SP.out]; exact MM.out.congr (by omega) (wr_on (by omega)) (se_off (by omega)) (as_off (by omega))⟩⟩
        skip
      · have g1 : decide (11 ≤ k) = true := decide_eq_true (by omega)
        have g2 : decide (k ≤ 14) = false := decide_eq_false (by omega)
        have g3 : decide (k = 6) = false := decide_eq_false (by omega)
        have g3' : (k == 6) = false := by simp; omega
        have g4 : decide (k = 7) = false := decide_eq_false (by omega)
        have g4' : (k == 7) = false := by simp; omega
        have g5 : decide (0 ≤ k) = true := decide_eq_true (by omega)
        have g6 : decide (k ≤ 7) = false := decide_eq_false (by omega)
        skip
        have HB := Aside0.mk (Below.refl wr.heap.size wr)
        clear HB
        have HB := Aside0.mk I.out.1
        skip
        have MM := Aside0.mk I.out.2
        clear I
        skip
        go_wp2_with (first | ((with_reducible refine gate_dst (N := 12) rfl ?_); refine Evt.box2 ?hg (N := 12) ?hd (z := #[.int .i64 0, .int .i64 0, .int .i64 0, .int .i64 0]) (cs := #[.int .i64 k, .int .i64 a, .int .i64 b, .int .i64 j]) (T := 66) ?hr ?hg2 (.tmp 64) ?ho2 ?hd2 ?hy ?hx ?hi ?hz ?h1 ?_; (case hd => rfl); (case hg => rfl); (case hr => first | (go_simp; done) | (go_simp; rfl)); (case hg2 => rfl); (case ho2 => rfl); (case hd2 => rfl); (case hy => first | rfl | (go_simp; done)); (case hx => first | rfl | (go_simp; done)); (case hi => kernel_rfl); (case hz => rfl); (case h1 => first | rfl | (simp [Value.oneCell'])); intro g12 hg w1 hbox hb; have hbx : Below wr.heap.size wr w1 := below_step (by repeat (first | (with_reducible first | exact Below.refl _ _ | apply below_alloc | apply pw_below_drewN | apply below_drew1) | exact Below.refl _ _)) hb; replace MM := Aside0.mk (MM.out.below hbx); replace HB := Aside0.mk (below_step HB.out hbx); clear hbx; have BK12 := Aside0.mk (Bk.mk (hbox : Blk w1 g12 66 #[.int .i64 k, .int .i64 a, .int .i64 b, .int .i64 j])); clear hbox hg hb; obtain ⟨zBK12_0, zBK12_1, zBK12_2, zBK12_3⟩ := BK12.out.c4))
        go_roundg k1
        case measure => omega
        case rel => exact ⟨i + 1, by go_num, ⟨by have := hi.out; omega⟩, ⟨HB.out, by rw [SP.out]; exact MM.out.congr (by omega) (wr_off (by omega)) (se_off (by omega)) (as_off (by omega))⟩⟩
        skip
    | zero =>
      have p1 : decide (i < l.length) = false := decide_eq_false (by have := hi.out; omega)
      have p2 : decide ((i : Int) < (l.length : Int)) = false := decide_eq_false (by have := hi.out; omega)
      have INV : Aside0 (Below w4.heap.size w4 wr ∧ M3 w4 wr b56 b57 b58 (2 * i) (wrP l) (seP l) (asP l)) := ⟨by have h := I.out; rw [List.take_of_length_le (by have := hi.out; omega)] at h; exact h⟩
      obtain ⟨Nm, HN⟩ : ∃ Nm, Aside0 (2 * i = Nm) := ⟨_, ⟨rfl⟩⟩
      rw [HN.out] at INV
      clear I HN
      have HB := Aside0.mk (Below.refl wr.heap.size wr)
      clear HB
      have HB := Aside0.mk INV.out.1
      skip
      have MM := Aside0.mk INV.out.2
      clear INV
      skip
      have BK5 : Aside0 (Bk wr g5 24 #[.slice AQ q.length cQ, .slice AM m.length cM, .slice AE e.length cE]) := Aside0.mk (K5.out.below HB.out)
      have BK7 : Aside0 (Bk wr g7 60 #[.slice X0 sF.q.length x0, .slice X1 sF.m.length x1, .slice X2 sF.e.length x2, .int .i64 nF, .int .i64 sF.pc, .int .i64 sF.fault]) := Aside0.mk (K7.out.below HB.out)
      obtain ⟨zBK5_0, zBK5_1, zBK5_2⟩ := BK5.out.c3
      obtain ⟨zBK7_0, zBK7_1, zBK7_2, zBK7_3, zBK7_4, zBK7_5⟩ := BK7.out.c6
      go_wp2_with fail
      clear zBK5_0 zBK5_1 zBK5_2 zBK7_0 zBK7_1 zBK7_2 zBK7_3 zBK7_4 zBK7_5
      have INV : Aside0 (Below w4.heap.size w4 wr ∧ M3 w4 wr b56 b57 b58 Nm (wrP l) (seP l) (asP l)) := ⟨⟨HB.out, MM.out⟩⟩
      clear HB MM BK5 BK7
      go_loopg [111] q.length (fun kq v111 wr => ∃ i : Nat, v111 = .int .i64 i ∧ Aside0 (i + kq = q.length) ∧ Aside0 (Below w4.heap.size w4 wr ∧ M3 w4 wr b56 b57 b58 Nm (wrP l) (seP l) (asP l)))
      case atStart => exact ⟨0, rfl, ⟨by omega⟩, INV⟩
      case round =>
        clear INV
        obtain ⟨i, rfl, hi, INV⟩ := hrel
        cases gk with
        | succ k1 =>
          have i1 : i < q.length := by have := hi.out; omega
          have i2 : (i : Int) ≤ 1000 := by omega
          have p1 : decide (i < q.length) = true := decide_eq_true i1
          have p2 : decide ((i : Int) < (q.length : Int)) = true := decide_eq_true (by omega)
          have i3 : i < sF.q.length := by have := LQ.out; omega
          have p3 : decide (i < sF.q.length) = true := decide_eq_true i3
          have p4 : decide ((i : Int) < (sF.q.length : Int)) = true := decide_eq_true (by omega)
          obtain ⟨ad, rfl, hx_⟩ := rbit SN.out.sr.r0 (i := i) (by have := LQ.out; omega)
          obtain ⟨ae, rfl, hy_⟩ := rbit SB4.out.sr.r0 (i := i) i1
          clear hx_ hy_
          obtain ⟨x, XE⟩ : ∃ x, Aside0 (sF.q.getD i false = x) := ⟨_, ⟨rfl⟩⟩
          obtain ⟨y, YE⟩ : ∃ y, Aside0 (q.getD i false = y) := ⟨_, ⟨rfl⟩⟩
          by_cases hxy : x = y
          · subst hxy
            have e1 : (x != x) = false := by simp
            skip
            have HB := Aside0.mk (Below.refl wr.heap.size wr)
            clear HB
            have HB := Aside0.mk INV.out.1
            skip
            have MM := Aside0.mk INV.out.2
            clear INV
            skip
            have BK5 : Aside0 (Bk wr g5 24 #[.slice (some ae) q.length cQ, .slice AM m.length cM, .slice AE e.length cE]) := Aside0.mk (K5.out.below HB.out)
            have BK7 : Aside0 (Bk wr g7 60 #[.slice (some ad) sF.q.length x0, .slice X1 sF.m.length x1, .slice X2 sF.e.length x2, .int .i64 nF, .int .i64 sF.pc, .int .i64 sF.fault]) := Aside0.mk (K7.out.below HB.out)
            obtain ⟨zBK5_0, zBK5_1, zBK5_2⟩ := BK5.out.c3
            obtain ⟨zBK7_0, zBK7_1, zBK7_2, zBK7_3, zBK7_4, zBK7_5⟩ := BK7.out.c6
            skip
            go_wp2_with fail
            skip
            have KP := Aside0.mk (fun w' (hb : Below wr.heap.size wr w') => And.intro ((BK5.out.below hb).c3) (And.intro ((BK7.out.below hb).c6) (And.intro ((show w'.cell? (ad.add i) = some (.bool x) from rbit_at (SN.out.bw (below_step HB.out hb)).sr.r0 (by have := LQ.out; omega) XE.out)) ((show w'.cell? (ae.add i) = some (.bool x) from rbit_at (SB4.out.bw (below_step HB.out hb)).sr.r0 i1 YE.out)))))
            clear zBK5_0 zBK5_1 zBK5_2 zBK7_0 zBK7_1 zBK7_2 zBK7_3 zBK7_4 zBK7_5
            refine Evt.ow_start (w0 := wr) (T := (true, [([], []), ([0], [0]), ([1], [1]), ([], []), ([2, 3], [2, 3]), ([4], [4]), ([], []), ([6], [6]), ([], []), ([7, 8], [7, 8]), ([9], [9]), ([5, 10], [5, 10]), ([11], [11]), ([12], [12]), ([12], [12]), ([14, 12], [12, 14]), ([13, 15, 12], [12, 13, 15]), ([16, 12], [12, 16]), ([12, 17], [12, 17])])) (B := [0, 1, 3, 0, 15, 31, 0, 64, 0, 448, 960, 2047, 4095, 8191, 8191, 24575, 65535, 131071, 262143]) 19 [(0, some 114), (1, some 115), (3, some 117), (6, some 120), (8, some 122), (2, some 116), (4, some 118), (5, some 119), (7, some 121), (9, some 123), (10, some 124), (11, some 125), (12, some 126), (13, some 127), (14, some 128), (15, some 129), (16, some 130), (17, some 131), (18, some 132)] (by kernel_rfl) rfl (by kernel_rfl) (by kernel_rfl) (by kernel_rfl) (by repeat (first | (with_reducible first | exact Below.refl _ _ | apply below_alloc | apply pw_below_drewN | apply below_drew1) | exact Below.refl _ _)) ?_
            intro HT_ HW_ w_ hHeld
            iterate 19 (first | (refine Evt.ow_off (a' := ?_) HT_ rfl rfl (by rfl) (by kernel_rfl) (fun _ _ _ h => h) ?_ ?_; rotate_left; (· (try simp only [Act.put, List.setIfInBounds_toArray, List.set_cons_zero, List.set_cons_succ, i64_w, i32_w]); rfl)) | (refine Evt.ow_pure (a' := ?_) (v := ?_) HT_ rfl rfl rfl (by rfl) (by kernel_rfl) (fun _ _ _ h => h) ?_ ?_ ?_; rotate_left 2; (· intro w'; go_simp; with_reducible rfl); (· (try simp only [Act.put, List.setIfInBounds_toArray, List.set_cons_zero, List.set_cons_succ, i64_w, i32_w]); rfl)) | (refine Evt.ow_load (a' := ?_) (v := ?_) HT_ HW_ hHeld rfl rfl rfl (by rfl) (by kernel_rfl) (fun _ _ _ h => h) ?_ ?_ ?_; rotate_left 2; (· intro w' hS_; obtain ⟨⟨s0, s1, s2⟩, ⟨s3, s4, s5, s6, s7, s8⟩, s9, s10⟩ := KP.out w' hS_.out; go_simp; with_reducible rfl); (· (try simp only [Act.put, List.setIfInBounds_toArray, List.set_cons_zero, List.set_cons_succ, i64_w, i32_w]); rfl)))
            refine Evt.ow_done HT_ (by kernel_rfl) ?_
            refine Evt.gen_any (w0 := wr) hHeld.out ?_
            intro w1 hbx
            clear hHeld HT_ HW_ KP
            replace MM := Aside0.mk (MM.out.below hbx)
            replace BK5 := Aside0.mk (BK5.out.below hbx)
            replace BK7 := Aside0.mk (BK7.out.below hbx)
            replace HB := Aside0.mk (below_step HB.out hbx)
            clear hbx
            obtain ⟨zBK5_0, zBK5_1, zBK5_2⟩ := BK5.out.c3
            obtain ⟨zBK7_0, zBK7_1, zBK7_2, zBK7_3, zBK7_4, zBK7_5⟩ := BK7.out.c6
            go_wp2_with fail
            clear zBK5_0 zBK5_1 zBK5_2 zBK7_0 zBK7_1 zBK7_2 zBK7_3 zBK7_4 zBK7_5
            go_roundg k1
            case measure => omega
            case rel => exact ⟨i + 1, by go_num, ⟨by have := hi.out; omega⟩, ⟨HB.out, MM.out⟩⟩
            skip
          · have e1 : (!(x == y)) = true := by simpa using hxy
            have e3 : (x == y) = false := by simpa using hxy
            have HN1 : Aside0 (wrP l (1, (i : Int)) = true) := ⟨FI.out.q i (by rw [XE.out]; show x ≠ q.getD i false; rw [YE.out]; exact hxy)⟩
            clear hxy
            skip
            have HB := Aside0.mk (Below.refl wr.heap.size wr)
            clear HB
            have HB := Aside0.mk INV.out.1
            skip
            have MM := Aside0.mk INV.out.2
            clear INV
            skip
            have BK5 : Aside0 (Bk wr g5 24 #[.slice (some ae) q.length cQ, .slice AM m.length cM, .slice AE e.length cE]) := Aside0.mk (K5.out.below HB.out)
            have BK7 : Aside0 (Bk wr g7 60 #[.slice (some ad) sF.q.length x0, .slice X1 sF.m.length x1, .slice X2 sF.e.length x2, .int .i64 nF, .int .i64 sF.pc, .int .i64 sF.fault]) := Aside0.mk (K7.out.below HB.out)
            obtain ⟨zBK5_0, zBK5_1, zBK5_2⟩ := BK5.out.c3
            obtain ⟨zBK7_0, zBK7_1, zBK7_2, zBK7_3, zBK7_4, zBK7_5⟩ := BK7.out.c6
            skip
            go_wp2_with fail
            skip
            have KP := Aside0.mk (fun w' (hb : Below wr.heap.size wr w') => And.intro ((BK5.out.below hb).c3) (And.intro ((BK7.out.below hb).c6) (And.intro ((show w'.cell? (ad.add i) = some (.bool x) from rbit_at (SN.out.bw (below_step HB.out hb)).sr.r0 (by have := LQ.out; omega) XE.out)) ((show w'.cell? (ae.add i) = some (.bool y) from rbit_at (SB4.out.bw (below_step HB.out hb)).sr.r0 i1 YE.out)))))
            clear zBK5_0 zBK5_1 zBK5_2 zBK7_0 zBK7_1 zBK7_2 zBK7_3 zBK7_4 zBK7_5
            refine Evt.ow_start (w0 := wr) (T := (true, [([], []), ([0], [0]), ([1], [1]), ([], []), ([2, 3], [2, 3]), ([4], [4]), ([], []), ([6], [6]), ([], []), ([7, 8], [7, 8]), ([9], [9]), ([5, 10], [5, 10]), ([11], [11]), ([12], [12]), ([12], [12]), ([14, 12], [12, 14]), ([13, 15, 12], [12, 13, 15]), ([16, 12], [12, 16]), ([12, 17], [12, 17])])) (B := [0, 1, 3, 0, 15, 31, 0, 64, 0, 448, 960, 2047, 4095, 8191, 8191, 24575, 65535, 131071, 262143]) 19 [(0, some 114), (1, some 115), (3, some 117), (6, some 120), (8, some 122), (2, some 116), (4, some 118), (5, some 119), (7, some 121), (9, some 123), (10, some 124), (11, some 125), (12, some 126), (13, some 127), (14, some 128), (15, some 129), (16, some 130), (17, some 131), (18, some 132)] (by kernel_rfl) rfl (by kernel_rfl) (by kernel_rfl) (by kernel_rfl) (by repeat (first | (with_reducible first | exact Below.refl _ _ | apply below_alloc | apply pw_below_drewN | apply below_drew1) | exact Below.refl _ _)) ?_
            intro HT_ HW_ w_ hHeld
            iterate 16 (first | (refine Evt.ow_off (a' := ?_) HT_ rfl rfl (by rfl) (by kernel_rfl) (fun _ _ _ h => h) ?_ ?_; rotate_left; (· (try simp only [Act.put, List.setIfInBounds_toArray, List.set_cons_zero, List.set_cons_succ, i64_w, i32_w]); rfl)) | (refine Evt.ow_pure (a' := ?_) (v := ?_) HT_ rfl rfl rfl (by rfl) (by kernel_rfl) (fun _ _ _ h => h) ?_ ?_ ?_; rotate_left 2; (· intro w'; go_simp; with_reducible rfl); (· (try simp only [Act.put, List.setIfInBounds_toArray, List.set_cons_zero, List.set_cons_succ, i64_w, i32_w]); rfl)) | (refine Evt.ow_load (a' := ?_) (v := ?_) HT_ HW_ hHeld rfl rfl rfl (by rfl) (by kernel_rfl) (fun _ _ _ h => h) ?_ ?_ ?_; rotate_left 2; (· intro w' hS_; obtain ⟨⟨s0, s1, s2⟩, ⟨s3, s4, s5, s6, s7, s8⟩, s9, s10⟩ := KP.out w' hS_.out; go_simp; with_reducible rfl); (· (try simp only [Act.put, List.setIfInBounds_toArray, List.set_cons_zero, List.set_cons_succ, i64_w, i32_w]); rfl)))
            refine Evt.ow_value (a' := ?_) (v := .bool true) (w1 := _) HT_ hHeld rfl rfl (by rfl) (by kernel_rfl) ?_ (Below.refl _ _) ?_ ?_
            rotate_left
            · (have lk_ := (MM.out.below hHeld.out).look8 (v := true) rfl (WalkArith.wf_i64 (by omega)) HN1.out; first | (simp [execOp, lk_, Result.andThen]; done) | (go_simp; exact lk_) | (go_simp; done))
            · simp only [Act.put, List.setIfInBounds_toArray, List.set_cons_zero, List.set_cons_succ, i64_w, i32_w]; rfl
            intro hHeld_
            clear hHeld
            have hHeld := hHeld_
            clear hHeld_
            iterate 2 (first | (refine Evt.ow_off (a' := ?_) HT_ rfl rfl (by rfl) (by kernel_rfl) (fun _ _ _ h => h) ?_ ?_; rotate_left; (· (try simp only [Act.put, List.setIfInBounds_toArray, List.set_cons_zero, List.set_cons_succ, i64_w, i32_w]); rfl)) | (refine Evt.ow_pure (a' := ?_) (v := ?_) HT_ rfl rfl rfl (by rfl) (by kernel_rfl) (fun _ _ _ h => h) ?_ ?_ ?_; rotate_left 2; (· intro w'; go_simp; with_reducible rfl); (· (try simp only [Act.put, List.setIfInBounds_toArray, List.set_cons_zero, List.set_cons_succ, i64_w, i32_w]); rfl)) | (refine Evt.ow_load (a' := ?_) (v := ?_) HT_ HW_ hHeld rfl rfl rfl (by rfl) (by kernel_rfl) (fun _ _ _ h => h) ?_ ?_ ?_; rotate_left 2; (· intro w' hS_; obtain ⟨⟨s0, s1, s2⟩, ⟨s3, s4, s5, s6, s7, s8⟩, s9, s10⟩ := KP.out w' hS_.out; go_simp; with_reducible rfl); (· (try simp only [Act.put, List.setIfInBounds_toArray, List.set_cons_zero, List.set_cons_succ, i64_w, i32_w]); rfl)))
            refine Evt.ow_done HT_ (by kernel_rfl) ?_
            refine Evt.gen_any (w0 := wr) hHeld.out ?_
            intro w1 hbx
            clear hHeld HT_ HW_ KP
            replace MM := Aside0.mk (MM.out.below hbx)
            replace BK5 := Aside0.mk (BK5.out.below hbx)
            replace BK7 := Aside0.mk (BK7.out.below hbx)
            replace HB := Aside0.mk (below_step HB.out hbx)
            clear hbx
            obtain ⟨zBK5_0, zBK5_1, zBK5_2⟩ := BK5.out.c3
            obtain ⟨zBK7_0, zBK7_1, zBK7_2, zBK7_3, zBK7_4, zBK7_5⟩ := BK7.out.c6
            go_wp2_with fail
            clear zBK5_0 zBK5_1 zBK5_2 zBK7_0 zBK7_1 zBK7_2 zBK7_3 zBK7_4 zBK7_5
            go_roundg k1
            case measure => omega
            case rel => exact ⟨i + 1, by go_num, ⟨by have := hi.out; omega⟩, ⟨HB.out, MM.out⟩⟩
            skip
        | zero =>
          have p1 : decide (i < q.length) = false := decide_eq_false (by have := hi.out; omega)
          have p2 : decide ((i : Int) < (q.length : Int)) = false := decide_eq_false (by have := hi.out; omega)
          clear hi
          have HB := Aside0.mk (Below.refl wr.heap.size wr)
          clear HB
          have HB := Aside0.mk INV.out.1
          skip
          have MM := Aside0.mk INV.out.2
          clear INV
          skip
          have BK5 : Aside0 (Bk wr g5 24 #[.slice AQ q.length cQ, .slice AM m.length cM, .slice AE e.length cE]) := Aside0.mk (K5.out.below HB.out)
          have BK7 : Aside0 (Bk wr g7 60 #[.slice X0 sF.q.length x0, .slice X1 sF.m.length x1, .slice X2 sF.e.length x2, .int .i64 nF, .int .i64 sF.pc, .int .i64 sF.fault]) := Aside0.mk (K7.out.below HB.out)
          obtain ⟨zBK5_0, zBK5_1, zBK5_2⟩ := BK5.out.c3
          obtain ⟨zBK7_0, zBK7_1, zBK7_2, zBK7_3, zBK7_4, zBK7_5⟩ := BK7.out.c6
          go_wp2_with fail
          clear zBK5_0 zBK5_1 zBK5_2 zBK7_0 zBK7_1 zBK7_2 zBK7_3 zBK7_4 zBK7_5
          have INV : Aside0 (Below w4.heap.size w4 wr ∧ M3 w4 wr b56 b57 b58 Nm (wrP l) (seP l) (asP l)) := ⟨⟨HB.out, MM.out⟩⟩
          clear HB MM BK5 BK7
          go_loopg [137] m.length (fun kq v137 wr => ∃ i : Nat, v137 = .int .i64 i ∧ Aside0 (i + kq = m.length) ∧ Aside0 (Below w4.heap.size w4 wr ∧ M3 w4 wr b56 b57 b58 Nm (wrP l) (seP l) (asP l)))
          case atStart => exact ⟨0, rfl, ⟨by omega⟩, INV⟩
          case round =>
            clear INV
            obtain ⟨i, rfl, hi, INV⟩ := hrel
            cases gk with
            | succ k1 =>
              have i1 : i < m.length := by have := hi.out; omega
              have i2 : (i : Int) ≤ 1000 := by omega
              have p1 : decide (i < m.length) = true := decide_eq_true i1
              have p2 : decide ((i : Int) < (m.length : Int)) = true := decide_eq_true (by omega)
              have i3 : i < sF.m.length := by have := LM.out; omega
              have p3 : decide (i < sF.m.length) = true := decide_eq_true i3
              have p4 : decide ((i : Int) < (sF.m.length : Int)) = true := decide_eq_true (by omega)
              obtain ⟨ad, rfl, hx_⟩ := rbit SN.out.sr.r1 (i := i) (by have := LM.out; omega)
              obtain ⟨ae, rfl, hy_⟩ := rbit SB4.out.sr.r1 (i := i) i1
              clear hx_ hy_
              obtain ⟨x, XE⟩ : ∃ x, Aside0 (sF.m.getD i false = x) := ⟨_, ⟨rfl⟩⟩
              obtain ⟨y, YE⟩ : ∃ y, Aside0 (m.getD i false = y) := ⟨_, ⟨rfl⟩⟩
              by_cases hxy : x = y
              · subst hxy
                have e1 : (x != x) = false := by simp
                skip
                have HB := Aside0.mk (Below.refl wr.heap.size wr)
                clear HB
                have HB := Aside0.mk INV.out.1
                skip
                have MM := Aside0.mk INV.out.2
                clear INV
                skip
                have BK5 : Aside0 (Bk wr g5 24 #[.slice AQ q.length cQ, .slice (some ae) m.length cM, .slice AE e.length cE]) := Aside0.mk (K5.out.below HB.out)
                have BK7 : Aside0 (Bk wr g7 60 #[.slice X0 sF.q.length x0, .slice (some ad) sF.m.length x1, .slice X2 sF.e.length x2, .int .i64 nF, .int .i64 sF.pc, .int .i64 sF.fault]) := Aside0.mk (K7.out.below HB.out)
                obtain ⟨zBK5_0, zBK5_1, zBK5_2⟩ := BK5.out.c3
                obtain ⟨zBK7_0, zBK7_1, zBK7_2, zBK7_3, zBK7_4, zBK7_5⟩ := BK7.out.c6
                skip
                go_wp2_with fail
                skip
                have KP := Aside0.mk (fun w' (hb : Below wr.heap.size wr w') => And.intro ((BK5.out.below hb).c3) (And.intro ((BK7.out.below hb).c6) (And.intro ((show w'.cell? (ad.add i) = some (.bool x) from rbit_at (SN.out.bw (below_step HB.out hb)).sr.r1 (by have := LM.out; omega) XE.out)) ((show w'.cell? (ae.add i) = some (.bool x) from rbit_at (SB4.out.bw (below_step HB.out hb)).sr.r1 i1 YE.out)))))
                clear zBK5_0 zBK5_1 zBK5_2 zBK7_0 zBK7_1 zBK7_2 zBK7_3 zBK7_4 zBK7_5
                refine Evt.ow_start (w0 := wr) (T := (true, [([], []), ([0], [0]), ([1], [1]), ([], []), ([2, 3], [2, 3]), ([4], [4]), ([], []), ([6], [6]), ([], []), ([7, 8], [7, 8]), ([9], [9]), ([5, 10], [5, 10]), ([11], [11]), ([12], [12]), ([12], [12]), ([14, 12], [12, 14]), ([13, 15, 12], [12, 13, 15]), ([16, 12], [12, 16]), ([12, 17], [12, 17])])) (B := [0, 1, 3, 0, 15, 31, 0, 64, 0, 448, 960, 2047, 4095, 8191, 8191, 24575, 65535, 131071, 262143]) 19 [(0, some 140), (1, some 141), (3, some 143), (6, some 146), (8, some 148), (2, some 142), (4, some 144), (5, some 145), (7, some 147), (9, some 149), (10, some 150), (11, some 151), (12, some 152), (13, some 153), (14, some 154), (15, some 155), (16, some 156), (17, some 157), (18, some 158)] (by kernel_rfl) rfl (by kernel_rfl) (by kernel_rfl) (by kernel_rfl) (by repeat (first | (with_reducible first | exact Below.refl _ _ | apply below_alloc | apply pw_below_drewN | apply below_drew1) | exact Below.refl _ _)) ?_
                intro HT_ HW_ w_ hHeld
                iterate 19 (first | (refine Evt.ow_off (a' := ?_) HT_ rfl rfl (by rfl) (by kernel_rfl) (fun _ _ _ h => h) ?_ ?_; rotate_left; (· (try simp only [Act.put, List.setIfInBounds_toArray, List.set_cons_zero, List.set_cons_succ, i64_w, i32_w]); rfl)) | (refine Evt.ow_pure (a' := ?_) (v := ?_) HT_ rfl rfl rfl (by rfl) (by kernel_rfl) (fun _ _ _ h => h) ?_ ?_ ?_; rotate_left 2; (· intro w'; go_simp; with_reducible rfl); (· (try simp only [Act.put, List.setIfInBounds_toArray, List.set_cons_zero, List.set_cons_succ, i64_w, i32_w]); rfl)) | (refine Evt.ow_load (a' := ?_) (v := ?_) HT_ HW_ hHeld rfl rfl rfl (by rfl) (by kernel_rfl) (fun _ _ _ h => h) ?_ ?_ ?_; rotate_left 2; (· intro w' hS_; obtain ⟨⟨s0, s1, s2⟩, ⟨s3, s4, s5, s6, s7, s8⟩, s9, s10⟩ := KP.out w' hS_.out; go_simp; with_reducible rfl); (· (try simp only [Act.put, List.setIfInBounds_toArray, List.set_cons_zero, List.set_cons_succ, i64_w, i32_w]); rfl)))
                refine Evt.ow_done HT_ (by kernel_rfl) ?_
                refine Evt.gen_any (w0 := wr) hHeld.out ?_
                intro w1 hbx
                clear hHeld HT_ HW_ KP
                replace MM := Aside0.mk (MM.out.below hbx)
                replace BK5 := Aside0.mk (BK5.out.below hbx)
                replace BK7 := Aside0.mk (BK7.out.below hbx)
                replace HB := Aside0.mk (below_step HB.out hbx)
                clear hbx
                obtain ⟨zBK5_0, zBK5_1, zBK5_2⟩ := BK5.out.c3
                obtain ⟨zBK7_0, zBK7_1, zBK7_2, zBK7_3, zBK7_4, zBK7_5⟩ := BK7.out.c6
                go_wp2_with fail
                clear zBK5_0 zBK5_1 zBK5_2 zBK7_0 zBK7_1 zBK7_2 zBK7_3 zBK7_4 zBK7_5
                go_roundg k1
                case measure => omega
                case rel => exact ⟨i + 1, by go_num, ⟨by have := hi.out; omega⟩, ⟨HB.out, MM.out⟩⟩
                skip
              · have e1 : (!(x == y)) = true := by simpa using hxy
                have e3 : (x == y) = false := by simpa using hxy
                have HN1 : Aside0 (wrP l (2, (i : Int)) = true) := ⟨FI.out.m i (by rw [XE.out]; show x ≠ m.getD i false; rw [YE.out]; exact hxy)⟩
                clear hxy
                skip
                have HB := Aside0.mk (Below.refl wr.heap.size wr)
                clear HB
                have HB := Aside0.mk INV.out.1
                skip
                have MM := Aside0.mk INV.out.2
                clear INV
                skip
                have BK5 : Aside0 (Bk wr g5 24 #[.slice AQ q.length cQ, .slice (some ae) m.length cM, .slice AE e.length cE]) := Aside0.mk (K5.out.below HB.out)
                have BK7 : Aside0 (Bk wr g7 60 #[.slice X0 sF.q.length x0, .slice (some ad) sF.m.length x1, .slice X2 sF.e.length x2, .int .i64 nF, .int .i64 sF.pc, .int .i64 sF.fault]) := Aside0.mk (K7.out.below HB.out)
                obtain ⟨zBK5_0, zBK5_1, zBK5_2⟩ := BK5.out.c3
                obtain ⟨zBK7_0, zBK7_1, zBK7_2, zBK7_3, zBK7_4, zBK7_5⟩ := BK7.out.c6
                skip
                go_wp2_with fail
                skip
                have KP := Aside0.mk (fun w' (hb : Below wr.heap.size wr w') => And.intro ((BK5.out.below hb).c3) (And.intro ((BK7.out.below hb).c6) (And.intro ((show w'.cell? (ad.add i) = some (.bool x) from rbit_at (SN.out.bw (below_step HB.out hb)).sr.r1 (by have := LM.out; omega) XE.out)) ((show w'.cell? (ae.add i) = some (.bool y) from rbit_at (SB4.out.bw (below_step HB.out hb)).sr.r1 i1 YE.out)))))
                clear zBK5_0 zBK5_1 zBK5_2 zBK7_0 zBK7_1 zBK7_2 zBK7_3 zBK7_4 zBK7_5
                refine Evt.ow_start (w0 := wr) (T := (true, [([], []), ([0], [0]), ([1], [1]), ([], []), ([2, 3], [2, 3]), ([4], [4]), ([], []), ([6], [6]), ([], []), ([7, 8], [7, 8]), ([9], [9]), ([5, 10], [5, 10]), ([11], [11]), ([12], [12]), ([12], [12]), ([14, 12], [12, 14]), ([13, 15, 12], [12, 13, 15]), ([16, 12], [12, 16]), ([12, 17], [12, 17])])) (B := [0, 1, 3, 0, 15, 31, 0, 64, 0, 448, 960, 2047, 4095, 8191, 8191, 24575, 65535, 131071, 262143]) 19 [(0, some 140), (1, some 141), (3, some 143), (6, some 146), (8, some 148), (2, some 142), (4, some 144), (5, some 145), (7, some 147), (9, some 149), (10, some 150), (11, some 151), (12, some 152), (13, some 153), (14, some 154), (15, some 155), (16, some 156), (17, some 157), (18, some 158)] (by kernel_rfl) rfl (by kernel_rfl) (by kernel_rfl) (by kernel_rfl) (by repeat (first | (with_reducible first | exact Below.refl _ _ | apply below_alloc | apply pw_below_drewN | apply below_drew1) | exact Below.refl _ _)) ?_
                intro HT_ HW_ w_ hHeld
                iterate 16 (first | (refine Evt.ow_off (a' := ?_) HT_ rfl rfl (by rfl) (by kernel_rfl) (fun _ _ _ h => h) ?_ ?_; rotate_left; (· (try simp only [Act.put, List.setIfInBounds_toArray, List.set_cons_zero, List.set_cons_succ, i64_w, i32_w]); rfl)) | (refine Evt.ow_pure (a' := ?_) (v := ?_) HT_ rfl rfl rfl (by rfl) (by kernel_rfl) (fun _ _ _ h => h) ?_ ?_ ?_; rotate_left 2; (· intro w'; go_simp; with_reducible rfl); (· (try simp only [Act.put, List.setIfInBounds_toArray, List.set_cons_zero, List.set_cons_succ, i64_w, i32_w]); rfl)) | (refine Evt.ow_load (a' := ?_) (v := ?_) HT_ HW_ hHeld rfl rfl rfl (by rfl) (by kernel_rfl) (fun _ _ _ h => h) ?_ ?_ ?_; rotate_left 2; (· intro w' hS_; obtain ⟨⟨s0, s1, s2⟩, ⟨s3, s4, s5, s6, s7, s8⟩, s9, s10⟩ := KP.out w' hS_.out; go_simp; with_reducible rfl); (· (try simp only [Act.put, List.setIfInBounds_toArray, List.set_cons_zero, List.set_cons_succ, i64_w, i32_w]); rfl)))
                refine Evt.ow_value (a' := ?_) (v := .bool true) (w1 := _) HT_ hHeld rfl rfl (by rfl) (by kernel_rfl) ?_ (Below.refl _ _) ?_ ?_
                rotate_left
                · (have lk_ := (MM.out.below hHeld.out).look8 (v := true) rfl (WalkArith.wf_i64 (by omega)) HN1.out; first | (simp [execOp, lk_, Result.andThen]; done) | (go_simp; exact lk_) | (go_simp; done))
                · simp only [Act.put, List.setIfInBounds_toArray, List.set_cons_zero, List.set_cons_succ, i64_w, i32_w]; rfl
                intro hHeld_
                clear hHeld
                have hHeld := hHeld_
                clear hHeld_
                iterate 2 (first | (refine Evt.ow_off (a' := ?_) HT_ rfl rfl (by rfl) (by kernel_rfl) (fun _ _ _ h => h) ?_ ?_; rotate_left; (· (try simp only [Act.put, List.setIfInBounds_toArray, List.set_cons_zero, List.set_cons_succ, i64_w, i32_w]); rfl)) | (refine Evt.ow_pure (a' := ?_) (v := ?_) HT_ rfl rfl rfl (by rfl) (by kernel_rfl) (fun _ _ _ h => h) ?_ ?_ ?_; rotate_left 2; (· intro w'; go_simp; with_reducible rfl); (· (try simp only [Act.put, List.setIfInBounds_toArray, List.set_cons_zero, List.set_cons_succ, i64_w, i32_w]); rfl)) | (refine Evt.ow_load (a' := ?_) (v := ?_) HT_ HW_ hHeld rfl rfl rfl (by rfl) (by kernel_rfl) (fun _ _ _ h => h) ?_ ?_ ?_; rotate_left 2; (· intro w' hS_; obtain ⟨⟨s0, s1, s2⟩, ⟨s3, s4, s5, s6, s7, s8⟩, s9, s10⟩ := KP.out w' hS_.out; go_simp; with_reducible rfl); (· (try simp only [Act.put, List.setIfInBounds_toArray, List.set_cons_zero, List.set_cons_succ, i64_w, i32_w]); rfl)))
                refine Evt.ow_done HT_ (by kernel_rfl) ?_
                refine Evt.gen_any (w0 := wr) hHeld.out ?_
                intro w1 hbx
                clear hHeld HT_ HW_ KP
                replace MM := Aside0.mk (MM.out.below hbx)
                replace BK5 := Aside0.mk (BK5.out.below hbx)
                replace BK7 := Aside0.mk (BK7.out.below hbx)
                replace HB := Aside0.mk (below_step HB.out hbx)
                clear hbx
                obtain ⟨zBK5_0, zBK5_1, zBK5_2⟩ := BK5.out.c3
                obtain ⟨zBK7_0, zBK7_1, zBK7_2, zBK7_3, zBK7_4, zBK7_5⟩ := BK7.out.c6
                go_wp2_with fail
                clear zBK5_0 zBK5_1 zBK5_2 zBK7_0 zBK7_1 zBK7_2 zBK7_3 zBK7_4 zBK7_5
                go_roundg k1
                case measure => omega
                case rel => exact ⟨i + 1, by go_num, ⟨by have := hi.out; omega⟩, ⟨HB.out, MM.out⟩⟩
                skip
            | zero =>
              have p1 : decide (i < m.length) = false := decide_eq_false (by have := hi.out; omega)
              have p2 : decide ((i : Int) < (m.length : Int)) = false := decide_eq_false (by have := hi.out; omega)
              clear hi
              have HB := Aside0.mk (Below.refl wr.heap.size wr)
              clear HB
              have HB := Aside0.mk INV.out.1
              skip
              have MM := Aside0.mk INV.out.2
              clear INV
              skip
              have BK5 : Aside0 (Bk wr g5 24 #[.slice AQ q.length cQ, .slice AM m.length cM, .slice AE e.length cE]) := Aside0.mk (K5.out.below HB.out)
              have BK7 : Aside0 (Bk wr g7 60 #[.slice X0 sF.q.length x0, .slice X1 sF.m.length x1, .slice X2 sF.e.length x2, .int .i64 nF, .int .i64 sF.pc, .int .i64 sF.fault]) := Aside0.mk (K7.out.below HB.out)
              obtain ⟨zBK5_0, zBK5_1, zBK5_2⟩ := BK5.out.c3
              obtain ⟨zBK7_0, zBK7_1, zBK7_2, zBK7_3, zBK7_4, zBK7_5⟩ := BK7.out.c6
              go_wp2_with fail
              clear zBK5_0 zBK5_1 zBK5_2 zBK7_0 zBK7_1 zBK7_2 zBK7_3 zBK7_4 zBK7_5
              have INV : Aside0 (Below w4.heap.size w4 wr ∧ M3 w4 wr b56 b57 b58 Nm (wrP l) (seP l) (asP l)) := ⟨⟨HB.out, MM.out⟩⟩
              clear HB MM BK5 BK7
              go_loopg [163] e.length (fun kq v163 wr => ∃ i : Nat, v163 = .int .i64 i ∧ Aside0 (i + kq = e.length) ∧ Aside0 (Below w4.heap.size w4 wr ∧ M3 w4 wr b56 b57 b58 Nm (wrP l) (seP l) (asP l)))
              case atStart => exact ⟨0, rfl, ⟨by omega⟩, INV⟩
              case round =>
                clear INV
                obtain ⟨i, rfl, hi, INV⟩ := hrel
                cases gk with
                | succ k1 =>
                  have i1 : i < e.length := by have := hi.out; omega
                  have i2 : (i : Int) ≤ 1000 := by omega
                  have p1 : decide (i < e.length) = true := decide_eq_true i1
                  have p2 : decide ((i : Int) < (e.length : Int)) = true := decide_eq_true (by omega)
                  have i3 : i < sF.e.length := by have := LE.out; omega
                  have p3 : decide (i < sF.e.length) = true := decide_eq_true i3
                  have p4 : decide ((i : Int) < (sF.e.length : Int)) = true := decide_eq_true (by omega)
                  obtain ⟨ad, rfl, hx_⟩ := rbit SN.out.sr.r2 (i := i) (by have := LE.out; omega)
                  obtain ⟨ae, rfl, hy_⟩ := rbit SB4.out.sr.r2 (i := i) i1
                  clear hx_ hy_
                  obtain ⟨x, XE⟩ : ∃ x, Aside0 (sF.e.getD i false = x) := ⟨_, ⟨rfl⟩⟩
                  obtain ⟨y, YE⟩ : ∃ y, Aside0 (e.getD i false = y) := ⟨_, ⟨rfl⟩⟩
                  by_cases hxy : x = y
                  · subst hxy
                    have e1 : (x != x) = false := by simp
                    skip
                    have HB := Aside0.mk (Below.refl wr.heap.size wr)
                    clear HB
                    have HB := Aside0.mk INV.out.1
                    skip
                    have MM := Aside0.mk INV.out.2
                    clear INV
                    skip
                    have BK5 : Aside0 (Bk wr g5 24 #[.slice AQ q.length cQ, .slice AM m.length cM, .slice (some ae) e.length cE]) := Aside0.mk (K5.out.below HB.out)
                    have BK7 : Aside0 (Bk wr g7 60 #[.slice X0 sF.q.length x0, .slice X1 sF.m.length x1, .slice (some ad) sF.e.length x2, .int .i64 nF, .int .i64 sF.pc, .int .i64 sF.fault]) := Aside0.mk (K7.out.below HB.out)
                    obtain ⟨zBK5_0, zBK5_1, zBK5_2⟩ := BK5.out.c3
                    obtain ⟨zBK7_0, zBK7_1, zBK7_2, zBK7_3, zBK7_4, zBK7_5⟩ := BK7.out.c6
                    skip
                    go_wp2_with fail
                    skip
                    have KP := Aside0.mk (fun w' (hb : Below wr.heap.size wr w') => And.intro ((BK5.out.below hb).c3) (And.intro ((BK7.out.below hb).c6) (And.intro ((show w'.cell? (ad.add i) = some (.bool x) from rbit_at (SN.out.bw (below_step HB.out hb)).sr.r2 (by have := LE.out; omega) XE.out)) ((show w'.cell? (ae.add i) = some (.bool x) from rbit_at (SB4.out.bw (below_step HB.out hb)).sr.r2 i1 YE.out)))))
                    clear zBK5_0 zBK5_1 zBK5_2 zBK7_0 zBK7_1 zBK7_2 zBK7_3 zBK7_4 zBK7_5
                    refine Evt.ow_start (w0 := wr) (T := (true, [([], []), ([0], [0]), ([1], [1]), ([], []), ([2, 3], [2, 3]), ([4], [4]), ([], []), ([6], [6]), ([], []), ([7, 8], [7, 8]), ([9], [9]), ([5, 10], [5, 10]), ([11], [11]), ([12], [12]), ([12], [12]), ([13, 14, 12], [12, 13, 14]), ([15, 12], [12, 15]), ([12, 16], [12, 16])])) (B := [0, 1, 3, 0, 15, 31, 0, 64, 0, 448, 960, 2047, 4095, 8191, 8191, 32767, 65535, 131071]) 18 [(0, some 166), (1, some 167), (3, some 169), (6, some 172), (8, some 174), (2, some 168), (4, some 170), (5, some 171), (7, some 173), (9, some 175), (10, some 176), (11, some 177), (12, some 178), (13, some 179), (14, some 180), (15, some 181), (16, some 182), (17, some 183)] (by kernel_rfl) rfl (by kernel_rfl) (by kernel_rfl) (by kernel_rfl) (by repeat (first | (with_reducible first | exact Below.refl _ _ | apply below_alloc | apply pw_below_drewN | apply below_drew1) | exact Below.refl _ _)) ?_
                    intro HT_ HW_ w_ hHeld
                    iterate 18 (first | (refine Evt.ow_off (a' := ?_) HT_ rfl rfl (by rfl) (by kernel_rfl) (fun _ _ _ h => h) ?_ ?_; rotate_left; (· (try simp only [Act.put, List.setIfInBounds_toArray, List.set_cons_zero, List.set_cons_succ, i64_w, i32_w]); rfl)) | (refine Evt.ow_pure (a' := ?_) (v := ?_) HT_ rfl rfl rfl (by rfl) (by kernel_rfl) (fun _ _ _ h => h) ?_ ?_ ?_; rotate_left 2; (· intro w'; go_simp; with_reducible rfl); (· (try simp only [Act.put, List.setIfInBounds_toArray, List.set_cons_zero, List.set_cons_succ, i64_w, i32_w]); rfl)) | (refine Evt.ow_load (a' := ?_) (v := ?_) HT_ HW_ hHeld rfl rfl rfl (by rfl) (by kernel_rfl) (fun _ _ _ h => h) ?_ ?_ ?_; rotate_left 2; (· intro w' hS_; obtain ⟨⟨s0, s1, s2⟩, ⟨s3, s4, s5, s6, s7, s8⟩, s9, s10⟩ := KP.out w' hS_.out; go_simp; with_reducible rfl); (· (try simp only [Act.put, List.setIfInBounds_toArray, List.set_cons_zero, List.set_cons_succ, i64_w, i32_w]); rfl)))
                    refine Evt.ow_done HT_ (by kernel_rfl) ?_
                    refine Evt.gen_any (w0 := wr) hHeld.out ?_
                    intro w1 hbx
                    clear hHeld HT_ HW_ KP
                    replace MM := Aside0.mk (MM.out.below hbx)
                    replace BK5 := Aside0.mk (BK5.out.below hbx)
                    replace BK7 := Aside0.mk (BK7.out.below hbx)
                    replace HB := Aside0.mk (below_step HB.out hbx)
                    clear hbx
                    obtain ⟨zBK5_0, zBK5_1, zBK5_2⟩ := BK5.out.c3
                    obtain ⟨zBK7_0, zBK7_1, zBK7_2, zBK7_3, zBK7_4, zBK7_5⟩ := BK7.out.c6
                    go_wp2_with fail
                    clear zBK5_0 zBK5_1 zBK5_2 zBK7_0 zBK7_1 zBK7_2 zBK7_3 zBK7_4 zBK7_5
                    go_roundg k1
                    case measure => omega
                    case rel => exact ⟨i + 1, by go_num, ⟨by have := hi.out; omega⟩, ⟨HB.out, MM.out⟩⟩
                    skip
                  · have e1 : (!(x == y)) = true := by simpa using hxy
                    have e3 : (x == y) = false := by simpa using hxy
                    have HN1 : Aside0 (seP l (i : Int) = true) := ⟨FI.out.e i (by rw [XE.out]; show x ≠ e.getD i false; rw [YE.out]; exact hxy)⟩
                    clear hxy
                    skip
                    have HB := Aside0.mk (Below.refl wr.heap.size wr)
                    clear HB
                    have HB := Aside0.mk INV.out.1
                    skip
                    have MM := Aside0.mk INV.out.2
                    clear INV
                    skip
                    have BK5 : Aside0 (Bk wr g5 24 #[.slice AQ q.length cQ, .slice AM m.length cM, .slice (some ae) e.length cE]) := Aside0.mk (K5.out.below HB.out)
                    have BK7 : Aside0 (Bk wr g7 60 #[.slice X0 sF.q.length x0, .slice X1 sF.m.length x1, .slice (some ad) sF.e.length x2, .int .i64 nF, .int .i64 sF.pc, .int .i64 sF.fault]) := Aside0.mk (K7.out.below HB.out)
                    obtain ⟨zBK5_0, zBK5_1, zBK5_2⟩ := BK5.out.c3
                    obtain ⟨zBK7_0, zBK7_1, zBK7_2, zBK7_3, zBK7_4, zBK7_5⟩ := BK7.out.c6
                    skip
                    go_wp2_with fail
                    skip
                    have KP := Aside0.mk (fun w' (hb : Below wr.heap.size wr w') => And.intro ((BK5.out.below hb).c3) (And.intro ((BK7.out.below hb).c6) (And.intro ((show w'.cell? (ad.add i) = some (.bool x) from rbit_at (SN.out.bw (below_step HB.out hb)).sr.r2 (by have := LE.out; omega) XE.out)) ((show w'.cell? (ae.add i) = some (.bool y) from rbit_at (SB4.out.bw (below_step HB.out hb)).sr.r2 i1 YE.out)))))
                    clear zBK5_0 zBK5_1 zBK5_2 zBK7_0 zBK7_1 zBK7_2 zBK7_3 zBK7_4 zBK7_5
                    refine Evt.ow_start (w0 := wr) (T := (true, [([], []), ([0], [0]), ([1], [1]), ([], []), ([2, 3], [2, 3]), ([4], [4]), ([], []), ([6], [6]), ([], []), ([7, 8], [7, 8]), ([9], [9]), ([5, 10], [5, 10]), ([11], [11]), ([12], [12]), ([12], [12]), ([13, 14, 12], [12, 13, 14]), ([15, 12], [12, 15]), ([12, 16], [12, 16])])) (B := [0, 1, 3, 0, 15, 31, 0, 64, 0, 448, 960, 2047, 4095, 8191, 8191, 32767, 65535, 131071]) 18 [(0, some 166), (1, some 167), (3, some 169), (6, some 172), (8, some 174), (2, some 168), (4, some 170), (5, some 171), (7, some 173), (9, some 175), (10, some 176), (11, some 177), (12, some 178), (13, some 179), (14, some 180), (15, some 181), (16, some 182), (17, some 183)] (by kernel_rfl) rfl (by kernel_rfl) (by kernel_rfl) (by kernel_rfl) (by repeat (first | (with_reducible first | exact Below.refl _ _ | apply below_alloc | apply pw_below_drewN | apply below_drew1) | exact Below.refl _ _)) ?_
                    intro HT_ HW_ w_ hHeld
                    iterate 15 (first | (refine Evt.ow_off (a' := ?_) HT_ rfl rfl (by rfl) (by kernel_rfl) (fun _ _ _ h => h) ?_ ?_; rotate_left; (· (try simp only [Act.put, List.setIfInBounds_toArray, List.set_cons_zero, List.set_cons_succ, i64_w, i32_w]); rfl)) | (refine Evt.ow_pure (a' := ?_) (v := ?_) HT_ rfl rfl rfl (by rfl) (by kernel_rfl) (fun _ _ _ h => h) ?_ ?_ ?_; rotate_left 2; (· intro w'; go_simp; with_reducible rfl); (· (try simp only [Act.put, List.setIfInBounds_toArray, List.set_cons_zero, List.set_cons_succ, i64_w, i32_w]); rfl)) | (refine Evt.ow_load (a' := ?_) (v := ?_) HT_ HW_ hHeld rfl rfl rfl (by rfl) (by kernel_rfl) (fun _ _ _ h => h) ?_ ?_ ?_; rotate_left 2; (· intro w' hS_; obtain ⟨⟨s0, s1, s2⟩, ⟨s3, s4, s5, s6, s7, s8⟩, s9, s10⟩ := KP.out w' hS_.out; go_simp; with_reducible rfl); (· (try simp only [Act.put, List.setIfInBounds_toArray, List.set_cons_zero, List.set_cons_succ, i64_w, i32_w]); rfl)))
                    refine Evt.ow_value (a' := ?_) (v := .bool true) (w1 := _) HT_ hHeld rfl rfl (by rfl) (by kernel_rfl) ?_ (Below.refl _ _) ?_ ?_
                    rotate_left
                    · (have lk_ := (MM.out.below hHeld.out).look9 (v := true) (WalkArith.wf_i64 (by omega)) HN1.out; first | (simp [execOp, lk_, Result.andThen]; done) | (go_simp; exact lk_) | (go_simp; done))
                    · simp only [Act.put, List.setIfInBounds_toArray, List.set_cons_zero, List.set_cons_succ, i64_w, i32_w]; rfl
                    intro hHeld_
                    clear hHeld
                    have hHeld := hHeld_
                    clear hHeld_
                    iterate 2 (first | (refine Evt.ow_off (a' := ?_) HT_ rfl rfl (by rfl) (by kernel_rfl) (fun _ _ _ h => h) ?_ ?_; rotate_left; (· (try simp only [Act.put, List.setIfInBounds_toArray, List.set_cons_zero, List.set_cons_succ, i64_w, i32_w]); rfl)) | (refine Evt.ow_pure (a' := ?_) (v := ?_) HT_ rfl rfl rfl (by rfl) (by kernel_rfl) (fun _ _ _ h => h) ?_ ?_ ?_; rotate_left 2; (· intro w'; go_simp; with_reducible rfl); (· (try simp only [Act.put, List.setIfInBounds_toArray, List.set_cons_zero, List.set_cons_succ, i64_w, i32_w]); rfl)) | (refine Evt.ow_load (a' := ?_) (v := ?_) HT_ HW_ hHeld rfl rfl rfl (by rfl) (by kernel_rfl) (fun _ _ _ h => h) ?_ ?_ ?_; rotate_left 2; (· intro w' hS_; obtain ⟨⟨s0, s1, s2⟩, ⟨s3, s4, s5, s6, s7, s8⟩, s9, s10⟩ := KP.out w' hS_.out; go_simp; with_reducible rfl); (· (try simp only [Act.put, List.setIfInBounds_toArray, List.set_cons_zero, List.set_cons_succ, i64_w, i32_w]); rfl)))
                    refine Evt.ow_done HT_ (by kernel_rfl) ?_
                    refine Evt.gen_any (w0 := wr) hHeld.out ?_
                    intro w1 hbx
                    clear hHeld HT_ HW_ KP
                    replace MM := Aside0.mk (MM.out.below hbx)
                    replace BK5 := Aside0.mk (BK5.out.below hbx)
                    replace BK7 := Aside0.mk (BK7.out.below hbx)
                    replace HB := Aside0.mk (below_step HB.out hbx)
                    clear hbx
                    obtain ⟨zBK5_0, zBK5_1, zBK5_2⟩ := BK5.out.c3
                    obtain ⟨zBK7_0, zBK7_1, zBK7_2, zBK7_3, zBK7_4, zBK7_5⟩ := BK7.out.c6
                    go_wp2_with fail
                    clear zBK5_0 zBK5_1 zBK5_2 zBK7_0 zBK7_1 zBK7_2 zBK7_3 zBK7_4 zBK7_5
                    go_roundg k1
                    case measure => omega
                    case rel => exact ⟨i + 1, by go_num, ⟨by have := hi.out; omega⟩, ⟨HB.out, MM.out⟩⟩
                    skip
                | zero =>
                  have p1 : decide (i < e.length) = false := decide_eq_false (by have := hi.out; omega)
                  have p2 : decide ((i : Int) < (e.length : Int)) = false := decide_eq_false (by have := hi.out; omega)
                  clear hi
                  obtain ⟨wB, hwB⟩ : ∃ wB, wB = wr := ⟨_, rfl⟩
                  subst hwB
                  have HB := Aside0.mk (Below.refl wB.heap.size wB)
                  clear HB
                  have HB := Aside0.mk INV.out.1
                  skip
                  have MM := Aside0.mk INV.out.2
                  clear INV
                  skip
                  have BK5 : Aside0 (Bk wB g5 24 #[.slice AQ q.length cQ, .slice AM m.length cM, .slice AE e.length cE]) := Aside0.mk (K5.out.below HB.out)
                  have BK7 : Aside0 (Bk wB g7 60 #[.slice X0 sF.q.length x0, .slice X1 sF.m.length x1, .slice X2 sF.e.length x2, .int .i64 nF, .int .i64 sF.pc, .int .i64 sF.fault]) := Aside0.mk (K7.out.below HB.out)
                  obtain ⟨zBK5_0, zBK5_1, zBK5_2⟩ := BK5.out.c3
                  obtain ⟨zBK7_0, zBK7_1, zBK7_2, zBK7_3, zBK7_4, zBK7_5⟩ := BK7.out.c6
                  have HBB := HB
                  have MA := MM
                  go_wp2_with (first | ((with_reducible refine gate_dst (N := 185) rfl ?_); refine Vm6.row0_ev (d := Kd.bool) (e := 4) (w0 := wB) rfl (N := 185) rfl (by repeat (first | (with_reducible first | exact Below.refl _ _ | apply below_alloc | apply pw_below_drewN | apply below_drew1) | exact Below.refl _ _)) ?hr_ ?_; (case hr_ => first | (go_simp; done) | (go_simp; rfl)); intro v185 wx ho hb; have R0 := Aside0.mk ho; have HX := Aside0.mk hb; clear ho hb) | ((with_reducible refine gate_dst (N := 187) rfl ?_); at_builtin; refine Vm6.rowapp_ev Evt.rkB rfl (.tmp 185) (.tmp 186) rfl v185 [] li AI li.length cI rfl rfl R0.out (RI4.out.below (below_step HB.out HX.out)).row HX.out (by simp; omega) ?_; intro v187 wa ho hbx; have RO := Aside0.mk (show Evt.Ro Kd.bool 4 wB wa v187 li from ho); have HA := Aside0.mk hbx; clear ho R0 HX; obtain ⟨X16, c16, rfl⟩ := Kd.R_slice RO.out.row; clear zBK5_0 zBK5_1 zBK5_2 zBK7_0 zBK7_1 zBK7_2 zBK7_3 zBK7_4 zBK7_5; replace MM := Aside0.mk (MM.out.below hbx); replace BK5 := Aside0.mk (BK5.out.below hbx); replace BK7 := Aside0.mk (BK7.out.below hbx); replace HB := Aside0.mk (below_step HB.out hbx); clear hbx; obtain ⟨zBK5_0, zBK5_1, zBK5_2⟩ := BK5.out.c3; obtain ⟨zBK7_0, zBK7_1, zBK7_2, zBK7_3, zBK7_4, zBK7_5⟩ := BK7.out.c6))
                  clear zBK5_0 zBK5_1 zBK5_2 zBK7_0 zBK7_1 zBK7_2 zBK7_3 zBK7_4 zBK7_5
                  have CAP := Aside0.mk (Rw.of_R RO.out.row).cap
                  have INV : Aside0 (Below wB.heap.size wB wa ∧ Ob wa wB X16 li) := ⟨⟨HA.out, Ob.of_R RO.out.row⟩⟩
                  clear RO HA HB MM BK5 BK7
                  go_loopg [190] li.length (fun kq v190 wr => ∃ (i : Nat) (L : List Bool), v190 = .int .i64 i ∧ Aside0 (i + kq = li.length) ∧ Aside0 (Fp l li i L) ∧ Aside0 (Below wB.heap.size wB wr ∧ Ob wr wB X16 L))
                  case atStart => exact ⟨0, li, rfl, ⟨by omega⟩, ⟨Fp.start⟩, INV⟩
                  case round =>
                    clear INV
                    obtain ⟨i, L, rfl, hi, FP, I⟩ := hrel
                    cases gk with
                    | succ k1 =>
                      have i1 : i < li.length := by have := hi.out; omega
                      have i2 : (i : Int) ≤ 1000 := by omega
                      have p1 : decide (i < li.length) = true := decide_eq_true i1
                      have p2 : decide ((i : Int) < (li.length : Int)) = true := decide_eq_true (by omega)
                      have iL : i < L.length := by rw [FP.out.1]; exact i1
                      obtain ⟨x, XE⟩ : ∃ x, Aside0 (L.getD i false = x) := ⟨_, ⟨rfl⟩⟩
                      obtain ⟨y, YE⟩ : ∃ y, Aside0 (asP l (i : Int) = y) := ⟨_, ⟨rfl⟩⟩
                      rcases I.out.2 with h0 | ⟨g, cs, rfl, hk, hg, hcs⟩
                      · exfalso; rw [h0] at iL; simp at iL
                      have HK := Aside0.mk hk
                      have HG := Aside0.mk hg
                      have HCS := Aside0.mk hcs
                      have HCI := Aside0.mk (show cs[i]? = some (.bool x) by rw [hcs i iL, XE.out])
                      have IB := Aside0.mk I.out.1
                      clear hk hg hcs I
                      skip
                      have HB := Aside0.mk (Below.refl wr.heap.size wr)
                      skip
                      go_wp2_with fail
                      refine Evt.ol_start (ds := [12]) (w0 := wr) (T := (true, [([], []), ([], []), ([], []), ([], []), ([2, 3], [2, 3]), ([4], [4]), ([], []), ([], []), ([6, 7], [6, 7]), ([8], [8]), ([5, 9], [5, 9]), ([0, 1, 0, 1, 2, 3, 4, 5, 6, 7, 8, 9, 10], [0, 1]), ([11, 10, 0, 1, 2, 3, 4, 5, 6, 7, 8, 9, 10], [10, 11])])) (B := [0, 0, 0, 0, 12, 28, 0, 0, 192, 448, 1020, 2047, 4095]) 13 [(0, some 193), (1, some 194), (2, some 195), (3, some 196), (4, some 197), (5, some 198), (6, some 199), (7, some 200), (8, some 201), (9, some 202), (10, some 203), (11, some 204), (12, none)] (by kernel_rfl) rfl (by kernel_rfl) (by kernel_rfl) (by kernel_rfl) (by repeat (first | (with_reducible first | exact Below.refl _ _ | apply below_alloc | apply pw_below_drewN | apply below_drew1) | exact Below.refl _ _)) ?_
                      intro HT_ HW_ w_ hHeld
                      iterate 8 (first | (refine Evt.ol_off (a' := ?_) HT_ rfl rfl (by rfl) (by kernel_rfl) (fun _ _ _ h => h) ?_ ?_; rotate_left; (· (try simp only [Act.put, List.setIfInBounds_toArray, List.set_cons_zero, List.set_cons_succ, i64_w, i32_w]); rfl)) | (refine Evt.ol_pure (a' := ?_) (v := ?_) HT_ rfl rfl rfl (by rfl) (by kernel_rfl) (fun _ _ _ h => h) ?_ ?_ ?_; rotate_left 2; (· intro w'; go_simp; with_reducible rfl); (· (try simp only [Act.put, List.setIfInBounds_toArray, List.set_cons_zero, List.set_cons_succ, i64_w, i32_w]); rfl)) | (refine Evt.ol_load (a' := ?_) (v := ?_) HT_ HW_ hHeld rfl rfl rfl (by rfl) (by kernel_rfl) (fun _ _ _ h => h) ?_ ?_ ?_; rotate_left 2; (· intro w' hS_; have zc : w'.cell? ⟨g, i, none⟩ = some (.bool x) := ((HK.out.below hS_.out).blk.cell i HCI.out); go_simp; with_reducible rfl); (· (try simp only [Act.put, List.setIfInBounds_toArray, List.set_cons_zero, List.set_cons_succ, i64_w, i32_w]); rfl)))
                      refine Evt.ol_value (a' := ?_) (v := .bool y) (w1 := _) HT_ hHeld rfl rfl (by simp) (by rfl) (by kernel_rfl) ?_ (Below.refl _ _) ?_ ?_
                      rotate_left
                      · (have lk_ := (MA.out.below (below_step IB.out hHeld.out)).look10 (v := y) (WalkArith.wf_i64 (by omega)) YE.out; first | (simp [execOp, lk_, Result.andThen]; done) | (go_simp; exact lk_) | (go_simp; done))
                      · simp only [Act.put, List.setIfInBounds_toArray, List.set_cons_zero, List.set_cons_succ, i64_w, i32_w]; rfl
                      intro hHeld_
                      clear hHeld
                      have hHeld := hHeld_
                      clear hHeld_
                      iterate 3 (first | (refine Evt.ol_off (a' := ?_) HT_ rfl rfl (by rfl) (by kernel_rfl) (fun _ _ _ h => h) ?_ ?_; rotate_left; (· (try simp only [Act.put, List.setIfInBounds_toArray, List.set_cons_zero, List.set_cons_succ, i64_w, i32_w]); rfl)) | (refine Evt.ol_pure (a' := ?_) (v := ?_) HT_ rfl rfl rfl (by rfl) (by kernel_rfl) (fun _ _ _ h => h) ?_ ?_ ?_; rotate_left 2; (· intro w'; go_simp; with_reducible rfl); (· (try simp only [Act.put, List.setIfInBounds_toArray, List.set_cons_zero, List.set_cons_succ, i64_w, i32_w]); rfl)) | (refine Evt.ol_load (a' := ?_) (v := ?_) HT_ HW_ hHeld rfl rfl rfl (by rfl) (by kernel_rfl) (fun _ _ _ h => h) ?_ ?_ ?_; rotate_left 2; (· intro w' hS_; have zc : w'.cell? ⟨g, i, none⟩ = some (.bool x) := ((HK.out.below hS_.out).blk.cell i HCI.out); go_simp; with_reducible rfl); (· (try simp only [Act.put, List.setIfInBounds_toArray, List.set_cons_zero, List.set_cons_succ, i64_w, i32_w]); rfl)))
                      have HKn := HK.out.below hHeld.out
                      have zf : w_.frozen? ⟨g, i, none⟩ = false := blk_frozen HKn.blk i
                      have zc2 : w_.cell? ⟨g, i, none⟩ = some (.bool x) := HKn.blk.cell i HCI.out
                      refine Evt.ol_rancell HT_ rfl rfl (by simp) (by kernel_rfl) (by rfl) HKn i (.bool (!(x == !y))) ?hrun ?_
                      case hrun => (first | (go_simp; done) | (go_simp; rfl))
                      intro w9 bz_ hg_
                      have I2 : Aside0 (Below wB.heap.size wB w9 ∧ Ob w9 wB (some ⟨g, 0, none⟩) (L.set i (!(x == !y)))) := ⟨⟨(below_step IB.out hHeld.out).grown hg_ (below_step IB.out hHeld.out).size (fun k hk => by cases hk; exact HG.out), Ob.put iL bz_ HG.out HCS.out⟩⟩
                      clear bz_ hg_ zf zc2 HKn hHeld HK HG HCS HCI IB HB
                      refine Evt.ol_done HT_ (by kernel_rfl) ?_
                      clear HT_ HW_
                      go_wp2_with fail
                      go_roundg k1
                      case measure => omega
                      case rel => exact ⟨i + 1, _, by go_num, ⟨by have := hi.out; omega⟩, ⟨FP.out.next i1 (by rw [XE.out, YE.out]; cases x <;> cases y <;> rfl)⟩, I2⟩
                      skip
                    | zero =>
                      have e0 : i = li.length := by have := hi.out; omega
                      have p1 : decide (i < li.length) = false := decide_eq_false (by omega)
                      have p2 : decide ((i : Int) < (li.length : Int)) = false := decide_eq_false (by omega)
                      have LL := Aside0.mk FP.out.1
                      have HR2 : Aside0 (runV l L (l.length + 2) (ini q m e) 0 = (sF, nF)) := ⟨by rw [← runV_agree (Fp.agree (e0 ▸ FP.out)) _ _ (Ok.ini q m e)]; exact HR.out⟩
                      have e1 : (sF.fault == sF.fault) = true := beq_self_eq_true _
                      have e2 : (sF.pc == sF.pc) = true := beq_self_eq_true _
                      clear e0 hi FP MA
                      have HB := Aside0.mk (Below.refl wr.heap.size wr)
                      clear HB
                      have HB := Aside0.mk I.out.1
                      have OB := Aside0.mk I.out.2
                      clear I
                      have HBC := Aside0.mk (below_step HBB.out HB.out)
                      skip
                      have SS := Aside0.mk (SN.out.bw HBC.out)
                      have SB := Aside0.mk (SB4.out.bw HBC.out)
                      have BK5 : Aside0 (Bk wr g5 24 #[.slice AQ q.length cQ, .slice AM m.length cM, .slice AE e.length cE]) := Aside0.mk (K5.out.below HBC.out)
                      have BK7 : Aside0 (Bk wr g7 60 #[.slice X0 sF.q.length x0, .slice X1 sF.m.length x1, .slice X2 sF.e.length x2, .int .i64 nF, .int .i64 sF.pc, .int .i64 sF.fault]) := Aside0.mk (K7.out.below HBC.out)
                      have HC2 := Aside0.mk (Kd.C_below HC.out (below_step HB0.out HBC.out))
                      clear HBC
                      obtain ⟨zBK5_0, zBK5_1, zBK5_2⟩ := BK5.out.c3
                      obtain ⟨zBK7_0, zBK7_1, zBK7_2, zBK7_3, zBK7_4, zBK7_5⟩ := BK7.out.c6
                      go_wp2_with (first | ((with_reducible refine gate_callee (f := 34) rfl ?_); refine goesL_ (some 209) rfl rfl Try.func34 (by kernel_rfl) rfl #[.slice AC l.length cC, .slice X16 li.length c16, .agg #[.slice AQ q.length cQ, .slice AM m.length cM, .slice AE e.length cE]] rfl (by (try simp only [List.map_toArray, List.map_cons, List.map_nil]); first | done | rfl | (simp only [List.length_drop, List.length_take]; rfl)) ?_; (with_reducible refine (fr_run _ (Kd.C_below HC2.out (by repeat (first | (with_reducible first | exact Below.refl _ _ | apply below_alloc | apply pw_below_drewN | apply below_drew1) | exact Below.refl _ _))) (Ob.rw (OB.out.below (by repeat (first | (with_reducible first | exact Below.refl _ _ | apply below_alloc | apply pw_below_drewN | apply below_drew1) | exact Below.refl _ _))) (by rw [LL.out]; exact CAP.out) (by rw [LL.out]; omega)) LL.out (SB.out.below (by repeat (first | (with_reducible first | exact Below.refl _ _ | apply below_alloc | apply pw_below_drewN | apply below_drew1) | exact Below.refl _ _))) (by omega) (by omega) HW.out HR2.out).mono ?_); rintro e w1 ⟨W0, u0, W1, u1, W2, u2, rfl, hs_, _, hb⟩; have hbx : Below wr.heap.size wr w1 := below_step (by repeat (first | (with_reducible first | exact Below.refl _ _ | apply below_alloc | apply pw_below_drewN | apply below_drew1) | exact Below.refl _ _)) hb; clear zBK5_0 zBK5_1 zBK5_2 zBK7_0 zBK7_1 zBK7_2 zBK7_3 zBK7_4 zBK7_5; replace OB := Aside0.mk (OB.out.below hbx); replace SS := Aside0.mk (SS.out.below hbx); replace SB := Aside0.mk (SB.out.below hbx); replace BK5 := Aside0.mk (BK5.out.below hbx); replace BK7 := Aside0.mk (BK7.out.below hbx); replace HB := Aside0.mk (below_step HB.out hbx); clear hbx; have ST := Aside0.mk (hs_); clear hb; clear hs_; obtain ⟨zBK5_0, zBK5_1, zBK5_2⟩ := BK5.out.c3; obtain ⟨zBK7_0, zBK7_1, zBK7_2, zBK7_3, zBK7_4, zBK7_5⟩ := BK7.out.c6; refine ⟨_, rfl, ?_⟩) | ((with_reducible refine gate_dst (N := 18) rfl ?_); refine Evt.box2 ?hg (N := 18) ?hd (z := #[.slice none 0 0, .slice none 0 0, .slice none 0 0, .int .i64 0, .int .i64 0, .int .i64 0]) (cs := #[.slice W0 sF.q.length u0, .slice W1 sF.m.length u1, .slice W2 sF.e.length u2, .int .i64 nF, .int .i64 sF.pc, .int .i64 sF.fault]) (T := 60) ?hr ?hg2 (.tmp 209) ?ho2 ?hd2 ?hy ?hx ?hi ?hz ?h1 ?_; (case hd => rfl); (case hg => rfl); (case hr => first | (go_simp; done) | (go_simp; rfl)); (case hg2 => rfl); (case ho2 => rfl); (case hd2 => rfl); (case hy => first | rfl | (go_simp; done)); (case hx => first | rfl | (go_simp; done)); (case hi => kernel_rfl); (case hz => rfl); (case h1 => first | rfl | (simp [Value.oneCell'])); intro g18 hg w2 hbox hb; have hbx : Below w1.heap.size w1 w2 := below_step (by repeat (first | (with_reducible first | exact Below.refl _ _ | apply below_alloc | apply pw_below_drewN | apply below_drew1) | exact Below.refl _ _)) hb; clear zBK5_0 zBK5_1 zBK5_2 zBK7_0 zBK7_1 zBK7_2 zBK7_3 zBK7_4 zBK7_5; replace OB := Aside0.mk (OB.out.below hbx); replace SS := Aside0.mk (SS.out.below hbx); replace SB := Aside0.mk (SB.out.below hbx); replace BK5 := Aside0.mk (BK5.out.below hbx); replace BK7 := Aside0.mk (BK7.out.below hbx); replace ST := Aside0.mk (ST.out.below hbx); replace HB := Aside0.mk (below_step HB.out hbx); clear hbx; have BK18 := Aside0.mk (Bk.mk (hbox : Blk w2 g18 60 #[.slice W0 sF.q.length u0, .slice W1 sF.m.length u1, .slice W2 sF.e.length u2, .int .i64 nF, .int .i64 sF.pc, .int .i64 sF.fault])); clear hbox hg hb; obtain ⟨zBK5_0, zBK5_1, zBK5_2⟩ := BK5.out.c3; obtain ⟨zBK7_0, zBK7_1, zBK7_2, zBK7_3, zBK7_4, zBK7_5⟩ := BK7.out.c6; obtain ⟨zBK18_0, zBK18_1, zBK18_2, zBK18_3, zBK18_4, zBK18_5⟩ := BK18.out.c6) | (go_at_call 33; (with_reducible refine (alive_any _).mono ?_); rintro e w3 ⟨rfl, hb⟩; have hbx : Below w2.heap.size w2 w3 := below_step (by repeat (first | (with_reducible first | exact Below.refl _ _ | apply below_alloc | apply pw_below_drewN | apply below_drew1) | exact Below.refl _ _)) hb; clear zBK5_0 zBK5_1 zBK5_2 zBK7_0 zBK7_1 zBK7_2 zBK7_3 zBK7_4 zBK7_5 zBK18_0 zBK18_1 zBK18_2 zBK18_3 zBK18_4 zBK18_5; replace OB := Aside0.mk (OB.out.below hbx); replace SS := Aside0.mk (SS.out.below hbx); replace SB := Aside0.mk (SB.out.below hbx); replace BK5 := Aside0.mk (BK5.out.below hbx); replace BK7 := Aside0.mk (BK7.out.below hbx); replace ST := Aside0.mk (ST.out.below hbx); replace BK18 := Aside0.mk (BK18.out.below hbx); replace HB := Aside0.mk (below_step HB.out hbx); clear hbx; clear hb; obtain ⟨zBK5_0, zBK5_1, zBK5_2⟩ := BK5.out.c3; obtain ⟨zBK7_0, zBK7_1, zBK7_2, zBK7_3, zBK7_4, zBK7_5⟩ := BK7.out.c6; obtain ⟨zBK18_0, zBK18_1, zBK18_2, zBK18_3, zBK18_4, zBK18_5⟩ := BK18.out.c6) | (go_at_call 22; (with_reducible refine (equalS (SS.out.below (by repeat (first | (with_reducible first | exact Below.refl _ _ | apply below_alloc | apply pw_below_drewN | apply below_drew1) | exact Below.refl _ _))) (ST.out.below (by repeat (first | (with_reducible first | exact Below.refl _ _ | apply below_alloc | apply pw_below_drewN | apply below_drew1) | exact Below.refl _ _)))).mono ?_); rintro e w4 ⟨rfl, hb⟩; have hbx : Below w3.heap.size w3 w4 := below_step (by repeat (first | (with_reducible first | exact Below.refl _ _ | apply below_alloc | apply pw_below_drewN | apply below_drew1) | exact Below.refl _ _)) hb; clear zBK5_0 zBK5_1 zBK5_2 zBK7_0 zBK7_1 zBK7_2 zBK7_3 zBK7_4 zBK7_5 zBK18_0 zBK18_1 zBK18_2 zBK18_3 zBK18_4 zBK18_5; replace OB := Aside0.mk (OB.out.below hbx); replace SS := Aside0.mk (SS.out.below hbx); replace SB := Aside0.mk (SB.out.below hbx); replace BK5 := Aside0.mk (BK5.out.below hbx); replace BK7 := Aside0.mk (BK7.out.below hbx); replace ST := Aside0.mk (ST.out.below hbx); replace BK18 := Aside0.mk (BK18.out.below hbx); replace HB := Aside0.mk (below_step HB.out hbx); clear hbx; clear hb; obtain ⟨zBK5_0, zBK5_1, zBK5_2⟩ := BK5.out.c3; obtain ⟨zBK7_0, zBK7_1, zBK7_2, zBK7_3, zBK7_4, zBK7_5⟩ := BK7.out.c6; obtain ⟨zBK18_0, zBK18_1, zBK18_2, zBK18_3, zBK18_4, zBK18_5⟩ := BK18.out.c6))
                      go_ret
                      exact ⟨rfl, below_step HB0.out (below_step HBB.out HB.out)⟩
set_option maxHeartbeats 4000000 in
theorem fr_big (w : World) (hS : Sr Kd.bool w AQ cQ AM cM AE cE q m e) (TL : ∀ w', Below w.heap.size w w' → Calls Try.prog 32 #[.slice AC l.length cC, .slice AI li.length cI, .agg #[.slice AQ q.length cQ, .slice AM m.length cM, .slice AE e.length cE]] w' fun x w2 => x = .returned (.bool true) ∧ Below w'.heap.size w' w2) :
    Calls Try.prog 12 #[.slice AC l.length cC, .slice AI li.length cI, .agg #[.slice AQ q.length cQ, .slice AM m.length cM, .slice AE e.length cE]] w fun x w' => x = .returned (.bool true) ∧ Below w.heap.size w w' := by
  have HT := Aside0.mk TL
  have HB := Aside0.mk (Below.refl w.heap.size w)
  clear hS TL
  go_enter Try.func12, Try.ntmps12
  go_wp2_with (first | ((with_reducible refine gate_dst (N := 5) rfl ?_); refine box_event ?hg (N := 5) ?hd (cs := #[.slice AQ q.length cQ, .slice AM m.length cM, .slice AE e.length cE]) (t := 24) ?hr ?_; (case hd => rfl); (case hg => rfl); (case hr => first | (go_simp; done) | (go_simp; rfl)); intro g5 hg w1 hbox hb; have hbx : Below w.heap.size w w1 := below_step (by repeat (first | (with_reducible first | exact Below.refl _ _ | apply below_alloc | apply pw_below_drewN | apply below_drew1) | exact Below.refl _ _)) hb; replace HB := Aside0.mk (below_step HB.out hbx); clear hbx; have BK5 := Aside0.mk (Bk.mk (hbox : Blk w1 g5 24 #[.slice AQ q.length cQ, .slice AM m.length cM, .slice AE e.length cE])); clear hbox hg hb; obtain ⟨zBK5_0, zBK5_1, zBK5_2⟩ := BK5.out.c3) | (go_at_call 32; (with_reducible refine (HT.out _ (below_step HB.out (by repeat (first | (with_reducible first | exact Below.refl _ _ | apply below_alloc | apply pw_below_drewN | apply below_drew1) | exact Below.refl _ _)))).mono ?_); rintro e w2 ⟨rfl, hb⟩; have hbx : Below w1.heap.size w1 w2 := below_step (by repeat (first | (with_reducible first | exact Below.refl _ _ | apply below_alloc | apply pw_below_drewN | apply below_drew1) | exact Below.refl _ _)) hb; clear zBK5_0 zBK5_1 zBK5_2; replace BK5 := Aside0.mk (BK5.out.below hbx); replace HB := Aside0.mk (below_step HB.out hbx); clear hbx; clear hb; obtain ⟨zBK5_0, zBK5_1, zBK5_2⟩ := BK5.out.c3) | (go_at_call 33; (with_reducible refine (alive_any _).mono ?_); rintro e w3 ⟨rfl, hb⟩; have hbx : Below w2.heap.size w2 w3 := below_step (by repeat (first | (with_reducible first | exact Below.refl _ _ | apply below_alloc | apply pw_below_drewN | apply below_drew1) | exact Below.refl _ _)) hb; clear zBK5_0 zBK5_1 zBK5_2; replace BK5 := Aside0.mk (BK5.out.below hbx); replace HB := Aside0.mk (below_step HB.out hbx); clear hbx; clear hb; obtain ⟨zBK5_0, zBK5_1, zBK5_2⟩ := BK5.out.c3))
  go_ret
  exact ⟨rfl, HB.out⟩
end
theorem fr_walk (w : World) (A0 : Option Addr) (c0 : Nat) (l : List S66) (w0 : l.length ≤ c0) (y0 : Kd.C k66 w A0 l.length l) (z0 : SlQ (fun y : S66 => I64 y.f0 ∧ (I64 y.f1.f0 ∧ I64 y.f1.f1) ∧ I64 y.f2) l) (A1 : Option Addr) (c1 : Nat) (li : List Bool) (w1 : li.length ≤ c1) (y1 : Kd.C Kd.bool w A1 li.length li) (z1 : SlQ (fun _ : Bool => True) li) (cs : List Value) (y : List Bool × List Bool × List Bool) (y2 : KSt.K w y cs) (z2 : SlQ (fun _ : Bool => True) y.1 ∧ SlQ (fun _ : Bool => True) y.2.1 ∧ SlQ (fun _ : Bool => True) y.2.2) :
    Calls Try.prog 12 #[.slice A0 l.length c0, .slice A1 li.length c1, .agg cs.toArray] w fun x w' => x = .returned (.bool true) ∧ Below w.heap.size w w' := by
  obtain ⟨AQ, cQ, AM, cM, AE, cE, rfl, r1⟩ := st_form y2
  obtain ⟨b, hb, ht⟩ := too_any l li y.1 y.2.1 y.2.2
  cases b with
  | true => exact fr_big w r1 (fun w' h => ht w' (r1.below h))
  | false =>
    have hs := hb rfl
    have := hs.q; have := hs.m; have := hs.e
    exact fr_go w y0 z0.2 ⟨w1, y1⟩ ⟨r1, by omega, by omega, by omega⟩ (WfC.sl z0) hs (fun w' h => ht w' (r1.below h))
end Go.Proofs.Ytjohdkbciafpfaa.Vm6
