/- Several texts of this session in one (join.py): Vl8. -/
import Derived.Test.YtjohdkbciafpfaaOpx
import Derived.Test.YtjohdkbciafpfaaVg
import Derived.Test.YtjohdkbciafpfaaRnx
section
/- VmStepMatchesReference, walked. Written by gen/l8.py. -/
namespace Go.Proofs.Ytjohdkbciafpfaa.Vm6
open Go.RowKit Go.Proofs.YtjohdkbciafpfaaW.PrintWords Go.Proofs.YtjohdkbciafpfaaW.PrintMore Go.Proofs.YtjohdkbciafpfaaW.PrintLast Go.Proofs.Ytjohdkbciafpfaa.Chg Go.Proofs.Ytjohdkbciafpfaa.Evt Go.Proofs.Ytjohdkbciafpfaa.Impl Go.Proofs.Ytjohdkbciafpfaa.St03 Go.Proofs.Ytjohdkbciafpfaa.Open
set_option linter.unusedVariables false
set_option linter.unusedSimpArgs false
set_option maxRecDepth 100000
theorem acc_nil (w : World) : Calls Try.prog 40 #[.pointer none] w fun x w' => x = .returned (.bool false) ∧ Below w.heap.size w w' := by
  have HB := Aside0.mk (Below.refl w.heap.size w)
  go_enter Try.func40, Try.ntmps40
  go_wp2
  go_ret
  exact ⟨rfl, HB.out⟩
theorem depth_nil (w : World) : Calls Try.prog 41 #[.pointer none] w fun x w' => x = .returned (.int .i64 0) ∧ Below w.heap.size w w' := by
  have HB := Aside0.mk (Below.refl w.heap.size w)
  go_enter Try.func41, Try.ntmps41
  go_wp2
  go_ret
  exact ⟨rfl, HB.out⟩
theorem at_nil (w : World) : Calls Try.prog 37 #[.pointer none] w fun x w' => x = .returned (.int .i64 0) ∧ Below w.heap.size w w' := by
  have HB := Aside0.mk (Below.refl w.heap.size w)
  go_enter Try.func37, Try.ntmps37
  go_wp2
  go_ret
  exact ⟨rfl, HB.out⟩
theorem state_nil (w : World) : Calls Try.prog 39 #[.pointer none] w fun x w' => x = .returned (.agg #[.slice none 0 0, .slice none 0 0, .slice none 0 0]) ∧ Below w.heap.size w w' := by
  have HB := Aside0.mk (Below.refl w.heap.size w)
  go_enter Try.func39, Try.ntmps39
  go_wp2_with (((with_reducible refine gate_dst (N := 2) rfl ?_); refine box_event ?hg (N := 2) ?hd (cs := #[.slice none 0 0, .slice none 0 0, .slice none 0 0]) (t := 24) ?hr ?_; (case hd => rfl); (case hg => rfl); (case hr => first | (go_simp; done) | (go_simp; rfl)); intro g2 hg w1 hbox hb; have hbx : Below w.heap.size w w1 := below_step (by repeat (first | (with_reducible first | exact Below.refl _ _ | apply below_alloc | apply pw_below_drewN | apply below_drew1) | exact Below.refl _ _)) hb; have GG2 := Aside0.mk (show w.heap.size ≤ g2 from (by rw [hg]; exact below_size (below_step HB.out (by repeat (first | (with_reducible first | exact Below.refl _ _ | apply below_alloc | apply pw_below_drewN | apply below_drew1) | exact Below.refl _ _))))); replace HB := Aside0.mk (below_step HB.out hbx); clear hbx; have BK2 := Aside0.mk (Bk.mk (hbox : Blk w1 g2 24 #[.slice none 0 0, .slice none 0 0, .slice none 0 0])); clear hbox hg hb; obtain ⟨zBK2_0, zBK2_1, zBK2_2⟩ := BK2.out.c3); have f0 := blk_frozen BK2.out.blk 0; have f1 := blk_frozen BK2.out.blk 1; have f2 := blk_frozen BK2.out.blk 2)
  clear zBK2_0 zBK2_1 zBK2_2
  refine bodyPost_ret (v := .agg #[.slice none 0 0, .slice none 0 0, .slice none 0 0]) ?_ rfl ?_
  rotate_left
  · exact ⟨rfl, below_set (below_set (below_set HB.out GG2.out) GG2.out) GG2.out⟩
  exact results_cell_row rfl _ _ g2 24 #[.slice none 0 0, .slice none 0 0, .slice none 0 0] (0, 0) _ rfl (show Blk _ g2 24 #[.slice none 0 0, .slice none 0 0, .slice none 0 0] from ((BK2.out.blk.set_ 0 _).set_ 1 _).set_ 2 _) Try.underlying24 rfl (by kernel_rfl)
section
variable {w wr wN w' : World} {base gm gn kq j : Nat} {U V : Nat → Prop} {l : List S66} {li q m e : List Bool} {s s' : MS}
/-- How a world stands to an elder one. -/
structure Bw8 (wb w : World) : Prop where
  out : Below wb.heap.size wb w
theorem Bw8.below {wb : World} (h : Bw8 wb w) (hb : Below w.heap.size w w') : Bw8 wb w' := ⟨below_step h.out hb⟩
theorem nil3 (w : World) : Sb w none 0 none 0 none 0 [] [] [] := ⟨⟨Rw.nil _ w 0, Rw.nil _ w 0, Rw.nil _ w 0⟩, by decide, by decide, by decide⟩
theorem equal_nil (w : World) : Calls Try.prog 22 #[.agg #[.slice none 0 0, .slice none 0 0, .slice none 0 0], .agg #[.slice none 0 0, .slice none 0 0, .slice none 0 0]] w fun x w' => x = .returned (.bool true) ∧ Below w.heap.size w w' := by
  have h := equalS (nil3 w) (nil3 w)
  simp only [List.length_nil] at h
  exact h
theorem VmP.lo (h : VmP w base U gm l li s) : ∀ k, U k → base ≤ k ∧ k < w.heap.size := by
  obtain ⟨gt, vC, vI, vQ, vM, vE, vL, mo, h⟩ := h
  exact h.ub
theorem VmP.fit8 (h : VmP w base U gm l li s) : Fit l li s := by
  obtain ⟨gt, vC, vI, vQ, vM, vE, vL, mo, h⟩ := h
  exact h.fit
/-- The reference's steps, what they answer by letters. -/
theorem rstep_b {V : Nat → Prop} {base : Nat} (h : RmP w base V gm l li s) (h0 : 0 ≤ s.pc) {gv : Bool} {er : Int} (hg : (stepV l li s).1.1 = gv) (he : (stepV l li s).1.2 = er) : Calls Try.prog 43 #[.pointer (some ⟨gm, 0, none⟩)] w fun x w' => x = .returned (.tuple #[.bool gv, .int .i64 er]) ∧ Srp w base V gm l li (stepV l li s).2 w' := by subst hg; subst he; exact rstep_any h h0
/-- The state asked for, at hand. -/
theorem state_b (h : VmP w base U gm l li s) : Calls Try.prog 39 #[.pointer (some ⟨gm, 0, none⟩)] w fun x w' => ∃ X0 x0 X1 x1 X2 x2, x = .returned (.agg #[.slice X0 s.q.length x0, .slice X1 s.m.length x1, .slice X2 s.e.length x2]) ∧ Sb w' X0 x0 X1 x1 X2 x2 s.q s.m s.e ∧ Below w.heap.size w w' :=
  (state_any h).mono fun x w' ⟨X0, x0, X1, x1, X2, x2, hx, ho, hb⟩ => ⟨X0, x0, X1, x1, X2, x2, hx, ⟨ho.sr, h.fit8.q, h.fit8.m, h.fit8.e⟩, hb⟩
theorem both1 (hb : Below wN.heap.size wN wr) (hU : VmP wr wN.heap.size U gm l li s) (hV : RmP wr wN.heap.size V gn l li s) (hd : ∀ k, V k → ¬ U k) (hs : Stp wr wN.heap.size U gm l li s' w') : Below wN.heap.size wN w' ∧ ∃ U', VmP w' wN.heap.size U' gm l li s' ∧ RmP w' wN.heap.size V gn l li s ∧ ∀ k, V k → ¬ U' k := by
  obtain ⟨U', h1, h2, h3⟩ := hs.out
  refine ⟨h2.below hb (fun i hi => (hU.lo i hi).1) hb.size, U', h1, hV.chg h2 hd, fun k hk hu => ?_⟩
  rcases h3 k hu with h | h
  · exact hd k hk h
  · have := (hV.lt k hk).2; omega
theorem both2 (hb : Below wN.heap.size wN wr) (hU : VmP wr wN.heap.size U gm l li s') (hV : RmP wr wN.heap.size V gn l li s) (hd : ∀ k, V k → ¬ U k) (hs : Srp wr wN.heap.size V gn l li s' w') : Below wN.heap.size wN w' ∧ ∃ V', VmP w' wN.heap.size U gm l li s' ∧ RmP w' wN.heap.size V' gn l li s' ∧ ∀ k, V' k → ¬ U k := by
  obtain ⟨V', h1, h2, h3⟩ := hs.out
  refine ⟨h2.below hb (fun i hi => (hV.lt i hi).1) hb.size, V', hU.chg h2 (fun k hu hv => hd k hv hu), h1, fun k hk hu => ?_⟩
  rcases h3 k hk with h | h
  · exact hd k h hu
  · have := (hU.lo k hu).2; omega
/-- At the head of a round: both machines, in one state. -/
structure BoI (wN wr : World) (gm gn : Nat) (l : List S66) (li : List Bool) (kq j : Nat) (s : MS) : Prop where
  hb : Below wN.heap.size wN wr
  vm : ∃ U V, VmP wr wN.heap.size U gm l li s ∧ RmP wr wN.heap.size V gn l li s ∧ ∀ k, V k → ¬ U k
  ok : Ok l s
  jk : j + kq = l.length + 3
end
section
variable {AC AI AQ AM AE : Option Addr} {cC cI cQ cM cE : Nat} {l : List S66} {li q m e : List Bool}
set_option maxHeartbeats 64000000 in
theorem sm_go (w : World) (hC : Kd.C k66 w AC l.length l) (hI : Rw Kd.bool w AI cI li) (hS : Sb w AQ cQ AM cM AE cE q m e) (hwf : WfC l) (hsm : Small l li q m e) (TL : ∀ w', Below w.heap.size w w' → Calls Try.prog 32 #[.slice AC l.length cC, .slice AI li.length cI, .agg #[.slice AQ q.length cQ, .slice AM m.length cM, .slice AE e.length cE]] w' fun x w2 => x = .returned (.bool false) ∧ Below w'.heap.size w' w2) :
    Calls Try.prog 15 #[.slice AC l.length cC, .slice AI li.length cI, .agg #[.slice AQ q.length cQ, .slice AM m.length cM, .slice AE e.length cE]] w fun x w' => x = .returned (.bool true) ∧ Below w.heap.size w w' := by
  have L300 : l.length ≤ 300 := hsm.l
  have HC := Aside0.mk hC
  have HW := Aside0.mk hwf
  have HT := Aside0.mk TL
  have HB := Aside0.mk (Below.refl w.heap.size w)
  have SB := Aside0.mk (hS)
  have RI := Aside0.mk (hI)
  have LI : li.length ≤ 20000 := by have := hsm.i; omega
  have B0 := hS.b0
  have B1 := hS.b1
  have B2 := hS.b2
  clear hC hI hS hwf TL hsm
  go_enter Try.func15, Try.ntmps15
  go_wp2_with (first | ((with_reducible refine gate_dst (N := 5) rfl ?_); refine box_event ?hg (N := 5) ?hd (cs := #[.slice AQ q.length cQ, .slice AM m.length cM, .slice AE e.length cE]) (t := 24) ?hr ?_; (case hd => rfl); (case hg => rfl); (case hr => first | (go_simp; done) | (go_simp; rfl)); intro g5 hg w1 hbox hb; have hbx : Below w.heap.size w w1 := below_step (by repeat (first | (with_reducible first | exact Below.refl _ _ | apply below_alloc | apply pw_below_drewN | apply below_drew1) | exact Below.refl _ _)) hb; replace SB := Aside0.mk (SB.out.below hbx); replace RI := Aside0.mk (RI.out.below hbx); replace HB := Aside0.mk (below_step HB.out hbx); clear hbx; have BK5 := Aside0.mk (Bk.mk (hbox : Blk w1 g5 24 #[.slice AQ q.length cQ, .slice AM m.length cM, .slice AE e.length cE])); clear hbox hg hb; obtain ⟨zBK5_0, zBK5_1, zBK5_2⟩ := BK5.out.c3) | (go_at_call 38; (with_reducible refine (step_nil _).mono ?_); rintro e w2 ⟨rfl, hb⟩; have hbx : Below w1.heap.size w1 w2 := below_step (by repeat (first | (with_reducible first | exact Below.refl _ _ | apply below_alloc | apply pw_below_drewN | apply below_drew1) | exact Below.refl _ _)) hb; clear zBK5_0 zBK5_1 zBK5_2; replace SB := Aside0.mk (SB.out.below hbx); replace RI := Aside0.mk (RI.out.below hbx); replace BK5 := Aside0.mk (BK5.out.below hbx); replace HB := Aside0.mk (below_step HB.out hbx); clear hbx; clear hb; obtain ⟨zBK5_0, zBK5_1, zBK5_2⟩ := BK5.out.c3) | (go_at_call 40; (with_reducible refine (acc_nil _).mono ?_); rintro e w3 ⟨rfl, hb⟩; have hbx : Below w2.heap.size w2 w3 := below_step (by repeat (first | (with_reducible first | exact Below.refl _ _ | apply below_alloc | apply pw_below_drewN | apply below_drew1) | exact Below.refl _ _)) hb; clear zBK5_0 zBK5_1 zBK5_2; replace SB := Aside0.mk (SB.out.below hbx); replace RI := Aside0.mk (RI.out.below hbx); replace BK5 := Aside0.mk (BK5.out.below hbx); replace HB := Aside0.mk (below_step HB.out hbx); clear hbx; clear hb; obtain ⟨zBK5_0, zBK5_1, zBK5_2⟩ := BK5.out.c3) | (go_at_call 41; (with_reducible refine (depth_nil _).mono ?_); rintro e w4 ⟨rfl, hb⟩; have hbx : Below w3.heap.size w3 w4 := below_step (by repeat (first | (with_reducible first | exact Below.refl _ _ | apply below_alloc | apply pw_below_drewN | apply below_drew1) | exact Below.refl _ _)) hb; clear zBK5_0 zBK5_1 zBK5_2; replace SB := Aside0.mk (SB.out.below hbx); replace RI := Aside0.mk (RI.out.below hbx); replace BK5 := Aside0.mk (BK5.out.below hbx); replace HB := Aside0.mk (below_step HB.out hbx); clear hbx; clear hb; obtain ⟨zBK5_0, zBK5_1, zBK5_2⟩ := BK5.out.c3) | (go_at_call 37; (with_reducible refine (at_nil _).mono ?_); rintro e w5 ⟨rfl, hb⟩; have hbx : Below w4.heap.size w4 w5 := below_step (by repeat (first | (with_reducible first | exact Below.refl _ _ | apply below_alloc | apply pw_below_drewN | apply below_drew1) | exact Below.refl _ _)) hb; clear zBK5_0 zBK5_1 zBK5_2; replace SB := Aside0.mk (SB.out.below hbx); replace RI := Aside0.mk (RI.out.below hbx); replace BK5 := Aside0.mk (BK5.out.below hbx); replace HB := Aside0.mk (below_step HB.out hbx); clear hbx; clear hb; obtain ⟨zBK5_0, zBK5_1, zBK5_2⟩ := BK5.out.c3) | (go_at_call 39; (with_reducible refine (state_nil _).mono ?_); rintro e w6 ⟨rfl, hb⟩; have hbx : Below w5.heap.size w5 w6 := below_step (by repeat (first | (with_reducible first | exact Below.refl _ _ | apply below_alloc | apply pw_below_drewN | apply below_drew1) | exact Below.refl _ _)) hb; clear zBK5_0 zBK5_1 zBK5_2; replace SB := Aside0.mk (SB.out.below hbx); replace RI := Aside0.mk (RI.out.below hbx); replace BK5 := Aside0.mk (BK5.out.below hbx); replace HB := Aside0.mk (below_step HB.out hbx); clear hbx; clear hb; obtain ⟨zBK5_0, zBK5_1, zBK5_2⟩ := BK5.out.c3) | (go_at_call 22; (with_reducible refine (equal_nil _).mono ?_); rintro e w7 ⟨rfl, hb⟩; have hbx : Below w6.heap.size w6 w7 := below_step (by repeat (first | (with_reducible first | exact Below.refl _ _ | apply below_alloc | apply pw_below_drewN | apply below_drew1) | exact Below.refl _ _)) hb; clear zBK5_0 zBK5_1 zBK5_2; replace SB := Aside0.mk (SB.out.below hbx); replace RI := Aside0.mk (RI.out.below hbx); replace BK5 := Aside0.mk (BK5.out.below hbx); replace HB := Aside0.mk (below_step HB.out hbx); clear hbx; clear hb; obtain ⟨zBK5_0, zBK5_1, zBK5_2⟩ := BK5.out.c3) | (go_at_call 32; (with_reducible refine (HT.out _ (below_step HB.out (by repeat (first | (with_reducible first | exact Below.refl _ _ | apply below_alloc | apply pw_below_drewN | apply below_drew1) | exact Below.refl _ _)))).mono ?_); rintro e w8 ⟨rfl, hb⟩; have hbx : Below w7.heap.size w7 w8 := below_step (by repeat (first | (with_reducible first | exact Below.refl _ _ | apply below_alloc | apply pw_below_drewN | apply below_drew1) | exact Below.refl _ _)) hb; clear zBK5_0 zBK5_1 zBK5_2; replace SB := Aside0.mk (SB.out.below hbx); replace RI := Aside0.mk (RI.out.below hbx); replace BK5 := Aside0.mk (BK5.out.below hbx); replace HB := Aside0.mk (below_step HB.out hbx); clear hbx; clear hb; obtain ⟨zBK5_0, zBK5_1, zBK5_2⟩ := BK5.out.c3) | ((with_reducible refine gate_callee (f := 23) rfl ?_); refine goesL_ (some 54) rfl rfl Try.func23 (by kernel_rfl) rfl #[.agg #[.slice AQ q.length cQ, .slice AM m.length cM, .slice AE e.length cE]] rfl (by (try simp only [List.map_toArray, List.map_cons, List.map_nil]); first | done | rfl | (simp only [List.length_drop, List.length_take]; rfl)) ?_; (with_reducible refine (cloneR (SB.out.below (by repeat (first | (with_reducible first | exact Below.refl _ _ | apply below_alloc | apply pw_below_drewN | apply below_drew1) | exact Below.refl _ _)))).mono ?_); rintro e w9 ⟨Y0, y0, Y1, y1, Y2, y2, rfl, ho_, hb⟩; have hbx : Below w8.heap.size w8 w9 := below_step (by repeat (first | (with_reducible first | exact Below.refl _ _ | apply below_alloc | apply pw_below_drewN | apply below_drew1) | exact Below.refl _ _)) hb; have hs_ := Sb.mk ho_.sr B0 B1 B2; clear ho_; clear zBK5_0 zBK5_1 zBK5_2; replace SB := Aside0.mk (SB.out.below hbx); replace RI := Aside0.mk (RI.out.below hbx); replace BK5 := Aside0.mk (BK5.out.below hbx); replace HB := Aside0.mk (below_step HB.out hbx); clear hbx; have OW := Aside0.mk (hs_); clear hb; clear hs_; obtain ⟨zBK5_0, zBK5_1, zBK5_2⟩ := BK5.out.c3; refine ⟨_, rfl, ?_⟩) | ((with_reducible refine gate_dst (N := 10) rfl ?_); refine Evt.box2 ?hg (N := 10) ?hd (z := #[.slice none 0 0, .slice none 0 0, .slice none 0 0]) (cs := #[.slice Y0 q.length y0, .slice Y1 m.length y1, .slice Y2 e.length y2]) (T := 24) ?hr ?hg2 (.tmp 54) ?ho2 ?hd2 ?hy ?hx ?hi ?hz ?h1 ?_; (case hd => rfl); (case hg => rfl); (case hr => first | (go_simp; done) | (go_simp; rfl)); (case hg2 => rfl); (case ho2 => rfl); (case hd2 => rfl); (case hy => first | rfl | (go_simp; done)); (case hx => first | rfl | (go_simp; done)); (case hi => kernel_rfl); (case hz => rfl); (case h1 => first | rfl | (simp [Value.oneCell'])); intro g10 hg w10 hbox hb; have hbx : Below w9.heap.size w9 w10 := below_step (by repeat (first | (with_reducible first | exact Below.refl _ _ | apply below_alloc | apply pw_below_drewN | apply below_drew1) | exact Below.refl _ _)) hb; clear zBK5_0 zBK5_1 zBK5_2; replace SB := Aside0.mk (SB.out.below hbx); replace RI := Aside0.mk (RI.out.below hbx); replace BK5 := Aside0.mk (BK5.out.below hbx); replace OW := Aside0.mk (OW.out.below hbx); replace HB := Aside0.mk (below_step HB.out hbx); clear hbx; have BK10 := Aside0.mk (Bk.mk (hbox : Blk w10 g10 24 #[.slice Y0 q.length y0, .slice Y1 m.length y1, .slice Y2 e.length y2])); clear hbox hg hb; obtain ⟨zBK5_0, zBK5_1, zBK5_2⟩ := BK5.out.c3; obtain ⟨zBK10_0, zBK10_1, zBK10_2⟩ := BK10.out.c3))
  have WN := Aside0.mk (Bw8.mk (Below.refl w10.heap.size w10))
  have HB10 := HB
  have K5 := BK5
  have K10 := BK10
  have SN := SB
  have ON := OW
  have KP := Aside0.mk (fun w' (hb : Below w10.heap.size w10 w') => (BK5.out.below hb).c3)
  clear zBK5_0 zBK5_1 zBK5_2 zBK10_0 zBK10_1 zBK10_2
  refine Evt.ow_start (w0 := w10) (T := (true, [([], []), ([], []), ([], []), ([0, 1, 2], [0, 1, 2]), ([], []), ([], []), ([], []), ([4, 5, 6, 3], [4, 5, 6]), ([3, 7, 0, 1, 2, 3], [3]), ([7, 8, 0, 1, 2, 3, 4, 5, 6, 7, 8], [7])])) (B := [0, 0, 0, 7, 0, 0, 0, 127, 255, 511]) 10 [(0, some 55), (1, some 56), (4, some 59), (5, some 60), (2, some 57), (6, some 61), (3, some 58), (7, some 62), (8, some 11), (9, some 12)] (by kernel_rfl) rfl (by kernel_rfl) (by kernel_rfl) (by kernel_rfl) (by repeat (first | (with_reducible first | exact Below.refl _ _ | apply below_alloc | apply pw_below_drewN | apply below_drew1) | exact Below.refl _ _)) ?_
  intro HT_ HW_ w_ hHeld
  iterate 6 (first | (refine Evt.ow_off (a' := ?_) HT_ rfl rfl (by rfl) (by kernel_rfl) (fun _ _ _ h => h) ?_ ?_; rotate_left; (· (try simp only [Act.put, List.setIfInBounds_toArray, List.set_cons_zero, List.set_cons_succ, i64_w, i32_w]); rfl)) | (refine Evt.ow_pure (a' := ?_) (v := ?_) HT_ rfl rfl rfl (by rfl) (by kernel_rfl) (fun _ _ _ h => h) ?_ ?_ ?_; rotate_left 2; (· intro w'; go_simp; with_reducible rfl); (· (try simp only [Act.put, List.setIfInBounds_toArray, List.set_cons_zero, List.set_cons_succ, i64_w, i32_w]); rfl)) | (refine Evt.ow_load (a' := ?_) (v := ?_) HT_ HW_ hHeld rfl rfl rfl (by rfl) (by kernel_rfl) (fun _ _ _ h => h) ?_ ?_ ?_; rotate_left 2; (· intro w' hS_; obtain ⟨s0, s1, s2⟩ := KP.out w' hS_.out; go_simp; with_reducible rfl); (· (try simp only [Act.put, List.setIfInBounds_toArray, List.set_cons_zero, List.set_cons_succ, i64_w, i32_w]); rfl)))
  refine Evt.ow_call HT_ hHeld rfl rfl rfl (by kernel_rfl) Try.func36 (by kernel_rfl) rfl #[.slice AC l.length cC, .slice AI li.length cI, .agg #[.slice AQ q.length cQ, .slice AM m.length cM, .slice AE e.length cE]] (by rfl) (by (try simp only [List.map_toArray, List.map_cons, List.map_nil]); first | done | rfl | (simp only [List.length_drop, List.length_take]; rfl)) ?_
  (with_reducible refine (new_c _ (B := w10.heap.size) hHeld.out.size (Kd.C_below HC.out (below_step HB.out hHeld.out)) (RI.out.below hHeld.out) (SB.out.below hHeld.out) (by omega) LI).mono ?_)
  rintro e w_ ⟨gm, UM, rfl, hv_, hu_, hb⟩
  have VP := Aside0.mk hv_; clear hv_ hu_
  refine ⟨_, rfl, hb, fun hHeld_ => ?_⟩
  clear hHeld hb
  have hHeld := hHeld_
  clear hHeld_
  refine Evt.ow_norm (a' := ?_) ?_ ?_
  rotate_left
  · simp only [Act.put, List.setIfInBounds_toArray, List.set_cons_zero, List.set_cons_succ, i64_w, i32_w]; rfl
  refine Evt.ow_call HT_ hHeld rfl rfl rfl (by kernel_rfl) Try.func42 (by kernel_rfl) rfl #[.slice AC l.length cC, .slice AI li.length cI, .agg #[.slice AQ q.length cQ, .slice AM m.length cM, .slice AE e.length cE]] (by rfl) (by (try simp only [List.map_toArray, List.map_cons, List.map_nil]); first | done | rfl | (simp only [List.length_drop, List.length_take]; rfl)) ?_
  (with_reducible refine (rnew_any _ (B := w10.heap.size) hHeld.out.size (Kd.C_below HC.out (below_step HB.out hHeld.out)) (RI.out.below hHeld.out) (SB.out.below hHeld.out) (by omega) LI).mono ?_)
  rintro e w_ ⟨gn, VN, rfl, hv_, hu_, hb⟩
  have DJ := Aside0.mk (show ∀ k, VN k → ¬ UM k from fun k h1 h2 => Nat.not_le_of_lt (VP.out.lo k h2).2 (hu_ k h1).1); replace VP := Aside0.mk (VP.out.below hb); have RP := Aside0.mk hv_; clear hv_ hu_
  refine ⟨_, rfl, hb, fun hHeld_ => ?_⟩
  clear hHeld hb
  have hHeld := hHeld_
  clear hHeld_
  refine Evt.ow_norm (a' := ?_) ?_ ?_
  rotate_left
  · simp only [Act.put, List.setIfInBounds_toArray, List.set_cons_zero, List.set_cons_succ, i64_w, i32_w]; rfl
  iterate 2 (first | (refine Evt.ow_off (a' := ?_) HT_ rfl rfl (by rfl) (by kernel_rfl) (fun _ _ _ h => h) ?_ ?_; rotate_left; (· (try simp only [Act.put, List.setIfInBounds_toArray, List.set_cons_zero, List.set_cons_succ, i64_w, i32_w]); rfl)) | (refine Evt.ow_pure (a' := ?_) (v := ?_) HT_ rfl rfl rfl (by rfl) (by kernel_rfl) (fun _ _ _ h => h) ?_ ?_ ?_; rotate_left 2; (· intro w'; go_simp; with_reducible rfl); (· (try simp only [Act.put, List.setIfInBounds_toArray, List.set_cons_zero, List.set_cons_succ, i64_w, i32_w]); rfl)) | (refine Evt.ow_load (a' := ?_) (v := ?_) HT_ HW_ hHeld rfl rfl rfl (by rfl) (by kernel_rfl) (fun _ _ _ h => h) ?_ ?_ ?_; rotate_left 2; (· intro w' hS_; obtain ⟨s0, s1, s2⟩ := KP.out w' hS_.out; go_simp; with_reducible rfl); (· (try simp only [Act.put, List.setIfInBounds_toArray, List.set_cons_zero, List.set_cons_succ, i64_w, i32_w]); rfl)))
  refine Evt.ow_done HT_ (by kernel_rfl) ?_
  have hbx := hHeld.out
  rename World => w11
  clear hHeld HT_ HW_ KP
  replace SB := Aside0.mk (SB.out.below hbx)
  replace RI := Aside0.mk (RI.out.below hbx)
  replace BK5 := Aside0.mk (BK5.out.below hbx)
  replace OW := Aside0.mk (OW.out.below hbx)
  replace BK10 := Aside0.mk (BK10.out.below hbx)
  replace WN := Aside0.mk (WN.out.below hbx)
  replace HB := Aside0.mk (below_step HB.out hbx)
  clear hbx
  obtain ⟨zBK5_0, zBK5_1, zBK5_2⟩ := BK5.out.c3
  obtain ⟨zBK10_0, zBK10_1, zBK10_2⟩ := BK10.out.c3
  go_wp2
  have INV : Aside0 (BoI w10 w11 gm gn l li (l.length + 3) 0 (ini q m e)) := ⟨⟨WN.out.out, ⟨UM, VN, VP.out, RP.out, DJ.out⟩, Ok.ini q m e, by omega⟩⟩
  clear zBK5_0 zBK5_1 zBK5_2 zBK10_0 zBK10_1 zBK10_2
  clear SB RI BK5 BK10 OW HB VP RP DJ WN HT HC
  go_loopg [68] (l.length + 3) (fun kq v68 wr => ∃ (j : Nat) (s : MS), v68 = .int .i64 j ∧ Aside0 (BoI w10 wr gm gn l li kq j s))
  case atStart => exact ⟨0, _, rfl, INV⟩
  case round =>
    clear INV
    obtain ⟨j, s, rfl, TI⟩ := hrel
    cases gk with
    | zero =>
      have q0 : decide (j < l.length + 3) = false := decide_eq_false (by have := TI.out.jk; omega)
      have q1 : decide ((j : Int) < (l.length : Int) + 3) = false := decide_eq_false (by have := TI.out.jk; omega)
      skip
      have HB := Aside0.mk (Below.refl w10.heap.size w10)
      clear HB
      have HB := Aside0.mk TI.out.hb
      have SB := Aside0.mk (SN.out.below HB.out)
      have OW := Aside0.mk (ON.out.below HB.out)
      have BK5 := Aside0.mk (K5.out.below HB.out)
      have BK10 := Aside0.mk (K10.out.below HB.out)
      skip
      have BK5 : Aside0 (Bk wr g5 24 #[.slice AQ q.length cQ, .slice AM m.length cM, .slice AE e.length cE]) := Aside0.mk (BK5.out)
      have BK10 : Aside0 (Bk wr g10 24 #[.slice Y0 q.length y0, .slice Y1 m.length y1, .slice Y2 e.length y2]) := Aside0.mk (BK10.out)
      obtain ⟨zBK5_0, zBK5_1, zBK5_2⟩ := BK5.out.c3
      obtain ⟨zBK10_0, zBK10_1, zBK10_2⟩ := BK10.out.c3
      go_wp2_with (first | (go_at_call 33; (with_reducible refine (alive_any _).mono ?_); rintro e w1 ⟨rfl, hb⟩; have hbx : Below wr.heap.size wr w1 := below_step (by repeat (first | (with_reducible first | exact Below.refl _ _ | apply below_alloc | apply pw_below_drewN | apply below_drew1) | exact Below.refl _ _)) hb; clear zBK5_0 zBK5_1 zBK5_2 zBK10_0 zBK10_1 zBK10_2; replace SB := Aside0.mk (SB.out.below hbx); replace OW := Aside0.mk (OW.out.below hbx); replace BK5 := Aside0.mk (BK5.out.below hbx); replace BK10 := Aside0.mk (BK10.out.below hbx); replace HB := Aside0.mk (below_step HB.out hbx); clear hbx; clear hb; obtain ⟨zBK5_0, zBK5_1, zBK5_2⟩ := BK5.out.c3; obtain ⟨zBK10_0, zBK10_1, zBK10_2⟩ := BK10.out.c3) | (go_at_call 22; (with_reducible refine (equalS (SB.out.below (by repeat (first | (with_reducible first | exact Below.refl _ _ | apply below_alloc | apply pw_below_drewN | apply below_drew1) | exact Below.refl _ _))) (OW.out.below (by repeat (first | (with_reducible first | exact Below.refl _ _ | apply below_alloc | apply pw_below_drewN | apply below_drew1) | exact Below.refl _ _)))).mono ?_); rintro e w2 ⟨rfl, hb⟩; have hbx : Below w1.heap.size w1 w2 := below_step (by repeat (first | (with_reducible first | exact Below.refl _ _ | apply below_alloc | apply pw_below_drewN | apply below_drew1) | exact Below.refl _ _)) hb; clear zBK5_0 zBK5_1 zBK5_2 zBK10_0 zBK10_1 zBK10_2; replace SB := Aside0.mk (SB.out.below hbx); replace OW := Aside0.mk (OW.out.below hbx); replace BK5 := Aside0.mk (BK5.out.below hbx); replace BK10 := Aside0.mk (BK10.out.below hbx); replace HB := Aside0.mk (below_step HB.out hbx); clear hbx; clear hb; obtain ⟨zBK5_0, zBK5_1, zBK5_2⟩ := BK5.out.c3; obtain ⟨zBK10_0, zBK10_1, zBK10_2⟩ := BK10.out.c3))
      go_ret
      exact ⟨rfl, below_step HB10.out HB.out⟩
      skip
    | succ k1 =>
      have q0 : decide (j < l.length + 3) = true := decide_eq_true (by have := TI.out.jk; omega)
      have q1 : decide ((j : Int) < (l.length : Int) + 3) = true := decide_eq_true (by have := TI.out.jk; omega)
      have q3 : (j : Int) ≤ 303 := by have := TI.out.jk; omega
      obtain ⟨U, V, hv_, hr_, hd_⟩ := TI.out.vm
      have VP := Aside0.mk hv_
      have RP := Aside0.mk hr_
      have DJ := Aside0.mk hd_
      obtain ⟨gv, hgv⟩ : ∃ gv, (stepV l li s).1.1 = gv := ⟨_, rfl⟩
      obtain ⟨er, her⟩ : ∃ er, (stepV l li s).1.2 = er := ⟨_, rfl⟩
      obtain ⟨s2, hs2⟩ : ∃ s2, (stepV l li s).2 = s2 := ⟨_, rfl⟩
      have GV := Aside0.mk hgv
      have ER := Aside0.mk her
      have S2 := Aside0.mk hs2
      have e1 : (gv == gv) = true := beq_self_eq_true _
      have e2 : (er == er) = true := beq_self_eq_true _
      have e3 : (s2.acc == s2.acc) = true := beq_self_eq_true _
      have e4 : (s2.pc == s2.pc) = true := beq_self_eq_true _
      clear hv_ hr_ hd_ hgv her hs2
      skip
      have HB := Aside0.mk (Below.refl w10.heap.size w10)
      clear HB
      have HB := Aside0.mk TI.out.hb
      skip
      go_wp2_with (first | ((with_reducible refine gate_callee (f := 38) rfl ?_); refine goesL_ (some 72) rfl rfl Try.func38 (by kernel_rfl) rfl #[.pointer (some ⟨gm, 0, none⟩)] rfl (by (try simp only [List.map_toArray, List.map_cons, List.map_nil]); first | done | rfl | (simp only [List.length_drop, List.length_take]; rfl)) ?_; (with_reducible refine (step_c (VP.out.below (by repeat (first | (with_reducible first | exact Below.refl _ _ | apply below_alloc | apply pw_below_drewN | apply below_drew1) | exact Below.refl _ _))) HW.out TI.out.ok.p0 GV.out ER.out).mono ?_); rintro e_ w12 ⟨rfl, hs_⟩; rw [S2.out] at hs_; have NX := Aside0.mk (both1 HB.out VP.out RP.out DJ.out hs_); clear hs_ VP RP DJ HB; obtain ⟨U1, hv_, hr_, hd_⟩ := NX.out.2; have VP := Aside0.mk hv_; have RP := Aside0.mk hr_; have DJ := Aside0.mk hd_; have HB := Aside0.mk NX.out.1; clear hv_ hr_ hd_ NX; skip; refine ⟨_, rfl, ?_⟩) | ((with_reducible refine gate_callee (f := 43) rfl ?_); refine goesL_ (some 77) rfl rfl Try.func43 (by kernel_rfl) rfl #[.pointer (some ⟨gn, 0, none⟩)] rfl (by (try simp only [List.map_toArray, List.map_cons, List.map_nil]); first | done | rfl | (simp only [List.length_drop, List.length_take]; rfl)) ?_; (with_reducible refine (rstep_b (RP.out.below (by repeat (first | (with_reducible first | exact Below.refl _ _ | apply below_alloc | apply pw_below_drewN | apply below_drew1) | exact Below.refl _ _))) TI.out.ok.p0 GV.out ER.out).mono ?_); rintro e_ w13 ⟨rfl, hs_⟩; rw [S2.out] at hs_; have NX := Aside0.mk (both2 HB.out VP.out RP.out DJ.out hs_); clear hs_ VP RP DJ HB; obtain ⟨U2, hv_, hr_, hd_⟩ := NX.out.2; have VP := Aside0.mk hv_; have RP := Aside0.mk hr_; have DJ := Aside0.mk hd_; have HB := Aside0.mk NX.out.1; clear hv_ hr_ hd_ NX; skip; refine ⟨_, rfl, ?_⟩))
      obtain ⟨vC, vI, vQ, vM, vE, vL, hm_⟩ := RP.out
      obtain ⟨AC9, cC9, AI9, cI9, AQ9, cQ9, AM9, cM9, AE9, cE9, AL9, cL9, rfl, rfl, rfl, rfl, rfl, rfl⟩ := hm_.forms
      have SR := Aside0.mk (hm_.sb)
      have BN : Aside0 (Bk w13 gn 83 #[.slice AC9 l.length cC9, .slice AI9 li.length cI9, .slice AQ9 s2.q.length cQ9, .slice AM9 s2.m.length cM9, .slice AE9 s2.e.length cE9, .int .i64 s2.pc, .bool s2.acc, .slice AL9 s2.st.length cL9, .bool s2.ended, .int .i64 s2.fault]) := Aside0.mk (hm_.bm)
      clear hm_
      obtain ⟨zBN_0, zBN_1, zBN_2, zBN_3, zBN_4, zBN_5, zBN_6, zBN_7, zBN_8, zBN_9⟩ := BN.out.c10
      have KP := Aside0.mk (fun w' (hb : Below w13.heap.size w13 w') => (BN.out.below hb).c10)
      clear zBN_0 zBN_1 zBN_2 zBN_3 zBN_4 zBN_5 zBN_6 zBN_7 zBN_8 zBN_9
      refine Evt.ow_start (w0 := w13) (T := (true, [([], []), ([], []), ([0, 1], [0, 1]), ([2], [2]), ([3], [3]), ([3], [3]), ([4, 5, 3], [3, 4, 5]), ([3, 6], [3, 6]), ([7, 3], [7]), ([8], [8]), ([9, 8, 8], [8, 9]), ([8], [8]), ([11, 8], [8, 11]), ([12, 8], [8, 12]), ([13, 8], [8, 13]), ([10, 14, 8], [8, 10, 14]), ([8, 15], [8, 15]), ([16, 10], [16]), ([17], [17]), ([18, 17, 17], [17, 18]), ([17], [17]), ([20, 17], [17, 20]), ([21, 17], [17, 21]), ([22, 17], [17, 22]), ([23, 17], [17, 23]), ([19, 24, 17], [17, 19, 24]), ([17, 25], [17, 25]), ([26, 19], [26]), ([27], [27]), ([28, 27, 27], [27, 28]), ([27], [27]), ([30, 27], [27, 30]), ([31, 27], [27, 31]), ([32, 27], [27, 32]), ([29, 33, 27], [27, 29, 33]), ([27, 34], [27, 34]), ([35, 29], [35]), ([36], [36]), ([37, 36, 36], [36, 37]), ([36], [36]), ([39, 36], [36, 39]), ([40, 36], [36, 40]), ([41, 36], [36, 41]), ([38, 42, 38, 36], [36, 38, 42]), ([43, 36], [36, 43]), ([36, 44], [36, 44])])) (B := [0, 0, 3, 7, 15, 15, 63, 127, 255, 511, 1023, 511, 2559, 6655, 14847, 32767, 65535, 131071, 262143, 524287, 262143, 1310719, 3407871, 7602175, 15990783, 33554431, 67108863, 134217727, 268435455, 536870911, 268435455, 1342177279, 3489660927, 7784628223, 17179869183, 34359738367, 68719476735, 137438953471, 274877906943, 137438953471, 687194767359, 1786706395135, 3985729650687, 8796093022207, 17592186044415, 35184372088831]) 46 [(0, some 80), (1, some 81), (2, some 82), (3, some 83), (4, some 84), (5, some 85), (6, some 86), (7, some 87), (8, some 88), (9, some 89), (11, some 91), (12, some 92), (13, some 93), (14, some 94), (10, some 90), (15, some 95), (16, some 96), (17, some 97), (18, some 98), (20, some 100), (21, some 101), (22, some 102), (23, some 103), (24, some 104), (19, some 99), (25, some 105), (26, some 106), (27, some 107), (28, some 108), (30, some 110), (31, some 111), (32, some 112), (33, some 113), (29, some 109), (34, some 114), (35, some 115), (36, some 116), (37, some 117), (39, some 119), (40, some 120), (41, some 121), (42, some 122), (38, some 118), (43, some 123), (44, some 124), (45, some 125)] (by kernel_rfl) rfl (by kernel_rfl) (by kernel_rfl) (by kernel_rfl) (by repeat (first | (with_reducible first | exact Below.refl _ _ | apply below_alloc | apply pw_below_drewN | apply below_drew1) | exact Below.refl _ _)) ?_
      intro HT_ HW_ w_ hHeld
      iterate 14 (first | (refine Evt.ow_off (a' := ?_) HT_ rfl rfl (by rfl) (by kernel_rfl) (fun _ _ _ h => h) ?_ ?_; rotate_left; (· (try simp only [Act.put, List.setIfInBounds_toArray, List.set_cons_zero, List.set_cons_succ, i64_w, i32_w]); rfl)) | (refine Evt.ow_pure (a' := ?_) (v := ?_) HT_ rfl rfl rfl (by rfl) (by kernel_rfl) (fun _ _ _ h => h) ?_ ?_ ?_; rotate_left 2; (· intro w'; go_simp; with_reducible rfl); (· (try simp only [Act.put, List.setIfInBounds_toArray, List.set_cons_zero, List.set_cons_succ, i64_w, i32_w]); rfl)) | (refine Evt.ow_load (a' := ?_) (v := ?_) HT_ HW_ hHeld rfl rfl rfl (by rfl) (by kernel_rfl) (fun _ _ _ h => h) ?_ ?_ ?_; rotate_left 2; (· intro w' hS_; obtain ⟨s0, s1, s2, s3, s4, s5, s6, s7, s8, s9⟩ := KP.out w' hS_.out; go_simp; with_reducible rfl); (· (try simp only [Act.put, List.setIfInBounds_toArray, List.set_cons_zero, List.set_cons_succ, i64_w, i32_w]); rfl)))
      refine Evt.ow_call HT_ hHeld rfl rfl rfl (by kernel_rfl) Try.func40 (by kernel_rfl) rfl #[.pointer (some ⟨gm, 0, none⟩)] (by rfl) (by (try simp only [List.map_toArray, List.map_cons, List.map_nil]); first | done | rfl | (simp only [List.length_drop, List.length_take]; rfl)) ?_
      (with_reducible refine (acc_any (VP.out.below hHeld.out)).mono ?_)
      rintro e w_ ⟨rfl, hb⟩
      refine ⟨_, rfl, hb, fun hHeld_ => ?_⟩
      clear hHeld hb
      have hHeld := hHeld_
      clear hHeld_
      refine Evt.ow_norm (a' := ?_) ?_ ?_
      rotate_left
      · simp only [Act.put, List.setIfInBounds_toArray, List.set_cons_zero, List.set_cons_succ, i64_w, i32_w]; rfl
      iterate 9 (first | (refine Evt.ow_off (a' := ?_) HT_ rfl rfl (by rfl) (by kernel_rfl) (fun _ _ _ h => h) ?_ ?_; rotate_left; (· (try simp only [Act.put, List.setIfInBounds_toArray, List.set_cons_zero, List.set_cons_succ, i64_w, i32_w]); rfl)) | (refine Evt.ow_pure (a' := ?_) (v := ?_) HT_ rfl rfl rfl (by rfl) (by kernel_rfl) (fun _ _ _ h => h) ?_ ?_ ?_; rotate_left 2; (· intro w'; go_simp; with_reducible rfl); (· (try simp only [Act.put, List.setIfInBounds_toArray, List.set_cons_zero, List.set_cons_succ, i64_w, i32_w]); rfl)) | (refine Evt.ow_load (a' := ?_) (v := ?_) HT_ HW_ hHeld rfl rfl rfl (by rfl) (by kernel_rfl) (fun _ _ _ h => h) ?_ ?_ ?_; rotate_left 2; (· intro w' hS_; obtain ⟨s0, s1, s2, s3, s4, s5, s6, s7, s8, s9⟩ := KP.out w' hS_.out; go_simp; with_reducible rfl); (· (try simp only [Act.put, List.setIfInBounds_toArray, List.set_cons_zero, List.set_cons_succ, i64_w, i32_w]); rfl)))
      refine Evt.ow_call HT_ hHeld rfl rfl rfl (by kernel_rfl) Try.func41 (by kernel_rfl) rfl #[.pointer (some ⟨gm, 0, none⟩)] (by rfl) (by (try simp only [List.map_toArray, List.map_cons, List.map_nil]); first | done | rfl | (simp only [List.length_drop, List.length_take]; rfl)) ?_
      (with_reducible refine (depth_any (VP.out.below hHeld.out)).mono ?_)
      rintro e w_ ⟨rfl, hb⟩
      refine ⟨_, rfl, hb, fun hHeld_ => ?_⟩
      clear hHeld hb
      have hHeld := hHeld_
      clear hHeld_
      refine Evt.ow_norm (a' := ?_) ?_ ?_
      rotate_left
      · simp only [Act.put, List.setIfInBounds_toArray, List.set_cons_zero, List.set_cons_succ, i64_w, i32_w]; rfl
      iterate 8 (first | (refine Evt.ow_off (a' := ?_) HT_ rfl rfl (by rfl) (by kernel_rfl) (fun _ _ _ h => h) ?_ ?_; rotate_left; (· (try simp only [Act.put, List.setIfInBounds_toArray, List.set_cons_zero, List.set_cons_succ, i64_w, i32_w]); rfl)) | (refine Evt.ow_pure (a' := ?_) (v := ?_) HT_ rfl rfl rfl (by rfl) (by kernel_rfl) (fun _ _ _ h => h) ?_ ?_ ?_; rotate_left 2; (· intro w'; go_simp; with_reducible rfl); (· (try simp only [Act.put, List.setIfInBounds_toArray, List.set_cons_zero, List.set_cons_succ, i64_w, i32_w]); rfl)) | (refine Evt.ow_load (a' := ?_) (v := ?_) HT_ HW_ hHeld rfl rfl rfl (by rfl) (by kernel_rfl) (fun _ _ _ h => h) ?_ ?_ ?_; rotate_left 2; (· intro w' hS_; obtain ⟨s0, s1, s2, s3, s4, s5, s6, s7, s8, s9⟩ := KP.out w' hS_.out; go_simp; with_reducible rfl); (· (try simp only [Act.put, List.setIfInBounds_toArray, List.set_cons_zero, List.set_cons_succ, i64_w, i32_w]); rfl)))
      refine Evt.ow_call HT_ hHeld rfl rfl rfl (by kernel_rfl) Try.func37 (by kernel_rfl) rfl #[.pointer (some ⟨gm, 0, none⟩)] (by rfl) (by (try simp only [List.map_toArray, List.map_cons, List.map_nil]); first | done | rfl | (simp only [List.length_drop, List.length_take]; rfl)) ?_
      (with_reducible refine (at_any (VP.out.below hHeld.out)).mono ?_)
      rintro e w_ ⟨rfl, hb⟩
      refine ⟨_, rfl, hb, fun hHeld_ => ?_⟩
      clear hHeld hb
      have hHeld := hHeld_
      clear hHeld_
      refine Evt.ow_norm (a' := ?_) ?_ ?_
      rotate_left
      · simp only [Act.put, List.setIfInBounds_toArray, List.set_cons_zero, List.set_cons_succ, i64_w, i32_w]; rfl
      iterate 8 (first | (refine Evt.ow_off (a' := ?_) HT_ rfl rfl (by rfl) (by kernel_rfl) (fun _ _ _ h => h) ?_ ?_; rotate_left; (· (try simp only [Act.put, List.setIfInBounds_toArray, List.set_cons_zero, List.set_cons_succ, i64_w, i32_w]); rfl)) | (refine Evt.ow_pure (a' := ?_) (v := ?_) HT_ rfl rfl rfl (by rfl) (by kernel_rfl) (fun _ _ _ h => h) ?_ ?_ ?_; rotate_left 2; (· intro w'; go_simp; with_reducible rfl); (· (try simp only [Act.put, List.setIfInBounds_toArray, List.set_cons_zero, List.set_cons_succ, i64_w, i32_w]); rfl)) | (refine Evt.ow_load (a' := ?_) (v := ?_) HT_ HW_ hHeld rfl rfl rfl (by rfl) (by kernel_rfl) (fun _ _ _ h => h) ?_ ?_ ?_; rotate_left 2; (· intro w' hS_; obtain ⟨s0, s1, s2, s3, s4, s5, s6, s7, s8, s9⟩ := KP.out w' hS_.out; go_simp; with_reducible rfl); (· (try simp only [Act.put, List.setIfInBounds_toArray, List.set_cons_zero, List.set_cons_succ, i64_w, i32_w]); rfl)))
      refine Evt.ow_call HT_ hHeld rfl rfl rfl (by kernel_rfl) Try.func39 (by kernel_rfl) rfl #[.pointer (some ⟨gm, 0, none⟩)] (by rfl) (by (try simp only [List.map_toArray, List.map_cons, List.map_nil]); first | done | rfl | (simp only [List.length_drop, List.length_take]; rfl)) ?_
      (with_reducible refine (state_b (VP.out.below hHeld.out)).mono ?_)
      rintro e w_ ⟨Z0, z0, Z1, z1, Z2, z2, rfl, hs_, hb⟩
      have SY := Aside0.mk hs_; clear hs_
      refine ⟨_, rfl, hb, fun hHeld_ => ?_⟩
      clear hHeld hb
      have hHeld := hHeld_
      clear hHeld_
      refine Evt.ow_norm (a' := ?_) ?_ ?_
      rotate_left
      · simp only [Act.put, List.setIfInBounds_toArray, List.set_cons_zero, List.set_cons_succ, i64_w, i32_w]; rfl
      refine Evt.ow_call HT_ hHeld rfl rfl rfl (by kernel_rfl) Try.func22 (by kernel_rfl) rfl #[.agg #[.slice Z0 s2.q.length z0, .slice Z1 s2.m.length z1, .slice Z2 s2.e.length z2], .agg #[.slice AQ9 s2.q.length cQ9, .slice AM9 s2.m.length cM9, .slice AE9 s2.e.length cE9]] (by rfl) (by (try simp only [List.map_toArray, List.map_cons, List.map_nil]); first | done | rfl | (simp only [List.length_drop, List.length_take]; rfl)) ?_
      (with_reducible refine (equalS SY.out (SR.out.below hHeld.out)).mono ?_)
      rintro e w_ ⟨rfl, hb⟩
      refine ⟨_, rfl, hb, fun hHeld_ => ?_⟩
      clear hHeld hb
      have hHeld := hHeld_
      clear hHeld_
      refine Evt.ow_norm (a' := ?_) ?_ ?_
      rotate_left
      · simp only [Act.put, List.setIfInBounds_toArray, List.set_cons_zero, List.set_cons_succ, i64_w, i32_w]; rfl
      iterate 2 (first | (refine Evt.ow_off (a' := ?_) HT_ rfl rfl (by rfl) (by kernel_rfl) (fun _ _ _ h => h) ?_ ?_; rotate_left; (· (try simp only [Act.put, List.setIfInBounds_toArray, List.set_cons_zero, List.set_cons_succ, i64_w, i32_w]); rfl)) | (refine Evt.ow_pure (a' := ?_) (v := ?_) HT_ rfl rfl rfl (by rfl) (by kernel_rfl) (fun _ _ _ h => h) ?_ ?_ ?_; rotate_left 2; (· intro w'; go_simp; with_reducible rfl); (· (try simp only [Act.put, List.setIfInBounds_toArray, List.set_cons_zero, List.set_cons_succ, i64_w, i32_w]); rfl)) | (refine Evt.ow_load (a' := ?_) (v := ?_) HT_ HW_ hHeld rfl rfl rfl (by rfl) (by kernel_rfl) (fun _ _ _ h => h) ?_ ?_ ?_; rotate_left 2; (· intro w' hS_; obtain ⟨s0, s1, s2, s3, s4, s5, s6, s7, s8, s9⟩ := KP.out w' hS_.out; go_simp; with_reducible rfl); (· (try simp only [Act.put, List.setIfInBounds_toArray, List.set_cons_zero, List.set_cons_succ, i64_w, i32_w]); rfl)))
      refine Evt.ow_done HT_ (by kernel_rfl) ?_
      refine Evt.gen_any (w0 := w13) hHeld.out ?_
      intro w1 hbx
      clear hHeld HT_ HW_ KP
      replace VP := Aside0.mk (VP.out.below hbx)
      replace RP := Aside0.mk (RP.out.below hbx)
      replace SR := Aside0.mk (SR.out.below hbx)
      replace BN := Aside0.mk (BN.out.below hbx)
      replace HB := Aside0.mk (below_step HB.out hbx)
      clear hbx
      obtain ⟨zBN_0, zBN_1, zBN_2, zBN_3, zBN_4, zBN_5, zBN_6, zBN_7, zBN_8, zBN_9⟩ := BN.out.c10
      have TN : Aside0 (BoI w10 w1 gm gn l li k1 (j + 1) s2) := ⟨⟨HB.out, ⟨_, _, VP.out, RP.out, DJ.out⟩, S2.out ▸ TI.out.ok.step, by have := TI.out.jk; omega⟩⟩
      clear zBN_0 zBN_1 zBN_2 zBN_3 zBN_4 zBN_5 zBN_6 zBN_7 zBN_8 zBN_9
      clear VP RP DJ SR BN HB TI GV ER S2
      go_wp2
      go_roundg k1
      case measure => omega
      case rel => exact ⟨j + 1, s2, by go_num, TN⟩
      skip
set_option maxHeartbeats 4000000 in
theorem sm_big (w : World) (hS : Sr Kd.bool w AQ cQ AM cM AE cE q m e) (TL : ∀ w', Below w.heap.size w w' → Calls Try.prog 32 #[.slice AC l.length cC, .slice AI li.length cI, .agg #[.slice AQ q.length cQ, .slice AM m.length cM, .slice AE e.length cE]] w' fun x w2 => x = .returned (.bool true) ∧ Below w'.heap.size w' w2) :
    Calls Try.prog 15 #[.slice AC l.length cC, .slice AI li.length cI, .agg #[.slice AQ q.length cQ, .slice AM m.length cM, .slice AE e.length cE]] w fun x w' => x = .returned (.bool true) ∧ Below w.heap.size w w' := by
  have HT := Aside0.mk TL
  have HB := Aside0.mk (Below.refl w.heap.size w)
  clear hS TL
  go_enter Try.func15, Try.ntmps15
  go_wp2_with (first | ((with_reducible refine gate_dst (N := 5) rfl ?_); refine box_event ?hg (N := 5) ?hd (cs := #[.slice AQ q.length cQ, .slice AM m.length cM, .slice AE e.length cE]) (t := 24) ?hr ?_; (case hd => rfl); (case hg => rfl); (case hr => first | (go_simp; done) | (go_simp; rfl)); intro g5 hg w1 hbox hb; have hbx : Below w.heap.size w w1 := below_step (by repeat (first | (with_reducible first | exact Below.refl _ _ | apply below_alloc | apply pw_below_drewN | apply below_drew1) | exact Below.refl _ _)) hb; replace HB := Aside0.mk (below_step HB.out hbx); clear hbx; have BK5 := Aside0.mk (Bk.mk (hbox : Blk w1 g5 24 #[.slice AQ q.length cQ, .slice AM m.length cM, .slice AE e.length cE])); clear hbox hg hb; obtain ⟨zBK5_0, zBK5_1, zBK5_2⟩ := BK5.out.c3) | (go_at_call 38; (with_reducible refine (step_nil _).mono ?_); rintro e w2 ⟨rfl, hb⟩; have hbx : Below w1.heap.size w1 w2 := below_step (by repeat (first | (with_reducible first | exact Below.refl _ _ | apply below_alloc | apply pw_below_drewN | apply below_drew1) | exact Below.refl _ _)) hb; clear zBK5_0 zBK5_1 zBK5_2; replace BK5 := Aside0.mk (BK5.out.below hbx); replace HB := Aside0.mk (below_step HB.out hbx); clear hbx; clear hb; obtain ⟨zBK5_0, zBK5_1, zBK5_2⟩ := BK5.out.c3) | (go_at_call 40; (with_reducible refine (acc_nil _).mono ?_); rintro e w3 ⟨rfl, hb⟩; have hbx : Below w2.heap.size w2 w3 := below_step (by repeat (first | (with_reducible first | exact Below.refl _ _ | apply below_alloc | apply pw_below_drewN | apply below_drew1) | exact Below.refl _ _)) hb; clear zBK5_0 zBK5_1 zBK5_2; replace BK5 := Aside0.mk (BK5.out.below hbx); replace HB := Aside0.mk (below_step HB.out hbx); clear hbx; clear hb; obtain ⟨zBK5_0, zBK5_1, zBK5_2⟩ := BK5.out.c3) | (go_at_call 41; (with_reducible refine (depth_nil _).mono ?_); rintro e w4 ⟨rfl, hb⟩; have hbx : Below w3.heap.size w3 w4 := below_step (by repeat (first | (with_reducible first | exact Below.refl _ _ | apply below_alloc | apply pw_below_drewN | apply below_drew1) | exact Below.refl _ _)) hb; clear zBK5_0 zBK5_1 zBK5_2; replace BK5 := Aside0.mk (BK5.out.below hbx); replace HB := Aside0.mk (below_step HB.out hbx); clear hbx; clear hb; obtain ⟨zBK5_0, zBK5_1, zBK5_2⟩ := BK5.out.c3) | (go_at_call 37; (with_reducible refine (at_nil _).mono ?_); rintro e w5 ⟨rfl, hb⟩; have hbx : Below w4.heap.size w4 w5 := below_step (by repeat (first | (with_reducible first | exact Below.refl _ _ | apply below_alloc | apply pw_below_drewN | apply below_drew1) | exact Below.refl _ _)) hb; clear zBK5_0 zBK5_1 zBK5_2; replace BK5 := Aside0.mk (BK5.out.below hbx); replace HB := Aside0.mk (below_step HB.out hbx); clear hbx; clear hb; obtain ⟨zBK5_0, zBK5_1, zBK5_2⟩ := BK5.out.c3) | (go_at_call 39; (with_reducible refine (state_nil _).mono ?_); rintro e w6 ⟨rfl, hb⟩; have hbx : Below w5.heap.size w5 w6 := below_step (by repeat (first | (with_reducible first | exact Below.refl _ _ | apply below_alloc | apply pw_below_drewN | apply below_drew1) | exact Below.refl _ _)) hb; clear zBK5_0 zBK5_1 zBK5_2; replace BK5 := Aside0.mk (BK5.out.below hbx); replace HB := Aside0.mk (below_step HB.out hbx); clear hbx; clear hb; obtain ⟨zBK5_0, zBK5_1, zBK5_2⟩ := BK5.out.c3) | (go_at_call 22; (with_reducible refine (equal_nil _).mono ?_); rintro e w7 ⟨rfl, hb⟩; have hbx : Below w6.heap.size w6 w7 := below_step (by repeat (first | (with_reducible first | exact Below.refl _ _ | apply below_alloc | apply pw_below_drewN | apply below_drew1) | exact Below.refl _ _)) hb; clear zBK5_0 zBK5_1 zBK5_2; replace BK5 := Aside0.mk (BK5.out.below hbx); replace HB := Aside0.mk (below_step HB.out hbx); clear hbx; clear hb; obtain ⟨zBK5_0, zBK5_1, zBK5_2⟩ := BK5.out.c3) | (go_at_call 32; (with_reducible refine (HT.out _ (below_step HB.out (by repeat (first | (with_reducible first | exact Below.refl _ _ | apply below_alloc | apply pw_below_drewN | apply below_drew1) | exact Below.refl _ _)))).mono ?_); rintro e w8 ⟨rfl, hb⟩; have hbx : Below w7.heap.size w7 w8 := below_step (by repeat (first | (with_reducible first | exact Below.refl _ _ | apply below_alloc | apply pw_below_drewN | apply below_drew1) | exact Below.refl _ _)) hb; clear zBK5_0 zBK5_1 zBK5_2; replace BK5 := Aside0.mk (BK5.out.below hbx); replace HB := Aside0.mk (below_step HB.out hbx); clear hbx; clear hb; obtain ⟨zBK5_0, zBK5_1, zBK5_2⟩ := BK5.out.c3) | (go_at_call 33; (with_reducible refine (alive_any _).mono ?_); rintro e w9 ⟨rfl, hb⟩; have hbx : Below w8.heap.size w8 w9 := below_step (by repeat (first | (with_reducible first | exact Below.refl _ _ | apply below_alloc | apply pw_below_drewN | apply below_drew1) | exact Below.refl _ _)) hb; clear zBK5_0 zBK5_1 zBK5_2; replace BK5 := Aside0.mk (BK5.out.below hbx); replace HB := Aside0.mk (below_step HB.out hbx); clear hbx; clear hb; obtain ⟨zBK5_0, zBK5_1, zBK5_2⟩ := BK5.out.c3))
  go_ret
  exact ⟨rfl, HB.out⟩
end
theorem sm_walk (w : World) (A0 : Option Addr) (c0 : Nat) (l : List S66) (w0 : l.length ≤ c0) (y0 : Kd.C k66 w A0 l.length l) (z0 : SlQ (fun y : S66 => I64 y.f0 ∧ (I64 y.f1.f0 ∧ I64 y.f1.f1) ∧ I64 y.f2) l) (A1 : Option Addr) (c1 : Nat) (li : List Bool) (w1 : li.length ≤ c1) (y1 : Kd.C Kd.bool w A1 li.length li) (z1 : SlQ (fun _ : Bool => True) li) (cs : List Value) (y : List Bool × List Bool × List Bool) (y2 : KSt.K w y cs) (z2 : SlQ (fun _ : Bool => True) y.1 ∧ SlQ (fun _ : Bool => True) y.2.1 ∧ SlQ (fun _ : Bool => True) y.2.2) :
    Calls Try.prog 15 #[.slice A0 l.length c0, .slice A1 li.length c1, .agg cs.toArray] w fun x w' => x = .returned (.bool true) ∧ Below w.heap.size w w' := by
  obtain ⟨AQ, cQ, AM, cM, AE, cE, rfl, r1⟩ := st_form y2
  obtain ⟨b, hb, ht⟩ := too_any l li y.1 y.2.1 y.2.2
  cases b with
  | true => exact sm_big w r1 (fun w' h => ht w' (r1.below h))
  | false =>
    have hs := hb rfl
    have := hs.q; have := hs.m; have := hs.e
    exact sm_go w y0 ⟨w1, y1⟩ ⟨r1, by omega, by omega, by omega⟩ (WfC.sl z0) hs (fun w' h => ht w' (r1.below h))
end Go.Proofs.Ytjohdkbciafpfaa.Vm6
end
