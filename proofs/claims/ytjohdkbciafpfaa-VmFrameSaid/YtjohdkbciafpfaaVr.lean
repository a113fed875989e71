/- Chapter 06: Run, walked. -/
import Derived.Test.YtjohdkbciafpfaaVa
import Derived.Test.YtjohdkbciafpfaaVn
import Derived.Test.YtjohdkbciafpfaaVq
namespace Go.Proofs.Ytjohdkbciafpfaa.Vm6
open Go.RowKit Go.Proofs.YtjohdkbciafpfaaW.PrintWords Go.Proofs.YtjohdkbciafpfaaW.PrintMore Go.Proofs.YtjohdkbciafpfaaW.PrintLast Go.Proofs.Ytjohdkbciafpfaa.Chg Go.Proofs.Ytjohdkbciafpfaa.Evt Go.Proofs.Ytjohdkbciafpfaa.Impl
set_option linter.unusedVariables false
set_option linter.unusedSimpArgs false
set_option maxRecDepth 100000
/-- A row that is not empty starts a block. -/
def Lf (X : Option Addr) (l : List Bool) : Prop := 0 < l.length → ∃ g, X = some ⟨g, 0, none⟩
theorem Lf.of {w : World} {B n c : Nat} {ok : Nat → Prop} {X : Option Addr} {l : List Bool} (h : Kd.R Kd.bool 4 w B ok (.slice X n c) l) : Lf X l := fun hp => by
  obtain ⟨g, c', e, _⟩ := Kd.R_form h hp
  injection e with e
  exact ⟨g, e⟩
/-- What a run answers. -/
def RunRes (w : World) (x : Ending) (w' : World) (s : MS) (n : Nat) : Prop := ∃ X0 x0 X1 x1 X2 x2, x = .returned (.agg #[.slice X0 s.q.length x0, .slice X1 s.m.length x1, .slice X2 s.e.length x2, .int .i64 n, .int .i64 s.pc, .int .i64 s.fault]) ∧ Sb w' X0 x0 X1 x1 X2 x2 s.q s.m s.e ∧ (Lf X0 s.q ∧ Lf X1 s.m ∧ Lf X2 s.e) ∧ Below w.heap.size w w'
abbrev resC (n : Int) : Array Value := #[.slice none 0 0, .slice none 0 0, .slice none 0 0, .int .i64 n, .int .i64 0, .int .i64 0]
/-- At the head of a round of Run. -/
structure RunI (w wr : World) (gm g6 g8 : Nat) (l : List S66) (li : List Bool) (kq : Nat) (goes : Bool) (s : MS) (n : Nat) (sF : MS) (nF : Nat) : Prop where
  hb : Below w.heap.size w wr
  vm : ∃ U, VmP wr w.heap.size U gm l li s ∧ ¬ U g6 ∧ ¬ U g8
  b6 : Bk wr g6 60 (resC 0)
  b8 : Bk wr g8 60 (resC n)
  ok : Ok l s
  ne : g6 ≠ g8
  nb : n ≤ 20000
  yes : goes = true → s.ended = false ∧ (l.length : Int) + 1 ≤ s.pc + kq ∧ (n : Int) ≤ s.pc ∧ runV l li kq s n = (sF, nF)
  no : goes = false → s = sF ∧ n = nF
section
variable {w wr w' : World} {gm g6 g8 n nF kq : Nat} {l : List S66} {li : List Bool} {s sF : MS} {goes : Bool}
theorem RunI.next {U : Nat → Prop} (h : RunI w wr gm g6 g8 l li (kq + 1) true s n sF nF) (hU : VmP wr w.heap.size U gm l li s) (h6 : ¬ U g6) (h8 : ¬ U g8) (hs : Stp wr w.heap.size U gm l li (stepV l li s).2 w') (hl : l.length ≤ 20000) :
    Below w.heap.size w w' ∧ (∃ U', VmP w' w.heap.size U' gm l li (stepV l li s).2 ∧ ¬ U' g6 ∧ ¬ U' g8) ∧ Bk w' g6 60 (resC 0) ∧ Bk w' g8 60 (resC n) := by
  obtain ⟨U', h1, h2, h3⟩ := hs.out
  obtain ⟨gt, vC, vI, vQ, vM, vE, vL, mo, V⟩ := hU
  have l6 := h.b6.blk.lt
  have l8 := h.b8.blk.lt
  refine ⟨h2.below h.hb (fun i hi => (V.ub i hi).1) h.hb.size, ⟨U', h1, fun hu => ?_, fun hu => ?_⟩, ⟨h.b6.blk.chg h2 h6⟩, ⟨h.b8.blk.chg h2 h8⟩⟩
  · rcases h3 _ hu with hu | hu
    · exact h6 hu
    · omega
  · rcases h3 _ hu with hu | hu
    · exact h8 hu
    · omega
theorem RunI.done {n' : Nat} (h : RunI w wr gm g6 g8 l li (kq + 1) true s n sF nF) (hb : Below w.heap.size w w') (hv : ∃ U, VmP w' w.heap.size U gm l li (stepV l li s).2 ∧ ¬ U g6 ∧ ¬ U g8) (b6 : Bk w' g6 60 (resC 0)) (b8 : Bk w' g8 60 (resC n')) (hn : n' = if (stepV l li s).1.2 = 0 then n + 1 else n) (hl : l.length ≤ 10000) : RunI w w' gm g6 g8 l li kq (stepV l li s).1.1 (stepV l li s).2 n' sF nF := by
  obtain ⟨h1, h2, h3, h4⟩ := h.yes rfl
  have hs := h.ok.sf (li := li)
  have hp := h.ok.p1
  unfold runV at h4
  rw [← hn] at h4
  refine ⟨hb, hv, b6, b8, h.ok.step, h.ne, by rw [hn]; split <;> omega, fun hg => ?_, fun hg => ?_⟩
  · have hg' := hs.go hg
    rw [if_pos hg] at h4
    rw [if_pos hg'.2.1] at hn
    exact ⟨hg'.2.2.1, by omega, by omega, h4⟩
  · rw [if_neg (by simp [hg])] at h4
    injection h4 with h5 h6
    exact ⟨h5, h6⟩
theorem step_c {U : Nat → Prop} {base : Nat} (h : VmP w base U gm l li s) (hw : WfC l) (h0 : 0 ≤ s.pc) {gv : Bool} {er : Int} (hg : (stepV l li s).1.1 = gv) (he : (stepV l li s).1.2 = er) : Calls Try.prog 38 #[.pointer (some ⟨gm, 0, none⟩)] w fun x w' => x = .returned (.tuple #[.bool gv, .int .i64 er]) ∧ Stp w base U gm l li (stepV l li s).2 w' := by subst hg; subst he; exact step_any h hw h0
end
section
variable {AC AI AQ AM AE : Option Addr} {cC cI cQ cM cE : Nat} {l : List S66} {li q m e : List Bool}
theorem new_c (w : World) {B : Nat} (hB : B ≤ w.heap.size) (hC : Kd.C k66 w AC l.length l) (hI : Rw Kd.bool w AI cI li) (hS : Sb w AQ cQ AM cM AE cE q m e) (hl : l.length ≤ 20000) (hi : li.length ≤ 20000) :
    Calls Try.prog 36 #[.slice AC l.length cC, .slice AI li.length cI, .agg #[.slice AQ q.length cQ, .slice AM m.length cM, .slice AE e.length cE]] w fun x w' => ∃ gm U, x = .returned (.pointer (some ⟨gm, 0, none⟩)) ∧ VmP w' B U gm l li (ini q m e) ∧ (∀ k, U k → w.heap.size ≤ k ∧ k < w'.heap.size) ∧ Below w.heap.size w w' :=
  (new_any w hB hC hI hS hl hi).mono fun x w' ⟨gm, hx, hv, hb⟩ => ⟨gm, _, hx, hv, fun _ h => h, hb⟩
set_option maxHeartbeats 16000000 in
theorem run_any (w : World) (hC : Kd.C k66 w AC l.length l) (hI : Rw Kd.bool w AI cI li) (hS : Sb w AQ cQ AM cM AE cE q m e) (hl : l.length ≤ 10000) (hi : li.length ≤ 20000) (hwf : WfC l) {sF : MS} {nF : Nat} (hr : runV l li (l.length + 2) (ini q m e) 0 = (sF, nF)) :
    Calls Try.prog 34 #[.slice AC l.length cC, .slice AI li.length cI, .agg #[.slice AQ q.length cQ, .slice AM m.length cM, .slice AE e.length cE]] w fun x w' => RunRes w x w' sF nF := by
  have HC := Aside0.mk hC
  have HR := Aside0.mk hr
  have HW := Aside0.mk hwf
  have HB := Aside0.mk (Below.refl w.heap.size w)
  have SB := Aside0.mk (hS)
  have RI := Aside0.mk (hI)
  clear hC hI hS hr hwf
  go_enter Try.func34, Try.ntmps34
  go_wp2_with (first | ((with_reducible refine gate_dst (N := 5) rfl ?_); refine box_event ?hg (N := 5) ?hd (cs := #[.slice AQ q.length cQ, .slice AM m.length cM, .slice AE e.length cE]) (t := 24) ?hr ?_; (case hd => rfl); (case hg => rfl); (case hr => first | (go_simp; done) | (go_simp; rfl)); intro g5 hg w1 hbox hb; have hbx : Below w.heap.size w w1 := below_step (by repeat (first | (with_reducible first | exact Below.refl _ _ | apply below_alloc | apply pw_below_drewN | apply below_drew1) | exact Below.refl _ _)) hb; replace SB := Aside0.mk (SB.out.below hbx); replace RI := Aside0.mk (RI.out.below hbx); replace HB := Aside0.mk (below_step HB.out hbx); clear hbx; have BK5 := Aside0.mk (Bk.mk (hbox : Blk w1 g5 24 #[.slice AQ q.length cQ, .slice AM m.length cM, .slice AE e.length cE])); clear hbox hg hb; obtain ⟨zBK5_0, zBK5_1, zBK5_2⟩ := BK5.out.c3) | ((with_reducible refine gate_dst (N := 6) rfl ?_); refine box_event ?hg (N := 6) ?hd (cs := #[.slice none 0 0, .slice none 0 0, .slice none 0 0, .int .i64 0, .int .i64 0, .int .i64 0]) (t := 60) ?hr ?_; (case hd => rfl); (case hg => rfl); (case hr => first | (go_simp; done) | (go_simp; rfl)); intro g6 hg w2 hbox hb; have hbx : Below w1.heap.size w1 w2 := below_step (by repeat (first | (with_reducible first | exact Below.refl _ _ | apply below_alloc | apply pw_below_drewN | apply below_drew1) | exact Below.refl _ _)) hb; have GG6 := Aside0.mk (show w.heap.size ≤ g6 from (by rw [hg]; exact below_size (below_step HB.out (by repeat (first | (with_reducible first | exact Below.refl _ _ | apply below_alloc | apply pw_below_drewN | apply below_drew1) | exact Below.refl _ _))))); clear zBK5_0 zBK5_1 zBK5_2; replace SB := Aside0.mk (SB.out.below hbx); replace RI := Aside0.mk (RI.out.below hbx); replace BK5 := Aside0.mk (BK5.out.below hbx); replace HB := Aside0.mk (below_step HB.out hbx); clear hbx; have BK6 := Aside0.mk (Bk.mk (hbox : Blk w2 g6 60 #[.slice none 0 0, .slice none 0 0, .slice none 0 0, .int .i64 0, .int .i64 0, .int .i64 0])); clear hbox hg hb; obtain ⟨zBK5_0, zBK5_1, zBK5_2⟩ := BK5.out.c3; obtain ⟨zBK6_0, zBK6_1, zBK6_2, zBK6_3, zBK6_4, zBK6_5⟩ := BK6.out.c6) | ((with_reducible refine gate_callee (f := 36) rfl ?_); refine goesL_ (some 14) rfl rfl Try.func36 (by kernel_rfl) rfl #[.slice AC l.length cC, .slice AI li.length cI, .agg #[.slice AQ q.length cQ, .slice AM m.length cM, .slice AE e.length cE]] rfl (by (try simp only [List.map_toArray, List.map_cons, List.map_nil]); first | done | rfl | (simp only [List.length_drop, List.length_take]; rfl)) ?_; (with_reducible refine (new_c _ (B := w.heap.size) (below_step HB.out (by repeat (first | (with_reducible first | exact Below.refl _ _ | apply below_alloc | apply pw_below_drewN | apply below_drew1) | exact Below.refl _ _))).size (Kd.C_below HC.out (below_step HB.out (by repeat (first | (with_reducible first | exact Below.refl _ _ | apply below_alloc | apply pw_below_drewN | apply below_drew1) | exact Below.refl _ _)))) (RI.out.below (by repeat (first | (with_reducible first | exact Below.refl _ _ | apply below_alloc | apply pw_below_drewN | apply below_drew1) | exact Below.refl _ _))) (SB.out.below (by repeat (first | (with_reducible first | exact Below.refl _ _ | apply below_alloc | apply pw_below_drewN | apply below_drew1) | exact Below.refl _ _))) (by omega) hi).mono ?_); rintro e w3 ⟨gm, UM, rfl, hv_, hu_, hb⟩; have hbx : Below w2.heap.size w2 w3 := below_step (by repeat (first | (with_reducible first | exact Below.refl _ _ | apply below_alloc | apply pw_below_drewN | apply below_drew1) | exact Below.refl _ _)) hb; have N6 := Aside0.mk (show ¬ UM g6 from fun h_ => absurd (Nat.le_trans (below_size (show Below w2.heap.size w2 _ from (by repeat (first | (with_reducible first | exact Below.refl _ _ | apply below_alloc | apply pw_below_drewN | apply below_drew1) | exact Below.refl _ _)))) (hu_ _ h_).1) (Nat.not_le.mpr BK6.out.blk.lt)); have UL := Aside0.mk (fun k (hk : UM k) => (hu_ k hk).2); clear hu_; clear zBK5_0 zBK5_1 zBK5_2 zBK6_0 zBK6_1 zBK6_2 zBK6_3 zBK6_4 zBK6_5; replace SB := Aside0.mk (SB.out.below hbx); replace RI := Aside0.mk (RI.out.below hbx); replace BK5 := Aside0.mk (BK5.out.below hbx); replace BK6 := Aside0.mk (BK6.out.below hbx); replace HB := Aside0.mk (below_step HB.out hbx); clear hbx; have VP := Aside0.mk (hv_); clear hb; clear hv_; have HB0 := HB; clear HB; have HB := Aside0.mk (Below.refl w3.heap.size w3); obtain ⟨zBK5_0, zBK5_1, zBK5_2⟩ := BK5.out.c3; obtain ⟨zBK6_0, zBK6_1, zBK6_2, zBK6_3, zBK6_4, zBK6_5⟩ := BK6.out.c6; refine ⟨_, rfl, ?_⟩) | ((with_reducible refine gate_dst (N := 8) rfl ?_); refine Evt.box2 ?hg (N := 8) ?hd (z := #[.slice none 0 0, .slice none 0 0, .slice none 0 0, .int .i64 0, .int .i64 0, .int .i64 0]) (cs := #[.slice none 0 0, .slice none 0 0, .slice none 0 0, .int .i64 0, .int .i64 0, .int .i64 0]) (T := 60) ?hr ?hg2 (.tmp 15) ?ho2 ?hd2 ?hy ?hx ?hi ?hz ?h1 ?_; (case hd => rfl); (case hg => rfl); (case hr => first | (go_simp; done) | (go_simp; rfl)); (case hg2 => rfl); (case ho2 => rfl); (case hd2 => rfl); (case hy => first | rfl | (go_simp; done)); (case hx => first | rfl | (go_simp; done)); (case hi => kernel_rfl); (case hz => rfl); (case h1 => first | rfl | (simp [Value.oneCell'])); intro g8 hg w4 hbox hb; have hbx : Below w3.heap.size w3 w4 := below_step (by repeat (first | (with_reducible first | exact Below.refl _ _ | apply below_alloc | apply pw_below_drewN | apply below_drew1) | exact Below.refl _ _)) hb; have GG8 := Aside0.mk (show w3.heap.size ≤ g8 from (by rw [hg]; exact below_size (below_step HB.out (by repeat (first | (with_reducible first | exact Below.refl _ _ | apply below_alloc | apply pw_below_drewN | apply below_drew1) | exact Below.refl _ _))))); have NE8_BK6 := Aside0.mk (show g6 ≠ g8 from (by have h_ := BK6.out.blk.lt; have h2_ : w3.heap.size ≤ g8 := (by rw [hg]; exact below_size (show Below w3.heap.size w3 _ from (by repeat (first | (with_reducible first | exact Below.refl _ _ | apply below_alloc | apply pw_below_drewN | apply below_drew1) | exact Below.refl _ _)))); omega)); clear zBK5_0 zBK5_1 zBK5_2 zBK6_0 zBK6_1 zBK6_2 zBK6_3 zBK6_4 zBK6_5; replace SB := Aside0.mk (SB.out.below hbx); replace RI := Aside0.mk (RI.out.below hbx); replace BK5 := Aside0.mk (BK5.out.below hbx); replace BK6 := Aside0.mk (BK6.out.below hbx); replace VP := Aside0.mk (VP.out.below hbx); replace HB := Aside0.mk (below_step HB.out hbx); clear hbx; have BK8 := Aside0.mk (Bk.mk (hbox : Blk w4 g8 60 #[.slice none 0 0, .slice none 0 0, .slice none 0 0, .int .i64 0, .int .i64 0, .int .i64 0])); clear hbox hg hb; obtain ⟨zBK5_0, zBK5_1, zBK5_2⟩ := BK5.out.c3; obtain ⟨zBK6_0, zBK6_1, zBK6_2, zBK6_3, zBK6_4, zBK6_5⟩ := BK6.out.c6; obtain ⟨zBK8_0, zBK8_1, zBK8_2, zBK8_3, zBK8_4, zBK8_5⟩ := BK8.out.c6))
  have N8 := Aside0.mk (show ¬ UM g8 from fun h_ => absurd (UL.out _ h_) (Nat.not_lt.mpr GG8.out))
  have INV : Aside0 (RunI w w4 gm g6 g8 l li (l.length + 2) true (ini q m e) 0 sF nF) := ⟨⟨below_step HB0.out HB.out, ⟨UM, VP.out, N6.out, N8.out⟩, BK6.out, BK8.out, Ok.ini q m e, NE8_BK6.out, by omega, fun _ => ⟨rfl, by show (l.length : Int) + 1 ≤ 0 + ((l.length + 2 : Nat) : Int); omega, by show (0 : Int) ≤ 0; omega, HR.out⟩, fun h => by cases h⟩⟩
  have G6 := GG6
  have GB : Aside0 (w.heap.size ≤ g8) := ⟨Nat.le_trans HB0.out.size GG8.out⟩
  clear zBK5_0 zBK5_1 zBK5_2 zBK6_0 zBK6_1 zBK6_2 zBK6_3 zBK6_4 zBK6_5 zBK8_0 zBK8_1 zBK8_2 zBK8_3 zBK8_4 zBK8_5
  clear HR SB RI BK5 BK6 BK8 HB HB0 VP N6 N8 UL GG6 GG8 NE8_BK6
  go_loopg [9] (l.length + 2) (fun kq v9 wr => ∃ goes, v9 = .bool goes ∧ Aside0 (∃ s n, RunI w wr gm g6 g8 l li kq goes s n sF nF))
  case atStart => exact ⟨true, rfl, ⟨_, _, INV.out⟩⟩
  case round =>
    clear INV
    obtain ⟨goes, rfl, ⟨s, n, RI⟩⟩ := hrel
    cases goes with
    | true =>
      cases gk with
      | zero => have h1_ := (RI.yes rfl).2.1; have h2_ := RI.ok.p1; omega
      | succ k1 =>
        have I := Aside0.mk RI
        clear RI
        obtain ⟨U, hv, h6, h8⟩ := I.out.vm
        have VP := Aside0.mk hv
        have H6 := Aside0.mk h6
        have H8 := Aside0.mk h8
        clear hv h6 h8
        have nb : (n : Int) ≤ 20000 := by have := I.out.nb; omega
        obtain ⟨gv, GV⟩ : ∃ gv, Aside0 ((stepV l li s).1.1 = gv) := ⟨_, ⟨rfl⟩⟩
        by_cases he : (stepV l li s).1.2 = 0
        · have ER := Aside0.mk he
          clear he
          skip
          go_wp2_with (((with_reducible refine gate_callee (f := 38) rfl ?_); refine goesL_ (some 19) rfl rfl Try.func38 (by kernel_rfl) rfl #[.pointer (some ⟨gm, 0, none⟩)] rfl (by (try simp only [List.map_toArray, List.map_cons, List.map_nil]); first | done | rfl | (simp only [List.length_drop, List.length_take]; rfl)) ?_; (with_reducible refine (step_c VP.out HW.out I.out.ok.p0 GV.out ER.out).mono ?_); rintro e_ w2 ⟨rfl, hs_⟩; have NX := Aside0.mk (RunI.next I.out VP.out H6.out H8.out hs_ (by omega)); clear hs_ VP H6 H8; have HB := Aside0.mk (Below.refl w2.heap.size w2); have BK8 : Aside0 (Bk w2 g8 60 #[.slice none 0 0, .slice none 0 0, .slice none 0 0, .int .i64 n, .int .i64 0, .int .i64 0]) := Aside0.mk (NX.out.2.2.2); clear HB; obtain ⟨zBK8_0, zBK8_1, zBK8_2, zBK8_3, zBK8_4, zBK8_5⟩ := BK8.out.c6; have fBK8_3 : w2.frozen? ⟨g8, 3, none⟩ = false := blk_frozen BK8.out.blk 3; refine ⟨_, rfl, ?_⟩))
          have DN : Aside0 (RunI w (w2.setCell ⟨g8, 3, none⟩ (.int .i64 ((n : Int) + 1))) gm g6 g8 l li k1 (stepV l li s).1.1 (stepV l li s).2 (n + 1) sF nF) := ⟨by
            obtain ⟨U', hv', h6', h8'⟩ := NX.out.2.1
            refine I.out.done (below_set NX.out.1 (Nat.le_trans GB.out (Nat.le_refl _))) ⟨U', hv'.chg (S := fun k => k = g8) ((Chg.refl (fun k => k = g8) w2).setCell (p := ⟨g8, 3, none⟩) (.inl rfl) _) (fun k hk e_ => h8' (e_ ▸ hk)), h6', h8'⟩ ⟨NX.out.2.2.1.blk.far (p := ⟨g8, 3, none⟩) I.out.ne _⟩ ⟨NX.out.2.2.2.blk.set_ 3 _⟩ (by rw [if_pos ER.out]) hl⟩
          clear NX ER I BK8 nb
          clear zBK8_0 zBK8_1 zBK8_2 zBK8_3 zBK8_4 zBK8_5 fBK8_3
          go_roundg k1
          case measure => omega
          case rel => exact ⟨_, rfl, ⟨_, _, by rw [← GV.out]; exact DN.out⟩⟩
          skip
        · have e0 : decide ((stepV l li s).1.2 = 0) = false := decide_eq_false he
          obtain ⟨er, ER⟩ : ∃ er, Aside0 ((stepV l li s).1.2 = er) := ⟨_, ⟨rfl⟩⟩
          have e1 : decide (er = 0) = false := by rw [← ER.out]; exact e0
          have e2 : (er == 0) = false := by rw [← ER.out]; exact beq_eq_false_iff_ne.mpr he
          have NE := Aside0.mk he
          clear he e0
          skip
          go_wp2_with (((with_reducible refine gate_callee (f := 38) rfl ?_); refine goesL_ (some 19) rfl rfl Try.func38 (by kernel_rfl) rfl #[.pointer (some ⟨gm, 0, none⟩)] rfl (by (try simp only [List.map_toArray, List.map_cons, List.map_nil]); first | done | rfl | (simp only [List.length_drop, List.length_take]; rfl)) ?_; (with_reducible refine (step_c VP.out HW.out I.out.ok.p0 GV.out ER.out).mono ?_); rintro e_ w2 ⟨rfl, hs_⟩; have NX := Aside0.mk (RunI.next I.out VP.out H6.out H8.out hs_ (by omega)); clear hs_ VP H6 H8; have HB := Aside0.mk (Below.refl w2.heap.size w2); have BK8 : Aside0 (Bk w2 g8 60 #[.slice none 0 0, .slice none 0 0, .slice none 0 0, .int .i64 n, .int .i64 0, .int .i64 0]) := Aside0.mk (NX.out.2.2.2); clear HB; obtain ⟨zBK8_0, zBK8_1, zBK8_2, zBK8_3, zBK8_4, zBK8_5⟩ := BK8.out.c6; have fBK8_3 : w2.frozen? ⟨g8, 3, none⟩ = false := blk_frozen BK8.out.blk 3; refine ⟨_, rfl, ?_⟩))
          have DN : Aside0 (RunI w w2 gm g6 g8 l li k1 (stepV l li s).1.1 (stepV l li s).2 n sF nF) := ⟨I.out.done NX.out.1 NX.out.2.1 NX.out.2.2.1 NX.out.2.2.2 (by rw [if_neg NE.out]) hl⟩
          clear NX ER I BK8 nb
          clear zBK8_0 zBK8_1 zBK8_2 zBK8_3 zBK8_4 zBK8_5 fBK8_3
          go_roundg k1
          case measure => omega
          case rel => exact ⟨_, rfl, ⟨_, _, by rw [← GV.out]; exact DN.out⟩⟩
          skip
    | false =>
      obtain ⟨rfl, rfl⟩ := RI.no rfl
      obtain ⟨U, ⟨gt, vC, vI, vQ, vM, vE, vL, mo, V0_⟩, h6, h8⟩ := RI.vm
      obtain ⟨AC2, cC2, AI2, cI2, AQ2, cQ2, AM2, cM2, AE2, cE2, rfl, rfl, rfl, rfl, rfl⟩ := V0_.forms
      have H6 := Aside0.mk h6
      have H8 := Aside0.mk h8
      have HBw := Aside0.mk RI.hb
      have NE := Aside0.mk RI.ne
      have HB := Aside0.mk (Below.refl wr.heap.size wr)
      have V := Aside0.mk (V0_)
      have BM : Aside0 (Bk wr gm 98 #[.slice AC2 l.length cC2, .slice AI2 li.length cI2, .slice AQ2 s.q.length cQ2, .slice AM2 s.m.length cM2, .slice AE2 s.e.length cE2, .int .i64 s.pc, .bool s.acc, .pointer (some ⟨gt, 0, none⟩), .bool s.ended, .int .i64 s.fault]) := Aside0.mk (V0_.bm)
      have BK8 : Aside0 (Bk wr g8 60 #[.slice none 0 0, .slice none 0 0, .slice none 0 0, .int .i64 n, .int .i64 0, .int .i64 0]) := Aside0.mk (RI.b8)
      have BK6 : Aside0 (Bk wr g6 60 #[.slice none 0 0, .slice none 0 0, .slice none 0 0, .int .i64 0, .int .i64 0, .int .i64 0]) := Aside0.mk (RI.b6)
      clear V0_ h6 h8 RI
      have hne : gm ≠ g8 := BM.out.blk.ne_ BK8.out.blk (by decide)
      have hne' := hne.symm
      obtain ⟨zBM_0, zBM_1, zBM_2, zBM_3, zBM_4, zBM_5, zBM_6, zBM_7, zBM_8, zBM_9⟩ := BM.out.c10
      obtain ⟨zBK8_0, zBK8_1, zBK8_2, zBK8_3, zBK8_4, zBK8_5⟩ := BK8.out.c6
      obtain ⟨zBK6_0, zBK6_1, zBK6_2, zBK6_3, zBK6_4, zBK6_5⟩ := BK6.out.c6
      have fBK8_0 : wr.frozen? ⟨g8, 0, none⟩ = false := blk_frozen BK8.out.blk 0
      have fBK8_1 : wr.frozen? ⟨g8, 1, none⟩ = false := blk_frozen BK8.out.blk 1
      have fBK8_2 : wr.frozen? ⟨g8, 2, none⟩ = false := blk_frozen BK8.out.blk 2
      have fBK8_4 : wr.frozen? ⟨g8, 4, none⟩ = false := blk_frozen BK8.out.blk 4
      have fBK8_5 : wr.frozen? ⟨g8, 5, none⟩ = false := blk_frozen BK8.out.blk 5
      go_wp2_with fail
      go_region_held3 (fun w' => w'.cell? ⟨gm, 2, none⟩ = some (.slice AQ2 s.q.length cQ2) ∧ w'.cell? ⟨gm, 3, none⟩ = some (.slice AM2 s.m.length cM2) ∧ w'.cell? ⟨gm, 4, none⟩ = some (.slice AE2 s.e.length cE2) ∧ w'.cell? ⟨gm, 5, none⟩ = some (.int .i64 s.pc) ∧ w'.cell? ⟨gm, 9, none⟩ = some (.int .i64 s.fault)) (go_keep) (fail)
      have HC8 := Aside0.mk (show Chg (fun k => k = g8) wr (((((wr.setCell ⟨g8, 0, none⟩ (.slice AQ2 s.q.length cQ2)).setCell ⟨g8, 1, none⟩ (.slice AM2 s.m.length cM2)).setCell ⟨g8, 2, none⟩ (.slice AE2 s.e.length cE2)).setCell ⟨g8, 4, none⟩ (.int .i64 s.pc)).setCell ⟨g8, 5, none⟩ (.int .i64 s.fault)) from (((((Chg.refl (fun k => k = g8) wr).setCell (p := ⟨g8, 0, none⟩) (.inl rfl) _).setCell (p := ⟨g8, 1, none⟩) (.inl rfl) _).setCell (p := ⟨g8, 2, none⟩) (.inl rfl) _).setCell (p := ⟨g8, 4, none⟩) (.inl rfl) _).setCell (p := ⟨g8, 5, none⟩) (.inl rfl) _)
      have BZ8 := Aside0.mk (show Bk (((((wr.setCell ⟨g8, 0, none⟩ (.slice AQ2 s.q.length cQ2)).setCell ⟨g8, 1, none⟩ (.slice AM2 s.m.length cM2)).setCell ⟨g8, 2, none⟩ (.slice AE2 s.e.length cE2)).setCell ⟨g8, 4, none⟩ (.int .i64 s.pc)).setCell ⟨g8, 5, none⟩ (.int .i64 s.fault)) g8 60 #[.slice AQ2 s.q.length cQ2, .slice AM2 s.m.length cM2, .slice AE2 s.e.length cE2, .int .i64 n, .int .i64 s.pc, .int .i64 s.fault] from ⟨((((BK8.out.blk.set_ 0 _).set_ 1 _).set_ 2 _).set_ 4 _).set_ 5 _⟩)
      obtain ⟨wz, hwz⟩ : ∃ wz, (((((wr.setCell ⟨g8, 0, none⟩ (.slice AQ2 s.q.length cQ2)).setCell ⟨g8, 1, none⟩ (.slice AM2 s.m.length cM2)).setCell ⟨g8, 2, none⟩ (.slice AE2 s.e.length cE2)).setCell ⟨g8, 4, none⟩ (.int .i64 s.pc)).setCell ⟨g8, 5, none⟩ (.int .i64 s.fault)) = wz := ⟨_, rfl⟩
      rw [hwz] at HC8 BZ8 ⊢
      clear hwz
      have V1 := Aside0.mk (V.out.chg HC8.out (fun k hk e_ => H8.out (e_ ▸ hk)))
      have B6 := Aside0.mk (Bk.mk (BK6.out.blk.chg HC8.out NE.out))
      have HBz := Aside0.mk (HC8.out.below HBw.out (fun i hi => by subst hi; exact GB.out) HBw.out.size)
      clear zBM_0 zBM_1 zBM_2 zBM_3 zBM_4 zBM_5 zBM_6 zBM_7 zBM_8 zBM_9 zBK8_0 zBK8_1 zBK8_2 zBK8_3 zBK8_4 zBK8_5 zBK6_0 zBK6_1 zBK6_2 zBK6_3 zBK6_4 zBK6_5 fBK8_0 fBK8_1 fBK8_2 fBK8_4 fBK8_5
      clear V BM BK8 BK6 HB HBw HC8 hne hne'
      have HB := Aside0.mk (Below.refl wz.heap.size wz)
      have BK8 : Aside0 (Bk wz g8 60 #[.slice AQ2 s.q.length cQ2, .slice AM2 s.m.length cM2, .slice AE2 s.e.length cE2, .int .i64 n, .int .i64 s.pc, .int .i64 s.fault]) := Aside0.mk (BZ8.out)
      clear BZ8 HB
      obtain ⟨zBK8_0, zBK8_1, zBK8_2, zBK8_3, zBK8_4, zBK8_5⟩ := BK8.out.c6
      go_wp2_with ((refine Evt.setrow_ev rfl (B6.out.below (by repeat (first | (with_reducible first | exact Below.refl _ _ | apply below_alloc | apply pw_below_drewN | apply below_drew1) | exact Below.refl _ _))) 60 (.tmp 6) (.tmp 43) rfl rfl rfl rfl (by kernel_rfl) rfl (by simp [Value.oneCell']) ?_; intro we be_ hg_; have BE := Aside0.mk be_; have VE := Aside0.mk ((V1.out.below (by repeat (first | (with_reducible first | exact Below.refl _ _ | apply below_alloc | apply pw_below_drewN | apply below_drew1) | exact Below.refl _ _))).chg (S := fun k => k = g6) (Chg.of_grown hg_ (fun k hk => by cases hk; exact .inl rfl)) (fun k hk e_ => H6.out (e_ ▸ hk))); have HBe := Aside0.mk ((below_step HBz.out (by repeat (first | (with_reducible first | exact Below.refl _ _ | apply below_alloc | apply pw_below_drewN | apply below_drew1) | exact Below.refl _ _))).grown hg_ (below_step HBz.out (by repeat (first | (with_reducible first | exact Below.refl _ _ | apply below_alloc | apply pw_below_drewN | apply below_drew1) | exact Below.refl _ _))).size (fun k hk => by cases hk; exact G6.out)); clear be_ hg_))
      refine bodyPost_ret (results_cell_row rfl _ _ g6 60 _ (0, 0) _ rfl BE.out.blk Try.underlying60 rfl (by kernel_rfl)) rfl ?_
      exact ⟨_, _, _, _, _, _, rfl, VE.out.sb, ⟨Lf.of VE.out.rq, Lf.of VE.out.rm, Lf.of VE.out.re⟩, HBe.out⟩
end
end Go.Proofs.Ytjohdkbciafpfaa.Vm6
