/- flow.DeadNodes, walked. -/
import Derived.Test.YtmacdknicgfglaaGa
import Derived.Test.YtmacdknicgfglaaLw0
import Derived.Test.YtmacdknicgfglaaOr3
import Derived.Test.YtmacdknicgfglaaDq
namespace Go.Proofs.Ytmacdknicgfglaa.Gw
open Go.RowKit Go.Shelf Go.Proofs.YtmacdknicgfglaaW.PrintWords Go.Proofs.YtmacdknicgfglaaW.PrintMore Go.Proofs.YtmacdknicgfglaaW.PrintLast Go.Proofs.Ytmacdknicgfglaa.Chg Go.Proofs.Ytmacdknicgfglaa.Evt Go.Proofs.Ytmacdknicgfglaa.Impl Go.Proofs.Ytmacdknicgfglaa.Gp Go.Proofs.Ytmacdknicgfglaa.Mp
set_option linter.unusedVariables false
set_option linter.unusedSimpArgs false
set_option maxRecDepth 100000
theorem other_row {w0 w w1 : World} {v : Value} {xs : List ByteArray} {g : Nat} {cs : Array Value} (h : Ro Kd.string 9 w0 w v xs) (hb : Bk w g 29 cs) (hg : w.grownBy w1 (some g)) : Ro Kd.string 9 w0 w1 v xs := ⟨R_other h.row hg (.inl (row_ne h.row hb.blk (by decide)))⟩
set_option maxHeartbeats 1000000 in
theorem dead1_any {W : World} {g4 g5 : Nat} {X6 X8 : Option Addr} {x6 x8 : Nat} {ra rb : List ByteArray} (h4 : Bk W g4 29 #[.slice X6 ra.length x6]) (h5 : Bk W g5 29 #[.slice X8 rb.length x8]) (r6 : Rw Kd.string W X6 x6 ra) (r8 : Rw Kd.string W X8 x8 rb) (l6 : ra.length ≤ 1000000) (l8 : rb.length ≤ 1000000) (x : ByteArray) :
    Calls Try.prog 57 #[.string x, .pointer (some ⟨g4, 0, none⟩), .pointer (some ⟨g5, 0, none⟩)] W fun e w' => e = .returned (.bool (decide (x ∈ ra) && decide (x ∈ rb))) ∧ ∃ q, w' = W.drewN q := by
  have y4 := h4.blk.cell 0 rfl
  have y5 := h5.blk.cell 0 rfl
  have D6 := Aside0.mk (And.intro r6 l6)
  have D8 := Aside0.mk (And.intro r8 l8)
  obtain ⟨ba, hba⟩ : ∃ ba, Aside0 (decide (x ∈ ra) = ba) := ⟨_, ⟨rfl⟩⟩
  obtain ⟨bb, hbb⟩ : ∃ bb, Aside0 (decide (x ∈ rb) = bb) := ⟨_, ⟨rfl⟩⟩
  rw [hba.out, hbb.out]
  clear h4 h5 r6 r8 l6 l8
  cases ba with
  | true =>
    go_enter Try.func57, Try.ntmps57
    go_wp2_with (first | (go_at_call 26; refine (conS_any X6 x6 ra x _ D6.out.1 D6.out.2 hba.out).mono ?_; rintro e w_ ⟨rfl, ⟨nd, rfl⟩⟩) | (go_at_call 26; refine (conS_any X8 x8 rb x _ (D8.out.1.below (pw_below_drewN (Below.refl _ _) _)) D8.out.2 hbb.out).mono ?_; rintro e w_ ⟨rfl, ⟨nd2, rfl⟩⟩))
    go_ret
    exact ⟨by cases bb <;> rfl, nd + nd2, by simp [World.drewN, Nat.add_assoc]⟩
  | false =>
    go_enter Try.func57, Try.ntmps57
    go_wp2_with (go_at_call 26; refine (conS_any X6 x6 ra x _ D6.out.1 D6.out.2 hba.out).mono ?_; rintro e w_ ⟨rfl, ⟨nd, rfl⟩⟩)
    go_ret
    exact ⟨rfl, nd, rfl⟩
theorem eg_d1 : ∀ args w, (callFunc 57 args).run Try.prog w = .ok (.enter 57 args) w := enters_of Try.func57 (by kernel_rfl) rfl
/-- A row stays while a later row is written. -/
theorem later_row {wb w w1 : World} {w0 : World} {v v' : Value} {xs ys : List ByteArray} (h : Ro Kd.string 9 w0 w v xs) (hl : ∀ k, v.ownBlock = some k → k < wb.heap.size) (h' : Ro Kd.string 9 wb w v' ys) (hg : w.grownBy w1 v'.ownBlock) : Ro Kd.string 9 w0 w1 v xs := by
  refine ⟨R_other h.row hg ?_⟩
  cases hv : v'.ownBlock with
  | none => exact .inr rfl
  | some k =>
    refine .inl (fun e => ?_)
    have h1 := hl k e.symm
    obtain ⟨i, ho⟩ := Kd.R_own h'.row
    have h2 := own_base ho k hv
    omega
theorem dead1_at {wb W w0 : World} {v : Value} {xs ra rb : List ByteArray} {g4 g5 : Nat} {X6 X8 : Option Addr} {x6 x8 : Nat} (hv : Ro Kd.string 9 wb W v xs) (h6 : Ro Kd.string 9 w0 W (.slice X6 ra.length x6) ra) (h8 : Ro Kd.string 9 w0 W (.slice X8 rb.length x8) rb) (h4 : Bk W g4 29 #[.slice X6 ra.length x6]) (h5 : Bk W g5 29 #[.slice X8 rb.length x8])
    (k6 : ∀ k, (Value.slice X6 ra.length x6).ownBlock = some k → k < wb.heap.size) (k8 : ∀ k, (Value.slice X8 rb.length x8).ownBlock = some k → k < wb.heap.size) (l6 : ra.length ≤ 1000000) (l8 : rb.length ≤ 1000000) :
    ∀ (W' : World) (x : ByteArray), x.size ≤ 100000 → W.grownBy W' v.ownBlock → Calls Try.prog 57 (#[.string x] ++ #[.pointer (some ⟨g4, 0, none⟩), .pointer (some ⟨g5, 0, none⟩)]) W' fun e w' => e = .returned (.bool (!(!(decide (x ∈ ra) && decide (x ∈ rb))))) ∧ ∃ q, w' = W'.drewN q := by
  intro W' x hx hg
  rw [Bool.not_not]
  exact dead1_any (h4.grown hg (row_ne hv.row h4.blk (by decide))) (h5.grown hg (row_ne hv.row h5.blk (by decide))) (Rw.of_R (later_row h6 k6 hv hg).row) (Rw.of_R (later_row h8 k8 hv hg).row) l6 l8 x
section
variable {w w' : World} {A1 A2 : Option Addr} {c1 c2 : Nat} {l1 : List S41} {l2 : List S101} {a0 a3 : ByteArray}
set_option maxHeartbeats 8000000 in
theorem dead_any (w : World) (h : Rg w A1 c1 l1 A2 c2 l2) (hok : okG (es l1) = true) :
    Calls Try.prog 35 #[.agg #[.string a0, .slice A1 l1.length c1, .slice A2 l2.length c2, .string a3]] w fun e w' => ∃ v, e = .returned v ∧ Ro Kd.string 9 w w' v ((nodesL (es l1)).filter fun s => !(decide (s ∈ reachL (es l1) ⟨#[76]⟩) && decide (s ∈ ancL (es l1) ⟨#[82]⟩))) ∧ Below w.heap.size w w' := by
  have OK := Aside0.mk hok
  have HB := Aside0.mk (Below.refl w.heap.size w)
  have R := Aside0.mk (h)
  clear h hok
  go_enter Try.func35, Try.ntmps35
  go_wp2_with (((with_reducible refine gate_dst (N := 1) rfl ?_); refine box_event ?hg (N := 1) ?hd (cs := #[.string a0, .slice A1 l1.length c1, .slice A2 l2.length c2, .string a3]) (t := 25) ?hr ?_; (case hd => rfl); (case hg => rfl); (case hr => first | (go_simp; done) | (go_simp; rfl)); intro g1 hg w1 hbox hb; have hbx : Below w.heap.size w w1 := below_step (by repeat (first | (with_reducible first | exact Below.refl _ _ | apply below_alloc | apply pw_below_drewN | apply below_drew1) | exact Below.refl _ _)) hb; have n_R := Aside0.mk (R.out.below hbx); have n_HB := Aside0.mk (below_step HB.out hbx); clear HB R; have R := n_R; have HB := n_HB; clear hbx n_R n_HB; have BK1 := Aside0.mk (Bk.mk (hbox : Blk w1 g1 25 #[.string a0, .slice A1 l1.length c1, .slice A2 l2.length c2, .string a3])); clear hbox hg hb; have zBK1_0 : w1.cell? ⟨g1, 0, none⟩ = some (.string a0) := (blk_cell BK1.out.blk 0).trans rfl; have zBK1_1 : w1.cell? ⟨g1, 1, none⟩ = some (.slice A1 l1.length c1) := (blk_cell BK1.out.blk 1).trans rfl; have zBK1_2 : w1.cell? ⟨g1, 2, none⟩ = some (.slice A2 l2.length c2) := (blk_cell BK1.out.blk 2).trans rfl; have zBK1_3 : w1.cell? ⟨g1, 3, none⟩ = some (.string a3) := (blk_cell BK1.out.blk 3).trans rfl))
  have KP : Aside0 (∀ w', Below w1.heap.size w1 w' → (w'.cell? ⟨g1, 0, none⟩ = some (.string a0) ∧ w'.cell? ⟨g1, 1, none⟩ = some (.slice A1 l1.length c1) ∧ w'.cell? ⟨g1, 2, none⟩ = some (.slice A2 l2.length c2) ∧ w'.cell? ⟨g1, 3, none⟩ = some (.string a3))) := Aside0.mk (fun w' hb => ⟨(blk_cell (BK1.out.below hb).blk 0).trans rfl, (blk_cell (BK1.out.below hb).blk 1).trans rfl, (blk_cell (BK1.out.below hb).blk 2).trans rfl, (blk_cell (BK1.out.below hb).blk 3).trans rfl⟩)
  clear zBK1_0 zBK1_1 zBK1_2 zBK1_3
  refine Evt.ol_start (ds := []) (w0 := w1) (T := (true, [([], []), ([0], [0]), ([], []), ([2, 1], [2]), ([], []), ([], []), ([4, 1, 3, 0, 1, 4, 5], [1, 4]), ([5, 3, 6, 0, 1, 2, 3, 4, 5, 6], [3, 5])])) (B := [0, 1, 0, 7, 0, 0, 63, 127]) 8 [(0, some 5), (2, some 7), (1, some 6), (3, some 8), (4, some 3), (5, some 4), (6, none), (7, none)] (by kernel_rfl) rfl (by kernel_rfl) (by kernel_rfl) (by kernel_rfl) (by repeat (first | (with_reducible first | exact Below.refl _ _ | apply below_alloc | apply pw_below_drewN | apply below_drew1) | exact Below.refl _ _)) ?_
  intro HT_ HW_ w_ hHeld
  iterate 2 (first | (refine Evt.ol_off (a' := ?_) HT_ rfl rfl (by rfl) (by kernel_rfl) (fun _ _ _ h => h) ?_ ?_; rotate_left; (· (try simp only [Act.put, List.setIfInBounds_toArray, List.set_cons_zero, List.set_cons_succ, i64_w, i32_w]); rfl)) | (refine Evt.ol_pure (a' := ?_) (v := ?_) HT_ rfl rfl rfl (by rfl) (by kernel_rfl) (fun _ _ _ h => h) ?_ ?_ ?_; rotate_left 2; (· intro w'; go_simp; with_reducible rfl); (· (try simp only [Act.put, List.setIfInBounds_toArray, List.set_cons_zero, List.set_cons_succ, i64_w, i32_w]); rfl)) | (refine Evt.ol_load (a' := ?_) (v := ?_) HT_ HW_ hHeld rfl rfl rfl (by rfl) (by kernel_rfl) (fun _ _ _ h => h) ?_ ?_ ?_; rotate_left 2; (· intro w' hS_; obtain ⟨s0, s1, s2, s3⟩ := KP.out w' hS_.out; go_simp; with_reducible rfl); (· (try simp only [Act.put, List.setIfInBounds_toArray, List.set_cons_zero, List.set_cons_succ, i64_w, i32_w]); rfl)))
  refine Evt.ol_join (σ := (Value) × (Value) × (Nat) × (Nat)) 2 [(6, none), (7, none)] (fun s => match s with | (v6, v8, gT4, gT5) => [(6, v6), (8, v8), (3, .pointer (some ⟨gT4, 0, none⟩)), (4, .pointer (some ⟨gT5, 0, none⟩))]) (fun s W_ => match s with | (v6, v8, gT4, gT5) => (Ro Kd.string 9 w1 W_ v6 (reachL (es l1) ⟨#[76]⟩)) ∧ (Ro Kd.string 9 w1 W_ v8 (ancL (es l1) ⟨#[82]⟩)) ∧ (Bk W_ gT4 29 #[.slice none 0 0]) ∧ (w1.heap.size ≤ gT4) ∧ (Bk W_ gT5 29 #[.slice none 0 0]) ∧ (w1.heap.size ≤ gT5) ∧ (gT4 ≠ gT5)) ?_ ?_
  · intro JN
    refine Evt.ol_three (i := 1) (j := 4) (k := 5) [(3, some 8), (4, some 3), (5, some 4), (6, none), (7, none)] [(1, some 6), (3, some 8), (5, some 4), (6, none), (7, none)] [(1, some 6), (3, some 8), (4, some 3), (6, none), (7, none)] HT_ rfl rfl rfl rfl rfl rfl (by kernel_rfl) (fun K_ hK_ => ?_) (fun K_ hK_ => ?_) (fun K_ hK_ => ?_)
    · refine Evt.k_call hK_ hHeld rfl Try.func27 (by kernel_rfl) rfl #[.agg #[.string a0, .slice A1 l1.length c1, .slice A2 l2.length c2, .string a3], .string ⟨#[76]⟩] (by rfl) rfl (by (try simp only [List.map_toArray, List.map_cons, List.map_nil]); first | done | rfl | (simp only [List.length_drop, List.length_take]; rfl)) ?_
      (with_reducible refine (reach_any _ (R.out.below hHeld.out) OK.out ⟨#[76]⟩).mono ?_)
      rintro e w_ ⟨v6, rfl, ho, hb_⟩
      have ho_ := Ro.lower (w0 := w1) ho hHeld.out.size; clear ho
      refine ⟨_, rfl, hb_, fun hH_ => ?_⟩
      have F1 := Aside0.mk (ho_)
      clear hHeld hb_
      have hHeld := hH_
      clear hH_ hK_
      refine Evt.ol_norm (a' := ?_) ?_ ?_
      rotate_left
      · simp only [Act.put, List.setIfInBounds_toArray, List.set_cons_zero, List.set_cons_succ, i64_w, i32_w]; rfl
      refine Evt.ol_three (i := 3) (j := 4) (k := 5) [(4, some 3), (5, some 4), (6, none), (7, none)] [(3, some 8), (5, some 4), (6, none), (7, none)] [(3, some 8), (4, some 3), (6, none), (7, none)] HT_ rfl rfl rfl rfl rfl rfl (by kernel_rfl) (fun K_ hK_ => ?_) (fun K_ hK_ => ?_) (fun K_ hK_ => ?_)
      · refine Evt.k_call hK_ hHeld rfl Try.func30 (by kernel_rfl) rfl #[.agg #[.string a0, .slice A1 l1.length c1, .slice A2 l2.length c2, .string a3], .string ⟨#[82]⟩] (by rfl) rfl (by (try simp only [List.map_toArray, List.map_cons, List.map_nil]); first | done | rfl | (simp only [List.length_drop, List.length_take]; rfl)) ?_
        (with_reducible refine (anc_any _ (R.out.below hHeld.out) OK.out ⟨#[82]⟩).mono ?_)
        rintro e w_ ⟨v8, rfl, ho, hb_⟩
        have ho_ := Ro.lower (w0 := w1) ho hHeld.out.size; clear ho
        refine ⟨_, rfl, hb_, fun hH_ => ?_⟩
        have F3 := Aside0.mk (ho_)
        have n_F1 := Aside0.mk (F1.out.below hb_)
        clear F1
        have F1 := n_F1
        clear n_F1
        clear hHeld hb_
        have hHeld := hH_
        clear hH_ hK_
        refine Evt.ol_norm (a' := ?_) ?_ ?_
        rotate_left
        · simp only [Act.put, List.setIfInBounds_toArray, List.set_cons_zero, List.set_cons_succ, i64_w, i32_w]; rfl
        refine Evt.ol_two (i := 4) (j := 5) [(5, some 4), (6, none), (7, none)] [(4, some 3), (6, none), (7, none)] HT_ rfl rfl rfl rfl (by kernel_rfl) (fun K_ hK_ => ?_) (fun K_ hK_ => ?_)
        · refine Evt.k_alloc hK_ hHeld rfl rfl (cs := #[.slice none 0 0]) (t := 29) ?_ ?_
          · first | (go_simp; done) | (go_simp; rfl) | (go_simp; refine ⟨?_, ?_⟩ <;> rfl)
          intro gT4 w_ hg_ hB_ hb_ hH_
          have GE4 := Aside0.mk (show w1.heap.size ≤ gT4 from (by rw [hg_]; exact hHeld.out.size))
          clear hg_
          have n_F1 := Aside0.mk (F1.out.below hb_)
          have n_F3 := Aside0.mk (F3.out.below hb_)
          clear F1 F3
          have F1 := n_F1
          have F3 := n_F3
          clear n_F1 n_F3
          have F4 := Aside0.mk hB_
          clear hHeld hb_ hB_
          have hHeld := hH_
          clear hH_ hK_
          refine Evt.ol_norm (a' := ?_) ?_ ?_
          rotate_left
          · simp only [Act.put, List.setIfInBounds_toArray, List.set_cons_zero, List.set_cons_succ, i64_w, i32_w]; rfl
          refine Evt.ol_one (i := 5) [(6, none), (7, none)] HT_ rfl rfl (by kernel_rfl) (fun K_ hK_ => ?_)
          · refine Evt.k_alloc hK_ hHeld rfl rfl (cs := #[.slice none 0 0]) (t := 29) ?_ ?_
            · first | (go_simp; done) | (go_simp; rfl) | (go_simp; refine ⟨?_, ?_⟩ <;> rfl)
            intro gT5 w_ hg_ hB_ hb_ hH_
            have GE5 := Aside0.mk (show w1.heap.size ≤ gT5 from (by rw [hg_]; exact hHeld.out.size))
            have NE_4_5 := Aside0.mk (show gT4 ≠ gT5 from (by have h_ := F4.out.blk.lt; omega))
            clear hg_
            have n_F1 := Aside0.mk (F1.out.below hb_)
            have n_F3 := Aside0.mk (F3.out.below hb_)
            have n_F4 := Aside0.mk (F4.out.below hb_)
            clear F1 F3 F4
            have F1 := n_F1
            have F3 := n_F3
            have F4 := n_F4
            clear n_F1 n_F3 n_F4
            have F5 := Aside0.mk hB_
            clear hHeld hb_ hB_
            have hHeld := hH_
            clear hH_ hK_
            refine Evt.ol_norm (a' := ?_) ?_ ?_
            rotate_left
            · simp only [Act.put, List.setIfInBounds_toArray, List.set_cons_zero, List.set_cons_succ, i64_w, i32_w]; rfl
            exact Evt.ol_norm (by simp only [putAll, Act.put, List.setIfInBounds_toArray, List.set_cons_zero, List.set_cons_succ, i64_w, i32_w]; rfl) (JN (v6, v8, gT4, gT5) _ hHeld ⟨F1.out, F3.out, F4.out, GE4.out, F5.out, GE5.out, NE_4_5.out⟩)
        · refine Evt.k_alloc hK_ hHeld rfl rfl (cs := #[.slice none 0 0]) (t := 29) ?_ ?_
          · first | (go_simp; done) | (go_simp; rfl) | (go_simp; refine ⟨?_, ?_⟩ <;> rfl)
          intro gT5 w_ hg_ hB_ hb_ hH_
          have GE5 := Aside0.mk (show w1.heap.size ≤ gT5 from (by rw [hg_]; exact hHeld.out.size))
          clear hg_
          have n_F1 := Aside0.mk (F1.out.below hb_)
          have n_F3 := Aside0.mk (F3.out.below hb_)
          clear F1 F3
          have F1 := n_F1
          have F3 := n_F3
          clear n_F1 n_F3
          have F5 := Aside0.mk hB_
          clear hHeld hb_ hB_
          have hHeld := hH_
          clear hH_ hK_
          refine Evt.ol_norm (a' := ?_) ?_ ?_
          rotate_left
          · simp only [Act.put, List.setIfInBounds_toArray, List.set_cons_zero, List.set_cons_succ, i64_w, i32_w]; rfl
          refine Evt.ol_one (i := 4) [(6, none), (7, none)] HT_ rfl rfl (by kernel_rfl) (fun K_ hK_ => ?_)
          · refine Evt.k_alloc hK_ hHeld rfl rfl (cs := #[.slice none 0 0]) (t := 29) ?_ ?_
            · first | (go_simp; done) | (go_simp; rfl) | (go_simp; refine ⟨?_, ?_⟩ <;> rfl)
            intro gT4 w_ hg_ hB_ hb_ hH_
            have GE4 := Aside0.mk (show w1.heap.size ≤ gT4 from (by rw [hg_]; exact hHeld.out.size))
            have NE_4_5 := Aside0.mk (show gT4 ≠ gT5 from (by have h_ := F5.out.blk.lt; omega))
            clear hg_
            have n_F1 := Aside0.mk (F1.out.below hb_)
            have n_F3 := Aside0.mk (F3.out.below hb_)
            have n_F5 := Aside0.mk (F5.out.below hb_)
            clear F1 F3 F5
            have F1 := n_F1
            have F3 := n_F3
            have F5 := n_F5
            clear n_F1 n_F3 n_F5
            have F4 := Aside0.mk hB_
            clear hHeld hb_ hB_
            have hHeld := hH_
            clear hH_ hK_
            refine Evt.ol_norm (a' := ?_) ?_ ?_
            rotate_left
            · simp only [Act.put, List.setIfInBounds_toArray, List.set_cons_zero, List.set_cons_succ, i64_w, i32_w]; rfl
            exact Evt.ol_norm (by simp only [putAll, Act.put, List.setIfInBounds_toArray, List.set_cons_zero, List.set_cons_succ, i64_w, i32_w]; rfl) (JN (v6, v8, gT4, gT5) _ hHeld ⟨F1.out, F3.out, F4.out, GE4.out, F5.out, GE5.out, NE_4_5.out⟩)
      · refine Evt.k_alloc hK_ hHeld rfl rfl (cs := #[.slice none 0 0]) (t := 29) ?_ ?_
        · first | (go_simp; done) | (go_simp; rfl) | (go_simp; refine ⟨?_, ?_⟩ <;> rfl)
        intro gT4 w_ hg_ hB_ hb_ hH_
        have GE4 := Aside0.mk (show w1.heap.size ≤ gT4 from (by rw [hg_]; exact hHeld.out.size))
        clear hg_
        have n_F1 := Aside0.mk (F1.out.below hb_)
        clear F1
        have F1 := n_F1
        clear n_F1
        have F4 := Aside0.mk hB_
        clear hHeld hb_ hB_
        have hHeld := hH_
        clear hH_ hK_
        refine Evt.ol_norm (a' := ?_) ?_ ?_
        rotate_left
        · simp only [Act.put, List.setIfInBounds_toArray, List.set_cons_zero, List.set_cons_succ, i64_w, i32_w]; rfl
        refine Evt.ol_two (i := 3) (j := 5) [(5, some 4), (6, none), (7, none)] [(3, some 8), (6, none), (7, none)] HT_ rfl rfl rfl rfl (by kernel_rfl) (fun K_ hK_ => ?_) (fun K_ hK_ => ?_)
        · refine Evt.k_call hK_ hHeld rfl Try.func30 (by kernel_rfl) rfl #[.agg #[.string a0, .slice A1 l1.length c1, .slice A2 l2.length c2, .string a3], .string ⟨#[82]⟩] (by rfl) rfl (by (try simp only [List.map_toArray, List.map_cons, List.map_nil]); first | done | rfl | (simp only [List.length_drop, List.length_take]; rfl)) ?_
          (with_reducible refine (anc_any _ (R.out.below hHeld.out) OK.out ⟨#[82]⟩).mono ?_)
          rintro e w_ ⟨v8, rfl, ho, hb_⟩
          have ho_ := Ro.lower (w0 := w1) ho hHeld.out.size; clear ho
          refine ⟨_, rfl, hb_, fun hH_ => ?_⟩
          have F3 := Aside0.mk (ho_)
          have n_F1 := Aside0.mk (F1.out.below hb_)
          have n_F4 := Aside0.mk (F4.out.below hb_)
          clear F1 F4
          have F1 := n_F1
          have F4 := n_F4
          clear n_F1 n_F4
          clear hHeld hb_
          have hHeld := hH_
          clear hH_ hK_
          refine Evt.ol_norm (a' := ?_) ?_ ?_
          rotate_left
          · simp only [Act.put, List.setIfInBounds_toArray, List.set_cons_zero, List.set_cons_succ, i64_w, i32_w]; rfl
          refine Evt.ol_one (i := 5) [(6, none), (7, none)] HT_ rfl rfl (by kernel_rfl) (fun K_ hK_ => ?_)
          · refine Evt.k_alloc hK_ hHeld rfl rfl (cs := #[.slice none 0 0]) (t := 29) ?_ ?_
            · first | (go_simp; done) | (go_simp; rfl) | (go_simp; refine ⟨?_, ?_⟩ <;> rfl)
            intro gT5 w_ hg_ hB_ hb_ hH_
            have GE5 := Aside0.mk (show w1.heap.size ≤ gT5 from (by rw [hg_]; exact hHeld.out.size))
            have NE_4_5 := Aside0.mk (show gT4 ≠ gT5 from (by have h_ := F4.out.blk.lt; omega))
            clear hg_
            have n_F1 := Aside0.mk (F1.out.below hb_)
            have n_F4 := Aside0.mk (F4.out.below hb_)
            have n_F3 := Aside0.mk (F3.out.below hb_)
            clear F1 F4 F3
            have F1 := n_F1
            have F4 := n_F4
            have F3 := n_F3
            clear n_F1 n_F4 n_F3
            have F5 := Aside0.mk hB_
            clear hHeld hb_ hB_
            have hHeld := hH_
            clear hH_ hK_
            refine Evt.ol_norm (a' := ?_) ?_ ?_
            rotate_left
            · simp only [Act.put, List.setIfInBounds_toArray, List.set_cons_zero, List.set_cons_succ, i64_w, i32_w]; rfl
            exact Evt.ol_norm (by simp only [putAll, Act.put, List.setIfInBounds_toArray, List.set_cons_zero, List.set_cons_succ, i64_w, i32_w]; rfl) (JN (v6, v8, gT4, gT5) _ hHeld ⟨F1.out, F3.out, F4.out, GE4.out, F5.out, GE5.out, NE_4_5.out⟩)
        · refine Evt.k_alloc hK_ hHeld rfl rfl (cs := #[.slice none 0 0]) (t := 29) ?_ ?_
          · first | (go_simp; done) | (go_simp; rfl) | (go_simp; refine ⟨?_, ?_⟩ <;> rfl)
          intro gT5 w_ hg_ hB_ hb_ hH_
          have GE5 := Aside0.mk (show w1.heap.size ≤ gT5 from (by rw [hg_]; exact hHeld.out.size))
          have NE_4_5 := Aside0.mk (show gT4 ≠ gT5 from (by have h_ := F4.out.blk.lt; omega))
          clear hg_
          have n_F1 := Aside0.mk (F1.out.below hb_)
          have n_F4 := Aside0.mk (F4.out.below hb_)
          clear F1 F4
          have F1 := n_F1
          have F4 := n_F4
          clear n_F1 n_F4
          have F5 := Aside0.mk hB_
          clear hHeld hb_ hB_
          have hHeld := hH_
          clear hH_ hK_
          refine Evt.ol_norm (a' := ?_) ?_ ?_
          rotate_left
          · simp only [Act.put, List.setIfInBounds_toArray, List.set_cons_zero, List.set_cons_succ, i64_w, i32_w]; rfl
          refine Evt.ol_one (i := 3) [(6, none), (7, none)] HT_ rfl rfl (by kernel_rfl) (fun K_ hK_ => ?_)
          · refine Evt.k_call hK_ hHeld rfl Try.func30 (by kernel_rfl) rfl #[.agg #[.string a0, .slice A1 l1.length c1, .slice A2 l2.length c2, .string a3], .string ⟨#[82]⟩] (by rfl) rfl (by (try simp only [List.map_toArray, List.map_cons, List.map_nil]); first | done | rfl | (simp only [List.length_drop, List.length_take]; rfl)) ?_
            (with_reducible refine (anc_any _ (R.out.below hHeld.out) OK.out ⟨#[82]⟩).mono ?_)
            rintro e w_ ⟨v8, rfl, ho, hb_⟩
            have ho_ := Ro.lower (w0 := w1) ho hHeld.out.size; clear ho
            refine ⟨_, rfl, hb_, fun hH_ => ?_⟩
            have F3 := Aside0.mk (ho_)
            have n_F1 := Aside0.mk (F1.out.below hb_)
            have n_F4 := Aside0.mk (F4.out.below hb_)
            have n_F5 := Aside0.mk (F5.out.below hb_)
            clear F1 F4 F5
            have F1 := n_F1
            have F4 := n_F4
            have F5 := n_F5
            clear n_F1 n_F4 n_F5
            clear hHeld hb_
            have hHeld := hH_
            clear hH_ hK_
            refine Evt.ol_norm (a' := ?_) ?_ ?_
            rotate_left
            · simp only [Act.put, List.setIfInBounds_toArray, List.set_cons_zero, List.set_cons_succ, i64_w, i32_w]; rfl
            exact Evt.ol_norm (by simp only [putAll, Act.put, List.setIfInBounds_toArray, List.set_cons_zero, List.set_cons_succ, i64_w, i32_w]; rfl) (JN (v6, v8, gT4, gT5) _ hHeld ⟨F1.out, F3.out, F4.out, GE4.out, F5.out, GE5.out, NE_4_5.out⟩)
      · refine Evt.k_alloc hK_ hHeld rfl rfl (cs := #[.slice none 0 0]) (t := 29) ?_ ?_
        · first | (go_simp; done) | (go_simp; rfl) | (go_simp; refine ⟨?_, ?_⟩ <;> rfl)
        intro gT5 w_ hg_ hB_ hb_ hH_
        have GE5 := Aside0.mk (show w1.heap.size ≤ gT5 from (by rw [hg_]; exact hHeld.out.size))
        clear hg_
        have n_F1 := Aside0.mk (F1.out.below hb_)
        clear F1
        have F1 := n_F1
        clear n_F1
        have F5 := Aside0.mk hB_
        clear hHeld hb_ hB_
        have hHeld := hH_
        clear hH_ hK_
        refine Evt.ol_norm (a' := ?_) ?_ ?_
        rotate_left
        · simp only [Act.put, List.setIfInBounds_toArray, List.set_cons_zero, List.set_cons_succ, i64_w, i32_w]; rfl
        refine Evt.ol_two (i := 3) (j := 4) [(4, some 3), (6, none), (7, none)] [(3, some 8), (6, none), (7, none)] HT_ rfl rfl rfl rfl (by kernel_rfl) (fun K_ hK_ => ?_) (fun K_ hK_ => ?_)
        · refine Evt.k_call hK_ hHeld rfl Try.func30 (by kernel_rfl) rfl #[.agg #[.string a0, .slice A1 l1.length c1, .slice A2 l2.length c2, .string a3], .string ⟨#[82]⟩] (by rfl) rfl (by (try simp only [List.map_toArray, List.map_cons, List.map_nil]); first | done | rfl | (simp only [List.length_drop, List.length_take]; rfl)) ?_
          (with_reducible refine (anc_any _ (R.out.below hHeld.out) OK.out ⟨#[82]⟩).mono ?_)
          rintro e w_ ⟨v8, rfl, ho, hb_⟩
          have ho_ := Ro.lower (w0 := w1) ho hHeld.out.size; clear ho
          refine ⟨_, rfl, hb_, fun hH_ => ?_⟩
          have F3 := Aside0.mk (ho_)
          have n_F1 := Aside0.mk (F1.out.below hb_)
          have n_F5 := Aside0.mk (F5.out.below hb_)
          clear F1 F5
          have F1 := n_F1
          have F5 := n_F5
          clear n_F1 n_F5
          clear hHeld hb_
          have hHeld := hH_
          clear hH_ hK_
          refine Evt.ol_norm (a' := ?_) ?_ ?_
          rotate_left
          · simp only [Act.put, List.setIfInBounds_toArray, List.set_cons_zero, List.set_cons_succ, i64_w, i32_w]; rfl
          refine Evt.ol_one (i := 4) [(6, none), (7, none)] HT_ rfl rfl (by kernel_rfl) (fun K_ hK_ => ?_)
          · refine Evt.k_alloc hK_ hHeld rfl rfl (cs := #[.slice none 0 0]) (t := 29) ?_ ?_
            · first | (go_simp; done) | (go_simp; rfl) | (go_simp; refine ⟨?_, ?_⟩ <;> rfl)
            intro gT4 w_ hg_ hB_ hb_ hH_
            have GE4 := Aside0.mk (show w1.heap.size ≤ gT4 from (by rw [hg_]; exact hHeld.out.size))
            have NE_4_5 := Aside0.mk (show gT4 ≠ gT5 from (by have h_ := F5.out.blk.lt; omega))
            clear hg_
            have n_F1 := Aside0.mk (F1.out.below hb_)
            have n_F5 := Aside0.mk (F5.out.below hb_)
            have n_F3 := Aside0.mk (F3.out.below hb_)
            clear F1 F5 F3
            have F1 := n_F1
            have F5 := n_F5
            have F3 := n_F3
            clear n_F1 n_F5 n_F3
            have F4 := Aside0.mk hB_
            clear hHeld hb_ hB_
            have hHeld := hH_
            clear hH_ hK_
            refine Evt.ol_norm (a' := ?_) ?_ ?_
            rotate_left
            · simp only [Act.put, List.setIfInBounds_toArray, List.set_cons_zero, List.set_cons_succ, i64_w, i32_w]; rfl
            exact Evt.ol_norm (by simp only [putAll, Act.put, List.setIfInBounds_toArray, List.set_cons_zero, List.set_cons_succ, i64_w, i32_w]; rfl) (JN (v6, v8, gT4, gT5) _ hHeld ⟨F1.out, F3.out, F4.out, GE4.out, F5.out, GE5.out, NE_4_5.out⟩)
        · refine Evt.k_alloc hK_ hHeld rfl rfl (cs := #[.slice none 0 0]) (t := 29) ?_ ?_
          · first | (go_simp; done) | (go_simp; rfl) | (go_simp; refine ⟨?_, ?_⟩ <;> rfl)
          intro gT4 w_ hg_ hB_ hb_ hH_
          have GE4 := Aside0.mk (show w1.heap.size ≤ gT4 from (by rw [hg_]; exact hHeld.out.size))
          have NE_4_5 := Aside0.mk (show gT4 ≠ gT5 from (by have h_ := F5.out.blk.lt; omega))
          clear hg_
          have n_F1 := Aside0.mk (F1.out.below hb_)
          have n_F5 := Aside0.mk (F5.out.below hb_)
          clear F1 F5
          have F1 := n_F1
          have F5 := n_F5
          clear n_F1 n_F5
          have F4 := Aside0.mk hB_
          clear hHeld hb_ hB_
          have hHeld := hH_
          clear hH_ hK_
          refine Evt.ol_norm (a' := ?_) ?_ ?_
          rotate_left
          · simp only [Act.put, List.setIfInBounds_toArray, List.set_cons_zero, List.set_cons_succ, i64_w, i32_w]; rfl
          refine Evt.ol_one (i := 3) [(6, none), (7, none)] HT_ rfl rfl (by kernel_rfl) (fun K_ hK_ => ?_)
          · refine Evt.k_call hK_ hHeld rfl Try.func30 (by kernel_rfl) rfl #[.agg #[.string a0, .slice A1 l1.length c1, .slice A2 l2.length c2, .string a3], .string ⟨#[82]⟩] (by rfl) rfl (by (try simp only [List.map_toArray, List.map_cons, List.map_nil]); first | done | rfl | (simp only [List.length_drop, List.length_take]; rfl)) ?_
            (with_reducible refine (anc_any _ (R.out.below hHeld.out) OK.out ⟨#[82]⟩).mono ?_)
            rintro e w_ ⟨v8, rfl, ho, hb_⟩
            have ho_ := Ro.lower (w0 := w1) ho hHeld.out.size; clear ho
            refine ⟨_, rfl, hb_, fun hH_ => ?_⟩
            have F3 := Aside0.mk (ho_)
            have n_F1 := Aside0.mk (F1.out.below hb_)
            have n_F5 := Aside0.mk (F5.out.below hb_)
            have n_F4 := Aside0.mk (F4.out.below hb_)
            clear F1 F5 F4
            have F1 := n_F1
            have F5 := n_F5
            have F4 := n_F4
            clear n_F1 n_F5 n_F4
            clear hHeld hb_
            have hHeld := hH_
            clear hH_ hK_
            refine Evt.ol_norm (a' := ?_) ?_ ?_
            rotate_left
            · simp only [Act.put, List.setIfInBounds_toArray, List.set_cons_zero, List.set_cons_succ, i64_w, i32_w]; rfl
            exact Evt.ol_norm (by simp only [putAll, Act.put, List.setIfInBounds_toArray, List.set_cons_zero, List.set_cons_succ, i64_w, i32_w]; rfl) (JN (v6, v8, gT4, gT5) _ hHeld ⟨F1.out, F3.out, F4.out, GE4.out, F5.out, GE5.out, NE_4_5.out⟩)
    · refine Evt.k_alloc hK_ hHeld rfl rfl (cs := #[.slice none 0 0]) (t := 29) ?_ ?_
      · first | (go_simp; done) | (go_simp; rfl) | (go_simp; refine ⟨?_, ?_⟩ <;> rfl)
      intro gT4 w_ hg_ hB_ hb_ hH_
      have GE4 := Aside0.mk (show w1.heap.size ≤ gT4 from (by rw [hg_]; exact hHeld.out.size))
      clear hg_
      have F4 := Aside0.mk hB_
      clear hHeld hb_ hB_
      have hHeld := hH_
      clear hH_ hK_
      refine Evt.ol_norm (a' := ?_) ?_ ?_
      rotate_left
      · simp only [Act.put, List.setIfInBounds_toArray, List.set_cons_zero, List.set_cons_succ, i64_w, i32_w]; rfl
      refine Evt.ol_two (i := 1) (j := 5) [(3, some 8), (5, some 4), (6, none), (7, none)] [(1, some 6), (3, some 8), (6, none), (7, none)] HT_ rfl rfl rfl rfl (by kernel_rfl) (fun K_ hK_ => ?_) (fun K_ hK_ => ?_)
      · refine Evt.k_call hK_ hHeld rfl Try.func27 (by kernel_rfl) rfl #[.agg #[.string a0, .slice A1 l1.length c1, .slice A2 l2.length c2, .string a3], .string ⟨#[76]⟩] (by rfl) rfl (by (try simp only [List.map_toArray, List.map_cons, List.map_nil]); first | done | rfl | (simp only [List.length_drop, List.length_take]; rfl)) ?_
        (with_reducible refine (reach_any _ (R.out.below hHeld.out) OK.out ⟨#[76]⟩).mono ?_)
        rintro e w_ ⟨v6, rfl, ho, hb_⟩
        have ho_ := Ro.lower (w0 := w1) ho hHeld.out.size; clear ho
        refine ⟨_, rfl, hb_, fun hH_ => ?_⟩
        have F1 := Aside0.mk (ho_)
        have n_F4 := Aside0.mk (F4.out.below hb_)
        clear F4
        have F4 := n_F4
        clear n_F4
        clear hHeld hb_
        have hHeld := hH_
        clear hH_ hK_
        refine Evt.ol_norm (a' := ?_) ?_ ?_
        rotate_left
        · simp only [Act.put, List.setIfInBounds_toArray, List.set_cons_zero, List.set_cons_succ, i64_w, i32_w]; rfl
        refine Evt.ol_two (i := 3) (j := 5) [(5, some 4), (6, none), (7, none)] [(3, some 8), (6, none), (7, none)] HT_ rfl rfl rfl rfl (by kernel_rfl) (fun K_ hK_ => ?_) (fun K_ hK_ => ?_)
        · refine Evt.k_call hK_ hHeld rfl Try.func30 (by kernel_rfl) rfl #[.agg #[.string a0, .slice A1 l1.length c1, .slice A2 l2.length c2, .string a3], .string ⟨#[82]⟩] (by rfl) rfl (by (try simp only [List.map_toArray, List.map_cons, List.map_nil]); first | done | rfl | (simp only [List.length_drop, List.length_take]; rfl)) ?_
          (with_reducible refine (anc_any _ (R.out.below hHeld.out) OK.out ⟨#[82]⟩).mono ?_)
          rintro e w_ ⟨v8, rfl, ho, hb_⟩
          have ho_ := Ro.lower (w0 := w1) ho hHeld.out.size; clear ho
          refine ⟨_, rfl, hb_, fun hH_ => ?_⟩
          have F3 := Aside0.mk (ho_)
          have n_F4 := Aside0.mk (F4.out.below hb_)
          have n_F1 := Aside0.mk (F1.out.below hb_)
          clear F4 F1
          have F4 := n_F4
          have F1 := n_F1
          clear n_F4 n_F1
          clear hHeld hb_
          have hHeld := hH_
          clear hH_ hK_
          refine Evt.ol_norm (a' := ?_) ?_ ?_
          rotate_left
          · simp only [Act.put, List.setIfInBounds_toArray, List.set_cons_zero, List.set_cons_succ, i64_w, i32_w]; rfl
          refine Evt.ol_one (i := 5) [(6, none), (7, none)] HT_ rfl rfl (by kernel_rfl) (fun K_ hK_ => ?_)
          · refine Evt.k_alloc hK_ hHeld rfl rfl (cs := #[.slice none 0 0]) (t := 29) ?_ ?_
            · first | (go_simp; done) | (go_simp; rfl) | (go_simp; refine ⟨?_, ?_⟩ <;> rfl)
            intro gT5 w_ hg_ hB_ hb_ hH_
            have GE5 := Aside0.mk (show w1.heap.size ≤ gT5 from (by rw [hg_]; exact hHeld.out.size))
            have NE_4_5 := Aside0.mk (show gT4 ≠ gT5 from (by have h_ := F4.out.blk.lt; omega))
            clear hg_
            have n_F4 := Aside0.mk (F4.out.below hb_)
            have n_F1 := Aside0.mk (F1.out.below hb_)
            have n_F3 := Aside0.mk (F3.out.below hb_)
            clear F4 F1 F3
            have F4 := n_F4
            have F1 := n_F1
            have F3 := n_F3
            clear n_F4 n_F1 n_F3
            have F5 := Aside0.mk hB_
            clear hHeld hb_ hB_
            have hHeld := hH_
            clear hH_ hK_
            refine Evt.ol_norm (a' := ?_) ?_ ?_
            rotate_left
            · simp only [Act.put, List.setIfInBounds_toArray, List.set_cons_zero, List.set_cons_succ, i64_w, i32_w]; rfl
            exact Evt.ol_norm (by simp only [putAll, Act.put, List.setIfInBounds_toArray, List.set_cons_zero, List.set_cons_succ, i64_w, i32_w]; rfl) (JN (v6, v8, gT4, gT5) _ hHeld ⟨F1.out, F3.out, F4.out, GE4.out, F5.out, GE5.out, NE_4_5.out⟩)
        · refine Evt.k_alloc hK_ hHeld rfl rfl (cs := #[.slice none 0 0]) (t := 29) ?_ ?_
          · first | (go_simp; done) | (go_simp; rfl) | (go_simp; refine ⟨?_, ?_⟩ <;> rfl)
          intro gT5 w_ hg_ hB_ hb_ hH_
          have GE5 := Aside0.mk (show w1.heap.size ≤ gT5 from (by rw [hg_]; exact hHeld.out.size))
          have NE_4_5 := Aside0.mk (show gT4 ≠ gT5 from (by have h_ := F4.out.blk.lt; omega))
          clear hg_
          have n_F4 := Aside0.mk (F4.out.below hb_)
          have n_F1 := Aside0.mk (F1.out.below hb_)
          clear F4 F1
          have F4 := n_F4
          have F1 := n_F1
          clear n_F4 n_F1
          have F5 := Aside0.mk hB_
          clear hHeld hb_ hB_
          have hHeld := hH_
          clear hH_ hK_
          refine Evt.ol_norm (a' := ?_) ?_ ?_
          rotate_left
          · simp only [Act.put, List.setIfInBounds_toArray, List.set_cons_zero, List.set_cons_succ, i64_w, i32_w]; rfl
          refine Evt.ol_one (i := 3) [(6, none), (7, none)] HT_ rfl rfl (by kernel_rfl) (fun K_ hK_ => ?_)
          · refine Evt.k_call hK_ hHeld rfl Try.func30 (by kernel_rfl) rfl #[.agg #[.string a0, .slice A1 l1.length c1, .slice A2 l2.length c2, .string a3], .string ⟨#[82]⟩] (by rfl) rfl (by (try simp only [List.map_toArray, List.map_cons, List.map_nil]); first | done | rfl | (simp only [List.length_drop, List.length_take]; rfl)) ?_
            (with_reducible refine (anc_any _ (R.out.below hHeld.out) OK.out ⟨#[82]⟩).mono ?_)
            rintro e w_ ⟨v8, rfl, ho, hb_⟩
            have ho_ := Ro.lower (w0 := w1) ho hHeld.out.size; clear ho
            refine ⟨_, rfl, hb_, fun hH_ => ?_⟩
            have F3 := Aside0.mk (ho_)
            have n_F4 := Aside0.mk (F4.out.below hb_)
            have n_F1 := Aside0.mk (F1.out.below hb_)
            have n_F5 := Aside0.mk (F5.out.below hb_)
            clear F4 F1 F5
            have F4 := n_F4
            have F1 := n_F1
            have F5 := n_F5
            clear n_F4 n_F1 n_F5
            clear hHeld hb_
            have hHeld := hH_
            clear hH_ hK_
            refine Evt.ol_norm (a' := ?_) ?_ ?_
            rotate_left
            · simp only [Act.put, List.setIfInBounds_toArray, List.set_cons_zero, List.set_cons_succ, i64_w, i32_w]; rfl
            exact Evt.ol_norm (by simp only [putAll, Act.put, List.setIfInBounds_toArray, List.set_cons_zero, List.set_cons_succ, i64_w, i32_w]; rfl) (JN (v6, v8, gT4, gT5) _ hHeld ⟨F1.out, F3.out, F4.out, GE4.out, F5.out, GE5.out, NE_4_5.out⟩)
      · refine Evt.k_alloc hK_ hHeld rfl rfl (cs := #[.slice none 0 0]) (t := 29) ?_ ?_
        · first | (go_simp; done) | (go_simp; rfl) | (go_simp; refine ⟨?_, ?_⟩ <;> rfl)
        intro gT5 w_ hg_ hB_ hb_ hH_
        have GE5 := Aside0.mk (show w1.heap.size ≤ gT5 from (by rw [hg_]; exact hHeld.out.size))
        have NE_4_5 := Aside0.mk (show gT4 ≠ gT5 from (by have h_ := F4.out.blk.lt; omega))
        clear hg_
        have n_F4 := Aside0.mk (F4.out.below hb_)
        clear F4
        have F4 := n_F4
        clear n_F4
        have F5 := Aside0.mk hB_
        clear hHeld hb_ hB_
        have hHeld := hH_
        clear hH_ hK_
        refine Evt.ol_norm (a' := ?_) ?_ ?_
        rotate_left
        · simp only [Act.put, List.setIfInBounds_toArray, List.set_cons_zero, List.set_cons_succ, i64_w, i32_w]; rfl
        refine Evt.ol_one (i := 1) [(3, some 8), (6, none), (7, none)] HT_ rfl rfl (by kernel_rfl) (fun K_ hK_ => ?_)
        · refine Evt.k_call hK_ hHeld rfl Try.func27 (by kernel_rfl) rfl #[.agg #[.string a0, .slice A1 l1.length c1, .slice A2 l2.length c2, .string a3], .string ⟨#[76]⟩] (by rfl) rfl (by (try simp only [List.map_toArray, List.map_cons, List.map_nil]); first | done | rfl | (simp only [List.length_drop, List.length_take]; rfl)) ?_
          (with_reducible refine (reach_any _ (R.out.below hHeld.out) OK.out ⟨#[76]⟩).mono ?_)
          rintro e w_ ⟨v6, rfl, ho, hb_⟩
          have ho_ := Ro.lower (w0 := w1) ho hHeld.out.size; clear ho
          refine ⟨_, rfl, hb_, fun hH_ => ?_⟩
          have F1 := Aside0.mk (ho_)
          have n_F4 := Aside0.mk (F4.out.below hb_)
          have n_F5 := Aside0.mk (F5.out.below hb_)
          clear F4 F5
          have F4 := n_F4
          have F5 := n_F5
          clear n_F4 n_F5
          clear hHeld hb_
          have hHeld := hH_
          clear hH_ hK_
          refine Evt.ol_norm (a' := ?_) ?_ ?_
          rotate_left
          · simp only [Act.put, List.setIfInBounds_toArray, List.set_cons_zero, List.set_cons_succ, i64_w, i32_w]; rfl
          refine Evt.ol_one (i := 3) [(6, none), (7, none)] HT_ rfl rfl (by kernel_rfl) (fun K_ hK_ => ?_)
          · refine Evt.k_call hK_ hHeld rfl Try.func30 (by kernel_rfl) rfl #[.agg #[.string a0, .slice A1 l1.length c1, .slice A2 l2.length c2, .string a3], .string ⟨#[82]⟩] (by rfl) rfl (by (try simp only [List.map_toArray, List.map_cons, List.map_nil]); first | done | rfl | (simp only [List.length_drop, List.length_take]; rfl)) ?_
            (with_reducible refine (anc_any _ (R.out.below hHeld.out) OK.out ⟨#[82]⟩).mono ?_)
            rintro e w_ ⟨v8, rfl, ho, hb_⟩
            have ho_ := Ro.lower (w0 := w1) ho hHeld.out.size; clear ho
            refine ⟨_, rfl, hb_, fun hH_ => ?_⟩
            have F3 := Aside0.mk (ho_)
            have n_F4 := Aside0.mk (F4.out.below hb_)
            have n_F5 := Aside0.mk (F5.out.below hb_)
            have n_F1 := Aside0.mk (F1.out.below hb_)
            clear F4 F5 F1
            have F4 := n_F4
            have F5 := n_F5
            have F1 := n_F1
            clear n_F4 n_F5 n_F1
            clear hHeld hb_
            have hHeld := hH_
            clear hH_ hK_
            refine Evt.ol_norm (a' := ?_) ?_ ?_
            rotate_left
            · simp only [Act.put, List.setIfInBounds_toArray, List.set_cons_zero, List.set_cons_succ, i64_w, i32_w]; rfl
            exact Evt.ol_norm (by simp only [putAll, Act.put, List.setIfInBounds_toArray, List.set_cons_zero, List.set_cons_succ, i64_w, i32_w]; rfl) (JN (v6, v8, gT4, gT5) _ hHeld ⟨F1.out, F3.out, F4.out, GE4.out, F5.out, GE5.out, NE_4_5.out⟩)
    · refine Evt.k_alloc hK_ hHeld rfl rfl (cs := #[.slice none 0 0]) (t := 29) ?_ ?_
      · first | (go_simp; done) | (go_simp; rfl) | (go_simp; refine ⟨?_, ?_⟩ <;> rfl)
      intro gT5 w_ hg_ hB_ hb_ hH_
      have GE5 := Aside0.mk (show w1.heap.size ≤ gT5 from (by rw [hg_]; exact hHeld.out.size))
      clear hg_
      have F5 := Aside0.mk hB_
      clear hHeld hb_ hB_
      have hHeld := hH_
      clear hH_ hK_
      refine Evt.ol_norm (a' := ?_) ?_ ?_
      rotate_left
      · simp only [Act.put, List.setIfInBounds_toArray, List.set_cons_zero, List.set_cons_succ, i64_w, i32_w]; rfl
      refine Evt.ol_two (i := 1) (j := 4) [(3, some 8), (4, some 3), (6, none), (7, none)] [(1, some 6), (3, some 8), (6, none), (7, none)] HT_ rfl rfl rfl rfl (by kernel_rfl) (fun K_ hK_ => ?_) (fun K_ hK_ => ?_)
      · refine Evt.k_call hK_ hHeld rfl Try.func27 (by kernel_rfl) rfl #[.agg #[.string a0, .slice A1 l1.length c1, .slice A2 l2.length c2, .string a3], .string ⟨#[76]⟩] (by rfl) rfl (by (try simp only [List.map_toArray, List.map_cons, List.map_nil]); first | done | rfl | (simp only [List.length_drop, List.length_take]; rfl)) ?_
        (with_reducible refine (reach_any _ (R.out.below hHeld.out) OK.out ⟨#[76]⟩).mono ?_)
        rintro e w_ ⟨v6, rfl, ho, hb_⟩
        have ho_ := Ro.lower (w0 := w1) ho hHeld.out.size; clear ho
        refine ⟨_, rfl, hb_, fun hH_ => ?_⟩
        have F1 := Aside0.mk (ho_)
        have n_F5 := Aside0.mk (F5.out.below hb_)
        clear F5
        have F5 := n_F5
        clear n_F5
        clear hHeld hb_
        have hHeld := hH_
        clear hH_ hK_
        refine Evt.ol_norm (a' := ?_) ?_ ?_
        rotate_left
        · simp only [Act.put, List.setIfInBounds_toArray, List.set_cons_zero, List.set_cons_succ, i64_w, i32_w]; rfl
        refine Evt.ol_two (i := 3) (j := 4) [(4, some 3), (6, none), (7, none)] [(3, some 8), (6, none), (7, none)] HT_ rfl rfl rfl rfl (by kernel_rfl) (fun K_ hK_ => ?_) (fun K_ hK_ => ?_)
        · refine Evt.k_call hK_ hHeld rfl Try.func30 (by kernel_rfl) rfl #[.agg #[.string a0, .slice A1 l1.length c1, .slice A2 l2.length c2, .string a3], .string ⟨#[82]⟩] (by rfl) rfl (by (try simp only [List.map_toArray, List.map_cons, List.map_nil]); first | done | rfl | (simp only [List.length_drop, List.length_take]; rfl)) ?_
          (with_reducible refine (anc_any _ (R.out.below hHeld.out) OK.out ⟨#[82]⟩).mono ?_)
          rintro e w_ ⟨v8, rfl, ho, hb_⟩
          have ho_ := Ro.lower (w0 := w1) ho hHeld.out.size; clear ho
          refine ⟨_, rfl, hb_, fun hH_ => ?_⟩
          have F3 := Aside0.mk (ho_)
          have n_F5 := Aside0.mk (F5.out.below hb_)
          have n_F1 := Aside0.mk (F1.out.below hb_)
          clear F5 F1
          have F5 := n_F5
          have F1 := n_F1
          clear n_F5 n_F1
          clear hHeld hb_
          have hHeld := hH_
          clear hH_ hK_
          refine Evt.ol_norm (a' := ?_) ?_ ?_
          rotate_left
          · simp only [Act.put, List.setIfInBounds_toArray, List.set_cons_zero, List.set_cons_succ, i64_w, i32_w]; rfl
          refine Evt.ol_one (i := 4) [(6, none), (7, none)] HT_ rfl rfl (by kernel_rfl) (fun K_ hK_ => ?_)
          · refine Evt.k_alloc hK_ hHeld rfl rfl (cs := #[.slice none 0 0]) (t := 29) ?_ ?_
            · first | (go_simp; done) | (go_simp; rfl) | (go_simp; refine ⟨?_, ?_⟩ <;> rfl)
            intro gT4 w_ hg_ hB_ hb_ hH_
            have GE4 := Aside0.mk (show w1.heap.size ≤ gT4 from (by rw [hg_]; exact hHeld.out.size))
            have NE_4_5 := Aside0.mk (show gT4 ≠ gT5 from (by have h_ := F5.out.blk.lt; omega))
            clear hg_
            have n_F5 := Aside0.mk (F5.out.below hb_)
            have n_F1 := Aside0.mk (F1.out.below hb_)
            have n_F3 := Aside0.mk (F3.out.below hb_)
            clear F5 F1 F3
            have F5 := n_F5
            have F1 := n_F1
            have F3 := n_F3
            clear n_F5 n_F1 n_F3
            have F4 := Aside0.mk hB_
            clear hHeld hb_ hB_
            have hHeld := hH_
            clear hH_ hK_
            refine Evt.ol_norm (a' := ?_) ?_ ?_
            rotate_left
            · simp only [Act.put, List.setIfInBounds_toArray, List.set_cons_zero, List.set_cons_succ, i64_w, i32_w]; rfl
            exact Evt.ol_norm (by simp only [putAll, Act.put, List.setIfInBounds_toArray, List.set_cons_zero, List.set_cons_succ, i64_w, i32_w]; rfl) (JN (v6, v8, gT4, gT5) _ hHeld ⟨F1.out, F3.out, F4.out, GE4.out, F5.out, GE5.out, NE_4_5.out⟩)
        · refine Evt.k_alloc hK_ hHeld rfl rfl (cs := #[.slice none 0 0]) (t := 29) ?_ ?_
          · first | (go_simp; done) | (go_simp; rfl) | (go_simp; refine ⟨?_, ?_⟩ <;> rfl)
          intro gT4 w_ hg_ hB_ hb_ hH_
          have GE4 := Aside0.mk (show w1.heap.size ≤ gT4 from (by rw [hg_]; exact hHeld.out.size))
          have NE_4_5 := Aside0.mk (show gT4 ≠ gT5 from (by have h_ := F5.out.blk.lt; omega))
          clear hg_
          have n_F5 := Aside0.mk (F5.out.below hb_)
          have n_F1 := Aside0.mk (F1.out.below hb_)
          clear F5 F1
          have F5 := n_F5
          have F1 := n_F1
          clear n_F5 n_F1
          have F4 := Aside0.mk hB_
          clear hHeld hb_ hB_
          have hHeld := hH_
          clear hH_ hK_
          refine Evt.ol_norm (a' := ?_) ?_ ?_
          rotate_left
          · simp only [Act.put, List.setIfInBounds_toArray, List.set_cons_zero, List.set_cons_succ, i64_w, i32_w]; rfl
          refine Evt.ol_one (i := 3) [(6, none), (7, none)] HT_ rfl rfl (by kernel_rfl) (fun K_ hK_ => ?_)
          · refine Evt.k_call hK_ hHeld rfl Try.func30 (by kernel_rfl) rfl #[.agg #[.string a0, .slice A1 l1.length c1, .slice A2 l2.length c2, .string a3], .string ⟨#[82]⟩] (by rfl) rfl (by (try simp only [List.map_toArray, List.map_cons, List.map_nil]); first | done | rfl | (simp only [List.length_drop, List.length_take]; rfl)) ?_
            (with_reducible refine (anc_any _ (R.out.below hHeld.out) OK.out ⟨#[82]⟩).mono ?_)
            rintro e w_ ⟨v8, rfl, ho, hb_⟩
            have ho_ := Ro.lower (w0 := w1) ho hHeld.out.size; clear ho
            refine ⟨_, rfl, hb_, fun hH_ => ?_⟩
            have F3 := Aside0.mk (ho_)
            have n_F5 := Aside0.mk (F5.out.below hb_)
            have n_F1 := Aside0.mk (F1.out.below hb_)
            have n_F4 := Aside0.mk (F4.out.below hb_)
            clear F5 F1 F4
            have F5 := n_F5
            have F1 := n_F1
            have F4 := n_F4
            clear n_F5 n_F1 n_F4
            clear hHeld hb_
            have hHeld := hH_
            clear hH_ hK_
            refine Evt.ol_norm (a' := ?_) ?_ ?_
            rotate_left
            · simp only [Act.put, List.setIfInBounds_toArray, List.set_cons_zero, List.set_cons_succ, i64_w, i32_w]; rfl
            exact Evt.ol_norm (by simp only [putAll, Act.put, List.setIfInBounds_toArray, List.set_cons_zero, List.set_cons_succ, i64_w, i32_w]; rfl) (JN (v6, v8, gT4, gT5) _ hHeld ⟨F1.out, F3.out, F4.out, GE4.out, F5.out, GE5.out, NE_4_5.out⟩)
      · refine Evt.k_alloc hK_ hHeld rfl rfl (cs := #[.slice none 0 0]) (t := 29) ?_ ?_
        · first | (go_simp; done) | (go_simp; rfl) | (go_simp; refine ⟨?_, ?_⟩ <;> rfl)
        intro gT4 w_ hg_ hB_ hb_ hH_
        have GE4 := Aside0.mk (show w1.heap.size ≤ gT4 from (by rw [hg_]; exact hHeld.out.size))
        have NE_4_5 := Aside0.mk (show gT4 ≠ gT5 from (by have h_ := F5.out.blk.lt; omega))
        clear hg_
        have n_F5 := Aside0.mk (F5.out.below hb_)
        clear F5
        have F5 := n_F5
        clear n_F5
        have F4 := Aside0.mk hB_
        clear hHeld hb_ hB_
        have hHeld := hH_
        clear hH_ hK_
        refine Evt.ol_norm (a' := ?_) ?_ ?_
        rotate_left
        · simp only [Act.put, List.setIfInBounds_toArray, List.set_cons_zero, List.set_cons_succ, i64_w, i32_w]; rfl
        refine Evt.ol_one (i := 1) [(3, some 8), (6, none), (7, none)] HT_ rfl rfl (by kernel_rfl) (fun K_ hK_ => ?_)
        · refine Evt.k_call hK_ hHeld rfl Try.func27 (by kernel_rfl) rfl #[.agg #[.string a0, .slice A1 l1.length c1, .slice A2 l2.length c2, .string a3], .string ⟨#[76]⟩] (by rfl) rfl (by (try simp only [List.map_toArray, List.map_cons, List.map_nil]); first | done | rfl | (simp only [List.length_drop, List.length_take]; rfl)) ?_
          (with_reducible refine (reach_any _ (R.out.below hHeld.out) OK.out ⟨#[76]⟩).mono ?_)
          rintro e w_ ⟨v6, rfl, ho, hb_⟩
          have ho_ := Ro.lower (w0 := w1) ho hHeld.out.size; clear ho
          refine ⟨_, rfl, hb_, fun hH_ => ?_⟩
          have F1 := Aside0.mk (ho_)
          have n_F5 := Aside0.mk (F5.out.below hb_)
          have n_F4 := Aside0.mk (F4.out.below hb_)
          clear F5 F4
          have F5 := n_F5
          have F4 := n_F4
          clear n_F5 n_F4
          clear hHeld hb_
          have hHeld := hH_
          clear hH_ hK_
          refine Evt.ol_norm (a' := ?_) ?_ ?_
          rotate_left
          · simp only [Act.put, List.setIfInBounds_toArray, List.set_cons_zero, List.set_cons_succ, i64_w, i32_w]; rfl
          refine Evt.ol_one (i := 3) [(6, none), (7, none)] HT_ rfl rfl (by kernel_rfl) (fun K_ hK_ => ?_)
          · refine Evt.k_call hK_ hHeld rfl Try.func30 (by kernel_rfl) rfl #[.agg #[.string a0, .slice A1 l1.length c1, .slice A2 l2.length c2, .string a3], .string ⟨#[82]⟩] (by rfl) rfl (by (try simp only [List.map_toArray, List.map_cons, List.map_nil]); first | done | rfl | (simp only [List.length_drop, List.length_take]; rfl)) ?_
            (with_reducible refine (anc_any _ (R.out.below hHeld.out) OK.out ⟨#[82]⟩).mono ?_)
            rintro e w_ ⟨v8, rfl, ho, hb_⟩
            have ho_ := Ro.lower (w0 := w1) ho hHeld.out.size; clear ho
            refine ⟨_, rfl, hb_, fun hH_ => ?_⟩
            have F3 := Aside0.mk (ho_)
            have n_F5 := Aside0.mk (F5.out.below hb_)
            have n_F4 := Aside0.mk (F4.out.below hb_)
            have n_F1 := Aside0.mk (F1.out.below hb_)
            clear F5 F4 F1
            have F5 := n_F5
            have F4 := n_F4
            have F1 := n_F1
            clear n_F5 n_F4 n_F1
            clear hHeld hb_
            have hHeld := hH_
            clear hH_ hK_
            refine Evt.ol_norm (a' := ?_) ?_ ?_
            rotate_left
            · simp only [Act.put, List.setIfInBounds_toArray, List.set_cons_zero, List.set_cons_succ, i64_w, i32_w]; rfl
            exact Evt.ol_norm (by simp only [putAll, Act.put, List.setIfInBounds_toArray, List.set_cons_zero, List.set_cons_succ, i64_w, i32_w]; rfl) (JN (v6, v8, gT4, gT5) _ hHeld ⟨F1.out, F3.out, F4.out, GE4.out, F5.out, GE5.out, NE_4_5.out⟩)
  rintro ⟨v6, v8, gT4, gT5⟩ w_ hHeld ⟨f_F1, f_F3, f_F4, f_GE4, f_F5, f_GE5, f_NE_4_5⟩
  have F1 := Aside0.mk f_F1
  have F3 := Aside0.mk f_F3
  have F4 := Aside0.mk f_F4
  have GE4 := Aside0.mk f_GE4
  have F5 := Aside0.mk f_F5
  have GE5 := Aside0.mk f_GE5
  have NE_4_5 := Aside0.mk f_NE_4_5
  clear f_F1 f_F3 f_F4 f_GE4 f_F5 f_GE5 f_NE_4_5
  refine Evt.ol_norm (a' := ?_) ?_ ?_
  rotate_left
  · simp only [putAll, Act.put, List.setIfInBounds_toArray, List.set_cons_zero, List.set_cons_succ, i64_w, i32_w]; rfl
  obtain ⟨X6, x6, e6, _⟩ := Ro.sliceS F1.out
  subst e6
  obtain ⟨X8, x8, e8, _⟩ := Ro.sliceS F3.out
  subst e8
  refine Evt.ol_set (i := 6) [(7, none)] HT_ hHeld rfl rfl (by kernel_rfl) (by rfl) (v := .slice X6 (reachL (es l1) ⟨#[76]⟩).length x6) F4.out GE4.out ?_ ?_
  · have z_ := F4.out.blk.cell 0 rfl
    have fz_ := F4.out.blk.frozen 0
    first | (go_simp; done) | (go_simp; rfl)
  intro wa B4 hga hHa
  have G1 := Aside0.mk (other_row F1.out F4.out hga)
  have G3 := Aside0.mk (other_row F3.out F4.out hga)
  have G5 := Aside0.mk (F5.out.grown hga (fun e => NE_4_5.out (by injection e with e; exact e.symm)))
  have G4 := Aside0.mk B4
  clear F1 F3 F4 F5 B4 hga hHeld
  refine Evt.ol_set (i := 7) [] HT_ hHa rfl rfl (by kernel_rfl) (by rfl) (v := .slice X8 (ancL (es l1) ⟨#[82]⟩).length x8) G5.out GE5.out ?_ ?_
  · have z_ := G5.out.blk.cell 0 rfl
    have fz_ := G5.out.blk.frozen 0
    first | (go_simp; done) | (go_simp; rfl)
  intro wb B5 hgb hHb
  have H1 := Aside0.mk (other_row G1.out G5.out hgb)
  have H3 := Aside0.mk (other_row G3.out G5.out hgb)
  have H4 := Aside0.mk (G4.out.grown hgb (fun e => NE_4_5.out (by injection e with e)))
  have H5 := Aside0.mk B5
  clear G1 G3 G4 G5 B5 hgb hHa
  refine Evt.ol_done HT_ (by kernel_rfl) ?_
  have R2 := Aside0.mk (R.out.below hHb.out)
  have B2 := Aside0.mk (BK1.out.below hHb.out)
  have HB2 := Aside0.mk (below_step HB.out hHb.out)
  clear R BK1 HB KP HT_ HW_
  have K1 : Aside0 (∀ k, (Value.slice X6 (reachL (es l1) ⟨#[76]⟩).length x6).ownBlock = some k → k < wb.heap.size) := ⟨Kd.R_lt H1.out.row⟩
  have K3 : Aside0 (∀ k, (Value.slice X8 (ancL (es l1) ⟨#[82]⟩).length x8).ownBlock = some k → k < wb.heap.size) := ⟨Kd.R_lt H3.out.row⟩
  have NL := Aside0.mk (nodesL_len (es l1))
  have LO := okG_len OK.out
  have LR : Aside0 ((reachL (es l1) ⟨#[76]⟩).length ≤ 1000000) := ⟨by have := gath_len (es l1) (sucL (es l1)) ⟨#[76]⟩; have := NL.out; unfold reachL; omega⟩
  have LA : Aside0 ((ancL (es l1) ⟨#[82]⟩).length ≤ 1000000) := ⟨by have := gath_len (es l1) (preL (es l1)) ⟨#[82]⟩; have := NL.out; unfold ancL; omega⟩
  have LN : Aside0 ((nodesL (es l1)).length ≤ 1000000) := ⟨by have := NL.out; omega⟩
  have SZ : Aside0 (∀ x ∈ nodesL (es l1), x.size ≤ 100000) := Aside0.mk (fun x hx => nodesL_size OK.out hx)
  have hmf : ∀ (fn : Fn) (first cap : Array Value) (w : World), (Instr.makeFunc fn first cap).run Try.prog w = .ok (.func fn first cap) w := fun _ _ _ _ => rfl
  have HB := Aside0.mk (Below.refl wb.heap.size wb)
  have R := Aside0.mk (R2.out)
  have H1 := Aside0.mk (H1.out)
  have H3 := Aside0.mk (H3.out)
  have H4 := Aside0.mk (H4.out)
  have H5 := Aside0.mk (H5.out)
  have BK1 : Aside0 (Bk wb g1 25 #[.string a0, .slice A1 l1.length c1, .slice A2 l2.length c2, .string a3]) := Aside0.mk (B2.out)
  clear R2 B2
  have zBK1_0 : wb.cell? ⟨g1, 0, none⟩ = some (.string a0) := (blk_cell BK1.out.blk 0).trans rfl
  have zBK1_1 : wb.cell? ⟨g1, 1, none⟩ = some (.slice A1 l1.length c1) := (blk_cell BK1.out.blk 1).trans rfl
  have zBK1_2 : wb.cell? ⟨g1, 2, none⟩ = some (.slice A2 l2.length c2) := (blk_cell BK1.out.blk 2).trans rfl
  have zBK1_3 : wb.cell? ⟨g1, 3, none⟩ = some (.string a3) := (blk_cell BK1.out.blk 3).trans rfl
  go_wp2_with (first | ((with_reducible refine gate_callee (f := 18) rfl ?_); refine goesL_ (some 10) rfl rfl Try.func18 (by kernel_rfl) rfl #[.agg #[.string a0, .slice A1 l1.length c1, .slice A2 l2.length c2, .string a3]] rfl (by (try simp only [List.map_toArray, List.map_cons, List.map_nil]); first | done | rfl | (simp only [List.length_drop, List.length_take]; rfl)) ?_; (with_reducible refine (nodes_any _ (R.out.below (by repeat (first | (with_reducible first | exact Below.refl _ _ | apply below_alloc | apply pw_below_drewN | apply below_drew1) | exact Below.refl _ _))) OK.out).mono ?_); rintro e w1 ⟨v, rfl, ho, hb⟩; have hbx : Below wb.heap.size wb w1 := below_step (by repeat (first | (with_reducible first | exact Below.refl _ _ | apply below_alloc | apply pw_below_drewN | apply below_drew1) | exact Below.refl _ _)) hb; have ho_ := Ro.lower ho (below_size (below_step HB.out (by repeat (first | (with_reducible first | exact Below.refl _ _ | apply below_alloc | apply pw_below_drewN | apply below_drew1) | exact Below.refl _ _)))); clear zBK1_0 zBK1_1 zBK1_2 zBK1_3; have n_R := Aside0.mk (R.out.below hbx); have n_H1 := Aside0.mk (H1.out.below hbx); have n_H3 := Aside0.mk (H3.out.below hbx); have n_H4 := Aside0.mk (H4.out.below hbx); have n_H5 := Aside0.mk (H5.out.below hbx); have n_BK1 := Aside0.mk (BK1.out.below hbx); have n_HB := Aside0.mk (below_step HB.out hbx); clear HB R H1 H3 H4 H5 BK1; have R := n_R; have H1 := n_H1; have H3 := n_H3; have H4 := n_H4; have H5 := n_H5; have BK1 := n_BK1; have HB := n_HB; clear hbx n_R n_H1 n_H3 n_H4 n_H5 n_BK1 n_HB; have NV := Aside0.mk (ho_); clear hb; clear ho ho_; have zBK1_0 : w1.cell? ⟨g1, 0, none⟩ = some (.string a0) := (blk_cell BK1.out.blk 0).trans rfl; have zBK1_1 : w1.cell? ⟨g1, 1, none⟩ = some (.slice A1 l1.length c1) := (blk_cell BK1.out.blk 1).trans rfl; have zBK1_2 : w1.cell? ⟨g1, 2, none⟩ = some (.slice A2 l2.length c2) := (blk_cell BK1.out.blk 2).trans rfl; have zBK1_3 : w1.cell? ⟨g1, 3, none⟩ = some (.string a3) := (blk_cell BK1.out.blk 3).trans rfl; refine ⟨_, rfl, ?_⟩) | (have nv_ := NV; go_at_call 56; (with_reducible refine (Sh.deletefunc_any NV.out (nodes_pos _) LN.out SZ.out (fun s => !(decide (s ∈ reachL (es l1) ⟨#[76]⟩) && decide (s ∈ ancL (es l1) ⟨#[82]⟩))) _ _ eg_d1 (dead1_at NV.out H1.out H3.out H4.out H5.out K1.out K3.out LR.out LA.out)).mono ?_); rintro e w10 ⟨v', rfl, ho, hg⟩; have FO := Aside0.mk (Ro.lower (w0 := w) ho HB2.out.size); have HB10 := Aside0.mk (below_step HB2.out (HB.out.grown hg HB.out.size (fun k hk => by obtain ⟨i, ho⟩ := Kd.R_own NV.out.row; exact own_base ho k hk))); clear ho hg))
  go_ret
  exact ⟨_, rfl, FO.out, HB10.out⟩
end
end Go.Proofs.Ytmacdknicgfglaa.Gw
/- flow.Check, walked. -/
namespace Go.Proofs.Ytmacdknicgfglaa.Gw
open Go.RowKit Go.Shelf Go.Proofs.YtmacdknicgfglaaW.PrintWords Go.Proofs.YtmacdknicgfglaaW.PrintMore Go.Proofs.YtmacdknicgfglaaW.PrintLast Go.Proofs.Ytmacdknicgfglaa.Chg Go.Proofs.Ytmacdknicgfglaa.Evt Go.Proofs.Ytmacdknicgfglaa.Impl Go.Proofs.Ytmacdknicgfglaa.Gp Go.Proofs.Ytmacdknicgfglaa.Mp
set_option linter.unusedVariables false
set_option linter.unusedSimpArgs false
set_option maxRecDepth 100000
section
variable {w w' : World} {A1 A2 : Option Addr} {c1 c2 : Nat} {l1 : List S41} {l2 : List S101} {a0 a3 : ByteArray}
theorem dead_e (w : World) (h : Rg w A1 c1 l1 A2 c2 l2) (hok : okG (es l1) = true) {o : List ByteArray} (ho : deadL (es l1) = o) :
    Calls Try.prog 35 #[.agg #[.string a0, .slice A1 l1.length c1, .slice A2 l2.length c2, .string a3]] w fun e w' => ∃ v, e = .returned v ∧ Ro Kd.string 9 w w' v o ∧ Below w.heap.size w w' := by subst ho; exact dead_any w h hok
theorem topo_oe (w : World) (h : Rg w A1 c1 l1 A2 c2 l2) (hok : okG (es l1) = true) {e1 : Int} (he : errT (topo (es l1)) = e1) : Calls Try.prog 25 #[.agg #[.string a0, .slice A1 l1.length c1, .slice A2 l2.length c2, .string a3]] w fun e w' => ∃ v, e = .returned (.tuple #[v, .int .i64 e1]) ∧ Ro Kd.string 9 w w' v ((topo (es l1)).getD []) ∧ Below w.heap.size w w' := by subst he; exact topo_any w h hok
set_option maxHeartbeats 2000000 in
theorem check_any (w : World) (h : Rg w A1 c1 l1 A2 c2 l2) (hok : okG (es l1) = true) {x : Int} (hx : checkL (es l1) = x) :
    Calls Try.prog 33 #[.agg #[.string a0, .slice A1 l1.length c1, .slice A2 l2.length c2, .string a3]] w fun e w' => e = .returned (.int .i64 x) ∧ Below w.heap.size w w' := by
  subst hx
  have OK := Aside0.mk hok
  have LN : l1.length ≤ 1000 := by have := okG_len hok; rw [es_len] at this; exact this
  have HB := Aside0.mk (Below.refl w.heap.size w)
  have R := Aside0.mk (h)
  clear h hok
  by_cases h0 : l1.length = 0
  · have EX : Aside0 (checkL (es l1) = 4) := ⟨by unfold checkL; rw [es_len, if_pos h0]⟩
    have q0 : decide (l1.length = 0) = true := decide_eq_true h0
    have q1 : decide ((l1.length : Int) = 0) = true := decide_eq_true (by omega)
    have q2 : ((l1.length : Int) == 0) = true := by rw [h0]; rfl
    rw [EX.out]
    clear h0
    go_enter Try.func33, Try.ntmps33
    skip
    go_wp2_with (((with_reducible refine gate_dst (N := 1) rfl ?_); refine box_event ?hg (N := 1) ?hd (cs := #[.string a0, .slice A1 l1.length c1, .slice A2 l2.length c2, .string a3]) (t := 25) ?hr ?_; (case hd => rfl); (case hg => rfl); (case hr => first | (go_simp; done) | (go_simp; rfl)); intro g1 hg w1 hbox hb; have hbx : Below w.heap.size w w1 := below_step (by repeat (first | (with_reducible first | exact Below.refl _ _ | apply below_alloc | apply pw_below_drewN | apply below_drew1) | exact Below.refl _ _)) hb; have n_R := Aside0.mk (R.out.below hbx); have n_HB := Aside0.mk (below_step HB.out hbx); clear HB R; have R := n_R; have HB := n_HB; clear hbx n_R n_HB; have BK1 := Aside0.mk (Bk.mk (hbox : Blk w1 g1 25 #[.string a0, .slice A1 l1.length c1, .slice A2 l2.length c2, .string a3])); clear hbox hg hb; have zBK1_0 : w1.cell? ⟨g1, 0, none⟩ = some (.string a0) := (blk_cell BK1.out.blk 0).trans rfl; have zBK1_1 : w1.cell? ⟨g1, 1, none⟩ = some (.slice A1 l1.length c1) := (blk_cell BK1.out.blk 1).trans rfl; have zBK1_2 : w1.cell? ⟨g1, 2, none⟩ = some (.slice A2 l2.length c2) := (blk_cell BK1.out.blk 2).trans rfl; have zBK1_3 : w1.cell? ⟨g1, 3, none⟩ = some (.string a3) := (blk_cell BK1.out.blk 3).trans rfl))
    go_ret
    exact ⟨rfl, HB.out⟩
    skip
  · have q0 : decide (l1.length = 0) = false := decide_eq_false h0
    have q1 : decide ((l1.length : Int) = 0) = false := decide_eq_false (by omega)
    have q2 : ((l1.length : Int) == 0) = false := beq_eq_false_iff_ne.mpr (by omega)
    by_cases ht : errT (topo (es l1)) = 0
    · obtain ⟨o, ho⟩ : ∃ o, Aside0 (deadL (es l1) = o) := ⟨_, ⟨rfl⟩⟩
      have HT := Aside0.mk ht
      by_cases hd : o.length = 0
      · have EX : Aside0 (checkL (es l1) = 0) := ⟨by unfold checkL; rw [es_len, if_neg h0, if_pos ht, ho.out, if_pos hd]⟩
        have d0 : decide (o.length > 0) = false := decide_eq_false (by omega)
        have d1 : decide ((o.length : Int) > 0) = false := decide_eq_false (by omega)
        have d2 : decide (0 < o.length) = false := decide_eq_false (by omega)
        have d3 : decide (0 < (o.length : Int)) = false := decide_eq_false (by omega)
        rw [EX.out]
        clear h0 ht hd
        go_enter Try.func33, Try.ntmps33
        skip
        go_wp2_with (first | ((with_reducible refine gate_dst (N := 1) rfl ?_); refine box_event ?hg (N := 1) ?hd (cs := #[.string a0, .slice A1 l1.length c1, .slice A2 l2.length c2, .string a3]) (t := 25) ?hr ?_; (case hd => rfl); (case hg => rfl); (case hr => first | (go_simp; done) | (go_simp; rfl)); intro g1 hg w1 hbox hb; have hbx : Below w.heap.size w w1 := below_step (by repeat (first | (with_reducible first | exact Below.refl _ _ | apply below_alloc | apply pw_below_drewN | apply below_drew1) | exact Below.refl _ _)) hb; have n_R := Aside0.mk (R.out.below hbx); have n_HB := Aside0.mk (below_step HB.out hbx); clear HB R; have R := n_R; have HB := n_HB; clear hbx n_R n_HB; have BK1 := Aside0.mk (Bk.mk (hbox : Blk w1 g1 25 #[.string a0, .slice A1 l1.length c1, .slice A2 l2.length c2, .string a3])); clear hbox hg hb; have zBK1_0 : w1.cell? ⟨g1, 0, none⟩ = some (.string a0) := (blk_cell BK1.out.blk 0).trans rfl; have zBK1_1 : w1.cell? ⟨g1, 1, none⟩ = some (.slice A1 l1.length c1) := (blk_cell BK1.out.blk 1).trans rfl; have zBK1_2 : w1.cell? ⟨g1, 2, none⟩ = some (.slice A2 l2.length c2) := (blk_cell BK1.out.blk 2).trans rfl; have zBK1_3 : w1.cell? ⟨g1, 3, none⟩ = some (.string a3) := (blk_cell BK1.out.blk 3).trans rfl) | ((with_reducible refine gate_callee (f := 25) rfl ?_); refine goesL_ (some 11) rfl rfl Try.func25 (by kernel_rfl) rfl #[.agg #[.string a0, .slice A1 l1.length c1, .slice A2 l2.length c2, .string a3]] rfl (by (try simp only [List.map_toArray, List.map_cons, List.map_nil]); first | done | rfl | (simp only [List.length_drop, List.length_take]; rfl)) ?_; (with_reducible refine (topo_oe _ (R.out.below (by repeat (first | (with_reducible first | exact Below.refl _ _ | apply below_alloc | apply pw_below_drewN | apply below_drew1) | exact Below.refl _ _))) OK.out HT.out).mono ?_); rintro e w2 ⟨v, rfl, ho_, hb⟩; have hbx : Below w1.heap.size w1 w2 := below_step (by repeat (first | (with_reducible first | exact Below.refl _ _ | apply below_alloc | apply pw_below_drewN | apply below_drew1) | exact Below.refl _ _)) hb; clear zBK1_0 zBK1_1 zBK1_2 zBK1_3; have n_R := Aside0.mk (R.out.below hbx); have n_BK1 := Aside0.mk (BK1.out.below hbx); have n_HB := Aside0.mk (below_step HB.out hbx); clear HB R BK1; have R := n_R; have BK1 := n_BK1; have HB := n_HB; clear hbx n_R n_BK1 n_HB; clear hb; have zBK1_0 : w2.cell? ⟨g1, 0, none⟩ = some (.string a0) := (blk_cell BK1.out.blk 0).trans rfl; have zBK1_1 : w2.cell? ⟨g1, 1, none⟩ = some (.slice A1 l1.length c1) := (blk_cell BK1.out.blk 1).trans rfl; have zBK1_2 : w2.cell? ⟨g1, 2, none⟩ = some (.slice A2 l2.length c2) := (blk_cell BK1.out.blk 2).trans rfl; have zBK1_3 : w2.cell? ⟨g1, 3, none⟩ = some (.string a3) := (blk_cell BK1.out.blk 3).trans rfl; refine ⟨_, rfl, ?_⟩) | ((with_reducible refine gate_callee (f := 35) rfl ?_); refine goesL_ (some 18) rfl rfl Try.func35 (by kernel_rfl) rfl #[.agg #[.string a0, .slice A1 l1.length c1, .slice A2 l2.length c2, .string a3]] rfl (by (try simp only [List.map_toArray, List.map_cons, List.map_nil]); first | done | rfl | (simp only [List.length_drop, List.length_take]; rfl)) ?_; (with_reducible refine (dead_e _ (R.out.below (by repeat (first | (with_reducible first | exact Below.refl _ _ | apply below_alloc | apply pw_below_drewN | apply below_drew1) | exact Below.refl _ _))) OK.out ho.out).mono ?_); rintro e w3 ⟨v, rfl, ho2_, hb⟩; have hbx : Below w2.heap.size w2 w3 := below_step (by repeat (first | (with_reducible first | exact Below.refl _ _ | apply below_alloc | apply pw_below_drewN | apply below_drew1) | exact Below.refl _ _)) hb; obtain ⟨Y1, y1, rfl, _⟩ := Ro.sliceS ho2_; clear zBK1_0 zBK1_1 zBK1_2 zBK1_3; have n_R := Aside0.mk (R.out.below hbx); have n_BK1 := Aside0.mk (BK1.out.below hbx); have n_HB := Aside0.mk (below_step HB.out hbx); clear HB R BK1; have R := n_R; have BK1 := n_BK1; have HB := n_HB; clear hbx n_R n_BK1 n_HB; clear hb; clear ho2_; have zBK1_0 : w3.cell? ⟨g1, 0, none⟩ = some (.string a0) := (blk_cell BK1.out.blk 0).trans rfl; have zBK1_1 : w3.cell? ⟨g1, 1, none⟩ = some (.slice A1 l1.length c1) := (blk_cell BK1.out.blk 1).trans rfl; have zBK1_2 : w3.cell? ⟨g1, 2, none⟩ = some (.slice A2 l2.length c2) := (blk_cell BK1.out.blk 2).trans rfl; have zBK1_3 : w3.cell? ⟨g1, 3, none⟩ = some (.string a3) := (blk_cell BK1.out.blk 3).trans rfl; refine ⟨_, rfl, ?_⟩))
        go_ret
        exact ⟨rfl, HB.out⟩
        skip
      · have EX : Aside0 (checkL (es l1) = 13) := ⟨by unfold checkL; rw [es_len, if_neg h0, if_pos ht, ho.out, if_neg hd]⟩
        have d0 : decide (o.length > 0) = true := decide_eq_true (by omega)
        have d1 : decide ((o.length : Int) > 0) = true := decide_eq_true (by omega)
        have d2 : decide (0 < o.length) = true := decide_eq_true (by omega)
        have d3 : decide (0 < (o.length : Int)) = true := decide_eq_true (by omega)
        rw [EX.out]
        clear h0 ht hd
        go_enter Try.func33, Try.ntmps33
        skip
        go_wp2_with (first | ((with_reducible refine gate_dst (N := 1) rfl ?_); refine box_event ?hg (N := 1) ?hd (cs := #[.string a0, .slice A1 l1.length c1, .slice A2 l2.length c2, .string a3]) (t := 25) ?hr ?_; (case hd => rfl); (case hg => rfl); (case hr => first | (go_simp; done) | (go_simp; rfl)); intro g1 hg w1 hbox hb; have hbx : Below w.heap.size w w1 := below_step (by repeat (first | (with_reducible first | exact Below.refl _ _ | apply below_alloc | apply pw_below_drewN | apply below_drew1) | exact Below.refl _ _)) hb; have n_R := Aside0.mk (R.out.below hbx); have n_HB := Aside0.mk (below_step HB.out hbx); clear HB R; have R := n_R; have HB := n_HB; clear hbx n_R n_HB; have BK1 := Aside0.mk (Bk.mk (hbox : Blk w1 g1 25 #[.string a0, .slice A1 l1.length c1, .slice A2 l2.length c2, .string a3])); clear hbox hg hb; have zBK1_0 : w1.cell? ⟨g1, 0, none⟩ = some (.string a0) := (blk_cell BK1.out.blk 0).trans rfl; have zBK1_1 : w1.cell? ⟨g1, 1, none⟩ = some (.slice A1 l1.length c1) := (blk_cell BK1.out.blk 1).trans rfl; have zBK1_2 : w1.cell? ⟨g1, 2, none⟩ = some (.slice A2 l2.length c2) := (blk_cell BK1.out.blk 2).trans rfl; have zBK1_3 : w1.cell? ⟨g1, 3, none⟩ = some (.string a3) := (blk_cell BK1.out.blk 3).trans rfl) | ((with_reducible refine gate_callee (f := 25) rfl ?_); refine goesL_ (some 11) rfl rfl Try.func25 (by kernel_rfl) rfl #[.agg #[.string a0, .slice A1 l1.length c1, .slice A2 l2.length c2, .string a3]] rfl (by (try simp only [List.map_toArray, List.map_cons, List.map_nil]); first | done | rfl | (simp only [List.length_drop, List.length_take]; rfl)) ?_; (with_reducible refine (topo_oe _ (R.out.below (by repeat (first | (with_reducible first | exact Below.refl _ _ | apply below_alloc | apply pw_below_drewN | apply below_drew1) | exact Below.refl _ _))) OK.out HT.out).mono ?_); rintro e w2 ⟨v, rfl, ho_, hb⟩; have hbx : Below w1.heap.size w1 w2 := below_step (by repeat (first | (with_reducible first | exact Below.refl _ _ | apply below_alloc | apply pw_below_drewN | apply below_drew1) | exact Below.refl _ _)) hb; clear zBK1_0 zBK1_1 zBK1_2 zBK1_3; have n_R := Aside0.mk (R.out.below hbx); have n_BK1 := Aside0.mk (BK1.out.below hbx); have n_HB := Aside0.mk (below_step HB.out hbx); clear HB R BK1; have R := n_R; have BK1 := n_BK1; have HB := n_HB; clear hbx n_R n_BK1 n_HB; clear hb; have zBK1_0 : w2.cell? ⟨g1, 0, none⟩ = some (.string a0) := (blk_cell BK1.out.blk 0).trans rfl; have zBK1_1 : w2.cell? ⟨g1, 1, none⟩ = some (.slice A1 l1.length c1) := (blk_cell BK1.out.blk 1).trans rfl; have zBK1_2 : w2.cell? ⟨g1, 2, none⟩ = some (.slice A2 l2.length c2) := (blk_cell BK1.out.blk 2).trans rfl; have zBK1_3 : w2.cell? ⟨g1, 3, none⟩ = some (.string a3) := (blk_cell BK1.out.blk 3).trans rfl; refine ⟨_, rfl, ?_⟩) | ((with_reducible refine gate_callee (f := 35) rfl ?_); refine goesL_ (some 18) rfl rfl Try.func35 (by kernel_rfl) rfl #[.agg #[.string a0, .slice A1 l1.length c1, .slice A2 l2.length c2, .string a3]] rfl (by (try simp only [List.map_toArray, List.map_cons, List.map_nil]); first | done | rfl | (simp only [List.length_drop, List.length_take]; rfl)) ?_; (with_reducible refine (dead_e _ (R.out.below (by repeat (first | (with_reducible first | exact Below.refl _ _ | apply below_alloc | apply pw_below_drewN | apply below_drew1) | exact Below.refl _ _))) OK.out ho.out).mono ?_); rintro e w3 ⟨v, rfl, ho2_, hb⟩; have hbx : Below w2.heap.size w2 w3 := below_step (by repeat (first | (with_reducible first | exact Below.refl _ _ | apply below_alloc | apply pw_below_drewN | apply below_drew1) | exact Below.refl _ _)) hb; obtain ⟨Y1, y1, rfl, _⟩ := Ro.sliceS ho2_; clear zBK1_0 zBK1_1 zBK1_2 zBK1_3; have n_R := Aside0.mk (R.out.below hbx); have n_BK1 := Aside0.mk (BK1.out.below hbx); have n_HB := Aside0.mk (below_step HB.out hbx); clear HB R BK1; have R := n_R; have BK1 := n_BK1; have HB := n_HB; clear hbx n_R n_BK1 n_HB; clear hb; clear ho2_; have zBK1_0 : w3.cell? ⟨g1, 0, none⟩ = some (.string a0) := (blk_cell BK1.out.blk 0).trans rfl; have zBK1_1 : w3.cell? ⟨g1, 1, none⟩ = some (.slice A1 l1.length c1) := (blk_cell BK1.out.blk 1).trans rfl; have zBK1_2 : w3.cell? ⟨g1, 2, none⟩ = some (.slice A2 l2.length c2) := (blk_cell BK1.out.blk 2).trans rfl; have zBK1_3 : w3.cell? ⟨g1, 3, none⟩ = some (.string a3) := (blk_cell BK1.out.blk 3).trans rfl; refine ⟨_, rfl, ?_⟩))
        go_ret
        exact ⟨rfl, HB.out⟩
        skip
    · have E12 : errT (topo (es l1)) = 12 := by unfold errT at ht ⊢; split at ht <;> simp_all
      have HT := Aside0.mk E12
      have EX : Aside0 (checkL (es l1) = 12) := ⟨by unfold checkL; rw [es_len, if_neg h0, if_neg ht, E12]⟩
      rw [EX.out]
      clear h0 ht E12
      go_enter Try.func33, Try.ntmps33
      go_wp2_with (first | ((with_reducible refine gate_dst (N := 1) rfl ?_); refine box_event ?hg (N := 1) ?hd (cs := #[.string a0, .slice A1 l1.length c1, .slice A2 l2.length c2, .string a3]) (t := 25) ?hr ?_; (case hd => rfl); (case hg => rfl); (case hr => first | (go_simp; done) | (go_simp; rfl)); intro g1 hg w1 hbox hb; have hbx : Below w.heap.size w w1 := below_step (by repeat (first | (with_reducible first | exact Below.refl _ _ | apply below_alloc | apply pw_below_drewN | apply below_drew1) | exact Below.refl _ _)) hb; have n_R := Aside0.mk (R.out.below hbx); have n_HB := Aside0.mk (below_step HB.out hbx); clear HB R; have R := n_R; have HB := n_HB; clear hbx n_R n_HB; have BK1 := Aside0.mk (Bk.mk (hbox : Blk w1 g1 25 #[.string a0, .slice A1 l1.length c1, .slice A2 l2.length c2, .string a3])); clear hbox hg hb; have zBK1_0 : w1.cell? ⟨g1, 0, none⟩ = some (.string a0) := (blk_cell BK1.out.blk 0).trans rfl; have zBK1_1 : w1.cell? ⟨g1, 1, none⟩ = some (.slice A1 l1.length c1) := (blk_cell BK1.out.blk 1).trans rfl; have zBK1_2 : w1.cell? ⟨g1, 2, none⟩ = some (.slice A2 l2.length c2) := (blk_cell BK1.out.blk 2).trans rfl; have zBK1_3 : w1.cell? ⟨g1, 3, none⟩ = some (.string a3) := (blk_cell BK1.out.blk 3).trans rfl) | ((with_reducible refine gate_callee (f := 25) rfl ?_); refine goesL_ (some 11) rfl rfl Try.func25 (by kernel_rfl) rfl #[.agg #[.string a0, .slice A1 l1.length c1, .slice A2 l2.length c2, .string a3]] rfl (by (try simp only [List.map_toArray, List.map_cons, List.map_nil]); first | done | rfl | (simp only [List.length_drop, List.length_take]; rfl)) ?_; (with_reducible refine (topo_oe _ (R.out.below (by repeat (first | (with_reducible first | exact Below.refl _ _ | apply below_alloc | apply pw_below_drewN | apply below_drew1) | exact Below.refl _ _))) OK.out HT.out).mono ?_); rintro e w2 ⟨v, rfl, ho_, hb⟩; have hbx : Below w1.heap.size w1 w2 := below_step (by repeat (first | (with_reducible first | exact Below.refl _ _ | apply below_alloc | apply pw_below_drewN | apply below_drew1) | exact Below.refl _ _)) hb; clear zBK1_0 zBK1_1 zBK1_2 zBK1_3; have n_R := Aside0.mk (R.out.below hbx); have n_BK1 := Aside0.mk (BK1.out.below hbx); have n_HB := Aside0.mk (below_step HB.out hbx); clear HB R BK1; have R := n_R; have BK1 := n_BK1; have HB := n_HB; clear hbx n_R n_BK1 n_HB; clear hb; have zBK1_0 : w2.cell? ⟨g1, 0, none⟩ = some (.string a0) := (blk_cell BK1.out.blk 0).trans rfl; have zBK1_1 : w2.cell? ⟨g1, 1, none⟩ = some (.slice A1 l1.length c1) := (blk_cell BK1.out.blk 1).trans rfl; have zBK1_2 : w2.cell? ⟨g1, 2, none⟩ = some (.slice A2 l2.length c2) := (blk_cell BK1.out.blk 2).trans rfl; have zBK1_3 : w2.cell? ⟨g1, 3, none⟩ = some (.string a3) := (blk_cell BK1.out.blk 3).trans rfl; refine ⟨_, rfl, ?_⟩))
      go_ret
      exact ⟨rfl, HB.out⟩
end
end Go.Proofs.Ytmacdknicgfglaa.Gw
