/- VmConditionalJump, walked. -/
import Derived.Test.YtjohdkbciafpfaaVl1
import Derived.Test.YtjohdkbciafpfaaVx
namespace Go.Proofs.Ytjohdkbciafpfaa.Vm6
open Go.RowKit Go.Proofs.YtjohdkbciafpfaaW.PrintWords Go.Proofs.YtjohdkbciafpfaaW.PrintMore Go.Proofs.YtjohdkbciafpfaaW.PrintLast Go.Proofs.Ytjohdkbciafpfaa.Chg Go.Proofs.Ytjohdkbciafpfaa.Evt Go.Proofs.Ytjohdkbciafpfaa.Impl
set_option linter.unusedVariables false
set_option linter.unusedSimpArgs false
set_option maxRecDepth 100000
def cjP (k : Nat) : List S66 := [⟨0, ⟨0, 0⟩, 0⟩, ⟨15, ⟨0, 0⟩, 2 + k⟩]
def stn : S66 := ⟨12, ⟨1, 0⟩, 0⟩
def cjI (k i : Nat) : List S66 := cjP k ++ List.replicate i stn
def cjC (k : Nat) : List S66 := cjI k k ++ [⟨16, ⟨0, 0⟩, 0⟩]
theorem cjI_next (k i : Nat) : cjI k i ++ [stn] = cjI k (i + 1) := by
  unfold cjI
  rw [List.append_assoc, ← List.replicate_succ']
theorem cjI_len (k i : Nat) : (cjI k i).length = i + 2 := by
  simp [cjI, cjP]
theorem cjC_len (k : Nat) : (cjC k).length = k + 3 := by
  simp [cjC, cjI_len]
theorem cjC_0 (k : Nat) : (cjC k)[0]? = some ⟨0, ⟨0, 0⟩, 0⟩ := rfl
theorem cjC_1 (k : Nat) : (cjC k)[1]? = some ⟨15, ⟨0, 0⟩, 2 + k⟩ := rfl
theorem cjC_mid {k i : Nat} (h : i < k) : (cjC k)[2 + i]? = some stn := by
  unfold cjC cjI cjP
  rw [List.getElem?_append_left (by simp; omega), List.getElem?_append_right (by simp)]
  simp [List.getElem?_replicate]
  omega
theorem cjC_end (k : Nat) : (cjC k)[2 + k]? = some ⟨16, ⟨0, 0⟩, 0⟩ := by
  unfold cjC
  rw [List.getElem?_append_right (by rw [cjI_len]; omega), cjI_len]
  simp [show 2 + k - (k + 2) = 0 by omega]
theorem WfC.of {l : List S66} (h : ∀ x ∈ l, 0 ≤ x.f0 ∧ x.f0 ≤ 255) : WfC l := fun i hi => by
  rw [rd_at (List.getElem?_eq_getElem hi)]
  have := h _ (List.getElem_mem hi)
  exact WalkArith.wf_i64 (by omega)
theorem cj_wf (k : Nat) : WfC (cjC k) := WfC.of fun x hx => by
  unfold cjC cjI cjP at hx
  simp only [List.mem_append, List.mem_cons, List.not_mem_nil, or_false, List.mem_replicate] at hx
  rcases hx with ((rfl | rfl) | ⟨_, rfl⟩) | rfl <;> simp [stn]
def cjS (k : Nat) (v : Bool) : MS := ⟨[!v && decide (0 < k)], [], [], ((2 + k : Nat) : Int), v, [], true, 0⟩
def cjN (k : Nat) (v : Bool) : Nat := if v = true then 3 else 3 + k
theorem cj_loop (k : Nat) : ∀ r i : Nat, i + r = k → runV (cjC k) [false] (r + 3) ⟨[decide (0 < i)], [], [], ((2 + i : Nat) : Int), false, [], false, 0⟩ (2 + i) = (cjS k false, 3 + k)
  | 0, i, h => by
    obtain rfl : i = k := by omega
    rw [runV_end (s1 := cjS i false) (stepV_at (cjC_end i) (np := ((2 + i : Nat) : Int)) (s1 := cjS i false) (by simp [core, cjS]))]
    congr 1; omega
  | r + 1, i, h => by
    rw [runV_go (s1 := ⟨[decide (0 < i + 1)], [], [], ((2 + (i + 1) : Nat) : Int), false, [], false, 0⟩) (stepV_at (cjC_mid (k := k) (i := i) (by omega)) (np := ((2 + (i + 1) : Nat) : Int)) (s1 := ⟨[decide (0 < i + 1)], [], [], ((2 + i : Nat) : Int), false, [], false, 0⟩) (by simp [core, stn, wrv, cv, cw]; omega))]
    exact cj_loop k r (i + 1) (by omega)
theorem cj_run (k : Nat) (v : Bool) : runV (cjC k) [v] ((cjC k).length + 2) (ini [false] [] []) 0 = (cjS k v, cjN k v) := by
  rw [cjC_len]
  show runV _ _ (k + 4 + 1) ⟨[false], [], [], ((0 : Nat) : Int), false, [], false, 0⟩ 0 = _
  rw [runV_go (s1 := ⟨[false], [], [], ((1 : Nat) : Int), v, [], false, 0⟩) (stepV_at (i := 0) (cjC_0 k) (np := ((1 : Nat) : Int)) (s1 := ⟨[false], [], [], ((0 : Nat) : Int), v, [], false, 0⟩) (by simp [core, rdv, comb]; rfl))]
  cases v with
  | true =>
    rw [runV_go (s1 := ⟨[false], [], [], ((2 + k : Nat) : Int), true, [], false, 0⟩) (stepV_at (i := 1) (cjC_1 k) (np := ((2 + k : Nat) : Int)) (s1 := ⟨[false], [], [], ((1 : Nat) : Int), true, [], false, 0⟩) (by simp [core, cjC_len, show (0 : Int) ≤ 2 + k by omega, show (2 : Int) + k < k + 3 by omega, show (1 : Int) < 2 + k by omega]))]
    rw [runV_end (s1 := cjS k true) (stepV_at (cjC_end k) (np := ((2 + k : Nat) : Int)) (s1 := cjS k true) (by simp [core, cjS]))]
    rfl
  | false =>
    rw [runV_go (s1 := ⟨[false], [], [], ((2 : Nat) : Int), false, [], false, 0⟩) (stepV_at (i := 1) (cjC_1 k) (np := ((2 : Nat) : Int)) (s1 := ⟨[false], [], [], ((1 : Nat) : Int), false, [], false, 0⟩) (by simp [core, cjC_len, show (0 : Int) ≤ 2 + k by omega, show (2 : Int) + k < k + 3 by omega, show (1 : Int) < 2 + k by omega]))]
    exact cj_loop k k 0 (by omega)
theorem cj_go (w : World) (k : Nat) (v : Bool) {C : List S66} (hC : cjC k = C) {w0 : World} {A : Option Addr} {c g32 g33 : Nat} (hR : Ro k66 66 w0 w (.slice A C.length c) C) (h32 : Bk w g32 4 #[.bool v]) (h33 : Bk w g33 4 #[.bool false]) (hk : k ≤ 49) :
    Calls Try.prog 34 #[.slice A C.length c, .slice (some ⟨g32, 0, none⟩) 1 1, .agg #[.slice (some ⟨g33, 0, none⟩) 1 1, .slice none 0 0, .slice none 0 0]] w fun x w' => ∃ X0 x0 X1 x1 X2 x2, x = .returned (.agg #[.slice X0 1 x0, .slice X1 0 x1, .slice X2 0 x2, .int .i64 (cjN k v : Nat), .int .i64 (2 + (k : Int)), .int .i64 0]) ∧ Sb w' X0 x0 X1 x1 X2 x2 [!v && decide (0 < k)] [] [] ∧ (Lf X0 [!v && decide (0 < k)] ∧ Lf X1 [] ∧ Lf X2 []) ∧ Below w.heap.size w w' := by
  subst hC
  refine (run_any (l := cjC k) (cC := c) w (Ro66.C hR) (Rw_of_blk (l := [v]) (c := 1) h32 (by simp) (by simp)) ⟨⟨Rw_of_blk (l := [false]) (c := 1) h33 (by decide) (by decide), Rw.nil _ _ 0, Rw.nil _ _ 0⟩, by decide, by decide, by decide⟩ (by rw [cjC_len]; omega) (by simp) (cj_wf k) (cj_run k v)).mono ?_
  rintro x w' ⟨X0, x0, X1, x1, X2, x2, rfl, h⟩
  refine ⟨X0, x0, X1, x1, X2, x2, ?_, h⟩
  show Ending.returned (.agg #[_, _, _, _, .int .i64 ((2 + k : Nat) : Int), _]) = _
  rw [show ((2 + k : Nat) : Int) = 2 + (k : Int) by omega]
  rfl
theorem Rw.one {w : World} {g c : Nat} {x : Bool} (h : Rw Kd.bool w (some ⟨g, 0, none⟩) c [x]) : w.cell? ⟨g, 0, none⟩ = some (.bool x) := by
  obtain ⟨ad, e, hc⟩ := h.row.2.2 (by simp)
  injection e with e
  subst e
  obtain ⟨cs, hl, hK, hcell⟩ := hc 0 x rfl
  obtain rfl : cs = [.bool x] := hK
  have := hcell 0 _ rfl
  rw [Addr.add_lit] at this
  exact this
set_option maxHeartbeats 8000000 in
theorem cj_walk (w : World) (v : Bool) (n : Int) (hw : (Lit.int .u8 n).wf = true) : Calls Try.prog 11 #[.bool v, .int .u8 n] w fun x w' => x = .returned (.bool true) ∧ Below w.heap.size w w' := by
  have hn : 0 ≤ n ∧ n ≤ 255 := by
    simp [Lit.wf, IntKind.min, IntKind.max, IntKind.signed, IntKind.bits] at hw
    omega
  clear hw
  obtain ⟨k, hk, hk1⟩ : ∃ k : Nat, n % 50 = (k : Int) ∧ k ≤ 49 := ⟨(n % 50).toNat, by omega, by omega⟩
  obtain ⟨h0, h1⟩ := hn
  have HB := Aside0.mk (Below.refl w.heap.size w)
  go_enter Try.func11, Try.ntmps11
  go_wp2_with (((with_reducible refine gate_dst (N := 16) rfl ?_); refine lit66 (w0 := w) ?hg1_ (N := 16) ?hd1_ (xs := [⟨0, ⟨0, 0⟩, 0⟩, ⟨15, ⟨0, 0⟩, 2 + (k : Int)⟩]) (inner := [.int .i64 0, .int .i64 0, .int .i64 0, .int .i64 0, .int .i64 15, .int .i64 0, .int .i64 0, .int .i64 (2 + (k : Int))]) ?hr1_ ?hp1_ (below_step HB.out (by repeat (first | (with_reducible first | exact Below.refl _ _ | apply below_alloc | apply pw_below_drewN | apply below_drew1) | exact Below.refl _ _))) (by simp) ?_; (case hd1_ => rfl); (case hg1_ => rfl); (case hr1_ => first | (go_simp; done) | (go_simp; rfl)); (case hp1_ => exact (Reps.c4 (k66_mkM _ _ _ ⟨0, ⟨0, 0⟩, 0⟩) (Reps.c4 (k66_mkM _ _ _ ⟨15, ⟨0, 0⟩, 2 + (k : Int)⟩) (Reps.none _ _)))); intro v16 w1 ho hb; clear HB ; have HB := Aside0.mk hb; have RO16 := Aside0.mk ho; clear ho hb))
  have INV : Aside0 (Below w.heap.size w w1 ∧ Ro k66 66 w w1 v16 (cjI k 0)) := ⟨HB.out, RO16.out⟩
  clear HB RO16
  go_loopg [6, 18] k (fun kq v6 v18 wr => ∃ i : Nat, v18 = .int .i64 i ∧ Aside0 (i + kq = k) ∧ Aside0 (Below w.heap.size w wr ∧ Ro k66 66 w wr v6 (cjI k i)))
  case atStart => exact ⟨0, rfl, ⟨by omega⟩, INV⟩
  case round =>
    clear INV
    obtain ⟨i, rfl, hi, I⟩ := hrel
    cases gk with
    | zero =>
      have e0 : i = k := by have := hi.out; omega
      subst e0
      have q0 : decide (i < i) = false := decide_eq_false (by omega)
      have q1 : decide ((i : Int) < (i : Int)) = false := decide_eq_false (by omega)
      have HB := Aside0.mk (Below.refl wr.heap.size wr)
      clear HB
      have HB := Aside0.mk I.out.1
      skip
      have ROi := Aside0.mk I.out.2
      clear I hi
      skip
      obtain ⟨C, CE⟩ : ∃ C, Aside0 (cjC i = C) := ⟨_, ⟨rfl⟩⟩
      cases v with
      | true =>
        skip
        go_wp2_with (first | ((with_reducible refine gate_dst (N := 28) rfl ?_); refine Evt.slice_event ?hg (N := 28) ?hd (cs := #[.int .i64 16, .int .i64 0, .int .i64 0, .int .i64 0]) (t := 66) (n := 1) ?hr ?_; (case hd => rfl); (case hg => rfl); (case hr => first | (go_simp; done) | (go_simp; rfl)); intro g28 hg w1 hbox hb; have hbx : Below wr.heap.size wr w1 := below_step (by repeat (first | (with_reducible first | exact Below.refl _ _ | apply below_alloc | apply pw_below_drewN | apply below_drew1) | exact Below.refl _ _)) hb; replace ROi := Aside0.mk (ROi.out.below hbx); replace HB := Aside0.mk (below_step HB.out hbx); clear hbx; have BK28 := Aside0.mk (Bk.mk (hbox : Blk w1 g28 66 #[.int .i64 16, .int .i64 0, .int .i64 0, .int .i64 0])); clear hbox hg hb; obtain ⟨zBK28_0, zBK28_1, zBK28_2, zBK28_3⟩ := BK28.out.c4) | ((with_reducible refine gate_dst (N := 29) rfl ?_); at_builtin; refine app66 (w0 := w) rfl (.tmp 26) (.tmp 28) rfl u6 (cjI i i) [⟨16, ⟨0, 0⟩, 0⟩] (some ⟨g28, 0, none⟩) 1 1 rfl rfl ((ROi.out.below (by repeat (first | (with_reducible first | exact Below.refl _ _ | apply below_alloc | apply pw_below_drewN | apply below_drew1) | exact Below.refl _ _)))) (C66_1 BK28.out) (below_step HB.out (by repeat (first | (with_reducible first | exact Below.refl _ _ | apply below_alloc | apply pw_below_drewN | apply below_drew1) | exact Below.refl _ _))) (by rw [cjI_len]; omega) ?_; intro v29 w2 ho hb hg; clear zBK28_0 zBK28_1 zBK28_2 zBK28_3; clear HB hg ROi BK28; have HB := Aside0.mk hb; have RO29 := Aside0.mk ho; clear ho hb; rw [show cjI i i ++ [(⟨16, ⟨0, 0⟩, 0⟩ : S66)] = C from CE.out] at RO29; obtain ⟨AC, cC, rfl⟩ := Kd.R_slice RO29.out.row) | ((with_reducible refine gate_dst (N := 32) rfl ?_); refine Evt.slice_event ?hg (N := 32) ?hd (cs := #[.bool true]) (t := 4) (n := 1) ?hr ?_; (case hd => rfl); (case hg => rfl); (case hr => first | (go_simp; done) | (go_simp; rfl)); intro g32 hg w3 hbox hb; have hbx : Below w2.heap.size w2 w3 := below_step (by repeat (first | (with_reducible first | exact Below.refl _ _ | apply below_alloc | apply pw_below_drewN | apply below_drew1) | exact Below.refl _ _)) hb; replace RO29 := Aside0.mk (RO29.out.below hbx); replace HB := Aside0.mk (below_step HB.out hbx); clear hbx; have BK32 := Aside0.mk (Bk.mk (hbox : Blk w3 g32 4 #[.bool true])); clear hbox hg hb; have zBK32_0 : w3.cell? ⟨g32, 0, none⟩ = some (.bool true) := (blk_cell BK32.out.blk 0).trans rfl) | ((with_reducible refine gate_dst (N := 33) rfl ?_); refine Evt.slice_event ?hg (N := 33) ?hd (cs := #[.bool false]) (t := 4) (n := 1) ?hr ?_; (case hd => rfl); (case hg => rfl); (case hr => first | (go_simp; done) | (go_simp; rfl)); intro g33 hg w4 hbox hb; have hbx : Below w3.heap.size w3 w4 := below_step (by repeat (first | (with_reducible first | exact Below.refl _ _ | apply below_alloc | apply pw_below_drewN | apply below_drew1) | exact Below.refl _ _)) hb; clear zBK32_0; replace RO29 := Aside0.mk (RO29.out.below hbx); replace BK32 := Aside0.mk (BK32.out.below hbx); replace HB := Aside0.mk (below_step HB.out hbx); clear hbx; have BK33 := Aside0.mk (Bk.mk (hbox : Blk w4 g33 4 #[.bool false])); clear hbox hg hb; have zBK32_0 : w4.cell? ⟨g32, 0, none⟩ = some (.bool true) := (blk_cell BK32.out.blk 0).trans rfl; have zBK33_0 : w4.cell? ⟨g33, 0, none⟩ = some (.bool false) := (blk_cell BK33.out.blk 0).trans rfl) | ((with_reducible refine gate_callee (f := 34) rfl ?_); refine goesL_ (some 35) rfl rfl Try.func34 (by kernel_rfl) rfl #[.slice AC C.length cC, .slice (some ⟨g32, 0, none⟩) 1 1, .agg #[.slice (some ⟨g33, 0, none⟩) 1 1, .slice none 0 0, .slice none 0 0]] rfl (by (try simp only [List.map_toArray, List.map_cons, List.map_nil]); first | done | rfl | (simp only [List.length_drop, List.length_take]; rfl)) ?_; (with_reducible refine (cj_go _ i true CE.out (RO29.out.below (by repeat (first | (with_reducible first | exact Below.refl _ _ | apply below_alloc | apply pw_below_drewN | apply below_drew1) | exact Below.refl _ _))) (BK32.out.below (by repeat (first | (with_reducible first | exact Below.refl _ _ | apply below_alloc | apply pw_below_drewN | apply below_drew1) | exact Below.refl _ _))) (BK33.out.below (by repeat (first | (with_reducible first | exact Below.refl _ _ | apply below_alloc | apply pw_below_drewN | apply below_drew1) | exact Below.refl _ _))) hk1).mono ?_); rintro e w5 ⟨X0, x0, X1, x1, X2, x2, rfl, hs_, hl_, hb⟩; have hbx : Below w4.heap.size w4 w5 := below_step (by repeat (first | (with_reducible first | exact Below.refl _ _ | apply below_alloc | apply pw_below_drewN | apply below_drew1) | exact Below.refl _ _)) hb; obtain ⟨gr, rfl⟩ := hl_.1 (show 0 < 1 by decide); clear hl_; clear zBK32_0 zBK33_0; replace RO29 := Aside0.mk (RO29.out.below hbx); replace BK32 := Aside0.mk (BK32.out.below hbx); replace BK33 := Aside0.mk (BK33.out.below hbx); replace HB := Aside0.mk (below_step HB.out hbx); clear hbx; have SS := Aside0.mk (hs_); clear hb; clear hs_; have zBK32_0 : w5.cell? ⟨g32, 0, none⟩ = some (.bool true) := (blk_cell BK32.out.blk 0).trans rfl; have zBK33_0 : w5.cell? ⟨g33, 0, none⟩ = some (.bool false) := (blk_cell BK33.out.blk 0).trans rfl; refine ⟨_, rfl, ?_⟩) | ((with_reducible refine gate_dst (N := 7) rfl ?_); refine Evt.box2 ?hg (N := 7) ?hd (z := #[.slice none 0 0, .slice none 0 0, .slice none 0 0, .int .i64 0, .int .i64 0, .int .i64 0]) (cs := #[.slice (some ⟨gr, 0, none⟩) 1 x0, .slice X1 0 x1, .slice X2 0 x2, .int .i64 (cjN i true : Nat), .int .i64 (2 + (i : Int)), .int .i64 0]) (T := 60) ?hr ?hg2 (.tmp 35) ?ho2 ?hd2 ?hy ?hx ?hi ?hz ?h1 ?_; (case hd => rfl); (case hg => rfl); (case hr => first | (go_simp; done) | (go_simp; rfl)); (case hg2 => rfl); (case ho2 => rfl); (case hd2 => rfl); (case hy => first | rfl | (go_simp; done)); (case hx => first | rfl | (go_simp; done)); (case hi => kernel_rfl); (case hz => rfl); (case h1 => first | rfl | (simp [Value.oneCell'])); intro g7 hg w6 hbox hb; have hbx : Below w5.heap.size w5 w6 := below_step (by repeat (first | (with_reducible first | exact Below.refl _ _ | apply below_alloc | apply pw_below_drewN | apply below_drew1) | exact Below.refl _ _)) hb; clear zBK32_0 zBK33_0; replace RO29 := Aside0.mk (RO29.out.below hbx); replace BK32 := Aside0.mk (BK32.out.below hbx); replace BK33 := Aside0.mk (BK33.out.below hbx); replace SS := Aside0.mk (SS.out.below hbx); replace HB := Aside0.mk (below_step HB.out hbx); clear hbx; have BK7 := Aside0.mk (Bk.mk (hbox : Blk w6 g7 60 #[.slice (some ⟨gr, 0, none⟩) 1 x0, .slice X1 0 x1, .slice X2 0 x2, .int .i64 (cjN i true : Nat), .int .i64 (2 + (i : Int)), .int .i64 0])); clear hbox hg hb; have zBK32_0 : w6.cell? ⟨g32, 0, none⟩ = some (.bool true) := (blk_cell BK32.out.blk 0).trans rfl; have zBK33_0 : w6.cell? ⟨g33, 0, none⟩ = some (.bool false) := (blk_cell BK33.out.blk 0).trans rfl; obtain ⟨zBK7_0, zBK7_1, zBK7_2, zBK7_3, zBK7_4, zBK7_5⟩ := BK7.out.c6) | (go_at_call 33; (with_reducible refine (alive_any _).mono ?_); rintro e w7 ⟨rfl, hb⟩; have hbx : Below w6.heap.size w6 w7 := below_step (by repeat (first | (with_reducible first | exact Below.refl _ _ | apply below_alloc | apply pw_below_drewN | apply below_drew1) | exact Below.refl _ _)) hb; clear zBK32_0 zBK33_0 zBK7_0 zBK7_1 zBK7_2 zBK7_3 zBK7_4 zBK7_5; replace RO29 := Aside0.mk (RO29.out.below hbx); replace BK32 := Aside0.mk (BK32.out.below hbx); replace BK33 := Aside0.mk (BK33.out.below hbx); replace SS := Aside0.mk (SS.out.below hbx); replace BK7 := Aside0.mk (BK7.out.below hbx); replace HB := Aside0.mk (below_step HB.out hbx); clear hbx; clear hb; have q2 := Rw.one SS.out.sr.r0; have zBK32_0 : w7.cell? ⟨g32, 0, none⟩ = some (.bool true) := (blk_cell BK32.out.blk 0).trans rfl; have zBK33_0 : w7.cell? ⟨g33, 0, none⟩ = some (.bool false) := (blk_cell BK33.out.blk 0).trans rfl; obtain ⟨zBK7_0, zBK7_1, zBK7_2, zBK7_3, zBK7_4, zBK7_5⟩ := BK7.out.c6))
        go_ret
        exact ⟨rfl, HB.out⟩
        skip
      | false =>
        skip
        go_wp2_with (first | ((with_reducible refine gate_dst (N := 28) rfl ?_); refine Evt.slice_event ?hg (N := 28) ?hd (cs := #[.int .i64 16, .int .i64 0, .int .i64 0, .int .i64 0]) (t := 66) (n := 1) ?hr ?_; (case hd => rfl); (case hg => rfl); (case hr => first | (go_simp; done) | (go_simp; rfl)); intro g28 hg w1 hbox hb; have hbx : Below wr.heap.size wr w1 := below_step (by repeat (first | (with_reducible first | exact Below.refl _ _ | apply below_alloc | apply pw_below_drewN | apply below_drew1) | exact Below.refl _ _)) hb; replace ROi := Aside0.mk (ROi.out.below hbx); replace HB := Aside0.mk (below_step HB.out hbx); clear hbx; have BK28 := Aside0.mk (Bk.mk (hbox : Blk w1 g28 66 #[.int .i64 16, .int .i64 0, .int .i64 0, .int .i64 0])); clear hbox hg hb; obtain ⟨zBK28_0, zBK28_1, zBK28_2, zBK28_3⟩ := BK28.out.c4) | ((with_reducible refine gate_dst (N := 29) rfl ?_); at_builtin; refine app66 (w0 := w) rfl (.tmp 26) (.tmp 28) rfl u6 (cjI i i) [⟨16, ⟨0, 0⟩, 0⟩] (some ⟨g28, 0, none⟩) 1 1 rfl rfl ((ROi.out.below (by repeat (first | (with_reducible first | exact Below.refl _ _ | apply below_alloc | apply pw_below_drewN | apply below_drew1) | exact Below.refl _ _)))) (C66_1 BK28.out) (below_step HB.out (by repeat (first | (with_reducible first | exact Below.refl _ _ | apply below_alloc | apply pw_below_drewN | apply below_drew1) | exact Below.refl _ _))) (by rw [cjI_len]; omega) ?_; intro v29 w2 ho hb hg; clear zBK28_0 zBK28_1 zBK28_2 zBK28_3; clear HB hg ROi BK28; have HB := Aside0.mk hb; have RO29 := Aside0.mk ho; clear ho hb; rw [show cjI i i ++ [(⟨16, ⟨0, 0⟩, 0⟩ : S66)] = C from CE.out] at RO29; obtain ⟨AC, cC, rfl⟩ := Kd.R_slice RO29.out.row) | ((with_reducible refine gate_dst (N := 32) rfl ?_); refine Evt.slice_event ?hg (N := 32) ?hd (cs := #[.bool false]) (t := 4) (n := 1) ?hr ?_; (case hd => rfl); (case hg => rfl); (case hr => first | (go_simp; done) | (go_simp; rfl)); intro g32 hg w3 hbox hb; have hbx : Below w2.heap.size w2 w3 := below_step (by repeat (first | (with_reducible first | exact Below.refl _ _ | apply below_alloc | apply pw_below_drewN | apply below_drew1) | exact Below.refl _ _)) hb; replace RO29 := Aside0.mk (RO29.out.below hbx); replace HB := Aside0.mk (below_step HB.out hbx); clear hbx; have BK32 := Aside0.mk (Bk.mk (hbox : Blk w3 g32 4 #[.bool false])); clear hbox hg hb; have zBK32_0 : w3.cell? ⟨g32, 0, none⟩ = some (.bool false) := (blk_cell BK32.out.blk 0).trans rfl) | ((with_reducible refine gate_dst (N := 33) rfl ?_); refine Evt.slice_event ?hg (N := 33) ?hd (cs := #[.bool false]) (t := 4) (n := 1) ?hr ?_; (case hd => rfl); (case hg => rfl); (case hr => first | (go_simp; done) | (go_simp; rfl)); intro g33 hg w4 hbox hb; have hbx : Below w3.heap.size w3 w4 := below_step (by repeat (first | (with_reducible first | exact Below.refl _ _ | apply below_alloc | apply pw_below_drewN | apply below_drew1) | exact Below.refl _ _)) hb; clear zBK32_0; replace RO29 := Aside0.mk (RO29.out.below hbx); replace BK32 := Aside0.mk (BK32.out.below hbx); replace HB := Aside0.mk (below_step HB.out hbx); clear hbx; have BK33 := Aside0.mk (Bk.mk (hbox : Blk w4 g33 4 #[.bool false])); clear hbox hg hb; have zBK32_0 : w4.cell? ⟨g32, 0, none⟩ = some (.bool false) := (blk_cell BK32.out.blk 0).trans rfl; have zBK33_0 : w4.cell? ⟨g33, 0, none⟩ = some (.bool false) := (blk_cell BK33.out.blk 0).trans rfl) | ((with_reducible refine gate_callee (f := 34) rfl ?_); refine goesL_ (some 35) rfl rfl Try.func34 (by kernel_rfl) rfl #[.slice AC C.length cC, .slice (some ⟨g32, 0, none⟩) 1 1, .agg #[.slice (some ⟨g33, 0, none⟩) 1 1, .slice none 0 0, .slice none 0 0]] rfl (by (try simp only [List.map_toArray, List.map_cons, List.map_nil]); first | done | rfl | (simp only [List.length_drop, List.length_take]; rfl)) ?_; (with_reducible refine (cj_go _ i false CE.out (RO29.out.below (by repeat (first | (with_reducible first | exact Below.refl _ _ | apply below_alloc | apply pw_below_drewN | apply below_drew1) | exact Below.refl _ _))) (BK32.out.below (by repeat (first | (with_reducible first | exact Below.refl _ _ | apply below_alloc | apply pw_below_drewN | apply below_drew1) | exact Below.refl _ _))) (BK33.out.below (by repeat (first | (with_reducible first | exact Below.refl _ _ | apply below_alloc | apply pw_below_drewN | apply below_drew1) | exact Below.refl _ _))) hk1).mono ?_); rintro e w5 ⟨X0, x0, X1, x1, X2, x2, rfl, hs_, hl_, hb⟩; have hbx : Below w4.heap.size w4 w5 := below_step (by repeat (first | (with_reducible first | exact Below.refl _ _ | apply below_alloc | apply pw_below_drewN | apply below_drew1) | exact Below.refl _ _)) hb; obtain ⟨gr, rfl⟩ := hl_.1 (show 0 < 1 by decide); clear hl_; clear zBK32_0 zBK33_0; replace RO29 := Aside0.mk (RO29.out.below hbx); replace BK32 := Aside0.mk (BK32.out.below hbx); replace BK33 := Aside0.mk (BK33.out.below hbx); replace HB := Aside0.mk (below_step HB.out hbx); clear hbx; have SS := Aside0.mk (hs_); clear hb; clear hs_; have zBK32_0 : w5.cell? ⟨g32, 0, none⟩ = some (.bool false) := (blk_cell BK32.out.blk 0).trans rfl; have zBK33_0 : w5.cell? ⟨g33, 0, none⟩ = some (.bool false) := (blk_cell BK33.out.blk 0).trans rfl; refine ⟨_, rfl, ?_⟩) | ((with_reducible refine gate_dst (N := 7) rfl ?_); refine Evt.box2 ?hg (N := 7) ?hd (z := #[.slice none 0 0, .slice none 0 0, .slice none 0 0, .int .i64 0, .int .i64 0, .int .i64 0]) (cs := #[.slice (some ⟨gr, 0, none⟩) 1 x0, .slice X1 0 x1, .slice X2 0 x2, .int .i64 (cjN i false : Nat), .int .i64 (2 + (i : Int)), .int .i64 0]) (T := 60) ?hr ?hg2 (.tmp 35) ?ho2 ?hd2 ?hy ?hx ?hi ?hz ?h1 ?_; (case hd => rfl); (case hg => rfl); (case hr => first | (go_simp; done) | (go_simp; rfl)); (case hg2 => rfl); (case ho2 => rfl); (case hd2 => rfl); (case hy => first | rfl | (go_simp; done)); (case hx => first | rfl | (go_simp; done)); (case hi => kernel_rfl); (case hz => rfl); (case h1 => first | rfl | (simp [Value.oneCell'])); intro g7 hg w6 hbox hb; have hbx : Below w5.heap.size w5 w6 := below_step (by repeat (first | (with_reducible first | exact Below.refl _ _ | apply below_alloc | apply pw_below_drewN | apply below_drew1) | exact Below.refl _ _)) hb; clear zBK32_0 zBK33_0; replace RO29 := Aside0.mk (RO29.out.below hbx); replace BK32 := Aside0.mk (BK32.out.below hbx); replace BK33 := Aside0.mk (BK33.out.below hbx); replace SS := Aside0.mk (SS.out.below hbx); replace HB := Aside0.mk (below_step HB.out hbx); clear hbx; have BK7 := Aside0.mk (Bk.mk (hbox : Blk w6 g7 60 #[.slice (some ⟨gr, 0, none⟩) 1 x0, .slice X1 0 x1, .slice X2 0 x2, .int .i64 (cjN i false : Nat), .int .i64 (2 + (i : Int)), .int .i64 0])); clear hbox hg hb; have zBK32_0 : w6.cell? ⟨g32, 0, none⟩ = some (.bool false) := (blk_cell BK32.out.blk 0).trans rfl; have zBK33_0 : w6.cell? ⟨g33, 0, none⟩ = some (.bool false) := (blk_cell BK33.out.blk 0).trans rfl; obtain ⟨zBK7_0, zBK7_1, zBK7_2, zBK7_3, zBK7_4, zBK7_5⟩ := BK7.out.c6) | (go_at_call 33; (with_reducible refine (alive_any _).mono ?_); rintro e w7 ⟨rfl, hb⟩; have hbx : Below w6.heap.size w6 w7 := below_step (by repeat (first | (with_reducible first | exact Below.refl _ _ | apply below_alloc | apply pw_below_drewN | apply below_drew1) | exact Below.refl _ _)) hb; clear zBK32_0 zBK33_0 zBK7_0 zBK7_1 zBK7_2 zBK7_3 zBK7_4 zBK7_5; replace RO29 := Aside0.mk (RO29.out.below hbx); replace BK32 := Aside0.mk (BK32.out.below hbx); replace BK33 := Aside0.mk (BK33.out.below hbx); replace SS := Aside0.mk (SS.out.below hbx); replace BK7 := Aside0.mk (BK7.out.below hbx); replace HB := Aside0.mk (below_step HB.out hbx); clear hbx; clear hb; have q2 := Rw.one SS.out.sr.r0; have zBK32_0 : w7.cell? ⟨g32, 0, none⟩ = some (.bool false) := (blk_cell BK32.out.blk 0).trans rfl; have zBK33_0 : w7.cell? ⟨g33, 0, none⟩ = some (.bool false) := (blk_cell BK33.out.blk 0).trans rfl; obtain ⟨zBK7_0, zBK7_1, zBK7_2, zBK7_3, zBK7_4, zBK7_5⟩ := BK7.out.c6))
        go_ret
        exact ⟨rfl, HB.out⟩
        skip
    | succ k1 =>
      have q0 : decide (i < k) = true := decide_eq_true (by have := hi.out; omega)
      have q1 : decide ((i : Int) < (k : Int)) = true := decide_eq_true (by have := hi.out; omega)
      have LI : Aside0 ((cjI k i).length + 1 ≤ 100) := ⟨by rw [cjI_len]; have := hi.out; omega⟩
      have i2 : i ≤ 49 := by have := hi.out; omega
      have i1 : (i : Int) ≤ 49 := by have := hi.out; omega
      have HB := Aside0.mk (Below.refl wr.heap.size wr)
      clear HB
      have HB := Aside0.mk I.out.1
      skip
      have ROi := Aside0.mk I.out.2
      clear I
      skip
      go_wp2_with (first | ((with_reducible refine gate_dst (N := 23) rfl ?_); refine Evt.slice_event ?hg (N := 23) ?hd (cs := #[.int .i64 12, .int .i64 1, .int .i64 0, .int .i64 0]) (t := 66) (n := 1) ?hr ?_; (case hd => rfl); (case hg => rfl); (case hr => first | (go_simp; done) | (go_simp; rfl)); intro g23 hg w1 hbox hb; have hbx : Below wr.heap.size wr w1 := below_step (by repeat (first | (with_reducible first | exact Below.refl _ _ | apply below_alloc | apply pw_below_drewN | apply below_drew1) | exact Below.refl _ _)) hb; replace ROi := Aside0.mk (ROi.out.below hbx); replace HB := Aside0.mk (below_step HB.out hbx); clear hbx; have BK23 := Aside0.mk (Bk.mk (hbox : Blk w1 g23 66 #[.int .i64 12, .int .i64 1, .int .i64 0, .int .i64 0])); clear hbox hg hb; obtain ⟨zBK23_0, zBK23_1, zBK23_2, zBK23_3⟩ := BK23.out.c4) | ((with_reducible refine gate_dst (N := 24) rfl ?_); at_builtin; refine app66 (w0 := w) rfl (.tmp 20) (.tmp 23) rfl u6 (cjI k i) [stn] (some ⟨g23, 0, none⟩) 1 1 rfl rfl ((ROi.out.below (by repeat (first | (with_reducible first | exact Below.refl _ _ | apply below_alloc | apply pw_below_drewN | apply below_drew1) | exact Below.refl _ _)))) (C66_1 BK23.out) (below_step HB.out (by repeat (first | (with_reducible first | exact Below.refl _ _ | apply below_alloc | apply pw_below_drewN | apply below_drew1) | exact Below.refl _ _))) (by have := LI.out; omega) ?_; intro v24 w2 ho hb hg; clear zBK23_0 zBK23_1 zBK23_2 zBK23_3; clear HB hg ROi BK23; have HB := Aside0.mk hb; have RO24 := Aside0.mk ho; clear ho hb; rw [cjI_next] at RO24))
      go_roundg k1
      case measure => omega
      case rel => exact ⟨i + 1, by go_num, ⟨by have := hi.out; omega⟩, ⟨HB.out, RO24.out⟩⟩

end Go.Proofs.Ytjohdkbciafpfaa.Vm6
