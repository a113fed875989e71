/- The successor functions of Reachable and Ancestors, walked. -/
import Derived.Test.YtmacdknicgfglaaTs
import Derived.Test.YtmacdknicgfglaaTp2
namespace Go.Proofs.Ytmacdknicgfglaa.Gw
open Go.RowKit Go.Shelf Go.Proofs.YtmacdknicgfglaaW.PrintWords Go.Proofs.YtmacdknicgfglaaW.PrintMore Go.Proofs.YtmacdknicgfglaaW.PrintLast Go.Proofs.Ytmacdknicgfglaa.Chg Go.Proofs.Ytmacdknicgfglaa.Evt Go.Proofs.Ytmacdknicgfglaa.Impl Go.Proofs.Ytmacdknicgfglaa.Gp Go.Proofs.Ytmacdknicgfglaa.Mp
set_option linter.unusedVariables false
set_option linter.unusedSimpArgs false
set_option maxRecDepth 100000
/-- A function from a name to names, in every world of which Ok. -/
structure StepsV (k : Nat) (lb : Array Value) (q : ByteArray → List ByteArray) (Ok : World → Prop) : Prop where
  out : ∀ (W : World) (x : ByteArray), Ok W → Calls Try.prog k (#[.string x] ++ lb) W fun e W' => ∃ v, e = .returned v ∧ Ro Kd.string 9 W W' v (q x) ∧ Below W.heap.size W W'
/-- A rung of an elder world's rows in block gr. -/
structure OkR (w0 : World) (gr : Nat) (a0 : ByteArray) (A1 : Option Addr) (c1 : Nat) (l1 : List S41) (A2 : Option Addr) (c2 : Nat) (l2 : List S101) (a3 : ByteArray) (w : World) : Prop where
  br : Bk w gr 25 #[.string a0, .slice A1 l1.length c1, .slice A2 l2.length c2, .string a3]
  bel : Below w0.heap.size w0 w
  rg : Rg w0 A1 c1 l1 A2 c2 l2
section
variable {w w' w0 : World} {A1 A2 : Option Addr} {c1 c2 b n gr gt : Nat} {l1 : List S41} {l2 : List S101} {a0 a3 : ByteArray}
theorem OkR.below (h : OkR w0 gr a0 A1 c1 l1 A2 c2 l2 a3 w) (hb : Below w.heap.size w w') : OkR w0 gr a0 A1 c1 l1 A2 c2 l2 a3 w' := ⟨h.br.below hb, below_step h.bel hb, h.rg⟩
theorem OkR.rg' (h : OkR w0 gr a0 A1 c1 l1 A2 c2 l2 a3 w) : Rg w A1 c1 l1 A2 c2 l2 := h.rg.below h.bel
/-- The names so far. -/
structure Nt (w1 w : World) (v : Value) (xs : List ByteArray) : Prop where
  row : Ro Kd.string 9 w1 w v xs
  bel : Below w1.heap.size w1 w
theorem Nt.below {w1 : World} {v : Value} {xs : List ByteArray} (h : Nt w1 w v xs) (hb : Below w.heap.size w w') : Nt w1 w' v xs := ⟨h.row.below hb, below_step h.bel hb⟩
set_option maxHeartbeats 4000000 in
theorem suc_any (hok : okG (es l1) = true) : StepsV 53 #[.pointer (some ⟨gr, 0, none⟩)] (sucL (es l1)) (OkR w0 gr a0 A1 c1 l1 A2 c2 l2 a3) := by
  refine ⟨fun W s hO => ?_⟩
  have LN : l1.length ≤ 1000 := by have := okG_len hok; rw [es_len] at this; exact this
  have OK := Aside0.mk hok
  have NN : Aside0 ((outL (es l1) s).length ≤ 1000) := Aside0.mk (by have := idxs_len (fun c => decide (c.1 = s)) (es l1); rw [es_len] at this; unfold outL; omega)
  have T := Aside0.mk hO
  clear hO hok
  have HB := Aside0.mk (Below.refl W.heap.size W)
  have KR : Aside0 (Bk W gr 25 #[.string a0, .slice A1 l1.length c1, .slice A2 l2.length c2, .string a3]) := Aside0.mk (T.out.br)
  have RG := Aside0.mk (T.out.rg')
  clear T
  have zKR_0 : W.cell? ⟨gr, 0, none⟩ = some (.string a0) := (blk_cell KR.out.blk 0).trans rfl
  have zKR_1 : W.cell? ⟨gr, 1, none⟩ = some (.slice A1 l1.length c1) := (blk_cell KR.out.blk 1).trans rfl
  have zKR_2 : W.cell? ⟨gr, 2, none⟩ = some (.slice A2 l2.length c2) := (blk_cell KR.out.blk 2).trans rfl
  have zKR_3 : W.cell? ⟨gr, 3, none⟩ = some (.string a3) := (blk_cell KR.out.blk 3).trans rfl
  show Calls Try.prog 53 #[.string s, .pointer (some ⟨gr, 0, none⟩)] W _
  go_enter Try.func53, Try.ntmps53
  go_wp2_with (first | ((with_reducible refine gate_callee (f := 21) rfl ?_); refine goesL_ (some 9) rfl rfl Try.func21 (by kernel_rfl) rfl #[.agg #[.string a0, .slice A1 l1.length c1, .slice A2 l2.length c2, .string a3], .string s] rfl (by (try simp only [List.map_toArray, List.map_cons, List.map_nil]); first | done | rfl | (simp only [List.length_drop, List.length_take]; rfl)) ?_; (with_reducible refine (outgoing_any _ (RG.out.below (by repeat (first | (with_reducible first | exact Below.refl _ _ | apply below_alloc | apply pw_below_drewN | apply below_drew1) | exact Below.refl _ _))) LN s).mono ?_); rintro e w1 ⟨v, rfl, ho, hb⟩; have hbx : Below W.heap.size W w1 := below_step (by repeat (first | (with_reducible first | exact Below.refl _ _ | apply below_alloc | apply pw_below_drewN | apply below_drew1) | exact Below.refl _ _)) hb; obtain ⟨A_, c_, rfl, hw_⟩ := Ro.sliceI ho; clear zKR_0 zKR_1 zKR_2 zKR_3; have n_KR := Aside0.mk (KR.out.below hbx); have n_RG := Aside0.mk (RG.out.below hbx); have n_HB := Aside0.mk (below_step HB.out hbx); clear HB KR RG; have KR := n_KR; have RG := n_RG; have HB := n_HB; clear hbx n_KR n_RG n_HB; have IW := Aside0.mk (hw_.out); clear hb; clear ho hw_; have zKR_0 : w1.cell? ⟨gr, 0, none⟩ = some (.string a0) := (blk_cell KR.out.blk 0).trans rfl; have zKR_1 : w1.cell? ⟨gr, 1, none⟩ = some (.slice A1 l1.length c1) := (blk_cell KR.out.blk 1).trans rfl; have zKR_2 : w1.cell? ⟨gr, 2, none⟩ = some (.slice A2 l2.length c2) := (blk_cell KR.out.blk 2).trans rfl; have zKR_3 : w1.cell? ⟨gr, 3, none⟩ = some (.string a3) := (blk_cell KR.out.blk 3).trans rfl; refine ⟨_, rfl, ?_⟩))
  have ND : Aside0 (Nt w1 w1 (.slice none 0 0) (((outL (es l1) s).take 0).map (toE (es l1)))) := Aside0.mk ⟨⟨Kd.R_nil _ _ _ _ _⟩, Below.refl _ _⟩
  have B1 := HB
  clear HB zKR_0 zKR_1 zKR_2 zKR_3
  go_loopg [4, 11] (outL (es l1) s).length (fun kq v4 v11 wr => ∃ j : Nat, v11 = .int .i64 j ∧ Aside0 (j + kq = (outL (es l1) s).length) ∧ Aside0 (Nt w1 wr v4 (((outL (es l1) s).take j).map (toE (es l1)))))
  case atStart => exact ⟨0, rfl, ⟨by omega⟩, ND⟩
  case round =>
    clear ND
    obtain ⟨j, rfl, hj, ND⟩ := hrel
    cases gk with
    | zero =>
      have e0 : j = (outL (es l1) s).length := by have := hj.out; omega
      have q0 : decide (j < (outL (es l1) s).length) = false := decide_eq_false (by omega)
      have q1 : decide ((j : Int) < ((outL (es l1) s).length : Int)) = false := decide_eq_false (by omega)
      have NE := Aside0.mk e0
      clear e0 hj
      go_wp2
      go_ret
      refine ⟨_, rfl, ?_, below_step B1.out ND.out.bel⟩
      have := Ro.lower ND.out.row B1.out.size
      rw [List.take_of_length_le (by rw [NE.out]; exact Nat.le_refl _)] at this
      exact this
    | succ k1 =>
      have hjl : j < (outL (es l1) s).length := by have := hj.out; omega
      have q0 : decide (j < (outL (es l1) s).length) = true := decide_eq_true (by omega)
      have q1 : decide ((j : Int) < ((outL (es l1) s).length : Int)) = true := decide_eq_true (by omega)
      obtain ⟨m, hm, hml⟩ : ∃ m : Nat, (outL (es l1) s)[j] = (m : Int) ∧ m < l1.length := by
        obtain ⟨m, hm, hl, _⟩ := outL_mem.1 (List.getElem_mem hjl)
        exact ⟨m, hm, by rw [es_len] at hl; exact hl⟩
      have p0 : decide (m < l1.length) = true := decide_eq_true hml
      have p1 : decide ((m : Int) < (l1.length : Int)) = true := decide_eq_true (by omega)
      obtain ⟨ad, rfl, x0⟩ := at_int0 (IW.out.below ND.out.bel).row (j : Int) (by omega) (by omega)
      rw [Int.toNat_natCast, show rd (outL (es l1) s) (j : Int) = (m : Int) by rw [← hm]; simp [rd, List.getD_eq_getElem?_getD, List.getElem?_eq_getElem hjl]] at x0
      have ST := Aside0.mk (show ((outL (es l1) s).take (j + 1)).map (toE (es l1)) = ((outL (es l1) s).take j).map (toE (es l1)) ++ [l1[m].f3] by rw [List.take_succ_eq_append_getElem hjl, List.map_append, hm]; simp [to_at hml])
      have LX := Aside0.mk (show (((outL (es l1) s).take j).map (toE (es l1))).length ≤ 1000 by rw [List.length_map, List.length_take]; have := NN.out; omega)
      clear hm
      obtain ⟨ad2, rfl, _⟩ := RG.out.at hml
      have y3 := ((RG.out.below ND.out.bel).c4 hml)
      have HB := Aside0.mk (Below.refl wr.heap.size wr)
      have NL := Aside0.mk (ND.out)
      have KS : Aside0 (Bk wr gr 25 #[.string a0, .slice (some ad2) l1.length c1, .slice A2 l2.length c2, .string a3]) := Aside0.mk (KR.out.below ND.out.bel)
      clear ND
      have zKS_0 : wr.cell? ⟨gr, 0, none⟩ = some (.string a0) := (blk_cell KS.out.blk 0).trans rfl
      have zKS_1 : wr.cell? ⟨gr, 1, none⟩ = some (.slice (some ad2) l1.length c1) := (blk_cell KS.out.blk 1).trans rfl
      have zKS_2 : wr.cell? ⟨gr, 2, none⟩ = some (.slice A2 l2.length c2) := (blk_cell KS.out.blk 2).trans rfl
      have zKS_3 : wr.cell? ⟨gr, 3, none⟩ = some (.string a3) := (blk_cell KS.out.blk 3).trans rfl
      go_wp2_with (first | ((with_reducible refine gate_dst (N := 22) rfl ?_); refine Evt.slice_event ?hg (N := 22) ?hd (cs := #[.string l1[m].f3]) (t := 9) (n := 1) ?hr ?_; (case hd => rfl); (case hg => rfl); (case hr => first | (go_simp; done) | (go_simp; rfl)); intro g22 hg w1 hbox hb; have hbx : Below wr.heap.size wr w1 := below_step (by repeat (first | (with_reducible first | exact Below.refl _ _ | apply below_alloc | apply pw_below_drewN | apply below_drew1) | exact Below.refl _ _)) hb; clear zKS_0 zKS_1 zKS_2 zKS_3; have n_NL := Aside0.mk (NL.out.below hbx); have n_KS := Aside0.mk (KS.out.below hbx); have n_HB := Aside0.mk (below_step HB.out hbx); clear HB NL KS; have NL := n_NL; have KS := n_KS; have HB := n_HB; clear hbx n_NL n_KS n_HB; have BK22 := Aside0.mk (Bk.mk (hbox : Blk w1 g22 9 #[.string l1[m].f3])); clear hbox hg hb; have zKS_0 : w1.cell? ⟨gr, 0, none⟩ = some (.string a0) := (blk_cell KS.out.blk 0).trans rfl; have zKS_1 : w1.cell? ⟨gr, 1, none⟩ = some (.slice (some ad2) l1.length c1) := (blk_cell KS.out.blk 1).trans rfl; have zKS_2 : w1.cell? ⟨gr, 2, none⟩ = some (.slice A2 l2.length c2) := (blk_cell KS.out.blk 2).trans rfl; have zKS_3 : w1.cell? ⟨gr, 3, none⟩ = some (.string a3) := (blk_cell KS.out.blk 3).trans rfl; have zBK22_0 : w1.cell? ⟨g22, 0, none⟩ = some (.string l1[m].f3) := (blk_cell BK22.out.blk 0).trans rfl) | ((with_reducible refine gate_dst (N := 23) rfl ?_); at_builtin; refine Evt.ro_app Value.string (fun _ => rfl) ByteArray.empty rfl (.tmp 15) (.tmp 22) 29 9 (.string ⟨#[]⟩) 16 rfl Try.underlying29 info9 rfl (by decide) u4 (((outL (es l1) s).take j).map (toE (es l1))) l1[m].f3 g22 rfl rfl NL.out.row BK22.out NL.out.bel (by have := LX.out; omega) ?_; intro v23 wa_ ho hb hg hat; have NF := Aside0.mk (Nt.mk ho hb); clear ho hb hg hat NL HB BK22 zBK22_0))
      go_roundg k1
      case measure => omega
      case rel => exact ⟨j + 1, (by have := NN.out; have hw : wrap64 ((j : Int) + 1) = ((j + 1 : Nat) : Int) := (by unfold wrap64; omega); show Value.int .i64 (wrap64 ((j : Int) + 1)) = _; rw [hw]), ⟨by have := hj.out; omega⟩, ⟨by rw [ST.out]; exact NF.out⟩⟩
set_option maxHeartbeats 4000000 in
theorem pre_any (hok : okG (es l1) = true) : StepsV 55 #[.pointer (some ⟨gr, 0, none⟩)] (preL (es l1)) (OkR w0 gr a0 A1 c1 l1 A2 c2 l2 a3) := by
  refine ⟨fun W s hO => ?_⟩
  have LN : l1.length ≤ 1000 := by have := okG_len hok; rw [es_len] at this; exact this
  have OK := Aside0.mk hok
  have NN : Aside0 ((inL (es l1) s).length ≤ 1000) := Aside0.mk (by have := idxs_len (fun c => decide (c.2 = s)) (es l1); rw [es_len] at this; unfold inL; omega)
  have T := Aside0.mk hO
  clear hO hok
  have HB := Aside0.mk (Below.refl W.heap.size W)
  have KR : Aside0 (Bk W gr 25 #[.string a0, .slice A1 l1.length c1, .slice A2 l2.length c2, .string a3]) := Aside0.mk (T.out.br)
  have RG := Aside0.mk (T.out.rg')
  clear T
  have zKR_0 : W.cell? ⟨gr, 0, none⟩ = some (.string a0) := (blk_cell KR.out.blk 0).trans rfl
  have zKR_1 : W.cell? ⟨gr, 1, none⟩ = some (.slice A1 l1.length c1) := (blk_cell KR.out.blk 1).trans rfl
  have zKR_2 : W.cell? ⟨gr, 2, none⟩ = some (.slice A2 l2.length c2) := (blk_cell KR.out.blk 2).trans rfl
  have zKR_3 : W.cell? ⟨gr, 3, none⟩ = some (.string a3) := (blk_cell KR.out.blk 3).trans rfl
  show Calls Try.prog 55 #[.string s, .pointer (some ⟨gr, 0, none⟩)] W _
  go_enter Try.func55, Try.ntmps55
  go_wp2_with (first | ((with_reducible refine gate_callee (f := 23) rfl ?_); refine goesL_ (some 9) rfl rfl Try.func23 (by kernel_rfl) rfl #[.agg #[.string a0, .slice A1 l1.length c1, .slice A2 l2.length c2, .string a3], .string s] rfl (by (try simp only [List.map_toArray, List.map_cons, List.map_nil]); first | done | rfl | (simp only [List.length_drop, List.length_take]; rfl)) ?_; (with_reducible refine (incoming_any _ (RG.out.below (by repeat (first | (with_reducible first | exact Below.refl _ _ | apply below_alloc | apply pw_below_drewN | apply below_drew1) | exact Below.refl _ _))) LN s).mono ?_); rintro e w1 ⟨v, rfl, ho, hb⟩; have hbx : Below W.heap.size W w1 := below_step (by repeat (first | (with_reducible first | exact Below.refl _ _ | apply below_alloc | apply pw_below_drewN | apply below_drew1) | exact Below.refl _ _)) hb; obtain ⟨A_, c_, rfl, hw_⟩ := Ro.sliceI ho; clear zKR_0 zKR_1 zKR_2 zKR_3; have n_KR := Aside0.mk (KR.out.below hbx); have n_RG := Aside0.mk (RG.out.below hbx); have n_HB := Aside0.mk (below_step HB.out hbx); clear HB KR RG; have KR := n_KR; have RG := n_RG; have HB := n_HB; clear hbx n_KR n_RG n_HB; have IW := Aside0.mk (hw_.out); clear hb; clear ho hw_; have zKR_0 : w1.cell? ⟨gr, 0, none⟩ = some (.string a0) := (blk_cell KR.out.blk 0).trans rfl; have zKR_1 : w1.cell? ⟨gr, 1, none⟩ = some (.slice A1 l1.length c1) := (blk_cell KR.out.blk 1).trans rfl; have zKR_2 : w1.cell? ⟨gr, 2, none⟩ = some (.slice A2 l2.length c2) := (blk_cell KR.out.blk 2).trans rfl; have zKR_3 : w1.cell? ⟨gr, 3, none⟩ = some (.string a3) := (blk_cell KR.out.blk 3).trans rfl; refine ⟨_, rfl, ?_⟩))
  have ND : Aside0 (Nt w1 w1 (.slice none 0 0) (((inL (es l1) s).take 0).map (fromE (es l1)))) := Aside0.mk ⟨⟨Kd.R_nil _ _ _ _ _⟩, Below.refl _ _⟩
  have B1 := HB
  clear HB zKR_0 zKR_1 zKR_2 zKR_3
  go_loopg [4, 11] (inL (es l1) s).length (fun kq v4 v11 wr => ∃ j : Nat, v11 = .int .i64 j ∧ Aside0 (j + kq = (inL (es l1) s).length) ∧ Aside0 (Nt w1 wr v4 (((inL (es l1) s).take j).map (fromE (es l1)))))
  case atStart => exact ⟨0, rfl, ⟨by omega⟩, ND⟩
  case round =>
    clear ND
    obtain ⟨j, rfl, hj, ND⟩ := hrel
    cases gk with
    | zero =>
      have e0 : j = (inL (es l1) s).length := by have := hj.out; omega
      have q0 : decide (j < (inL (es l1) s).length) = false := decide_eq_false (by omega)
      have q1 : decide ((j : Int) < ((inL (es l1) s).length : Int)) = false := decide_eq_false (by omega)
      have NE := Aside0.mk e0
      clear e0 hj
      go_wp2
      go_ret
      refine ⟨_, rfl, ?_, below_step B1.out ND.out.bel⟩
      have := Ro.lower ND.out.row B1.out.size
      rw [List.take_of_length_le (by rw [NE.out]; exact Nat.le_refl _)] at this
      exact this
    | succ k1 =>
      have hjl : j < (inL (es l1) s).length := by have := hj.out; omega
      have q0 : decide (j < (inL (es l1) s).length) = true := decide_eq_true (by omega)
      have q1 : decide ((j : Int) < ((inL (es l1) s).length : Int)) = true := decide_eq_true (by omega)
      obtain ⟨m, hm, hml⟩ : ∃ m : Nat, (inL (es l1) s)[j] = (m : Int) ∧ m < l1.length := by
        obtain ⟨m, hm, hl, _⟩ := inL_mem.1 (List.getElem_mem hjl)
        exact ⟨m, hm, by rw [es_len] at hl; exact hl⟩
      have p0 : decide (m < l1.length) = true := decide_eq_true hml
      have p1 : decide ((m : Int) < (l1.length : Int)) = true := decide_eq_true (by omega)
      obtain ⟨ad, rfl, x0⟩ := at_int0 (IW.out.below ND.out.bel).row (j : Int) (by omega) (by omega)
      rw [Int.toNat_natCast, show rd (inL (es l1) s) (j : Int) = (m : Int) by rw [← hm]; simp [rd, List.getD_eq_getElem?_getD, List.getElem?_eq_getElem hjl]] at x0
      have ST := Aside0.mk (show ((inL (es l1) s).take (j + 1)).map (fromE (es l1)) = ((inL (es l1) s).take j).map (fromE (es l1)) ++ [l1[m].f2] by rw [List.take_succ_eq_append_getElem hjl, List.map_append, hm]; simp [from_at hml])
      have LX := Aside0.mk (show (((inL (es l1) s).take j).map (fromE (es l1))).length ≤ 1000 by rw [List.length_map, List.length_take]; have := NN.out; omega)
      clear hm
      obtain ⟨ad2, rfl, _⟩ := RG.out.at hml
      have y3 := ((RG.out.below ND.out.bel).c3 hml)
      have HB := Aside0.mk (Below.refl wr.heap.size wr)
      have NL := Aside0.mk (ND.out)
      have KS : Aside0 (Bk wr gr 25 #[.string a0, .slice (some ad2) l1.length c1, .slice A2 l2.length c2, .string a3]) := Aside0.mk (KR.out.below ND.out.bel)
      clear ND
      have zKS_0 : wr.cell? ⟨gr, 0, none⟩ = some (.string a0) := (blk_cell KS.out.blk 0).trans rfl
      have zKS_1 : wr.cell? ⟨gr, 1, none⟩ = some (.slice (some ad2) l1.length c1) := (blk_cell KS.out.blk 1).trans rfl
      have zKS_2 : wr.cell? ⟨gr, 2, none⟩ = some (.slice A2 l2.length c2) := (blk_cell KS.out.blk 2).trans rfl
      have zKS_3 : wr.cell? ⟨gr, 3, none⟩ = some (.string a3) := (blk_cell KS.out.blk 3).trans rfl
      go_wp2_with (first | ((with_reducible refine gate_dst (N := 22) rfl ?_); refine Evt.slice_event ?hg (N := 22) ?hd (cs := #[.string l1[m].f2]) (t := 9) (n := 1) ?hr ?_; (case hd => rfl); (case hg => rfl); (case hr => first | (go_simp; done) | (go_simp; rfl)); intro g22 hg w1 hbox hb; have hbx : Below wr.heap.size wr w1 := below_step (by repeat (first | (with_reducible first | exact Below.refl _ _ | apply below_alloc | apply pw_below_drewN | apply below_drew1) | exact Below.refl _ _)) hb; clear zKS_0 zKS_1 zKS_2 zKS_3; have n_NL := Aside0.mk (NL.out.below hbx); have n_KS := Aside0.mk (KS.out.below hbx); have n_HB := Aside0.mk (below_step HB.out hbx); clear HB NL KS; have NL := n_NL; have KS := n_KS; have HB := n_HB; clear hbx n_NL n_KS n_HB; have BK22 := Aside0.mk (Bk.mk (hbox : Blk w1 g22 9 #[.string l1[m].f2])); clear hbox hg hb; have zKS_0 : w1.cell? ⟨gr, 0, none⟩ = some (.string a0) := (blk_cell KS.out.blk 0).trans rfl; have zKS_1 : w1.cell? ⟨gr, 1, none⟩ = some (.slice (some ad2) l1.length c1) := (blk_cell KS.out.blk 1).trans rfl; have zKS_2 : w1.cell? ⟨gr, 2, none⟩ = some (.slice A2 l2.length c2) := (blk_cell KS.out.blk 2).trans rfl; have zKS_3 : w1.cell? ⟨gr, 3, none⟩ = some (.string a3) := (blk_cell KS.out.blk 3).trans rfl; have zBK22_0 : w1.cell? ⟨g22, 0, none⟩ = some (.string l1[m].f2) := (blk_cell BK22.out.blk 0).trans rfl) | ((with_reducible refine gate_dst (N := 23) rfl ?_); at_builtin; refine Evt.ro_app Value.string (fun _ => rfl) ByteArray.empty rfl (.tmp 15) (.tmp 22) 29 9 (.string ⟨#[]⟩) 16 rfl Try.underlying29 info9 rfl (by decide) u4 (((inL (es l1) s).take j).map (fromE (es l1))) l1[m].f2 g22 rfl rfl NL.out.row BK22.out NL.out.bel (by have := LX.out; omega) ?_; intro v23 wa_ ho hb hg hat; have NF := Aside0.mk (Nt.mk ho hb); clear ho hb hg hat NL HB BK22 zBK22_0))
      go_roundg k1
      case measure => omega
      case rel => exact ⟨j + 1, (by have := NN.out; have hw : wrap64 ((j : Int) + 1) = ((j + 1 : Nat) : Int) := (by unfold wrap64; omega); show Value.int .i64 (wrap64 ((j : Int) + 1)) = _; rw [hw]), ⟨by have := hj.out; omega⟩, ⟨by rw [ST.out]; exact NF.out⟩⟩
end
end Go.Proofs.Ytmacdknicgfglaa.Gw
