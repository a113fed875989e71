/- The successor functions of Reachable and Ancestors, walked. -/
import Derived.Test.YtmacdknicgfglaaTs
import Derived.Test.YtmacdknicgfglaaGp
namespace Go.Proofs.Ytmacdknicgfglaa.Gw
open Go.RowKit Go.Shelf Go.Proofs.YtmacdknicgfglaaW.PrintWords Go.Proofs.YtmacdknicgfglaaW.PrintMore Go.Proofs.YtmacdknicgfglaaW.PrintLast Go.Proofs.Ytmacdknicgfglaa.Chg Go.Proofs.Ytmacdknicgfglaa.Evt Go.Proofs.Ytmacdknicgfglaa.Impl Go.Proofs.Ytmacdknicgfglaa.Gp Go.Proofs.Ytmacdknicgfglaa.Mp
set_option linter.unusedVariables false
set_option linter.unusedSimpArgs false
set_option maxRecDepth 100000
/-- A function from a name to names, in every world of which Ok. -/
structure StepsV (k : Nat) (lb : Array Value) (q : ByteArray → List ByteArray) (Ok : World → Prop) : Prop where
  out : ∀ (W : World) (x : ByteArray), Ok W → Calls Try.prog k (#[.string x] ++ lb) W fun e W' => ∃ v, e = .returned v ∧ Ro Kd.string 9 W W' v (q x) ∧ Below W.heap.size W W'
/-- A rung of an elder world's rows in block gr. -/
structure OkR (w0 : World) (gr : Nat) (a0 : ByteArray) (A1 : Option Addr) (c1 : Nat) (l1 : List S41) (A2 : Option Addr) (c2 : Nat) (l2 : List S101) (a3 : ByteArray) (w : World) : Prop where
  br : Bk w gr 25 #[.string a0, .slice A1 l1.length c1, .slice A2 l2.length c2, .string a3]
  bel : Below w0.heap.size w0 w
  rg : Rg w0 A1 c1 l1 A2 c2 l2
section
variable {w w' w0 : World} {A1 A2 : Option Addr} {c1 c2 b n gr gt : Nat} {l1 : List S41} {l2 : List S101} {a0 a3 : ByteArray}
theorem OkR.below (h : OkR w0 gr a0 A1 c1 l1 A2 c2 l2 a3 w) (hb : Below w.heap.size w w') : OkR w0 gr a0 A1 c1 l1 A2 c2 l2 a3 w' := ⟨h.br.below hb, below_step h.bel hb, h.rg⟩
theorem OkR.rg' (h : OkR w0 gr a0 A1 c1 l1 A2 c2 l2 a3 w) : Rg w A1 c1 l1 A2 c2 l2 := h.rg.below h.bel
/-- The names so far. -/
structure Nt (w1 w : World) (v : Value) (xs : List ByteArray) : Prop where
  row : Ro Kd.string 9 w1 w v xs
  bel : Below w1.heap.size w1 w
theorem Nt.below {w1 : World} {v : Value} {xs : List ByteArray} (h : Nt w1 w v xs) (hb : Below w.heap.size w w') : Nt w1 w' v xs := ⟨h.row.below hb, below_step h.bel hb⟩
set_option maxHeartbeats 4000000 in
theorem suc_any (hok : okG (es l1) = true) : StepsV 53 #[.pointer (some ⟨gr, 0, none⟩)] (sucL (es l1)) (OkR w0 gr a0 A1 c1 l1 A2 c2 l2 a3) := by
  refine ⟨fun W s hO => ?_⟩
  have LN : l1.length ≤ 1000 := by have := okG_len hok; rw [es_len] at this; exact this
  have OK := Aside0.mk hok
  have NN : Aside0 ((outL (es l1) s).length ≤ 1000) := Aside0.mk (by have := idxs_len (fun c => decide (c.1 = s)) (es l1); rw [es_len] at this; unfold outL; omega)
  have T := Aside0.mk hO
  clear hO hok
  have HB := Aside0.mk (Below.refl W.heap.size W)
  have KR : Aside0 (Bk W gr 25 #[.string a0, .slice A1 l1.length c1, .slice A2 l2.length c2, .string a3]) := Aside0.mk (T.out.br)
  have RG := Aside0.mk (T.out.rg')
  clear T
  have zKR_0 : W.cell? ⟨gr, 0, none⟩ = some (.string a0) := (blk_cell KR.out.blk 0).trans rfl
  have zKR_1 : W.cell? ⟨gr, 1, none⟩ = some (.slice A1 l1.length c1) := (blk_cell KR.out.blk 1).trans rfl
  have zKR_2 : W.cell? ⟨gr, 2, none⟩ = some (.slice A2 l2.length c2) := (blk_cell KR.out.blk 2).trans rfl
  have zKR_3 : W.cell? ⟨gr, 3, none⟩ = some (.string a3) := (blk_cell KR.out.blk 3).trans rfl
  show Calls Try.prog 53 #[.string s, .pointer (some ⟨gr, 0, none⟩)] W _
  go_enter Try.func53, Try.ntmps53
  go_wp2_with (first | ((with_reducible refine gate_callee (f := 21) rfl ?_); refine goesL_ (some 9) rfl rfl Try.func21 (by kernel_rfl) rfl #[.agg #[.string a0, .slice A1 l1.length c1, .slice A2 l2.length c2, .string a3], .string s] rfl (by (try simp only [List.map_toArray, List.map_cons, List.map_nil]); first | done | rfl | (simp only [List.length_drop, List.length_take]; rfl)) ?_; (with_reducible refine (outgoing_any _ (RG.out.below (by repeat (first | (with_reducible first | exact Below.refl _ _ | apply below_alloc | apply pw_below_drewN | apply below_drew1) | exact Below.refl _ _))) LN s).mono ?_); rintro e w1 ⟨v, rfl, ho, hb⟩; have hbx : Below W.heap.size W w1 := below_step (by repeat (first | (with_reducible first | exact Below.refl _ _ | apply below_alloc | apply pw_below_drewN | apply below_drew1) | exact Below.refl _ _)) hb; obtain ⟨A_, c_, rfl, hw_⟩ := Ro.sliceI ho; clear zKR_0 zKR_1 zKR_2 zKR_3; have n_KR := Aside0.mk (KR.out.below hbx); have n_RG := Aside0.mk (RG.out.below hbx); have n_HB := Aside0.mk (below_step HB.out hbx); clear HB KR RG; have KR := n_KR; have RG := n_RG; have HB := n_HB; clear hbx n_KR n_RG n_HB; have IW := Aside0.mk (hw_.out); clear hb; clear ho hw_; have zKR_0 : w1.cell? ⟨gr, 0, none⟩ = some (.string a0) := (blk_cell KR.out.blk 0).trans rfl; have zKR_1 : w1.cell? ⟨gr, 1, none⟩ = some (.slice A1 l1.length c1) := (blk_cell KR.out.blk 1).trans rfl; have zKR_2 : w1.cell? ⟨gr, 2, none⟩ = some (.slice A2 l2.length c2) := (blk_cell KR.out.blk 2).trans rfl; have zKR_3 : w1.cell? ⟨gr, 3, none⟩ = some (.string a3) := (blk_cell KR.out.blk 3).trans rfl; refine ⟨_, rfl, ?_⟩))
  have ND : Aside0 (Nt w1 w1 (.slice none 0 0) (((outL (es l1) s).take 0).map (toE (es l1)))) := Aside0.mk ⟨⟨Kd.R_nil _ _ _ _ _⟩, Below.refl _ _⟩
  have B1 := HB
  clear HB zKR_0 zKR_1 zKR_2 zKR_3
  go_loopg [4, 11] (outL (es l1) s).length (fun kq v4 v11 wr => ∃ j : Nat, v11 = .int .i64 j ∧ Aside0 (j + kq = (outL (es l1) s).length) ∧ Aside0 (Nt w1 wr v4 (((outL (es l1) s).take j).map (toE (es l1)))))
  case atStart => exact ⟨0, rfl, ⟨by omega⟩, ND⟩
  case round =>
    clear ND
    obtain ⟨j, rfl, hj, ND⟩ := hrel
    cases gk with
    | zero =>
      have e0 : j = (outL (es l1) s).length := by have := hj.out; omega
      have q0 : decide (j < (outL (es l1) s).length) = false := decide_eq_false (by omega)
      have q1 : decide ((j : Int) < ((outL (es l1) s).length : Int)) = false := decide_eq_false (by omega)
      have NE := Aside0.mk e0
      clear e0 hj
      go_wp2
      go_ret
      refine ⟨_, rfl, ?_, below_step B1.out ND.out.bel⟩
      have := Ro.lower ND.out.row B1.out.size
      rw [List.take_of_length_le (by rw [NE.out]; exact Nat.le_refl _)] at this
      exact this
    | succ k1 =>
      have hjl : j < (outL (es l1) s).length := by have := hj.out; omega
      have q0 : decide (j < (outL (es l1) s).length) = true := decide_eq_true (by omega)
      have q1 : decide ((j : Int) < ((outL (es l1) s).length : Int)) = true := decide_eq_true (by omega)
      obtain ⟨m, hm, hml⟩ : ∃ m : Nat, (outL (es l1) s)[j] = (m : Int) ∧ m < l1.length := by
        obtain ⟨m, hm, hl, _⟩ := outL_mem.1 (List.getElem_mem hjl)
        exact ⟨m, hm, by rw [es_len] at hl; exact hl⟩
      have p0 : decide (m < l1.length) = true := decide_eq_true hml
      have p1 : decide ((m : Int) < (l1.length : Int)) = true := decide_eq_true (by omega)
      obtain ⟨ad, rfl, x0⟩ := at_int0 (IW.out.below ND.out.bel).row (j : Int) (by omega) (by omega)
      rw [Int.toNat_natCast, show rd (outL (es l1) s) (j : Int) = (m : Int) by rw [← hm]; simp [rd, List.getD_eq_getElem?_getD, List.getElem?_eq_getElem hjl]] at x0
      have ST := Aside0.mk (show ((outL (es l1) s).take (j + 1)).map (toE (es l1)) = ((outL (es l1) s).take j).map (toE (es l1)) ++ [l1[m].f3] by rw [List.take_succ_eq_append_getElem hjl, List.map_append, hm]; simp [to_at hml])
      have LX := Aside0.mk (show (((outL (es l1) s).take j).map (toE (es l1))).length ≤ 1000 by rw [List.length_map, List.length_take]; have := NN.out; omega)
      clear hm
      obtain ⟨ad2, rfl, _⟩ := RG.out.at hml
      have y3 := ((RG.out.below ND.out.bel).c4 hml)
      have HB := Aside0.mk (Below.refl wr.heap.size wr)
      have NL := Aside0.mk (ND.out)
      have KS : Aside0 (Bk wr gr 25 #[.string a0, .slice (some ad2) l1.length c1, .slice A2 l2.length c2, .string a3]) := Aside0.mk (KR.out.below ND.out.bel)
      clear ND
      have zKS_0 : wr.cell? ⟨gr, 0, none⟩ = some (.string a0) := (blk_cell KS.out.blk 0).trans rfl
      have zKS_1 : wr.cell? ⟨gr, 1, none⟩ = some (.slice (some ad2) l1.length c1) := (blk_cell KS.out.blk 1).trans rfl
      have zKS_2 : wr.cell? ⟨gr, 2, none⟩ = some (.slice A2 l2.length c2) := (blk_cell KS.out.blk 2).trans rfl
      have zKS_3 : wr.cell? ⟨gr, 3, none⟩ = some (.string a3) := (blk_cell KS.out.blk 3).trans rfl
      go_wp2_with (first | ((with_reducible refine gate_dst (N := 22) rfl ?_); refine Evt.slice_event ?hg (N := 22) ?hd (cs := #[.string l1[m].f3]) (t := 9) (n := 1) ?hr ?_; (case hd => rfl); (case hg => rfl); (case hr => first | (go_simp; done) | (go_simp; rfl)); intro g22 hg w1 hbox hb; have hbx : Below wr.heap.size wr w1 := below_step (by repeat (first | (with_reducible first | exact Below.refl _ _ | apply below_alloc | apply pw_below_drewN | apply below_drew1) | exact Below.refl _ _)) hb; clear zKS_0 zKS_1 zKS_2 zKS_3; have n_NL := Aside0.mk (NL.out.below hbx); have n_KS := Aside0.mk (KS.out.below hbx); have n_HB := Aside0.mk (below_step HB.out hbx); clear HB NL KS; have NL := n_NL; have KS := n_KS; have HB := n_HB; clear hbx n_NL n_KS n_HB; have BK22 := Aside0.mk (Bk.mk (hbox : Blk w1 g22 9 #[.string l1[m].f3])); clear hbox hg hb; have zKS_0 : w1.cell? ⟨gr, 0, none⟩ = some (.string a0) := (blk_cell KS.out.blk 0).trans rfl; have zKS_1 : w1.cell? ⟨gr, 1, none⟩ = some (.slice (some ad2) l1.length c1) := (blk_cell KS.out.blk 1).trans rfl; have zKS_2 : w1.cell? ⟨gr, 2, none⟩ = some (.slice A2 l2.length c2) := (blk_cell KS.out.blk 2).trans rfl; have zKS_3 : w1.cell? ⟨gr, 3, none⟩ = some (.string a3) := (blk_cell KS.out.blk 3).trans rfl; have zBK22_0 : w1.cell? ⟨g22, 0, none⟩ = some (.string l1[m].f3) := (blk_cell BK22.out.blk 0).trans rfl) | ((with_reducible refine gate_dst (N := 23) rfl ?_); at_builtin; refine Evt.ro_app Value.string (fun _ => rfl) ByteArray.empty rfl (.tmp 15) (.tmp 22) 29 9 (.string ⟨#[]⟩) 16 rfl Try.underlying29 info9 rfl (by decide) u4 (((outL (es l1) s).take j).map (toE (es l1))) l1[m].f3 g22 rfl rfl NL.out.row BK22.out NL.out.bel (by have := LX.out; omega) ?_; intro v23 wa_ ho hb hg hat; have NF := Aside0.mk (Nt.mk ho hb); clear ho hb hg hat NL HB BK22 zBK22_0))
      go_roundg k1
      case measure => omega
      case rel => exact ⟨j + 1, (by have := NN.out; have hw : wrap64 ((j : Int) + 1) = ((j + 1 : Nat) : Int) := (by unfold wrap64; omega); show Value.int .i64 (wrap64 ((j : Int) + 1)) = _; rw [hw]), ⟨by have := hj.out; omega⟩, ⟨by rw [ST.out]; exact NF.out⟩⟩
set_option maxHeartbeats 4000000 in
theorem pre_any (hok : okG (es l1) = true) : StepsV 55 #[.pointer (some ⟨gr, 0, none⟩)] (preL (es l1)) (OkR w0 gr a0 A1 c1 l1 A2 c2 l2 a3) := by
  refine ⟨fun W s hO => ?_⟩
  have LN : l1.length ≤ 1000 := by have := okG_len hok; rw [es_len] at this; exact this
  have OK := Aside0.mk hok
  have NN : Aside0 ((inL (es l1) s).length ≤ 1000) := Aside0.mk (by have := idxs_len (fun c => decide (c.2 = s)) (es l1); rw [es_len] at this; unfold inL; omega)
  have T := Aside0.mk hO
  clear hO hok
  have HB := Aside0.mk (Below.refl W.heap.size W)
  have KR : Aside0 (Bk W gr 25 #[.string a0, .slice A1 l1.length c1, .slice A2 l2.length c2, .string a3]) := Aside0.mk (T.out.br)
  have RG := Aside0.mk (T.out.rg')
  clear T
  have zKR_0 : W.cell? ⟨gr, 0, none⟩ = some (.string a0) := (blk_cell KR.out.blk 0).trans rfl
  have zKR_1 : W.cell? ⟨gr, 1, none⟩ = some (.slice A1 l1.length c1) := (blk_cell KR.out.blk 1).trans rfl
  have zKR_2 : W.cell? ⟨gr, 2, none⟩ = some (.slice A2 l2.length c2) := (blk_cell KR.out.blk 2).trans rfl
  have zKR_3 : W.cell? ⟨gr, 3, none⟩ = some (.string a3) := (blk_cell KR.out.blk 3).trans rfl
  show Calls Try.prog 55 #[.string s, .pointer (some ⟨gr, 0, none⟩)] W _
  go_enter Try.func55, Try.ntmps55
  go_wp2_with (first | ((with_reducible refine gate_callee (f := 23) rfl ?_); refine goesL_ (some 9) rfl rfl Try.func23 (by kernel_rfl) rfl #[.agg #[.string a0, .slice A1 l1.length c1, .slice A2 l2.length c2, .string a3], .string s] rfl (by (try simp only [List.map_toArray, List.map_cons, List.map_nil]); first | done | rfl | (simp only [List.length_drop, List.length_take]; rfl)) ?_; (with_reducible refine (incoming_any _ (RG.out.below (by repeat (first | (with_reducible first | exact Below.refl _ _ | apply below_alloc | apply pw_below_drewN | apply below_drew1) | exact Below.refl _ _))) LN s).mono ?_); rintro e w1 ⟨v, rfl, ho, hb⟩; have hbx : Below W.heap.size W w1 := below_step (by repeat (first | (with_reducible first | exact Below.refl _ _ | apply below_alloc | apply pw_below_drewN | apply below_drew1) | exact Below.refl _ _)) hb; obtain ⟨A_, c_, rfl, hw_⟩ := Ro.sliceI ho; clear zKR_0 zKR_1 zKR_2 zKR_3; have n_KR := Aside0.mk (KR.out.below hbx); have n_RG := Aside0.mk (RG.out.below hbx); have n_HB := Aside0.mk (below_step HB.out hbx); clear HB KR RG; have KR := n_KR; have RG := n_RG; have HB := n_HB; clear hbx n_KR n_RG n_HB; have IW := Aside0.mk (hw_.out); clear hb; clear ho hw_; have zKR_0 : w1.cell? ⟨gr, 0, none⟩ = some (.string a0) := (blk_cell KR.out.blk 0).trans rfl; have zKR_1 : w1.cell? ⟨gr, 1, none⟩ = some (.slice A1 l1.length c1) := (blk_cell KR.out.blk 1).trans rfl; have zKR_2 : w1.cell? ⟨gr, 2, none⟩ = some (.slice A2 l2.length c2) := (blk_cell KR.out.blk 2).trans rfl; have zKR_3 : w1.cell? ⟨gr, 3, none⟩ = some (.string a3) := (blk_cell KR.out.blk 3).trans rfl; refine ⟨_, rfl, ?_⟩))
  have ND : Aside0 (Nt w1 w1 (.slice none 0 0) (((inL (es l1) s).take 0).map (fromE (es l1)))) := Aside0.mk ⟨⟨Kd.R_nil _ _ _ _ _⟩, Below.refl _ _⟩
  have B1 := HB
  clear HB zKR_0 zKR_1 zKR_2 zKR_3
  go_loopg [4, 11] (inL (es l1) s).length (fun kq v4 v11 wr => ∃ j : Nat, v11 = .int .i64 j ∧ Aside0 (j + kq = (inL (es l1) s).length) ∧ Aside0 (Nt w1 wr v4 (((inL (es l1) s).take j).map (fromE (es l1)))))
  case atStart => exact ⟨0, rfl, ⟨by omega⟩, ND⟩
  case round =>
    clear ND
    obtain ⟨j, rfl, hj, ND⟩ := hrel
    cases gk with
    | zero =>
      have e0 : j = (inL (es l1) s).length := by have := hj.out; omega
      have q0 : decide (j < (inL (es l1) s).length) = false := decide_eq_false (by omega)
      have q1 : decide ((j : Int) < ((inL (es l1) s).length : Int)) = false := decide_eq_false (by omega)
      have NE := Aside0.mk e0
      clear e0 hj
      go_wp2
      go_ret
      refine ⟨_, rfl, ?_, below_step B1.out ND.out.bel⟩
      have := Ro.lower ND.out.row B1.out.size
      rw [List.take_of_length_le (by rw [NE.out]; exact Nat.le_refl _)] at this
      exact this
    | succ k1 =>
      have hjl : j < (inL (es l1) s).length := by have := hj.out; omega
      have q0 : decide (j < (inL (es l1) s).length) = true := decide_eq_true (by omega)
      have q1 : decide ((j : Int) < ((inL (es l1) s).length : Int)) = true := decide_eq_true (by omega)
      obtain ⟨m, hm, hml⟩ : ∃ m : Nat, (inL (es l1) s)[j] = (m : Int) ∧ m < l1.length := by
        obtain ⟨m, hm, hl, _⟩ := inL_mem.1 (List.getElem_mem hjl)
        exact ⟨m, hm, by rw [es_len] at hl; exact hl⟩
      have p0 : decide (m < l1.length) = true := decide_eq_true hml
      have p1 : decide ((m : Int) < (l1.length : Int)) = true := decide_eq_true (by omega)
      obtain ⟨ad, rfl, x0⟩ := at_int0 (IW.out.below ND.out.bel).row (j : Int) (by omega) (by omega)
      rw [Int.toNat_natCast, show rd (inL (es l1) s) (j : Int) = (m : Int) by rw [← hm]; simp [rd, List.getD_eq_getElem?_getD, List.getElem?_eq_getElem hjl]] at x0
      have ST := Aside0.mk (show ((inL (es l1) s).take (j + 1)).map (fromE (es l1)) = ((inL (es l1) s).take j).map (fromE (es l1)) ++ [l1[m].f2] by rw [List.take_succ_eq_append_getElem hjl, List.map_append, hm]; simp [from_at hml])
      have LX := Aside0.mk (show (((inL (es l1) s).take j).map (fromE (es l1))).length ≤ 1000 by rw [List.length_map, List.length_take]; have := NN.out; omega)
      clear hm
      obtain ⟨ad2, rfl, _⟩ := RG.out.at hml
      have y3 := ((RG.out.below ND.out.bel).c3 hml)
      have HB := Aside0.mk (Below.refl wr.heap.size wr)
      have NL := Aside0.mk (ND.out)
      have KS : Aside0 (Bk wr gr 25 #[.string a0, .slice (some ad2) l1.length c1, .slice A2 l2.length c2, .string a3]) := Aside0.mk (KR.out.below ND.out.bel)
      clear ND
      have zKS_0 : wr.cell? ⟨gr, 0, none⟩ = some (.string a0) := (blk_cell KS.out.blk 0).trans rfl
      have zKS_1 : wr.cell? ⟨gr, 1, none⟩ = some (.slice (some ad2) l1.length c1) := (blk_cell KS.out.blk 1).trans rfl
      have zKS_2 : wr.cell? ⟨gr, 2, none⟩ = some (.slice A2 l2.length c2) := (blk_cell KS.out.blk 2).trans rfl
      have zKS_3 : wr.cell? ⟨gr, 3, none⟩ = some (.string a3) := (blk_cell KS.out.blk 3).trans rfl
      go_wp2_with (first | ((with_reducible refine gate_dst (N := 22) rfl ?_); refine Evt.slice_event ?hg (N := 22) ?hd (cs := #[.string l1[m].f2]) (t := 9) (n := 1) ?hr ?_; (case hd => rfl); (case hg => rfl); (case hr => first | (go_simp; done) | (go_simp; rfl)); intro g22 hg w1 hbox hb; have hbx : Below wr.heap.size wr w1 := below_step (by repeat (first | (with_reducible first | exact Below.refl _ _ | apply below_alloc | apply pw_below_drewN | apply below_drew1) | exact Below.refl _ _)) hb; clear zKS_0 zKS_1 zKS_2 zKS_3; have n_NL := Aside0.mk (NL.out.below hbx); have n_KS := Aside0.mk (KS.out.below hbx); have n_HB := Aside0.mk (below_step HB.out hbx); clear HB NL KS; have NL := n_NL; have KS := n_KS; have HB := n_HB; clear hbx n_NL n_KS n_HB; have BK22 := Aside0.mk (Bk.mk (hbox : Blk w1 g22 9 #[.string l1[m].f2])); clear hbox hg hb; have zKS_0 : w1.cell? ⟨gr, 0, none⟩ = some (.string a0) := (blk_cell KS.out.blk 0).trans rfl; have zKS_1 : w1.cell? ⟨gr, 1, none⟩ = some (.slice (some ad2) l1.length c1) := (blk_cell KS.out.blk 1).trans rfl; have zKS_2 : w1.cell? ⟨gr, 2, none⟩ = some (.slice A2 l2.length c2) := (blk_cell KS.out.blk 2).trans rfl; have zKS_3 : w1.cell? ⟨gr, 3, none⟩ = some (.string a3) := (blk_cell KS.out.blk 3).trans rfl; have zBK22_0 : w1.cell? ⟨g22, 0, none⟩ = some (.string l1[m].f2) := (blk_cell BK22.out.blk 0).trans rfl) | ((with_reducible refine gate_dst (N := 23) rfl ?_); at_builtin; refine Evt.ro_app Value.string (fun _ => rfl) ByteArray.empty rfl (.tmp 15) (.tmp 22) 29 9 (.string ⟨#[]⟩) 16 rfl Try.underlying29 info9 rfl (by decide) u4 (((inL (es l1) s).take j).map (fromE (es l1))) l1[m].f2 g22 rfl rfl NL.out.row BK22.out NL.out.bel (by have := LX.out; omega) ?_; intro v23 wa_ ho hb hg hat; have NF := Aside0.mk (Nt.mk ho hb); clear ho hb hg hat NL HB BK22 zBK22_0))
      go_roundg k1
      case measure => omega
      case rel => exact ⟨j + 1, (by have := NN.out; have hw : wrap64 ((j : Int) + 1) = ((j + 1 : Nat) : Int) := (by unfold wrap64; omega); show Value.int .i64 (wrap64 ((j : Int) + 1)) = _; rw [hw]), ⟨by have := hj.out; omega⟩, ⟨by rw [ST.out]; exact NF.out⟩⟩
end
end Go.Proofs.Ytmacdknicgfglaa.Gw
/- graph.gather's visit, walked. -/
namespace Go.Proofs.Ytmacdknicgfglaa.Gw
open Go.RowKit Go.Shelf Go.Proofs.YtmacdknicgfglaaW.PrintWords Go.Proofs.YtmacdknicgfglaaW.PrintMore Go.Proofs.YtmacdknicgfglaaW.PrintLast Go.Proofs.Ytmacdknicgfglaa.Chg Go.Proofs.Ytmacdknicgfglaa.Evt Go.Proofs.Ytmacdknicgfglaa.Impl Go.Proofs.Ytmacdknicgfglaa.Gp Go.Proofs.Ytmacdknicgfglaa.Mp
set_option linter.unusedVariables false
set_option linter.unusedSimpArgs false
set_option maxRecDepth 100000
/-- A visit at hand: what is seen (behind gt), the steps (gs), itself (gv). -/
structure Vs (Ok : World → Prop) (gt gs gv b : Nat) (kf : Nat) (lb : Array Value) (seen : List ByteArray) (w : World) : Prop where
  bt : Bk w gt 65 #[.map (some b)]
  bs : Bk w gs 75 #[.func (.func kf) #[] lb]
  bv : Bk w gv 82 #[.func (.func 63) #[] #[.pointer (some ⟨gt, 0, none⟩), .pointer (some ⟨gs, 0, none⟩), .pointer (some ⟨gv, 0, none⟩)]]
  m : MB w b seen.length (fun s => decide (s ∈ seen))
  ok : Ok w
/-- What the visit leans on. -/
structure Vh (Ok : World → Prop) (b : Nat) (kf : Nat) (lb : Array Value) (q : ByteArray → List ByteArray) (all : List ByteArray) : Prop where
  st : StepsV kf lb q Ok
  eg : ∀ args w, (callFunc kf args).run Try.prog w = .ok (.enter kf args) w
  okc : ∀ w w', Ok w → Chg (fun i => i = b) w w' → Ok w'
  al : ∀ x ∈ all, x.size ≤ 100000
  an : all.length ≤ 3000
  qn : ∀ n ∈ all, ∀ m ∈ q n, m ∈ all
  ql : ∀ n, (q n).length ≤ 1000
section
variable {Ok : World → Prop} {gt gs gv b kf : Nat} {lb : Array Value} {seen : List ByteArray} {w w' : World} {q : ByteArray → List ByteArray} {all : List ByteArray}
abbrev CB (b : Nat) (w w' : World) : Prop := Chg (fun i => i = b) w w'
theorem CB.trans {w'' : World} (h : CB b w w') (k : CB b w' w'') : CB b w w'' := Chg.trans h k (fun i hi => .inl hi)
theorem CB.below (h : Below w.heap.size w w') : CB b w w' := Chg.of_below h
theorem CB.grown (h : w.grownBy w' (some b)) : CB b w w' := Chg.of_grown h (fun k hk => .inl (by cases hk; rfl))
theorem CB.to (h : CB b w w') : w.grownBy w' (some b) := ⟨h.os, h.tape, h.output, h.size, fun k hk hne => h.block k hk (fun e => hne (by rw [e]))⟩
theorem Vs.turn (h : Vs Ok gt gs gv b kf lb seen w) (hh : Vh Ok b kf lb q all) (hc : CB b w w') {seen' : List ByteArray} (hm : MB w' b seen'.length (fun s => decide (s ∈ seen'))) : Vs Ok gt gs gv b kf lb seen' w' :=
  ⟨h.bt.mput h.m hc.to, h.bs.mput h.m hc.to, h.bv.mput h.m hc.to, hm, hh.okc _ _ h.ok hc⟩
theorem Vs.below (h : Vs Ok gt gs gv b kf lb seen w) (hh : Vh Ok b kf lb q all) (hb : Below w.heap.size w w') : Vs Ok gt gs gv b kf lb seen w' := h.turn hh (CB.below hb) (h.m.below hb)
theorem Vs.put {w1 : World} (h : Vs Ok gt gs gv b kf lb seen w) (hh : Vh Ok b kf lb q all) {s : ByteArray} (hm : MB w1 b (seen.length + 1) (fun z => if z = s then true else decide (z ∈ seen))) (hg : w.grownBy w1 (some b)) : Vs Ok gt gs gv b kf lb (seen ++ [s]) w1 := by
  refine h.turn hh (CB.grown hg) ?_
  rw [List.length_append, List.length_singleton]
  refine hm.congr (fun z => ?_)
  by_cases e : z = s
  · subst e; simp
  · simp [e]
/-- A row that is not the map stays. -/
theorem Ro.cb {w0 : World} {v : Value} {xs : List ByteArray} {n : Nat} {p : ByteArray → Bool} (h : Ro Kd.string 9 w0 w v xs) (hm : MB w b n p) (hc : CB b w w') : Ro Kd.string 9 w0 w' v xs := ⟨R_other h.row hc.to (.inl (hm.row h.row))⟩
/-- One visit, its depth told. -/
def VisitOk (Ok : World → Prop) (gt gs gv b kf : Nat) (lb : Array Value) (q : ByteArray → List ByteArray) (all : List ByteArray) (k : Nat) : Prop :=
  ∀ (seen : List ByteArray) (W : World) (n : ByteArray), n ∈ all → unseen all seen ≤ k → (∀ x ∈ seen, x ∈ all) → seen.Nodup → Vs Ok gt gs gv b kf lb seen W →
    Calls Try.prog 63 #[.string n, .pointer (some ⟨gt, 0, none⟩), .pointer (some ⟨gs, 0, none⟩), .pointer (some ⟨gv, 0, none⟩)] W fun e W' => e = .returned (.tuple #[]) ∧ Vs Ok gt gs gv b kf lb (visitG q k seen n) W' ∧ CB b W W'
set_option maxHeartbeats 1000000 in
theorem visit_old (hh : Vh Ok b kf lb q all) (n : ByteArray) (hn : n ∈ all) (hs : n ∈ seen) (h : Vs Ok gt gs gv b kf lb seen w) :
    Calls Try.prog 63 #[.string n, .pointer (some ⟨gt, 0, none⟩), .pointer (some ⟨gs, 0, none⟩), .pointer (some ⟨gv, 0, none⟩)] w fun e W' => e = .returned (.tuple #[]) ∧ Vs Ok gt gs gv b kf lb seen W' ∧ CB b w W' := by
  have V := Aside0.mk h
  have x0 := h.bt.blk.cell 0 rfl
  have SZ := Aside0.mk (hh.al n hn)
  have HS := Aside0.mk (decide_eq_true hs)
  clear h
  go_enter Try.func63, Try.ntmps63
  go_wp2_with (refine Mp.getB_ev rfl rfl (s := n) (v := true) rfl rfl (by have := SZ.out; unfold maxLen; omega) V.out.m HS.out ?_)
  refine bodyPost_ret (results_none rfl _ _ _) rfl ?_
  exact ⟨rfl, V.out, Chg.refl _ _⟩
theorem eg_v : ∀ args w, (callFunc 63 args).run Try.prog w = .ok (.enter 63 args) w := enters_of Try.func63 (by kernel_rfl) rfl
set_option maxHeartbeats 4000000 in
theorem visit_new (hh : Vh Ok b kf lb q all) (k : Nat) (ih : VisitOk Ok gt gs gv b kf lb q all k) (n : ByteArray) (hn : n ∈ all) (hs : n ∉ seen) (hu : unseen all seen ≤ k + 1) (hi : ∀ x ∈ seen, x ∈ all) (hd : seen.Nodup) (h : Vs Ok gt gs gv b kf lb seen w) :
    Calls Try.prog 63 #[.string n, .pointer (some ⟨gt, 0, none⟩), .pointer (some ⟨gs, 0, none⟩), .pointer (some ⟨gv, 0, none⟩)] w fun e W' => e = .returned (.tuple #[]) ∧ Vs Ok gt gs gv b kf lb ((q n).foldl (visitG q k) (seen ++ [n])) W' ∧ CB b w W' := by
  have HH := Aside0.mk hh
  have IH := Aside0.mk ih
  have V := Aside0.mk h
  have x0 := h.bt.blk.cell 0 rfl
  have SZ := Aside0.mk (hh.al n hn)
  have HS := Aside0.mk (decide_eq_false hs)
  have QL := Aside0.mk (hh.ql n)
  have QN := Aside0.mk (hh.qn n hn)
  have SL : Aside0 (seen.length ≤ 3000) := Aside0.mk (Nat.le_trans (nodup_len hd hi) hh.an)
  have I0 : Aside0 ((∀ x ∈ seen ++ [n], x ∈ all) ∧ (seen ++ [n]).Nodup) := Aside0.mk (by
    have := visitG_in (q := fun _ => []) (all := all) (fun _ _ m hm => by cases hm) 1 seen n ⟨hi, hd⟩ hn
    unfold visitG at this
    rw [if_neg hs] at this
    exact this)
  have U0 : Aside0 (unseen all (seen ++ [n]) ≤ k) := Aside0.mk (by have := unseen_lt hn hs; omega)
  clear h hh ih hs hu hi hd hn
  have HB := Aside0.mk (Below.refl w.heap.size w)
  go_enter Try.func63, Try.ntmps63
  go_wp2_with (first | (refine Mp.getB_ev rfl rfl (s := n) (v := false) rfl rfl (by have := SZ.out; unfold maxLen; omega) V.out.m HS.out ?_) | (refine Mp.putB_ev rfl (.inl rfl) (s := n) (v := true) rfl rfl rfl (by have := SZ.out; unfold maxLen; omega) (by have := SL.out; unfold maxLen; omega) V.out.m ?_; intro wj hM hg_; have V1 := Aside0.mk (V.out.put HH.out hM hg_); have C1 := Aside0.mk (CB.grown hg_); clear hM hg_; have y0 := V1.out.bs.blk.cell 0 rfl; have eg := HH.out.eg) | (go_at_fn kf; refine (HH.out.st.out wj n V1.out.ok).mono ?_; rintro e W2 ⟨v, rfl, ho, hb⟩; obtain ⟨A_, c_, rfl, RW⟩ := Ro.sliceS ho; have V2 := Aside0.mk (V1.out.below HH.out hb); have C2 := Aside0.mk (C1.out.trans (CB.below hb)); have RO := Aside0.mk ho; clear ho hb))
  have LP : Aside0 (Vs Ok gt gs gv b kf lb (((q n).take 0).foldl (visitG q k) (seen ++ [n])) W2 ∧ CB b w W2 ∧ Ro Kd.string 9 wj W2 (.slice A_ (q n).length c_) (q n)) := Aside0.mk ⟨V2.out, C2.out, RO.out⟩
  clear V V1 V2 C1 C2 RO RW y0 x0 HB
  go_loopg [16] (q n).length (fun kq v16 wr => ∃ j : Nat, v16 = .int .i64 j ∧ Aside0 (j + kq = (q n).length) ∧ Aside0 (Vs Ok gt gs gv b kf lb (((q n).take j).foldl (visitG q k) (seen ++ [n])) wr ∧ CB b w wr ∧ Ro Kd.string 9 wj wr (.slice A_ (q n).length c_) (q n)))
  case atStart => exact ⟨0, rfl, ⟨by omega⟩, LP⟩
  case round =>
    clear LP
    obtain ⟨j, rfl, hj, LP⟩ := hrel
    cases gk with
    | zero =>
      have e0 : j = (q n).length := by have := hj.out; omega
      have q0 : decide (j < (q n).length) = false := decide_eq_false (by omega)
      have q1 : decide ((j : Int) < ((q n).length : Int)) = false := decide_eq_false (by omega)
      have NE := Aside0.mk e0
      clear e0 hj
      go_wp2
      (try simp only [Exit.inBlock, Exit.then])
      refine bodyPost_end (results_none rfl _ _ _) rfl ?_
      have h1 := LP.out.1
      rw [List.take_of_length_le (by rw [NE.out]; exact Nat.le_refl _)] at h1
      exact ⟨rfl, h1, LP.out.2.1⟩
    | succ k1 =>
      have hjl : j < (q n).length := by have := hj.out; omega
      have q0 : decide (j < (q n).length) = true := decide_eq_true (by omega)
      have q1 : decide ((j : Int) < ((q n).length : Int)) = true := decide_eq_true (by omega)
      obtain ⟨x, hx⟩ : ∃ x, Aside0 ((q n)[j] = x) := ⟨_, ⟨rfl⟩⟩
      have ST := Aside0.mk (show ((q n).take (j + 1)).foldl (visitG q k) (seen ++ [n]) = visitG q k (((q n).take j).foldl (visitG q k) (seen ++ [n])) x by rw [List.take_succ_eq_append_getElem hjl, List.foldl_append, hx.out]; rfl)
      obtain ⟨ad, rfl, x0⟩ := Kd.at_string (Rw.of_R LP.out.2.2.row).row (j : Int) (by omega) (by omega)
      rw [Int.toNat_natCast, show rdOf ByteArray.empty (q n) (j : Int) = x by rw [← hx.out]; simp [rdOf, List.getD_eq_getElem?_getD, List.getElem?_eq_getElem hjl]] at x0
      have XA := Aside0.mk (QN.out x (by rw [← hx.out]; exact List.getElem_mem hjl))
      have IN := Aside0.mk (foldl_len (all := all) (Q := fun s => (∀ y ∈ s, y ∈ all) ∧ s.Nodup) (fun s m hQ hm => visitG_in HH.out.qn k s m hQ hm) ((q n).take j) (seen ++ [n]) I0.out (fun m hm => QN.out m (List.mem_of_mem_take hm)))
      have UN := Aside0.mk (Nat.le_trans (unseen_le (all := all) (fun y hy => foldl_ge (visitG_ge q k) ((q n).take j) (seen ++ [n]) y hy)) U0.out)
      have z0 := LP.out.1.bv.blk.cell 0 rfl
      have ev := eg_v
      generalize hse : ((q n).take j).foldl (visitG q k) (seen ++ [n]) = se at LP ST IN UN
      clear hse
      go_wp2_with (go_at_call 63; (refine (IH.out se wr x XA.out UN.out IN.out.1 IN.out.2 LP.out.1).mono ?_; rintro e W3 ⟨rfl, hv, hc⟩; have LQ := Aside0.mk (And.intro hv (And.intro (LP.out.2.1.trans hc) (Ro.cb LP.out.2.2 LP.out.1.m hc))); clear hv hc LP))
      go_roundg k1
      case measure => omega
      case rel => exact ⟨j + 1, (by have := QL.out; have hw : wrap64 ((j : Int) + 1) = ((j + 1 : Nat) : Int) := (by unfold wrap64; omega); show Value.int .i64 (wrap64 ((j : Int) + 1)) = _; rw [hw]), ⟨by have := hj.out; omega⟩, ⟨by rw [ST.out]; exact LQ.out⟩⟩
theorem visit_any (hh : Vh Ok b kf lb q all) : ∀ k, VisitOk Ok gt gs gv b kf lb q all k
  | 0 => fun seen W n hn hu hi hd hv => by
    have hs : n ∈ seen := by
      refine Decidable.byContradiction fun hs => ?_
      have := unseen_lt hn hs
      omega
    exact visit_old hh n hn hs hv
  | k + 1 => fun seen W n hn hu hi hd hv => by
    unfold visitG
    by_cases hs : n ∈ seen
    · rw [if_pos hs]; exact visit_old hh n hn hs hv
    · rw [if_neg hs]; exact visit_new hh k (visit_any hh k) n hn hs hu hi hd hv
theorem visit_go (hh : Vh Ok b kf lb q all) (k : Nat) (seen : List ByteArray) (W : World) (n : ByteArray) (hn : n ∈ all) (hu : unseen all seen ≤ k) (hi : ∀ x ∈ seen, x ∈ all) (hd : seen.Nodup) (hv : Vs Ok gt gs gv b kf lb seen W) :
    Calls Try.prog 63 #[.string n, .pointer (some ⟨gt, 0, none⟩), .pointer (some ⟨gs, 0, none⟩), .pointer (some ⟨gv, 0, none⟩)] W fun e W' => e = .returned (.tuple #[]) ∧ Vs Ok gt gs gv b kf lb (visitG q k seen n) W' ∧ CB b W W' := visit_any hh k seen W n hn hu hi hd hv
end
end Go.Proofs.Ytmacdknicgfglaa.Gw
