/- GraphReversal, walked. -/
import Derived.Test.YtmacdknicgfglaaLw1
import Derived.Test.YtmacdknicgfglaaLw3
import Derived.Test.YtmacdknicgfglaaPa
import Derived.Test.YtmacdknicgfglaaRv
namespace Go.Proofs.Ytmacdknicgfglaa.Gw
open Go.RowKit Go.Shelf Go.Proofs.YtmacdknicgfglaaW.PrintWords Go.Proofs.YtmacdknicgfglaaW.PrintMore Go.Proofs.YtmacdknicgfglaaW.PrintLast Go.Proofs.Ytmacdknicgfglaa.Chg Go.Proofs.Ytmacdknicgfglaa.Evt Go.Proofs.Ytmacdknicgfglaa.Impl Go.Proofs.Ytmacdknicgfglaa.Gp Go.Proofs.Ytmacdknicgfglaa.Mp Go.Proofs.Ytmacdknicgfglaa.Open
open Go.Proofs.Ytmacdknicgfglaa.Pe (tl)
set_option linter.unusedVariables false
set_option linter.unusedSimpArgs false
set_option maxRecDepth 100000
/-- The contacts turned, so far. -/
def tk (l : List Ed) (j : Nat) : List S41 := ((turnE l).take j).map mkC
theorem tk_len {l : List Ed} {j : Nat} (h : j ≤ l.length) : (tk l j).length = j := by unfold tk; rw [List.length_map, List.length_take, turn_len]; omega
theorem tk_succ {l : List Ed} {j : Nat} (h : j < l.length) : tk l (j + 1) = tk l j ++ [mkC (l[j].2, l[j].1)] := by
  unfold tk
  rw [List.take_succ_eq_append_getElem (by rw [turn_len]; exact h), List.map_append, turn_get h]
  rfl
theorem tk_all (l : List Ed) : es (tk l l.length) = turnE l := by
  unfold tk
  rw [List.take_of_length_le (by rw [turn_len]; exact Nat.le_refl _), es_mk]
section
variable {A1 A2 : Option Addr} {c1 c2 : Nat} {l1 : List S41} {l2 : List S101} {a0 a3 s : ByteArray}
theorem okG_turn {l : List Ed} (h : okG l = true) : okG (turnE l) = true := by
  unfold okG
  rw [Bool.and_eq_true]
  refine ⟨decide_eq_true (by rw [turn_len]; exact okG_len h), List.all_eq_true.2 fun c hc => ?_⟩
  have hm := turn_mem.1 hc
  rw [Bool.and_eq_true]
  exact ⟨decide_eq_true (okG_f3 h hm), decide_eq_true (okG_f2 h hm)⟩
theorem reach_q (w : World) (h : Rg w A1 c1 l1 none 0 []) (hok : okG (es l1) = true) (n : ByteArray) : Calls Try.prog 27 #[.agg #[.string a0, .slice A1 l1.length c1, .slice none 0 0, .string a3], .string n] w fun e w' => ∃ v, e = .returned v ∧ Ro Kd.string 9 w w' v (reachL (es l1) n) ∧ Below w.heap.size w w' := reach_any (a0 := a0) (a3 := a3) (A1 := A1) (c1 := c1) (A2 := none) (c2 := 0) (l1 := l1) (l2 := []) w h hok n
theorem anc_q (w : World) (h : Rg w A1 c1 l1 none 0 []) (hok : okG (es l1) = true) (n : ByteArray) : Calls Try.prog 30 #[.agg #[.string a0, .slice A1 l1.length c1, .slice none 0 0, .string a3], .string n] w fun e w' => ∃ v, e = .returned v ∧ Ro Kd.string 9 w w' v (ancL (es l1) n) ∧ Below w.heap.size w w' := anc_any (a0 := a0) (a3 := a3) (A1 := A1) (c1 := c1) (A2 := none) (c2 := 0) (l1 := l1) (l2 := []) w h hok n
theorem topo_q (w : World) (h : Rg w A1 c1 l1 none 0 []) (hok : okG (es l1) = true) : Calls Try.prog 25 #[.agg #[.string a0, .slice A1 l1.length c1, .slice none 0 0, .string a3]] w fun e w' => ∃ v, e = .returned (.tuple #[v, .int .i64 (errT (topo (es l1)))]) ∧ Ro Kd.string 9 w w' v ((topo (es l1)).getD []) ∧ Below w.heap.size w w' := topo_any (a0 := a0) (a3 := a3) (A1 := A1) (c1 := c1) (A2 := none) (c2 := 0) (l1 := l1) (l2 := []) w h hok
theorem nodes_q (w : World) (h : Rg w A1 c1 l1 none 0 []) (hok : okG (es l1) = true) : Calls Try.prog 18 #[.agg #[.string a0, .slice A1 l1.length c1, .slice none 0 0, .string a3]] w fun e w' => ∃ v, e = .returned v ∧ Ro Kd.string 9 w w' v (nodesL (es l1)) ∧ Below w.heap.size w w' := nodes_any (a0 := a0) (a3 := a3) (A1 := A1) (c1 := c1) (A2 := none) (c2 := 0) (l1 := l1) (l2 := []) w h hok
theorem out_q (w : World) (h : Rg w A1 c1 l1 none 0 []) (hn : l1.length ≤ 1000) (n : ByteArray) : Calls Try.prog 21 #[.agg #[.string a0, .slice A1 l1.length c1, .slice none 0 0, .string a3], .string n] w fun e w' => ∃ v, e = .returned v ∧ Ro (Kd.int .i64) 3 w w' v (outL (es l1) n) ∧ Below w.heap.size w w' := outgoing_any (a0 := a0) (a3 := a3) (A1 := A1) (c1 := c1) (A2 := none) (c2 := 0) (l1 := l1) (l2 := []) w h hn n
theorem in_q (w : World) (h : Rg w A1 c1 l1 none 0 []) (hn : l1.length ≤ 1000) (n : ByteArray) : Calls Try.prog 23 #[.agg #[.string a0, .slice A1 l1.length c1, .slice none 0 0, .string a3], .string n] w fun e w' => ∃ v, e = .returned v ∧ Ro (Kd.int .i64) 3 w w' v (inL (es l1) n) ∧ Below w.heap.size w w' := incoming_any (a0 := a0) (a3 := a3) (A1 := A1) (c1 := c1) (A2 := none) (c2 := 0) (l1 := l1) (l2 := []) w h hn n
theorem topo_ae (w : World) (h : Rg w A1 c1 l1 A2 c2 l2) (hok : okG (es l1) = true) {e1 : Int} (he : errT (topo (es l1)) = e1) : Calls Try.prog 25 #[.agg #[.string a0, .slice A1 l1.length c1, .slice A2 l2.length c2, .string a3]] w fun e w' => ∃ v, e = .returned (.tuple #[v, .int .i64 e1]) ∧ Ro Kd.string 9 w w' v ((topo (es l1)).getD []) ∧ Below w.heap.size w w' := by subst he; exact topo_any w h hok
theorem topo_qe (w : World) (h : Rg w A1 c1 l1 none 0 []) (hok : okG (es l1) = true) {e1 : Int} (he : errT (topo (es l1)) = e1) : Calls Try.prog 25 #[.agg #[.string a0, .slice A1 l1.length c1, .slice none 0 0, .string a3]] w fun e w' => ∃ v, e = .returned (.tuple #[v, .int .i64 e1]) ∧ Ro Kd.string 9 w w' v ((topo (es l1)).getD []) ∧ Below w.heap.size w w' := by subst he; exact topo_q w h hok
theorem out_qe (w : World) (h : Rg w A1 c1 l1 none 0 []) (hn : l1.length ≤ 1000) (n : ByteArray) {o : List Int} (ho : outL (es l1) n = o) : Calls Try.prog 21 #[.agg #[.string a0, .slice A1 l1.length c1, .slice none 0 0, .string a3], .string n] w fun e w' => ∃ v, e = .returned v ∧ Ro (Kd.int .i64) 3 w w' v o ∧ Below w.heap.size w w' := by subst ho; exact out_q w h hn n
theorem in_qe (w : World) (h : Rg w A1 c1 l1 none 0 []) (hn : l1.length ≤ 1000) (n : ByteArray) {o : List Int} (ho : inL (es l1) n = o) : Calls Try.prog 23 #[.agg #[.string a0, .slice A1 l1.length c1, .slice none 0 0, .string a3], .string n] w fun e w' => ∃ v, e = .returned v ∧ Ro (Kd.int .i64) 3 w w' v o ∧ Below w.heap.size w w' := by subst ho; exact in_q w h hn n
set_option maxHeartbeats 8000000 in
theorem rev_small (w : World) (h : Rg w A1 c1 l1 A2 c2 l2) (hz : SzR l1) (hb : tl (es l1) ≤ 0) : Calls Try.prog 8 #[.agg #[.string a0, .slice A1 l1.length c1, .slice A2 l2.length c2, .string a3], .string s] w fun x w' => x = .returned (.bool true) ∧ Below w.heap.size w w' := by
  have SZ := Aside0.mk hz
  have O12 := Aside0.mk (Ok12.of hb)
  have TL := Aside0.mk (tl_0 hb)
  have LN : l1.length ≤ 60 := O12.out.ln
  have HB := Aside0.mk (Below.refl w.heap.size w)
  have R := Aside0.mk (h)
  have R0 := Aside0.mk h
  clear h hz hb
  go_enter Try.func8, Try.ntmps8
  go_wp2_with (first | ((with_reducible refine gate_dst (N := 2) rfl ?_); refine box_event ?hg (N := 2) ?hd (cs := #[.string a0, .slice A1 l1.length c1, .slice A2 l2.length c2, .string a3]) (t := 25) ?hr ?_; (case hd => rfl); (case hg => rfl); (case hr => first | (go_simp; done) | (go_simp; rfl)); intro g2 hg w1 hbox hb; have hbx : Below w.heap.size w w1 := below_step (by repeat (first | (with_reducible first | exact Below.refl _ _ | apply below_alloc | apply pw_below_drewN | apply below_drew1) | exact Below.refl _ _)) hb; have n_R := Aside0.mk (R.out.below hbx); have n_HB := Aside0.mk (below_step HB.out hbx); clear HB R; have R := n_R; have HB := n_HB; clear hbx n_R n_HB; have BK2 := Aside0.mk (Bk.mk (hbox : Blk w1 g2 25 #[.string a0, .slice A1 l1.length c1, .slice A2 l2.length c2, .string a3])); clear hbox hg hb; have zBK2_0 : w1.cell? ⟨g2, 0, none⟩ = some (.string a0) := (blk_cell BK2.out.blk 0).trans rfl; have zBK2_1 : w1.cell? ⟨g2, 1, none⟩ = some (.slice A1 l1.length c1) := (blk_cell BK2.out.blk 1).trans rfl; have zBK2_2 : w1.cell? ⟨g2, 2, none⟩ = some (.slice A2 l2.length c2) := (blk_cell BK2.out.blk 2).trans rfl; have zBK2_3 : w1.cell? ⟨g2, 3, none⟩ = some (.string a3) := (blk_cell BK2.out.blk 3).trans rfl) | ((with_reducible refine gate_callee (f := 15) rfl ?_); refine goesL_ (some 21) rfl rfl Try.func15 (by kernel_rfl) rfl #[.agg #[.string a0, .slice A1 l1.length c1, .slice A2 l2.length c2, .string a3]] rfl (by (try simp only [List.map_toArray, List.map_cons, List.map_nil]); first | done | rfl | (simp only [List.length_drop, List.length_take]; rfl)) ?_; (with_reducible refine (Pe.tl_any _ (R.out.below (by repeat (first | (with_reducible first | exact Below.refl _ _ | apply below_alloc | apply pw_below_drewN | apply below_drew1) | exact Below.refl _ _))) SZ.out TL.out).mono ?_); rintro e w2 ⟨rfl, hb⟩; have hbx : Below w1.heap.size w1 w2 := below_step (by repeat (first | (with_reducible first | exact Below.refl _ _ | apply below_alloc | apply pw_below_drewN | apply below_drew1) | exact Below.refl _ _)) hb; clear zBK2_0 zBK2_1 zBK2_2 zBK2_3; have n_R := Aside0.mk (R.out.below hbx); have n_BK2 := Aside0.mk (BK2.out.below hbx); have n_HB := Aside0.mk (below_step HB.out hbx); clear HB R BK2; have R := n_R; have BK2 := n_BK2; have HB := n_HB; clear hbx n_R n_BK2 n_HB; clear hb; have zBK2_0 : w2.cell? ⟨g2, 0, none⟩ = some (.string a0) := (blk_cell BK2.out.blk 0).trans rfl; have zBK2_1 : w2.cell? ⟨g2, 1, none⟩ = some (.slice A1 l1.length c1) := (blk_cell BK2.out.blk 1).trans rfl; have zBK2_2 : w2.cell? ⟨g2, 2, none⟩ = some (.slice A2 l2.length c2) := (blk_cell BK2.out.blk 2).trans rfl; have zBK2_3 : w2.cell? ⟨g2, 3, none⟩ = some (.string a3) := (blk_cell BK2.out.blk 3).trans rfl; refine ⟨_, rfl, ?_⟩) | ((with_reducible refine gate_dst (N := 5) rfl ?_); refine Evt.box2 ?hg (N := 5) ?hd (z := #[.string ⟨#[]⟩, .slice none 0 0, .slice none 0 0, .string ⟨#[]⟩]) (cs := #[.string ⟨#[]⟩, .slice none 0 0, .slice none 0 0, .string ⟨#[]⟩]) (T := 25) ?hr ?hg2 (.tmp 24) ?ho2 ?hd2 ?hy ?hx ?hi ?hz ?h1 ?_; (case hd => rfl); (case hg => rfl); (case hr => first | (go_simp; done) | (go_simp; rfl)); (case hg2 => rfl); (case ho2 => rfl); (case hd2 => rfl); (case hy => first | rfl | (go_simp; done)); (case hx => first | rfl | (go_simp; done)); (case hi => kernel_rfl); (case hz => rfl); (case h1 => first | rfl | (simp [Value.oneCell'])); intro g5 hg w3 hbox hb; have hbx : Below w2.heap.size w2 w3 := below_step (by repeat (first | (with_reducible first | exact Below.refl _ _ | apply below_alloc | apply pw_below_drewN | apply below_drew1) | exact Below.refl _ _)) hb; have GG5 := Aside0.mk (show w.heap.size ≤ g5 from (by rw [hg]; exact below_size (below_step HB.out (by repeat (first | (with_reducible first | exact Below.refl _ _ | apply below_alloc | apply pw_below_drewN | apply below_drew1) | exact Below.refl _ _))))); have NE5_BK2 := Aside0.mk (show g2 ≠ g5 from (by have h_ := BK2.out.blk.lt; have h2_ : w2.heap.size ≤ g5 := (by rw [hg]; exact below_size (show Below w2.heap.size w2 _ from (by repeat (first | (with_reducible first | exact Below.refl _ _ | apply below_alloc | apply pw_below_drewN | apply below_drew1) | exact Below.refl _ _)))); omega)); clear zBK2_0 zBK2_1 zBK2_2 zBK2_3; have n_R := Aside0.mk (R.out.below hbx); have n_BK2 := Aside0.mk (BK2.out.below hbx); have n_HB := Aside0.mk (below_step HB.out hbx); clear HB R BK2; have R := n_R; have BK2 := n_BK2; have HB := n_HB; clear hbx n_R n_BK2 n_HB; have BK5 := Aside0.mk (Bk.mk (hbox : Blk w3 g5 25 #[.string ⟨#[]⟩, .slice none 0 0, .slice none 0 0, .string ⟨#[]⟩])); clear hbox hg hb; have zBK2_0 : w3.cell? ⟨g2, 0, none⟩ = some (.string a0) := (blk_cell BK2.out.blk 0).trans rfl; have zBK2_1 : w3.cell? ⟨g2, 1, none⟩ = some (.slice A1 l1.length c1) := (blk_cell BK2.out.blk 1).trans rfl; have zBK2_2 : w3.cell? ⟨g2, 2, none⟩ = some (.slice A2 l2.length c2) := (blk_cell BK2.out.blk 2).trans rfl; have zBK2_3 : w3.cell? ⟨g2, 3, none⟩ = some (.string a3) := (blk_cell BK2.out.blk 3).trans rfl; have zBK5_0 : w3.cell? ⟨g5, 0, none⟩ = some (.string ⟨#[]⟩) := (blk_cell BK5.out.blk 0).trans rfl; have zBK5_1 : w3.cell? ⟨g5, 1, none⟩ = some (.slice none 0 0) := (blk_cell BK5.out.blk 1).trans rfl; have zBK5_2 : w3.cell? ⟨g5, 2, none⟩ = some (.slice none 0 0) := (blk_cell BK5.out.blk 2).trans rfl; have zBK5_3 : w3.cell? ⟨g5, 3, none⟩ = some (.string ⟨#[]⟩) := (blk_cell BK5.out.blk 3).trans rfl))
  have QQ : Aside0 (Rv w w3 g5 (.slice none 0 0) (tk (es l1) 0) ∧ Bk w3 g2 25 #[.string a0, .slice A1 l1.length c1, .slice A2 l2.length c2, .string a3]) := Aside0.mk ⟨⟨HB.out, GG5.out, BK5.out, Kd.R_nil _ _ _ _ _⟩, BK2.out⟩
  clear R BK2 BK5 HB zBK2_0 zBK2_1 zBK2_2 zBK2_3 zBK5_0 zBK5_1 zBK5_2 zBK5_3
  go_loopg [28] l1.length (fun kq v28 wr => ∃ (j : Nat) (vq : Value), v28 = .int .i64 j ∧ Aside0 (j + kq = l1.length) ∧ Aside0 (Rv w wr g5 vq (tk (es l1) j) ∧ Bk wr g2 25 #[.string a0, .slice A1 l1.length c1, .slice A2 l2.length c2, .string a3]))
  case atStart => exact ⟨0, _, rfl, ⟨by omega⟩, QQ⟩
  case round =>
    clear QQ
    obtain ⟨j, vq, rfl, hj, QQ⟩ := hrel
    cases gk with
    | succ k1 =>
      have hjl : j < l1.length := by have := hj.out; omega
      have q0 : decide (j < l1.length) = true := decide_eq_true hjl
      have q1 : decide ((j : Int) < (l1.length : Int)) = true := decide_eq_true (by omega)
      have TS := Aside0.mk (tk_succ (l := es l1) (j := j) (by rw [es_len]; exact hjl))
      rw [es_get hjl] at TS
      have LK := Aside0.mk (tk_len (l := es l1) (j := j) (by rw [es_len]; omega))
      obtain ⟨ad, rfl, x0, x1, x2, x3, x4⟩ := (R0.out.below QQ.out.1.bel).at hjl
      have HB := Aside0.mk (Below.refl wr.heap.size wr)
      have RV := Aside0.mk (QQ.out.1)
      have BQ : Aside0 (Bk wr g5 25 #[.string ⟨#[]⟩, vq, .slice none 0 0, .string ⟨#[]⟩]) := Aside0.mk (QQ.out.1.br)
      have B2 := Aside0.mk (QQ.out.2)
      clear QQ
      have zBQ_0 : wr.cell? ⟨g5, 0, none⟩ = some (.string ⟨#[]⟩) := (blk_cell BQ.out.blk 0).trans rfl
      have zBQ_1 : wr.cell? ⟨g5, 1, none⟩ = some (vq) := (blk_cell BQ.out.blk 1).trans rfl
      have zBQ_2 : wr.cell? ⟨g5, 2, none⟩ = some (.slice none 0 0) := (blk_cell BQ.out.blk 2).trans rfl
      have zBQ_3 : wr.cell? ⟨g5, 3, none⟩ = some (.string ⟨#[]⟩) := (blk_cell BQ.out.blk 3).trans rfl
      go_wp2_with (first | ((with_reducible refine gate_dst (N := 7) rfl ?_); refine Evt.box2 ?hg (N := 7) ?hd (z := #[.int .i64 0, .int .i64 0, .int .i64 0, .string ⟨#[]⟩, .string ⟨#[]⟩]) (cs := #[.int .i64 l1[j].f0, .int .i64 l1[j].f1.f0, .int .i64 l1[j].f1.f1, .string l1[j].f2, .string l1[j].f3]) (T := 41) ?hr ?hg2 (.tmp 31) ?ho2 ?hd2 ?hy ?hx ?hi ?hz ?h1 ?_; (case hd => rfl); (case hg => rfl); (case hr => first | (go_simp; done) | (go_simp; rfl)); (case hg2 => rfl); (case ho2 => rfl); (case hd2 => rfl); (case hy => first | rfl | (go_simp; done)); (case hx => first | rfl | (go_simp; done)); (case hi => kernel_rfl); (case hz => rfl); (case h1 => first | rfl | (simp [Value.oneCell'])); intro g7 hg w1 hbox hb; have hbx : Below wr.heap.size wr w1 := below_step (by repeat (first | (with_reducible first | exact Below.refl _ _ | apply below_alloc | apply pw_below_drewN | apply below_drew1) | exact Below.refl _ _)) hb; clear zBQ_0 zBQ_1 zBQ_2 zBQ_3; have n_RV := Aside0.mk (RV.out.below hbx); have n_BQ := Aside0.mk (BQ.out.below hbx); have n_B2 := Aside0.mk (B2.out.below hbx); have n_HB := Aside0.mk (below_step HB.out hbx); clear HB RV BQ B2; have RV := n_RV; have BQ := n_BQ; have B2 := n_B2; have HB := n_HB; clear hbx n_RV n_BQ n_B2 n_HB; have BK7 := Aside0.mk (Bk.mk (hbox : Blk w1 g7 41 #[.int .i64 l1[j].f0, .int .i64 l1[j].f1.f0, .int .i64 l1[j].f1.f1, .string l1[j].f2, .string l1[j].f3])); clear hbox hg hb; have zBQ_0 : w1.cell? ⟨g5, 0, none⟩ = some (.string ⟨#[]⟩) := (blk_cell BQ.out.blk 0).trans rfl; have zBQ_1 : w1.cell? ⟨g5, 1, none⟩ = some (vq) := (blk_cell BQ.out.blk 1).trans rfl; have zBQ_2 : w1.cell? ⟨g5, 2, none⟩ = some (.slice none 0 0) := (blk_cell BQ.out.blk 2).trans rfl; have zBQ_3 : w1.cell? ⟨g5, 3, none⟩ = some (.string ⟨#[]⟩) := (blk_cell BQ.out.blk 3).trans rfl; have zBK7_0 : w1.cell? ⟨g7, 0, none⟩ = some (.int .i64 l1[j].f0) := (blk_cell BK7.out.blk 0).trans rfl; have zBK7_1 : w1.cell? ⟨g7, 1, none⟩ = some (.int .i64 l1[j].f1.f0) := (blk_cell BK7.out.blk 1).trans rfl; have zBK7_2 : w1.cell? ⟨g7, 2, none⟩ = some (.int .i64 l1[j].f1.f1) := (blk_cell BK7.out.blk 2).trans rfl; have zBK7_3 : w1.cell? ⟨g7, 3, none⟩ = some (.string l1[j].f2) := (blk_cell BK7.out.blk 3).trans rfl; have zBK7_4 : w1.cell? ⟨g7, 4, none⟩ = some (.string l1[j].f3) := (blk_cell BK7.out.blk 4).trans rfl) | ((with_reducible refine gate_dst (N := 39) rfl ?_); refine Evt.slice_event ?hg (N := 39) ?hd (cs := #[.int .i64 0, .int .i64 0, .int .i64 0, .string l1[j].f3, .string l1[j].f2]) (t := 41) (n := 1) ?hr ?_; (case hd => rfl); (case hg => rfl); (case hr => first | (go_simp; done) | (go_simp; rfl)); intro g39 hg w2 hbox hb; have hbx : Below w1.heap.size w1 w2 := below_step (by repeat (first | (with_reducible first | exact Below.refl _ _ | apply below_alloc | apply pw_below_drewN | apply below_drew1) | exact Below.refl _ _)) hb; clear zBQ_0 zBQ_1 zBQ_2 zBQ_3 zBK7_0 zBK7_1 zBK7_2 zBK7_3 zBK7_4; have n_RV := Aside0.mk (RV.out.below hbx); have n_BQ := Aside0.mk (BQ.out.below hbx); have n_B2 := Aside0.mk (B2.out.below hbx); have n_BK7 := Aside0.mk (BK7.out.below hbx); have n_HB := Aside0.mk (below_step HB.out hbx); clear HB RV BQ B2 BK7; have RV := n_RV; have BQ := n_BQ; have B2 := n_B2; have BK7 := n_BK7; have HB := n_HB; clear hbx n_RV n_BQ n_B2 n_BK7 n_HB; have BK39 := Aside0.mk (Bk.mk (hbox : Blk w2 g39 41 #[.int .i64 0, .int .i64 0, .int .i64 0, .string l1[j].f3, .string l1[j].f2])); clear hbox hg hb; have zBQ_0 : w2.cell? ⟨g5, 0, none⟩ = some (.string ⟨#[]⟩) := (blk_cell BQ.out.blk 0).trans rfl; have zBQ_1 : w2.cell? ⟨g5, 1, none⟩ = some (vq) := (blk_cell BQ.out.blk 1).trans rfl; have zBQ_2 : w2.cell? ⟨g5, 2, none⟩ = some (.slice none 0 0) := (blk_cell BQ.out.blk 2).trans rfl; have zBQ_3 : w2.cell? ⟨g5, 3, none⟩ = some (.string ⟨#[]⟩) := (blk_cell BQ.out.blk 3).trans rfl; have zBK7_0 : w2.cell? ⟨g7, 0, none⟩ = some (.int .i64 l1[j].f0) := (blk_cell BK7.out.blk 0).trans rfl; have zBK7_1 : w2.cell? ⟨g7, 1, none⟩ = some (.int .i64 l1[j].f1.f0) := (blk_cell BK7.out.blk 1).trans rfl; have zBK7_2 : w2.cell? ⟨g7, 2, none⟩ = some (.int .i64 l1[j].f1.f1) := (blk_cell BK7.out.blk 2).trans rfl; have zBK7_3 : w2.cell? ⟨g7, 3, none⟩ = some (.string l1[j].f2) := (blk_cell BK7.out.blk 3).trans rfl; have zBK7_4 : w2.cell? ⟨g7, 4, none⟩ = some (.string l1[j].f3) := (blk_cell BK7.out.blk 4).trans rfl; have zBK39_0 : w2.cell? ⟨g39, 0, none⟩ = some (.int .i64 0) := (blk_cell BK39.out.blk 0).trans rfl; have zBK39_1 : w2.cell? ⟨g39, 1, none⟩ = some (.int .i64 0) := (blk_cell BK39.out.blk 1).trans rfl; have zBK39_2 : w2.cell? ⟨g39, 2, none⟩ = some (.int .i64 0) := (blk_cell BK39.out.blk 2).trans rfl; have zBK39_3 : w2.cell? ⟨g39, 3, none⟩ = some (.string l1[j].f3) := (blk_cell BK39.out.blk 3).trans rfl; have zBK39_4 : w2.cell? ⟨g39, 4, none⟩ = some (.string l1[j].f2) := (blk_cell BK39.out.blk 4).trans rfl) | ((with_reducible refine gate_dst (N := 40) rfl ?_); at_builtin; refine Evt.app41 rfl (.tmp 33) (.tmp 39) rfl vq (tk (es l1) j) [mkC (l1[j].f3, l1[j].f2)] (some ⟨g39, 0, none⟩) 1 1 rfl rfl RV.out.row (Rg.of_blk (l := [(l1[j].f3, l1[j].f2)]) BK39.out (by simp)).r1 RV.out.bel (by have := LK.out; omega) ?_; intro v40 wa ho hb hg hat; obtain ⟨Aq, cq, rfl⟩ := Kd.R_slice ho; have RN := Aside0.mk (RV.out.app ho hb hg); have BN := Aside0.mk (B2.out.grown hg (row_ne RV.out.row B2.out.blk (by decide))); have z1 := RN.out.br.blk.cell 1 rfl; have fz1 := RN.out.br.blk.frozen 1; clear ho hb hg hat RV B2 BQ HB BK7 BK39 zBK7_0 zBK7_1 zBK7_2 zBK7_3 zBK7_4 zBK39_0 zBK39_1 zBK39_2 zBK39_3 zBK39_4 zBQ_0 zBQ_1 zBQ_2 zBQ_3) | (have rn_ := RN; refine Evt.setc_ev rfl 1 (g := g5) (v := .slice Aq (tk (es l1) j ++ [mkC (l1[j].f3, l1[j].f2)]).length cq) RN.out.br ?hs_ ?_; (case hs_ => first | (go_simp; done) | (go_simp; rfl)); intro wb hB hG; have QN := Aside0.mk (And.intro (RN.out.set hB hG) (BN.out.grown hG (fun e => NE5_BK2.out (by injection e)))); clear hB hG RN BN z1 fz1))
      go_roundg k1
      case measure => omega
      case rel => exact ⟨j + 1, _, by go_num, ⟨by have := hj.out; omega⟩, ⟨by rw [TS.out]; exact QN.out⟩⟩
    | zero =>
      have e0 : j = l1.length := by have := hj.out; omega
      have q0 : decide (j < l1.length) = false := decide_eq_false (by omega)
      have q1 : decide ((j : Int) < (l1.length : Int)) = false := decide_eq_false (by omega)
      obtain ⟨Aq, cq, rfl, RQ⟩ := QQ.out.1.at
      have LQ : (tk (es l1) j).length = l1.length := by rw [tk_len (by rw [es_len]; omega)]; exact e0
      have ES : es (tk (es l1) j) = turnE (es l1) := by rw [e0, ← es_len l1]; exact tk_all _
      generalize tk (es l1) j = lq at LQ ES QQ RQ
      have ESq := Aside0.mk ES
      have LQ1 := Aside0.mk LQ
      have OKq : Aside0 (okG (es lq) = true) := Aside0.mk (by rw [ES]; exact okG_turn O12.out.ok)
      have LNq : lq.length ≤ 1000 := by omega
      have LN1 : l1.length ≤ 1000 := by omega
      have NLs : Aside0 ((nodesL (es l1)).length ≤ 200) := ⟨O12.out.nl⟩
      clear e0 hj LQ ES
      have HW := Aside0.mk QQ.out.1.bel
      have HB := Aside0.mk (Below.refl wr.heap.size wr)
      have R := Aside0.mk (R0.out.below QQ.out.1.bel)
      have RQ := Aside0.mk (RQ.out)
      have BQ : Aside0 (Bk wr g5 25 #[.string ⟨#[]⟩, .slice Aq lq.length cq, .slice none 0 0, .string ⟨#[]⟩]) := Aside0.mk (QQ.out.1.br)
      have B2 : Aside0 (Bk wr g2 25 #[.string a0, .slice A1 l1.length c1, .slice A2 l2.length c2, .string a3]) := Aside0.mk (QQ.out.2)
      clear QQ
      have zBQ_0 : wr.cell? ⟨g5, 0, none⟩ = some (.string ⟨#[]⟩) := (blk_cell BQ.out.blk 0).trans rfl
      have zBQ_1 : wr.cell? ⟨g5, 1, none⟩ = some (.slice Aq lq.length cq) := (blk_cell BQ.out.blk 1).trans rfl
      have zBQ_2 : wr.cell? ⟨g5, 2, none⟩ = some (.slice none 0 0) := (blk_cell BQ.out.blk 2).trans rfl
      have zBQ_3 : wr.cell? ⟨g5, 3, none⟩ = some (.string ⟨#[]⟩) := (blk_cell BQ.out.blk 3).trans rfl
      have zB2_0 : wr.cell? ⟨g2, 0, none⟩ = some (.string a0) := (blk_cell B2.out.blk 0).trans rfl
      have zB2_1 : wr.cell? ⟨g2, 1, none⟩ = some (.slice A1 l1.length c1) := (blk_cell B2.out.blk 1).trans rfl
      have zB2_2 : wr.cell? ⟨g2, 2, none⟩ = some (.slice A2 l2.length c2) := (blk_cell B2.out.blk 2).trans rfl
      have zB2_3 : wr.cell? ⟨g2, 3, none⟩ = some (.string a3) := (blk_cell B2.out.blk 3).trans rfl
      go_wp2
      have KP : Aside0 (∀ w', Below wr.heap.size wr w' → (w'.cell? ⟨g5, 0, none⟩ = some (.string ⟨#[]⟩) ∧ w'.cell? ⟨g5, 1, none⟩ = some (.slice Aq lq.length cq) ∧ w'.cell? ⟨g5, 2, none⟩ = some (.slice none 0 0) ∧ w'.cell? ⟨g5, 3, none⟩ = some (.string ⟨#[]⟩) ∧ w'.cell? ⟨g2, 0, none⟩ = some (.string a0) ∧ w'.cell? ⟨g2, 1, none⟩ = some (.slice A1 l1.length c1) ∧ w'.cell? ⟨g2, 2, none⟩ = some (.slice A2 l2.length c2) ∧ w'.cell? ⟨g2, 3, none⟩ = some (.string a3))) := Aside0.mk (fun w' hb => ⟨(blk_cell (BQ.out.below hb).blk 0).trans rfl, (blk_cell (BQ.out.below hb).blk 1).trans rfl, (blk_cell (BQ.out.below hb).blk 2).trans rfl, (blk_cell (BQ.out.below hb).blk 3).trans rfl, (blk_cell (B2.out.below hb).blk 0).trans rfl, (blk_cell (B2.out.below hb).blk 1).trans rfl, (blk_cell (B2.out.below hb).blk 2).trans rfl, (blk_cell (B2.out.below hb).blk 3).trans rfl⟩)
      clear zBQ_0 zBQ_1 zBQ_2 zBQ_3 zB2_0 zB2_1 zB2_2 zB2_3
      refine Evt.ow_start (w0 := wr) (T := (true, [([], []), ([], []), ([0, 1], [0, 1]), ([], []), ([], []), ([3, 4, 2], [3, 4]), ([2, 5, 0, 1, 2], [2]), ([5, 6, 0, 1, 2, 3, 4, 5, 6], [5])])) (B := [0, 0, 3, 0, 0, 31, 63, 127]) 8 [(1, some 44), (4, some 47), (0, some 43), (3, some 46), (2, some 45), (5, some 48), (6, some 8), (7, some 9)] (by kernel_rfl) rfl (by kernel_rfl) (by kernel_rfl) (by kernel_rfl) (by repeat (first | (with_reducible first | exact Below.refl _ _ | apply below_alloc | apply pw_below_drewN | apply below_drew1) | exact Below.refl _ _)) ?_
      intro HT_ HW_ w_ hHeld
      iterate 4 (first | (refine Evt.ow_off (a' := ?_) HT_ rfl rfl (by rfl) (by kernel_rfl) (fun _ _ _ h => h) ?_ ?_; rotate_left; (· (try simp only [Act.put, List.setIfInBounds_toArray, List.set_cons_zero, List.set_cons_succ, i64_w, i32_w]); rfl)) | (refine Evt.ow_pure (a' := ?_) (v := ?_) HT_ rfl rfl rfl (by rfl) (by kernel_rfl) (fun _ _ _ h => h) ?_ ?_ ?_; rotate_left 2; (· intro w'; go_simp; with_reducible rfl); (· (try simp only [Act.put, List.setIfInBounds_toArray, List.set_cons_zero, List.set_cons_succ, i64_w, i32_w]); rfl)) | (refine Evt.ow_load (a' := ?_) (v := ?_) HT_ HW_ hHeld rfl rfl rfl (by rfl) (by kernel_rfl) (fun _ _ _ h => h) ?_ ?_ ?_; rotate_left 2; (· intro w' hS_; obtain ⟨s0, s1, s2, s3, s4, s5, s6, s7⟩ := KP.out w' hS_.out; go_simp; with_reducible rfl); (· (try simp only [Act.put, List.setIfInBounds_toArray, List.set_cons_zero, List.set_cons_succ, i64_w, i32_w]); rfl)))
      refine Evt.ow_call HT_ hHeld rfl rfl rfl (by kernel_rfl) Try.func27 (by kernel_rfl) rfl #[.agg #[.string a0, .slice A1 l1.length c1, .slice A2 l2.length c2, .string a3], .string s] (by rfl) (by (try simp only [List.map_toArray, List.map_cons, List.map_nil]); first | done | rfl | (simp only [List.length_drop, List.length_take]; rfl)) ?_
      (with_reducible refine (reach_any _ (R.out.below hHeld.out) O12.out.ok s).mono ?_)
      rintro e w_ ⟨v, rfl, ho, hb⟩
      obtain ⟨X1, x1_, rfl, N1⟩ := Ro.sliceS ho; clear ho
      refine ⟨_, rfl, hb, fun hHeld_ => ?_⟩
      clear hHeld hb
      have hHeld := hHeld_
      clear hHeld_
      refine Evt.ow_norm (a' := ?_) ?_ ?_
      rotate_left
      · simp only [Act.put, List.setIfInBounds_toArray, List.set_cons_zero, List.set_cons_succ, i64_w, i32_w]; rfl
      refine Evt.ow_call HT_ hHeld rfl rfl rfl (by kernel_rfl) Try.func30 (by kernel_rfl) rfl #[.agg #[.string ⟨#[]⟩, .slice Aq lq.length cq, .slice none 0 0, .string ⟨#[]⟩], .string s] (by rfl) (by (try simp only [List.map_toArray, List.map_cons, List.map_nil]); first | done | rfl | (simp only [List.length_drop, List.length_take]; rfl)) ?_
      (with_reducible refine (anc_q _ (RQ.out.below hHeld.out) OKq.out s).mono ?_)
      rintro e w_ ⟨v, rfl, ho, hb⟩
      obtain ⟨X2, x2_, rfl, N2⟩ := Ro.sliceS ho; clear ho; have n_ := Aside0.mk (N1.out.below hb); clear N1; have N1 := n_; clear n_
      refine ⟨_, rfl, hb, fun hHeld_ => ?_⟩
      clear hHeld hb
      have hHeld := hHeld_
      clear hHeld_
      refine Evt.ow_norm (a' := ?_) ?_ ?_
      rotate_left
      · simp only [Act.put, List.setIfInBounds_toArray, List.set_cons_zero, List.set_cons_succ, i64_w, i32_w]; rfl
      iterate 2 (first | (refine Evt.ow_off (a' := ?_) HT_ rfl rfl (by rfl) (by kernel_rfl) (fun _ _ _ h => h) ?_ ?_; rotate_left; (· (try simp only [Act.put, List.setIfInBounds_toArray, List.set_cons_zero, List.set_cons_succ, i64_w, i32_w]); rfl)) | (refine Evt.ow_pure (a' := ?_) (v := ?_) HT_ rfl rfl rfl (by rfl) (by kernel_rfl) (fun _ _ _ h => h) ?_ ?_ ?_; rotate_left 2; (· intro w'; go_simp; with_reducible rfl); (· (try simp only [Act.put, List.setIfInBounds_toArray, List.set_cons_zero, List.set_cons_succ, i64_w, i32_w]); rfl)) | (refine Evt.ow_load (a' := ?_) (v := ?_) HT_ HW_ hHeld rfl rfl rfl (by rfl) (by kernel_rfl) (fun _ _ _ h => h) ?_ ?_ ?_; rotate_left 2; (· intro w' hS_; obtain ⟨s0, s1, s2, s3, s4, s5, s6, s7⟩ := KP.out w' hS_.out; go_simp; with_reducible rfl); (· (try simp only [Act.put, List.setIfInBounds_toArray, List.set_cons_zero, List.set_cons_succ, i64_w, i32_w]); rfl)))
      refine Evt.ow_done HT_ (by kernel_rfl) ?_
      have hbx := hHeld.out
      rename World => w1
      clear hHeld HT_ HW_ KP
      have n_R := Aside0.mk (R.out.below hbx)
      have n_RQ := Aside0.mk (RQ.out.below hbx)
      have n_BQ := Aside0.mk (BQ.out.below hbx)
      have n_B2 := Aside0.mk (B2.out.below hbx)
      have n_HB := Aside0.mk (below_step HB.out hbx)
      clear HB R RQ BQ B2
      have R := n_R
      have RQ := n_RQ
      have BQ := n_BQ
      have B2 := n_B2
      have HB := n_HB
      clear hbx n_R n_RQ n_BQ n_B2 n_HB
      have zBQ_0 : w1.cell? ⟨g5, 0, none⟩ = some (.string ⟨#[]⟩) := (blk_cell BQ.out.blk 0).trans rfl
      have zBQ_1 : w1.cell? ⟨g5, 1, none⟩ = some (.slice Aq lq.length cq) := (blk_cell BQ.out.blk 1).trans rfl
      have zBQ_2 : w1.cell? ⟨g5, 2, none⟩ = some (.slice none 0 0) := (blk_cell BQ.out.blk 2).trans rfl
      have zBQ_3 : w1.cell? ⟨g5, 3, none⟩ = some (.string ⟨#[]⟩) := (blk_cell BQ.out.blk 3).trans rfl
      have zB2_0 : w1.cell? ⟨g2, 0, none⟩ = some (.string a0) := (blk_cell B2.out.blk 0).trans rfl
      have zB2_1 : w1.cell? ⟨g2, 1, none⟩ = some (.slice A1 l1.length c1) := (blk_cell B2.out.blk 1).trans rfl
      have zB2_2 : w1.cell? ⟨g2, 2, none⟩ = some (.slice A2 l2.length c2) := (blk_cell B2.out.blk 2).trans rfl
      have zB2_3 : w1.cell? ⟨g2, 3, none⟩ = some (.string a3) := (blk_cell B2.out.blk 3).trans rfl
      go_wp2
      have KP : Aside0 (∀ w', Below w1.heap.size w1 w' → (w'.cell? ⟨g5, 0, none⟩ = some (.string ⟨#[]⟩) ∧ w'.cell? ⟨g5, 1, none⟩ = some (.slice Aq lq.length cq) ∧ w'.cell? ⟨g5, 2, none⟩ = some (.slice none 0 0) ∧ w'.cell? ⟨g5, 3, none⟩ = some (.string ⟨#[]⟩) ∧ w'.cell? ⟨g2, 0, none⟩ = some (.string a0) ∧ w'.cell? ⟨g2, 1, none⟩ = some (.slice A1 l1.length c1) ∧ w'.cell? ⟨g2, 2, none⟩ = some (.slice A2 l2.length c2) ∧ w'.cell? ⟨g2, 3, none⟩ = some (.string a3))) := Aside0.mk (fun w' hb => ⟨(blk_cell (BQ.out.below hb).blk 0).trans rfl, (blk_cell (BQ.out.below hb).blk 1).trans rfl, (blk_cell (BQ.out.below hb).blk 2).trans rfl, (blk_cell (BQ.out.below hb).blk 3).trans rfl, (blk_cell (B2.out.below hb).blk 0).trans rfl, (blk_cell (B2.out.below hb).blk 1).trans rfl, (blk_cell (B2.out.below hb).blk 2).trans rfl, (blk_cell (B2.out.below hb).blk 3).trans rfl⟩)
      clear zBQ_0 zBQ_1 zBQ_2 zBQ_3 zB2_0 zB2_1 zB2_2 zB2_3
      refine Evt.ow_start (w0 := w1) (T := (true, [([], []), ([], []), ([0, 1], [0, 1]), ([], []), ([], []), ([3, 4, 2], [3, 4]), ([2, 5, 0, 1, 2], [2]), ([5, 6, 0, 1, 2, 3, 4, 5, 6], [5])])) (B := [0, 0, 3, 0, 0, 31, 63, 127]) 8 [(1, some 50), (4, some 53), (0, some 49), (3, some 52), (2, some 51), (5, some 54), (6, some 10), (7, some 11)] (by kernel_rfl) rfl (by kernel_rfl) (by kernel_rfl) (by kernel_rfl) (by repeat (first | (with_reducible first | exact Below.refl _ _ | apply below_alloc | apply pw_below_drewN | apply below_drew1) | exact Below.refl _ _)) ?_
      intro HT_ HW_ w_ hHeld
      iterate 4 (first | (refine Evt.ow_off (a' := ?_) HT_ rfl rfl (by rfl) (by kernel_rfl) (fun _ _ _ h => h) ?_ ?_; rotate_left; (· (try simp only [Act.put, List.setIfInBounds_toArray, List.set_cons_zero, List.set_cons_succ, i64_w, i32_w]); rfl)) | (refine Evt.ow_pure (a' := ?_) (v := ?_) HT_ rfl rfl rfl (by rfl) (by kernel_rfl) (fun _ _ _ h => h) ?_ ?_ ?_; rotate_left 2; (· intro w'; go_simp; with_reducible rfl); (· (try simp only [Act.put, List.setIfInBounds_toArray, List.set_cons_zero, List.set_cons_succ, i64_w, i32_w]); rfl)) | (refine Evt.ow_load (a' := ?_) (v := ?_) HT_ HW_ hHeld rfl rfl rfl (by rfl) (by kernel_rfl) (fun _ _ _ h => h) ?_ ?_ ?_; rotate_left 2; (· intro w' hS_; obtain ⟨s0, s1, s2, s3, s4, s5, s6, s7⟩ := KP.out w' hS_.out; go_simp; with_reducible rfl); (· (try simp only [Act.put, List.setIfInBounds_toArray, List.set_cons_zero, List.set_cons_succ, i64_w, i32_w]); rfl)))
      refine Evt.ow_call HT_ hHeld rfl rfl rfl (by kernel_rfl) Try.func30 (by kernel_rfl) rfl #[.agg #[.string a0, .slice A1 l1.length c1, .slice A2 l2.length c2, .string a3], .string s] (by rfl) (by (try simp only [List.map_toArray, List.map_cons, List.map_nil]); first | done | rfl | (simp only [List.length_drop, List.length_take]; rfl)) ?_
      (with_reducible refine (anc_any _ (R.out.below hHeld.out) O12.out.ok s).mono ?_)
      rintro e w_ ⟨v, rfl, ho, hb⟩
      obtain ⟨X3, x3_, rfl, N3⟩ := Ro.sliceS ho; clear ho
      refine ⟨_, rfl, hb, fun hHeld_ => ?_⟩
      clear hHeld hb
      have hHeld := hHeld_
      clear hHeld_
      refine Evt.ow_norm (a' := ?_) ?_ ?_
      rotate_left
      · simp only [Act.put, List.setIfInBounds_toArray, List.set_cons_zero, List.set_cons_succ, i64_w, i32_w]; rfl
      refine Evt.ow_call HT_ hHeld rfl rfl rfl (by kernel_rfl) Try.func27 (by kernel_rfl) rfl #[.agg #[.string ⟨#[]⟩, .slice Aq lq.length cq, .slice none 0 0, .string ⟨#[]⟩], .string s] (by rfl) (by (try simp only [List.map_toArray, List.map_cons, List.map_nil]); first | done | rfl | (simp only [List.length_drop, List.length_take]; rfl)) ?_
      (with_reducible refine (reach_q _ (RQ.out.below hHeld.out) OKq.out s).mono ?_)
      rintro e w_ ⟨v, rfl, ho, hb⟩
      obtain ⟨X4, x4_, rfl, N4⟩ := Ro.sliceS ho; clear ho; have n_ := Aside0.mk (N3.out.below hb); clear N3; have N3 := n_; clear n_
      refine ⟨_, rfl, hb, fun hHeld_ => ?_⟩
      clear hHeld hb
      have hHeld := hHeld_
      clear hHeld_
      refine Evt.ow_norm (a' := ?_) ?_ ?_
      rotate_left
      · simp only [Act.put, List.setIfInBounds_toArray, List.set_cons_zero, List.set_cons_succ, i64_w, i32_w]; rfl
      iterate 2 (first | (refine Evt.ow_off (a' := ?_) HT_ rfl rfl (by rfl) (by kernel_rfl) (fun _ _ _ h => h) ?_ ?_; rotate_left; (· (try simp only [Act.put, List.setIfInBounds_toArray, List.set_cons_zero, List.set_cons_succ, i64_w, i32_w]); rfl)) | (refine Evt.ow_pure (a' := ?_) (v := ?_) HT_ rfl rfl rfl (by rfl) (by kernel_rfl) (fun _ _ _ h => h) ?_ ?_ ?_; rotate_left 2; (· intro w'; go_simp; with_reducible rfl); (· (try simp only [Act.put, List.setIfInBounds_toArray, List.set_cons_zero, List.set_cons_succ, i64_w, i32_w]); rfl)) | (refine Evt.ow_load (a' := ?_) (v := ?_) HT_ HW_ hHeld rfl rfl rfl (by rfl) (by kernel_rfl) (fun _ _ _ h => h) ?_ ?_ ?_; rotate_left 2; (· intro w' hS_; obtain ⟨s0, s1, s2, s3, s4, s5, s6, s7⟩ := KP.out w' hS_.out; go_simp; with_reducible rfl); (· (try simp only [Act.put, List.setIfInBounds_toArray, List.set_cons_zero, List.set_cons_succ, i64_w, i32_w]); rfl)))
      refine Evt.ow_done HT_ (by kernel_rfl) ?_
      have hbx := hHeld.out
      rename World => w2
      clear hHeld HT_ HW_ KP
      have n_R := Aside0.mk (R.out.below hbx)
      have n_RQ := Aside0.mk (RQ.out.below hbx)
      have n_BQ := Aside0.mk (BQ.out.below hbx)
      have n_B2 := Aside0.mk (B2.out.below hbx)
      have n_N1 := Aside0.mk (N1.out.below hbx)
      have n_N2 := Aside0.mk (N2.out.below hbx)
      have n_HB := Aside0.mk (below_step HB.out hbx)
      clear HB R RQ BQ B2 N1 N2
      have R := n_R
      have RQ := n_RQ
      have BQ := n_BQ
      have B2 := n_B2
      have N1 := n_N1
      have N2 := n_N2
      have HB := n_HB
      clear hbx n_R n_RQ n_BQ n_B2 n_N1 n_N2 n_HB
      have zBQ_0 : w2.cell? ⟨g5, 0, none⟩ = some (.string ⟨#[]⟩) := (blk_cell BQ.out.blk 0).trans rfl
      have zBQ_1 : w2.cell? ⟨g5, 1, none⟩ = some (.slice Aq lq.length cq) := (blk_cell BQ.out.blk 1).trans rfl
      have zBQ_2 : w2.cell? ⟨g5, 2, none⟩ = some (.slice none 0 0) := (blk_cell BQ.out.blk 2).trans rfl
      have zBQ_3 : w2.cell? ⟨g5, 3, none⟩ = some (.string ⟨#[]⟩) := (blk_cell BQ.out.blk 3).trans rfl
      have zB2_0 : w2.cell? ⟨g2, 0, none⟩ = some (.string a0) := (blk_cell B2.out.blk 0).trans rfl
      have zB2_1 : w2.cell? ⟨g2, 1, none⟩ = some (.slice A1 l1.length c1) := (blk_cell B2.out.blk 1).trans rfl
      have zB2_2 : w2.cell? ⟨g2, 2, none⟩ = some (.slice A2 l2.length c2) := (blk_cell B2.out.blk 2).trans rfl
      have zB2_3 : w2.cell? ⟨g2, 3, none⟩ = some (.string a3) := (blk_cell B2.out.blk 3).trans rfl
      have LE1 : Aside0 ((reachL (es l1) s).length = (ancL (es lq) s).length) := Aside0.mk (by rw [ESq.out]; exact (anc_turn_len _ _).symm)
      have LE3 : Aside0 ((ancL (es l1) s).length = (reachL (es lq) s).length) := Aside0.mk (by rw [ESq.out]; exact (reach_turn_len _ _).symm)
      have LM1 : Aside0 ((reachL (es l1) s).length ≤ 200) := Aside0.mk (Nat.le_trans (gath_len _ _ _) NLs.out)
      have LM3 : Aside0 ((ancL (es l1) s).length ≤ 200) := Aside0.mk (Nat.le_trans (gath_len _ _ _) NLs.out)
      have CI1 : Aside0 (∀ x ∈ (reachL (es l1) s), decide (x ∈ (ancL (es lq) s)) = true) := Aside0.mk (fun x hx => decide_eq_true (by rw [ESq.out]; exact anc_turn.2 hx))
      have CI3 : Aside0 (∀ x ∈ (ancL (es l1) s), decide (x ∈ (reachL (es lq) s)) = true) := Aside0.mk (fun x hx => decide_eq_true (by rw [ESq.out]; exact reach_turn.2 hx))
      go_wp2_with (((with_reducible refine gate_dst (N := 61) rfl ?_); refine Evt.slice_event ?hg (N := 61) ?hd (cs := #[.slice X1 (reachL (es l1) s).length x1_, .slice X2 (ancL (es lq) s).length x2_, .slice X3 (ancL (es l1) s).length x3_, .slice X4 (reachL (es lq) s).length x4_]) (t := 51) (n := 2) ?hr ?_; (case hd => rfl); (case hg => rfl); (case hr => first | (go_simp; done) | (go_simp; rfl)); intro g61 hg w3 hbox hb; have hbx : Below w2.heap.size w2 w3 := below_step (by repeat (first | (with_reducible first | exact Below.refl _ _ | apply below_alloc | apply pw_below_drewN | apply below_drew1) | exact Below.refl _ _)) hb; clear zBQ_0 zBQ_1 zBQ_2 zBQ_3 zB2_0 zB2_1 zB2_2 zB2_3; have n_R := Aside0.mk (R.out.below hbx); have n_RQ := Aside0.mk (RQ.out.below hbx); have n_BQ := Aside0.mk (BQ.out.below hbx); have n_B2 := Aside0.mk (B2.out.below hbx); have n_N1 := Aside0.mk (N1.out.below hbx); have n_N2 := Aside0.mk (N2.out.below hbx); have n_N3 := Aside0.mk (N3.out.below hbx); have n_N4 := Aside0.mk (N4.out.below hbx); have n_HB := Aside0.mk (below_step HB.out hbx); clear HB R RQ BQ B2 N1 N2 N3 N4; have R := n_R; have RQ := n_RQ; have BQ := n_BQ; have B2 := n_B2; have N1 := n_N1; have N2 := n_N2; have N3 := n_N3; have N4 := n_N4; have HB := n_HB; clear hbx n_R n_RQ n_BQ n_B2 n_N1 n_N2 n_N3 n_N4 n_HB; have BK61 := Aside0.mk (Bk.mk (hbox : Blk w3 g61 51 #[.slice X1 (reachL (es l1) s).length x1_, .slice X2 (ancL (es lq) s).length x2_, .slice X3 (ancL (es l1) s).length x3_, .slice X4 (reachL (es lq) s).length x4_])); clear hbox hg hb; have zBQ_0 : w3.cell? ⟨g5, 0, none⟩ = some (.string ⟨#[]⟩) := (blk_cell BQ.out.blk 0).trans rfl; have zBQ_1 : w3.cell? ⟨g5, 1, none⟩ = some (.slice Aq lq.length cq) := (blk_cell BQ.out.blk 1).trans rfl; have zBQ_2 : w3.cell? ⟨g5, 2, none⟩ = some (.slice none 0 0) := (blk_cell BQ.out.blk 2).trans rfl; have zBQ_3 : w3.cell? ⟨g5, 3, none⟩ = some (.string ⟨#[]⟩) := (blk_cell BQ.out.blk 3).trans rfl; have zB2_0 : w3.cell? ⟨g2, 0, none⟩ = some (.string a0) := (blk_cell B2.out.blk 0).trans rfl; have zB2_1 : w3.cell? ⟨g2, 1, none⟩ = some (.slice A1 l1.length c1) := (blk_cell B2.out.blk 1).trans rfl; have zB2_2 : w3.cell? ⟨g2, 2, none⟩ = some (.slice A2 l2.length c2) := (blk_cell B2.out.blk 2).trans rfl; have zB2_3 : w3.cell? ⟨g2, 3, none⟩ = some (.string a3) := (blk_cell B2.out.blk 3).trans rfl; have zBK61_0 : w3.cell? ⟨g61, 0, none⟩ = some (.slice X1 (reachL (es l1) s).length x1_) := (blk_cell BK61.out.blk 0).trans rfl; have zBK61_1 : w3.cell? ⟨g61, 1, none⟩ = some (.slice X2 (ancL (es lq) s).length x2_) := (blk_cell BK61.out.blk 1).trans rfl; have zBK61_2 : w3.cell? ⟨g61, 2, none⟩ = some (.slice X3 (ancL (es l1) s).length x3_) := (blk_cell BK61.out.blk 2).trans rfl; have zBK61_3 : w3.cell? ⟨g61, 3, none⟩ = some (.slice X4 (reachL (es lq) s).length x4_) := (blk_cell BK61.out.blk 3).trans rfl))
      have HW3 := Aside0.mk (below_step HW.out HB.out)
      clear HW HB zBK61_0 zBK61_1 zBK61_2 zBK61_3 zBQ_0 zBQ_1 zBQ_2 zBQ_3 zB2_0 zB2_1 zB2_2 zB2_3
      go_loopg [63] 2 (fun kq v63 wr => ∃ i : Nat, v63 = .int .i64 i ∧ Aside0 (i + kq = 2) ∧ Aside0 (Below w3.heap.size w3 wr))
      case atStart => exact ⟨0, rfl, ⟨rfl⟩, ⟨Below.refl _ _⟩⟩
      case round =>
        obtain ⟨i, rfl, hi, HR⟩ := hrel
        cases gk with
        | zero =>
          obtain rfl : i = 2 := by have := hi.out; omega
          have EE : Aside0 (errT (topo (es lq)) = errT (topo (es l1))) := Aside0.mk (by rw [ESq.out]; exact err_turn _)
          have EO : Aside0 (outL (es lq) s = inL (es l1) s) := Aside0.mk (by rw [ESq.out]; exact out_turn _ _)
          have EI : Aside0 (inL (es lq) s = outL (es l1) s) := Aside0.mk (by rw [ESq.out]; exact in_turn _ _)
          have LO : Aside0 ((outL (es l1) s).length ≤ 1000000) := ⟨by have := idxs_len (fun c => decide (c.1 = s)) (es l1); rw [es_len] at this; unfold outL; omega⟩
          have LI : Aside0 ((inL (es l1) s).length ≤ 1000000) := ⟨by have := idxs_len (fun c => decide (c.2 = s)) (es l1); rw [es_len] at this; unfold inL; omega⟩
          obtain ⟨ee, hee⟩ : ∃ ee, Aside0 (errT (topo (es l1)) = ee) := ⟨_, ⟨rfl⟩⟩
          have HB := Aside0.mk (Below.refl wr.heap.size wr)
          have RR := Aside0.mk (R.out.below HR.out)
          have QQ := Aside0.mk (RQ.out.below HR.out)
          have CQ : Aside0 (Bk wr g5 25 #[.string ⟨#[]⟩, .slice Aq lq.length cq, .slice none 0 0, .string ⟨#[]⟩]) := Aside0.mk (BQ.out.below HR.out)
          have C2 : Aside0 (Bk wr g2 25 #[.string a0, .slice A1 l1.length c1, .slice A2 l2.length c2, .string a3]) := Aside0.mk (B2.out.below HR.out)
          have zCQ_0 : wr.cell? ⟨g5, 0, none⟩ = some (.string ⟨#[]⟩) := (blk_cell CQ.out.blk 0).trans rfl
          have zCQ_1 : wr.cell? ⟨g5, 1, none⟩ = some (.slice Aq lq.length cq) := (blk_cell CQ.out.blk 1).trans rfl
          have zCQ_2 : wr.cell? ⟨g5, 2, none⟩ = some (.slice none 0 0) := (blk_cell CQ.out.blk 2).trans rfl
          have zCQ_3 : wr.cell? ⟨g5, 3, none⟩ = some (.string ⟨#[]⟩) := (blk_cell CQ.out.blk 3).trans rfl
          have zC2_0 : wr.cell? ⟨g2, 0, none⟩ = some (.string a0) := (blk_cell C2.out.blk 0).trans rfl
          have zC2_1 : wr.cell? ⟨g2, 1, none⟩ = some (.slice A1 l1.length c1) := (blk_cell C2.out.blk 1).trans rfl
          have zC2_2 : wr.cell? ⟨g2, 2, none⟩ = some (.slice A2 l2.length c2) := (blk_cell C2.out.blk 2).trans rfl
          have zC2_3 : wr.cell? ⟨g2, 3, none⟩ = some (.string a3) := (blk_cell C2.out.blk 3).trans rfl
          go_wp2_with (first | ((with_reducible refine gate_callee (f := 25) rfl ?_); refine goesL_ (some 90) rfl rfl Try.func25 (by kernel_rfl) rfl #[.agg #[.string a0, .slice A1 l1.length c1, .slice A2 l2.length c2, .string a3]] rfl (by (try simp only [List.map_toArray, List.map_cons, List.map_nil]); first | done | rfl | (simp only [List.length_drop, List.length_take]; rfl)) ?_; (with_reducible refine (topo_ae _ (RR.out.below (by repeat (first | (with_reducible first | exact Below.refl _ _ | apply below_alloc | apply pw_below_drewN | apply below_drew1) | exact Below.refl _ _))) O12.out.ok hee.out).mono ?_); rintro e w1 ⟨v, rfl, ho, hb⟩; have hbx : Below wr.heap.size wr w1 := below_step (by repeat (first | (with_reducible first | exact Below.refl _ _ | apply below_alloc | apply pw_below_drewN | apply below_drew1) | exact Below.refl _ _)) hb; clear zCQ_0 zCQ_1 zCQ_2 zCQ_3 zC2_0 zC2_1 zC2_2 zC2_3; have n_RR := Aside0.mk (RR.out.below hbx); have n_QQ := Aside0.mk (QQ.out.below hbx); have n_CQ := Aside0.mk (CQ.out.below hbx); have n_C2 := Aside0.mk (C2.out.below hbx); have n_HB := Aside0.mk (below_step HB.out hbx); clear HB RR QQ CQ C2; have RR := n_RR; have QQ := n_QQ; have CQ := n_CQ; have C2 := n_C2; have HB := n_HB; clear hbx n_RR n_QQ n_CQ n_C2 n_HB; clear hb; have zCQ_0 : w1.cell? ⟨g5, 0, none⟩ = some (.string ⟨#[]⟩) := (blk_cell CQ.out.blk 0).trans rfl; have zCQ_1 : w1.cell? ⟨g5, 1, none⟩ = some (.slice Aq lq.length cq) := (blk_cell CQ.out.blk 1).trans rfl; have zCQ_2 : w1.cell? ⟨g5, 2, none⟩ = some (.slice none 0 0) := (blk_cell CQ.out.blk 2).trans rfl; have zCQ_3 : w1.cell? ⟨g5, 3, none⟩ = some (.string ⟨#[]⟩) := (blk_cell CQ.out.blk 3).trans rfl; have zC2_0 : w1.cell? ⟨g2, 0, none⟩ = some (.string a0) := (blk_cell C2.out.blk 0).trans rfl; have zC2_1 : w1.cell? ⟨g2, 1, none⟩ = some (.slice A1 l1.length c1) := (blk_cell C2.out.blk 1).trans rfl; have zC2_2 : w1.cell? ⟨g2, 2, none⟩ = some (.slice A2 l2.length c2) := (blk_cell C2.out.blk 2).trans rfl; have zC2_3 : w1.cell? ⟨g2, 3, none⟩ = some (.string a3) := (blk_cell C2.out.blk 3).trans rfl; refine ⟨_, rfl, ?_⟩) | ((with_reducible refine gate_callee (f := 25) rfl ?_); refine goesL_ (some 95) rfl rfl Try.func25 (by kernel_rfl) rfl #[.agg #[.string ⟨#[]⟩, .slice Aq lq.length cq, .slice none 0 0, .string ⟨#[]⟩]] rfl (by (try simp only [List.map_toArray, List.map_cons, List.map_nil]); first | done | rfl | (simp only [List.length_drop, List.length_take]; rfl)) ?_; (with_reducible refine (topo_qe _ (QQ.out.below (by repeat (first | (with_reducible first | exact Below.refl _ _ | apply below_alloc | apply pw_below_drewN | apply below_drew1) | exact Below.refl _ _))) OKq.out (EE.out.trans hee.out)).mono ?_); rintro e w2 ⟨v2, rfl, ho2, hb⟩; have hbx : Below w1.heap.size w1 w2 := below_step (by repeat (first | (with_reducible first | exact Below.refl _ _ | apply below_alloc | apply pw_below_drewN | apply below_drew1) | exact Below.refl _ _)) hb; clear zCQ_0 zCQ_1 zCQ_2 zCQ_3 zC2_0 zC2_1 zC2_2 zC2_3; have n_RR := Aside0.mk (RR.out.below hbx); have n_QQ := Aside0.mk (QQ.out.below hbx); have n_CQ := Aside0.mk (CQ.out.below hbx); have n_C2 := Aside0.mk (C2.out.below hbx); have n_HB := Aside0.mk (below_step HB.out hbx); clear HB RR QQ CQ C2; have RR := n_RR; have QQ := n_QQ; have CQ := n_CQ; have C2 := n_C2; have HB := n_HB; clear hbx n_RR n_QQ n_CQ n_C2 n_HB; clear hb; have zCQ_0 : w2.cell? ⟨g5, 0, none⟩ = some (.string ⟨#[]⟩) := (blk_cell CQ.out.blk 0).trans rfl; have zCQ_1 : w2.cell? ⟨g5, 1, none⟩ = some (.slice Aq lq.length cq) := (blk_cell CQ.out.blk 1).trans rfl; have zCQ_2 : w2.cell? ⟨g5, 2, none⟩ = some (.slice none 0 0) := (blk_cell CQ.out.blk 2).trans rfl; have zCQ_3 : w2.cell? ⟨g5, 3, none⟩ = some (.string ⟨#[]⟩) := (blk_cell CQ.out.blk 3).trans rfl; have zC2_0 : w2.cell? ⟨g2, 0, none⟩ = some (.string a0) := (blk_cell C2.out.blk 0).trans rfl; have zC2_1 : w2.cell? ⟨g2, 1, none⟩ = some (.slice A1 l1.length c1) := (blk_cell C2.out.blk 1).trans rfl; have zC2_2 : w2.cell? ⟨g2, 2, none⟩ = some (.slice A2 l2.length c2) := (blk_cell C2.out.blk 2).trans rfl; have zC2_3 : w2.cell? ⟨g2, 3, none⟩ = some (.string a3) := (blk_cell C2.out.blk 3).trans rfl; refine ⟨_, rfl, ?_⟩))
          have KP : Aside0 (∀ w', Below w2.heap.size w2 w' → (w'.cell? ⟨g5, 0, none⟩ = some (.string ⟨#[]⟩) ∧ w'.cell? ⟨g5, 1, none⟩ = some (.slice Aq lq.length cq) ∧ w'.cell? ⟨g5, 2, none⟩ = some (.slice none 0 0) ∧ w'.cell? ⟨g5, 3, none⟩ = some (.string ⟨#[]⟩) ∧ w'.cell? ⟨g2, 0, none⟩ = some (.string a0) ∧ w'.cell? ⟨g2, 1, none⟩ = some (.slice A1 l1.length c1) ∧ w'.cell? ⟨g2, 2, none⟩ = some (.slice A2 l2.length c2) ∧ w'.cell? ⟨g2, 3, none⟩ = some (.string a3))) := Aside0.mk (fun w' hb => ⟨(blk_cell (CQ.out.below hb).blk 0).trans rfl, (blk_cell (CQ.out.below hb).blk 1).trans rfl, (blk_cell (CQ.out.below hb).blk 2).trans rfl, (blk_cell (CQ.out.below hb).blk 3).trans rfl, (blk_cell (C2.out.below hb).blk 0).trans rfl, (blk_cell (C2.out.below hb).blk 1).trans rfl, (blk_cell (C2.out.below hb).blk 2).trans rfl, (blk_cell (C2.out.below hb).blk 3).trans rfl⟩)
          clear zCQ_0 zCQ_1 zCQ_2 zCQ_3 zC2_0 zC2_1 zC2_2 zC2_3
          refine Evt.ow_start (w0 := w2) (T := (true, [([], []), ([0, 0], [0]), ([1], [1]), ([1], [1]), ([2, 3, 1], [1, 2, 3]), ([1, 4], [1, 4]), ([5, 1], [5]), ([6], [6]), ([6], [6]), ([7, 8, 6, 6], [6, 7, 8]), ([6], [6]), ([6], [6]), ([10, 11, 9, 6], [6, 10, 11]), ([9, 12, 12, 6], [6, 9, 12]), ([6, 13], [6, 13]), ([14, 13], [14]), ([15], [15]), ([15], [15]), ([16, 17, 15, 15], [15, 16, 17]), ([15], [15]), ([15], [15]), ([19, 20, 18, 15], [15, 19, 20]), ([18, 21, 21, 15], [15, 18, 21]), ([15, 22], [15, 22]), ([23, 22, 0, 1, 2, 3, 4, 5, 6, 7, 8, 9, 10, 11, 12, 13, 14, 15, 16, 17, 18, 19, 20, 21, 22, 23], [23])])) (B := [0, 1, 3, 3, 15, 31, 63, 127, 127, 511, 127, 127, 4095, 8191, 16383, 32767, 65535, 65535, 262143, 65535, 65535, 2097151, 4194303, 8388607, 16777215]) 25 [(0, some 98), (1, some 99), (2, some 100), (3, some 101), (4, some 102), (5, some 103), (6, some 104), (8, some 106), (11, some 109), (7, some 105), (10, some 108), (9, some 107), (12, some 110), (13, some 111), (14, some 112), (15, some 113), (17, some 115), (20, some 118), (16, some 114), (19, some 117), (18, some 116), (21, some 119), (22, some 120), (23, some 121), (24, some 4)] (by kernel_rfl) rfl (by kernel_rfl) (by kernel_rfl) (by kernel_rfl) (by repeat (first | (with_reducible first | exact Below.refl _ _ | apply below_alloc | apply pw_below_drewN | apply below_drew1) | exact Below.refl _ _)) ?_
          intro HT_ HW_ w_ hHeld
          refine Evt.ow_call HT_ hHeld rfl rfl rfl (by kernel_rfl) Try.func16 (by kernel_rfl) rfl #[] (by rfl) (by (try simp only [List.map_toArray, List.map_cons, List.map_nil]); first | done | rfl | (simp only [List.length_drop, List.length_take]; rfl)) ?_
          (with_reducible refine (alive_any _).mono ?_)
          rintro e w_ ⟨rfl, hb⟩
          refine ⟨_, rfl, hb, fun hHeld_ => ?_⟩
          clear hHeld hb
          have hHeld := hHeld_
          clear hHeld_
          refine Evt.ow_norm (a' := ?_) ?_ ?_
          rotate_left
          · simp only [Act.put, List.setIfInBounds_toArray, List.set_cons_zero, List.set_cons_succ, i64_w, i32_w]; rfl
          iterate 10 (first | (refine Evt.ow_off (a' := ?_) HT_ rfl rfl (by rfl) (by kernel_rfl) (fun _ _ _ h => h) ?_ ?_; rotate_left; (· (try simp only [Act.put, List.setIfInBounds_toArray, List.set_cons_zero, List.set_cons_succ, i64_w, i32_w]); rfl)) | (refine Evt.ow_pure (a' := ?_) (v := ?_) HT_ rfl rfl rfl (by rfl) (by kernel_rfl) (fun _ _ _ h => h) ?_ ?_ ?_; rotate_left 2; (· intro w'; go_simp; with_reducible rfl); (· (try simp only [Act.put, List.setIfInBounds_toArray, List.set_cons_zero, List.set_cons_succ, i64_w, i32_w]); rfl)) | (refine Evt.ow_load (a' := ?_) (v := ?_) HT_ HW_ hHeld rfl rfl rfl (by rfl) (by kernel_rfl) (fun _ _ _ h => h) ?_ ?_ ?_; rotate_left 2; (· intro w' hS_; obtain ⟨s0, s1, s2, s3, s4, s5, s6, s7⟩ := KP.out w' hS_.out; go_simp; with_reducible rfl); (· (try simp only [Act.put, List.setIfInBounds_toArray, List.set_cons_zero, List.set_cons_succ, i64_w, i32_w]); rfl)))
          refine Evt.ow_call HT_ hHeld rfl rfl rfl (by kernel_rfl) Try.func21 (by kernel_rfl) rfl #[.agg #[.string a0, .slice A1 l1.length c1, .slice A2 l2.length c2, .string a3], .string s] (by rfl) (by (try simp only [List.map_toArray, List.map_cons, List.map_nil]); first | done | rfl | (simp only [List.length_drop, List.length_take]; rfl)) ?_
          (with_reducible refine (outgoing_any _ (RR.out.below hHeld.out) LN1 s).mono ?_)
          rintro e w_ ⟨v, rfl, ho, hb⟩
          obtain ⟨Y1, y1_, rfl, M1⟩ := Ro.sliceI ho; clear ho
          refine ⟨_, rfl, hb, fun hHeld_ => ?_⟩
          clear hHeld hb
          have hHeld := hHeld_
          clear hHeld_
          refine Evt.ow_norm (a' := ?_) ?_ ?_
          rotate_left
          · simp only [Act.put, List.setIfInBounds_toArray, List.set_cons_zero, List.set_cons_succ, i64_w, i32_w]; rfl
          refine Evt.ow_call HT_ hHeld rfl rfl rfl (by kernel_rfl) Try.func23 (by kernel_rfl) rfl #[.agg #[.string ⟨#[]⟩, .slice Aq lq.length cq, .slice none 0 0, .string ⟨#[]⟩], .string s] (by rfl) (by (try simp only [List.map_toArray, List.map_cons, List.map_nil]); first | done | rfl | (simp only [List.length_drop, List.length_take]; rfl)) ?_
          (with_reducible refine (in_qe _ (QQ.out.below hHeld.out) LNq s EI.out).mono ?_)
          rintro e w_ ⟨v, rfl, ho, hb⟩
          obtain ⟨Y2, y2_, rfl, M2⟩ := Ro.sliceI ho; clear ho; have n_ := Aside0.mk (M1.out.below hb); clear M1; have M1 := n_; clear n_
          refine ⟨_, rfl, hb, fun hHeld_ => ?_⟩
          clear hHeld hb
          have hHeld := hHeld_
          clear hHeld_
          refine Evt.ow_norm (a' := ?_) ?_ ?_
          rotate_left
          · simp only [Act.put, List.setIfInBounds_toArray, List.set_cons_zero, List.set_cons_succ, i64_w, i32_w]; rfl
          refine Evt.ow_call HT_ hHeld rfl rfl rfl (by kernel_rfl) Try.func20 (by kernel_rfl) rfl #[.slice Y1 (outL (es l1) s).length y1_, .slice Y2 (outL (es l1) s).length y2_] (by rfl) (by (try simp only [List.map_toArray, List.map_cons, List.map_nil]); first | done | rfl | (simp only [List.length_drop, List.length_take]; rfl)) ?_
          (with_reducible refine (eqI_any Y1 y1_ _ Y2 y2_ _ _ M1.out M2.out LO.out (decide_eq_true rfl)).mono ?_)
          rintro e w_ ⟨rfl, hb⟩
          refine ⟨_, rfl, hb, fun hHeld_ => ?_⟩
          clear hHeld hb
          have hHeld := hHeld_
          clear hHeld_
          refine Evt.ow_norm (a' := ?_) ?_ ?_
          rotate_left
          · simp only [Act.put, List.setIfInBounds_toArray, List.set_cons_zero, List.set_cons_succ, i64_w, i32_w]; rfl
          iterate 6 (first | (refine Evt.ow_off (a' := ?_) HT_ rfl rfl (by rfl) (by kernel_rfl) (fun _ _ _ h => h) ?_ ?_; rotate_left; (· (try simp only [Act.put, List.setIfInBounds_toArray, List.set_cons_zero, List.set_cons_succ, i64_w, i32_w]); rfl)) | (refine Evt.ow_pure (a' := ?_) (v := ?_) HT_ rfl rfl rfl (by rfl) (by kernel_rfl) (fun _ _ _ h => h) ?_ ?_ ?_; rotate_left 2; (· intro w'; go_simp; with_reducible rfl); (· (try simp only [Act.put, List.setIfInBounds_toArray, List.set_cons_zero, List.set_cons_succ, i64_w, i32_w]); rfl)) | (refine Evt.ow_load (a' := ?_) (v := ?_) HT_ HW_ hHeld rfl rfl rfl (by rfl) (by kernel_rfl) (fun _ _ _ h => h) ?_ ?_ ?_; rotate_left 2; (· intro w' hS_; obtain ⟨s0, s1, s2, s3, s4, s5, s6, s7⟩ := KP.out w' hS_.out; go_simp; with_reducible rfl); (· (try simp only [Act.put, List.setIfInBounds_toArray, List.set_cons_zero, List.set_cons_succ, i64_w, i32_w]); rfl)))
          refine Evt.ow_call HT_ hHeld rfl rfl rfl (by kernel_rfl) Try.func23 (by kernel_rfl) rfl #[.agg #[.string a0, .slice A1 l1.length c1, .slice A2 l2.length c2, .string a3], .string s] (by rfl) (by (try simp only [List.map_toArray, List.map_cons, List.map_nil]); first | done | rfl | (simp only [List.length_drop, List.length_take]; rfl)) ?_
          (with_reducible refine (incoming_any _ (RR.out.below hHeld.out) LN1 s).mono ?_)
          rintro e w_ ⟨v, rfl, ho, hb⟩
          obtain ⟨Y3, y3_, rfl, M3⟩ := Ro.sliceI ho; clear ho
          refine ⟨_, rfl, hb, fun hHeld_ => ?_⟩
          clear hHeld hb
          have hHeld := hHeld_
          clear hHeld_
          refine Evt.ow_norm (a' := ?_) ?_ ?_
          rotate_left
          · simp only [Act.put, List.setIfInBounds_toArray, List.set_cons_zero, List.set_cons_succ, i64_w, i32_w]; rfl
          refine Evt.ow_call HT_ hHeld rfl rfl rfl (by kernel_rfl) Try.func21 (by kernel_rfl) rfl #[.agg #[.string ⟨#[]⟩, .slice Aq lq.length cq, .slice none 0 0, .string ⟨#[]⟩], .string s] (by rfl) (by (try simp only [List.map_toArray, List.map_cons, List.map_nil]); first | done | rfl | (simp only [List.length_drop, List.length_take]; rfl)) ?_
          (with_reducible refine (out_qe _ (QQ.out.below hHeld.out) LNq s EO.out).mono ?_)
          rintro e w_ ⟨v, rfl, ho, hb⟩
          obtain ⟨Y4, y4_, rfl, M4⟩ := Ro.sliceI ho; clear ho; have n_ := Aside0.mk (M3.out.below hb); clear M3; have M3 := n_; clear n_
          refine ⟨_, rfl, hb, fun hHeld_ => ?_⟩
          clear hHeld hb
          have hHeld := hHeld_
          clear hHeld_
          refine Evt.ow_norm (a' := ?_) ?_ ?_
          rotate_left
          · simp only [Act.put, List.setIfInBounds_toArray, List.set_cons_zero, List.set_cons_succ, i64_w, i32_w]; rfl
          refine Evt.ow_call HT_ hHeld rfl rfl rfl (by kernel_rfl) Try.func20 (by kernel_rfl) rfl #[.slice Y3 (inL (es l1) s).length y3_, .slice Y4 (inL (es l1) s).length y4_] (by rfl) (by (try simp only [List.map_toArray, List.map_cons, List.map_nil]); first | done | rfl | (simp only [List.length_drop, List.length_take]; rfl)) ?_
          (with_reducible refine (eqI_any Y3 y3_ _ Y4 y4_ _ _ M3.out M4.out LI.out (decide_eq_true rfl)).mono ?_)
          rintro e w_ ⟨rfl, hb⟩
          refine ⟨_, rfl, hb, fun hHeld_ => ?_⟩
          clear hHeld hb
          have hHeld := hHeld_
          clear hHeld_
          refine Evt.ow_norm (a' := ?_) ?_ ?_
          rotate_left
          · simp only [Act.put, List.setIfInBounds_toArray, List.set_cons_zero, List.set_cons_succ, i64_w, i32_w]; rfl
          iterate 2 (first | (refine Evt.ow_off (a' := ?_) HT_ rfl rfl (by rfl) (by kernel_rfl) (fun _ _ _ h => h) ?_ ?_; rotate_left; (· (try simp only [Act.put, List.setIfInBounds_toArray, List.set_cons_zero, List.set_cons_succ, i64_w, i32_w]); rfl)) | (refine Evt.ow_pure (a' := ?_) (v := ?_) HT_ rfl rfl rfl (by rfl) (by kernel_rfl) (fun _ _ _ h => h) ?_ ?_ ?_; rotate_left 2; (· intro w'; go_simp; with_reducible rfl); (· (try simp only [Act.put, List.setIfInBounds_toArray, List.set_cons_zero, List.set_cons_succ, i64_w, i32_w]); rfl)) | (refine Evt.ow_load (a' := ?_) (v := ?_) HT_ HW_ hHeld rfl rfl rfl (by rfl) (by kernel_rfl) (fun _ _ _ h => h) ?_ ?_ ?_; rotate_left 2; (· intro w' hS_; obtain ⟨s0, s1, s2, s3, s4, s5, s6, s7⟩ := KP.out w' hS_.out; go_simp; with_reducible rfl); (· (try simp only [Act.put, List.setIfInBounds_toArray, List.set_cons_zero, List.set_cons_succ, i64_w, i32_w]); rfl)))
          refine Evt.ow_done HT_ (by kernel_rfl) ?_
          refine Evt.gen_any (w0 := w2) hHeld.out ?_
          intro w3 hbx
          clear hHeld HT_ HW_ KP
          have n_RR := Aside0.mk (RR.out.below hbx)
          have n_QQ := Aside0.mk (QQ.out.below hbx)
          have n_CQ := Aside0.mk (CQ.out.below hbx)
          have n_C2 := Aside0.mk (C2.out.below hbx)
          have n_HB := Aside0.mk (below_step HB.out hbx)
          clear HB RR QQ CQ C2
          have RR := n_RR
          have QQ := n_QQ
          have CQ := n_CQ
          have C2 := n_C2
          have HB := n_HB
          clear hbx n_RR n_QQ n_CQ n_C2 n_HB
          have zCQ_0 : w3.cell? ⟨g5, 0, none⟩ = some (.string ⟨#[]⟩) := (blk_cell CQ.out.blk 0).trans rfl
          have zCQ_1 : w3.cell? ⟨g5, 1, none⟩ = some (.slice Aq lq.length cq) := (blk_cell CQ.out.blk 1).trans rfl
          have zCQ_2 : w3.cell? ⟨g5, 2, none⟩ = some (.slice none 0 0) := (blk_cell CQ.out.blk 2).trans rfl
          have zCQ_3 : w3.cell? ⟨g5, 3, none⟩ = some (.string ⟨#[]⟩) := (blk_cell CQ.out.blk 3).trans rfl
          have zC2_0 : w3.cell? ⟨g2, 0, none⟩ = some (.string a0) := (blk_cell C2.out.blk 0).trans rfl
          have zC2_1 : w3.cell? ⟨g2, 1, none⟩ = some (.slice A1 l1.length c1) := (blk_cell C2.out.blk 1).trans rfl
          have zC2_2 : w3.cell? ⟨g2, 2, none⟩ = some (.slice A2 l2.length c2) := (blk_cell C2.out.blk 2).trans rfl
          have zC2_3 : w3.cell? ⟨g2, 3, none⟩ = some (.string a3) := (blk_cell C2.out.blk 3).trans rfl
          go_wp2
          go_ret
          exact ⟨rfl, below_step HW3.out (below_step HR.out HB.out)⟩
        | succ i1 =>
          rcases (show i = 0 ∨ i = 1 by have := hi.out; omega) with rfl | rfl
          · skip
            skip
            have e1 : decide (((reachL (es l1) s).length : Int) = ((ancL (es lq) s).length : Int)) = true := decide_eq_true (by rw [LE1.out])
            have e2 : decide (¬ ((reachL (es l1) s).length : Int) = ((ancL (es lq) s).length : Int)) = false := decide_eq_false (by rw [LE1.out]; simp)
            have e3 : decide ((reachL (es l1) s).length = (ancL (es lq) s).length) = true := decide_eq_true LE1.out
            have e4 : decide (¬ (reachL (es l1) s).length = (ancL (es lq) s).length) = false := decide_eq_false (by rw [LE1.out]; simp)
            have e5 : ((((reachL (es l1) s).length : Nat) : Int) != (((ancL (es lq) s).length : Nat) : Int)) = false := bne_eq_false_iff_eq.2 (by rw [LE1.out])
            have LL : (reachL (es l1) s).length ≤ 200 := by have := LM1.out; omega
            have HB := Aside0.mk (Below.refl wr.heap.size wr)
            have NA := Aside0.mk (N1.out.below HR.out)
            have NB := Aside0.mk (N2.out.below HR.out)
            have BX : Aside0 (Bk wr g61 51 #[.slice X1 (reachL (es l1) s).length x1_, .slice X2 (ancL (es lq) s).length x2_, .slice X3 (ancL (es l1) s).length x3_, .slice X4 (reachL (es lq) s).length x4_]) := Aside0.mk (BK61.out.below HR.out)
            have zBX_0 : wr.cell? ⟨g61, 0, none⟩ = some (.slice X1 (reachL (es l1) s).length x1_) := (blk_cell BX.out.blk 0).trans rfl
            have zBX_1 : wr.cell? ⟨g61, 1, none⟩ = some (.slice X2 (ancL (es lq) s).length x2_) := (blk_cell BX.out.blk 1).trans rfl
            have zBX_2 : wr.cell? ⟨g61, 2, none⟩ = some (.slice X3 (ancL (es l1) s).length x3_) := (blk_cell BX.out.blk 2).trans rfl
            have zBX_3 : wr.cell? ⟨g61, 3, none⟩ = some (.slice X4 (reachL (es lq) s).length x4_) := (blk_cell BX.out.blk 3).trans rfl
            go_wp2_with (((with_reducible refine gate_dst (N := 13) rfl ?_); refine Evt.box2 ?hg (N := 13) ?hd (z := #[.slice none 0 0, .slice none 0 0]) (cs := #[.slice X1 (reachL (es l1) s).length x1_, .slice X2 (ancL (es lq) s).length x2_]) (T := 51) ?hr ?hg2 (.tmp 66) ?ho2 ?hd2 ?hy ?hx ?hi ?hz ?h1 ?_; (case hd => rfl); (case hg => rfl); (case hr => first | (go_simp; done) | (go_simp; rfl)); (case hg2 => rfl); (case ho2 => rfl); (case hd2 => rfl); (case hy => first | rfl | (go_simp; done)); (case hx => first | rfl | (go_simp; done)); (case hi => kernel_rfl); (case hz => rfl); (case h1 => first | rfl | (simp [Value.oneCell'])); intro g13 hg w1 hbox hb; have hbx : Below wr.heap.size wr w1 := below_step (by repeat (first | (with_reducible first | exact Below.refl _ _ | apply below_alloc | apply pw_below_drewN | apply below_drew1) | exact Below.refl _ _)) hb; clear zBX_0 zBX_1 zBX_2 zBX_3; have n_NA := Aside0.mk (NA.out.below hbx); have n_NB := Aside0.mk (NB.out.below hbx); have n_BX := Aside0.mk (BX.out.below hbx); have n_HB := Aside0.mk (below_step HB.out hbx); clear HB NA NB BX; have NA := n_NA; have NB := n_NB; have BX := n_BX; have HB := n_HB; clear hbx n_NA n_NB n_BX n_HB; have BK13 := Aside0.mk (Bk.mk (hbox : Blk w1 g13 51 #[.slice X1 (reachL (es l1) s).length x1_, .slice X2 (ancL (es lq) s).length x2_])); clear hbox hg hb; have zBX_0 : w1.cell? ⟨g61, 0, none⟩ = some (.slice X1 (reachL (es l1) s).length x1_) := (blk_cell BX.out.blk 0).trans rfl; have zBX_1 : w1.cell? ⟨g61, 1, none⟩ = some (.slice X2 (ancL (es lq) s).length x2_) := (blk_cell BX.out.blk 1).trans rfl; have zBX_2 : w1.cell? ⟨g61, 2, none⟩ = some (.slice X3 (ancL (es l1) s).length x3_) := (blk_cell BX.out.blk 2).trans rfl; have zBX_3 : w1.cell? ⟨g61, 3, none⟩ = some (.slice X4 (reachL (es lq) s).length x4_) := (blk_cell BX.out.blk 3).trans rfl; have zBK13_0 : w1.cell? ⟨g13, 0, none⟩ = some (.slice X1 (reachL (es l1) s).length x1_) := (blk_cell BK13.out.blk 0).trans rfl; have zBK13_1 : w1.cell? ⟨g13, 1, none⟩ = some (.slice X2 (ancL (es lq) s).length x2_) := (blk_cell BK13.out.blk 1).trans rfl))
            have N5 := NA
            have M5 := NB
            have B5 := BK13
            have HR5 := Aside0.mk (below_step HR.out HB.out)
            clear NA NB BX BK13 HB HR zBX_0 zBX_1 zBX_2 zBX_3 zBK13_0 zBK13_1
            go_loopg [77] (reachL (es l1) s).length (fun kq v77 wr => ∃ k : Nat, v77 = .int .i64 k ∧ Aside0 (k + kq = (reachL (es l1) s).length) ∧ Aside0 (Below w1.heap.size w1 wr))
            case atStart => exact ⟨0, rfl, ⟨by omega⟩, ⟨Below.refl _ _⟩⟩
            case round =>
              obtain ⟨k, rfl, hk, HS⟩ := hrel
              cases gk with
              | zero =>
                have q0 : decide (k < (reachL (es l1) s).length) = false := decide_eq_false (by have := hk.out; omega)
                have q1 : decide ((k : Int) < ((reachL (es l1) s).length : Int)) = false := decide_eq_false (by have := hk.out; omega)
                go_wp2
                go_roundg i1
                case measure => omega
                case rel => exact ⟨1, rfl, ⟨by have := hi.out; omega⟩, ⟨below_step HR5.out HS.out⟩⟩
              | succ k1 =>
                have hkl : k < (reachL (es l1) s).length := by have := hk.out; omega
                have q0 : decide (k < (reachL (es l1) s).length) = true := decide_eq_true hkl
                have q1 : decide ((k : Int) < ((reachL (es l1) s).length : Int)) = true := decide_eq_true (by omega)
                obtain ⟨x, hx⟩ : ∃ x, Aside0 ((reachL (es l1) s)[k] = x) := ⟨_, ⟨rfl⟩⟩
                have CX := Aside0.mk (CI1.out x (by rw [← hx.out]; exact List.getElem_mem hkl))
                obtain ⟨ad, rfl⟩ := Rw.someS N5.out (by omega)
                have x0 := Rw.atS (N5.out.below HS.out) hkl
                rw [hx.out] at x0
                have LB : Aside0 ((ancL (es lq) s).length ≤ 1000000) := ⟨by have := LE1.out; omega⟩
                have HB := Aside0.mk (Below.refl wr.heap.size wr)
                have NB := Aside0.mk (M5.out.below HS.out)
                have BX : Aside0 (Bk wr g13 51 #[.slice (some ad) (reachL (es l1) s).length x1_, .slice X2 (ancL (es lq) s).length x2_]) := Aside0.mk (B5.out.below HS.out)
                have zBX_0 : wr.cell? ⟨g13, 0, none⟩ = some (.slice (some ad) (reachL (es l1) s).length x1_) := (blk_cell BX.out.blk 0).trans rfl
                have zBX_1 : wr.cell? ⟨g13, 1, none⟩ = some (.slice X2 (ancL (es lq) s).length x2_) := (blk_cell BX.out.blk 1).trans rfl
                go_wp2_with (((with_reducible refine gate_callee (f := 26) rfl ?_); refine goesL_ (some 84) rfl rfl Try.func26 (by kernel_rfl) rfl #[.slice X2 (ancL (es lq) s).length x2_, .string x] rfl (by (try simp only [List.map_toArray, List.map_cons, List.map_nil]); first | done | rfl | (simp only [List.length_drop, List.length_take]; rfl)) ?_; (with_reducible refine (conS_b X2 x2_ _ x _ (NB.out.below (by repeat (first | (with_reducible first | exact Below.refl _ _ | apply below_alloc | apply pw_below_drewN | apply below_drew1) | exact Below.refl _ _))) LB.out CX.out).mono ?_); rintro e w1 ⟨rfl, hb⟩; have hbx : Below wr.heap.size wr w1 := below_step (by repeat (first | (with_reducible first | exact Below.refl _ _ | apply below_alloc | apply pw_below_drewN | apply below_drew1) | exact Below.refl _ _)) hb; clear zBX_0 zBX_1; have n_NB := Aside0.mk (NB.out.below hbx); have n_BX := Aside0.mk (BX.out.below hbx); have n_HB := Aside0.mk (below_step HB.out hbx); clear HB NB BX; have NB := n_NB; have BX := n_BX; have HB := n_HB; clear hbx n_NB n_BX n_HB; clear hb; have zBX_0 : w1.cell? ⟨g13, 0, none⟩ = some (.slice (some ad) (reachL (es l1) s).length x1_) := (blk_cell BX.out.blk 0).trans rfl; have zBX_1 : w1.cell? ⟨g13, 1, none⟩ = some (.slice X2 (ancL (es lq) s).length x2_) := (blk_cell BX.out.blk 1).trans rfl; refine ⟨_, rfl, ?_⟩))
                go_roundg k1
                case measure => omega
                case rel => exact ⟨k + 1, by go_num, ⟨by have := hk.out; omega⟩, ⟨below_step HS.out HB.out⟩⟩
            skip
          · skip
            have e1 : decide (((ancL (es l1) s).length : Int) = ((reachL (es lq) s).length : Int)) = true := decide_eq_true (by rw [LE3.out])
            have e2 : decide (¬ ((ancL (es l1) s).length : Int) = ((reachL (es lq) s).length : Int)) = false := decide_eq_false (by rw [LE3.out]; simp)
            have e3 : decide ((ancL (es l1) s).length = (reachL (es lq) s).length) = true := decide_eq_true LE3.out
            have e4 : decide (¬ (ancL (es l1) s).length = (reachL (es lq) s).length) = false := decide_eq_false (by rw [LE3.out]; simp)
            have e5 : ((((ancL (es l1) s).length : Nat) : Int) != (((reachL (es lq) s).length : Nat) : Int)) = false := bne_eq_false_iff_eq.2 (by rw [LE3.out])
            have LL : (ancL (es l1) s).length ≤ 200 := by have := LM3.out; omega
            have HB := Aside0.mk (Below.refl wr.heap.size wr)
            have NA := Aside0.mk (N3.out.below HR.out)
            have NB := Aside0.mk (N4.out.below HR.out)
            have BX : Aside0 (Bk wr g61 51 #[.slice X1 (reachL (es l1) s).length x1_, .slice X2 (ancL (es lq) s).length x2_, .slice X3 (ancL (es l1) s).length x3_, .slice X4 (reachL (es lq) s).length x4_]) := Aside0.mk (BK61.out.below HR.out)
            have zBX_0 : wr.cell? ⟨g61, 0, none⟩ = some (.slice X1 (reachL (es l1) s).length x1_) := (blk_cell BX.out.blk 0).trans rfl
            have zBX_1 : wr.cell? ⟨g61, 1, none⟩ = some (.slice X2 (ancL (es lq) s).length x2_) := (blk_cell BX.out.blk 1).trans rfl
            have zBX_2 : wr.cell? ⟨g61, 2, none⟩ = some (.slice X3 (ancL (es l1) s).length x3_) := (blk_cell BX.out.blk 2).trans rfl
            have zBX_3 : wr.cell? ⟨g61, 3, none⟩ = some (.slice X4 (reachL (es lq) s).length x4_) := (blk_cell BX.out.blk 3).trans rfl
            go_wp2_with (((with_reducible refine gate_dst (N := 13) rfl ?_); refine Evt.box2 ?hg (N := 13) ?hd (z := #[.slice none 0 0, .slice none 0 0]) (cs := #[.slice X3 (ancL (es l1) s).length x3_, .slice X4 (reachL (es lq) s).length x4_]) (T := 51) ?hr ?hg2 (.tmp 66) ?ho2 ?hd2 ?hy ?hx ?hi ?hz ?h1 ?_; (case hd => rfl); (case hg => rfl); (case hr => first | (go_simp; done) | (go_simp; rfl)); (case hg2 => rfl); (case ho2 => rfl); (case hd2 => rfl); (case hy => first | rfl | (go_simp; done)); (case hx => first | rfl | (go_simp; done)); (case hi => kernel_rfl); (case hz => rfl); (case h1 => first | rfl | (simp [Value.oneCell'])); intro g13 hg w1 hbox hb; have hbx : Below wr.heap.size wr w1 := below_step (by repeat (first | (with_reducible first | exact Below.refl _ _ | apply below_alloc | apply pw_below_drewN | apply below_drew1) | exact Below.refl _ _)) hb; clear zBX_0 zBX_1 zBX_2 zBX_3; have n_NA := Aside0.mk (NA.out.below hbx); have n_NB := Aside0.mk (NB.out.below hbx); have n_BX := Aside0.mk (BX.out.below hbx); have n_HB := Aside0.mk (below_step HB.out hbx); clear HB NA NB BX; have NA := n_NA; have NB := n_NB; have BX := n_BX; have HB := n_HB; clear hbx n_NA n_NB n_BX n_HB; have BK13 := Aside0.mk (Bk.mk (hbox : Blk w1 g13 51 #[.slice X3 (ancL (es l1) s).length x3_, .slice X4 (reachL (es lq) s).length x4_])); clear hbox hg hb; have zBX_0 : w1.cell? ⟨g61, 0, none⟩ = some (.slice X1 (reachL (es l1) s).length x1_) := (blk_cell BX.out.blk 0).trans rfl; have zBX_1 : w1.cell? ⟨g61, 1, none⟩ = some (.slice X2 (ancL (es lq) s).length x2_) := (blk_cell BX.out.blk 1).trans rfl; have zBX_2 : w1.cell? ⟨g61, 2, none⟩ = some (.slice X3 (ancL (es l1) s).length x3_) := (blk_cell BX.out.blk 2).trans rfl; have zBX_3 : w1.cell? ⟨g61, 3, none⟩ = some (.slice X4 (reachL (es lq) s).length x4_) := (blk_cell BX.out.blk 3).trans rfl; have zBK13_0 : w1.cell? ⟨g13, 0, none⟩ = some (.slice X3 (ancL (es l1) s).length x3_) := (blk_cell BK13.out.blk 0).trans rfl; have zBK13_1 : w1.cell? ⟨g13, 1, none⟩ = some (.slice X4 (reachL (es lq) s).length x4_) := (blk_cell BK13.out.blk 1).trans rfl))
            have N5 := NA
            have M5 := NB
            have B5 := BK13
            have HR5 := Aside0.mk (below_step HR.out HB.out)
            clear NA NB BX BK13 HB HR zBX_0 zBX_1 zBX_2 zBX_3 zBK13_0 zBK13_1
            go_loopg [77] (ancL (es l1) s).length (fun kq v77 wr => ∃ k : Nat, v77 = .int .i64 k ∧ Aside0 (k + kq = (ancL (es l1) s).length) ∧ Aside0 (Below w1.heap.size w1 wr))
            case atStart => exact ⟨0, rfl, ⟨by omega⟩, ⟨Below.refl _ _⟩⟩
            case round =>
              obtain ⟨k, rfl, hk, HS⟩ := hrel
              cases gk with
              | zero =>
                have q0 : decide (k < (ancL (es l1) s).length) = false := decide_eq_false (by have := hk.out; omega)
                have q1 : decide ((k : Int) < ((ancL (es l1) s).length : Int)) = false := decide_eq_false (by have := hk.out; omega)
                go_wp2
                go_roundg i1
                case measure => omega
                case rel => exact ⟨2, rfl, ⟨by have := hi.out; omega⟩, ⟨below_step HR5.out HS.out⟩⟩
              | succ k1 =>
                have hkl : k < (ancL (es l1) s).length := by have := hk.out; omega
                have q0 : decide (k < (ancL (es l1) s).length) = true := decide_eq_true hkl
                have q1 : decide ((k : Int) < ((ancL (es l1) s).length : Int)) = true := decide_eq_true (by omega)
                obtain ⟨x, hx⟩ : ∃ x, Aside0 ((ancL (es l1) s)[k] = x) := ⟨_, ⟨rfl⟩⟩
                have CX := Aside0.mk (CI3.out x (by rw [← hx.out]; exact List.getElem_mem hkl))
                obtain ⟨ad, rfl⟩ := Rw.someS N5.out (by omega)
                have x0 := Rw.atS (N5.out.below HS.out) hkl
                rw [hx.out] at x0
                have LB : Aside0 ((reachL (es lq) s).length ≤ 1000000) := ⟨by have := LE3.out; omega⟩
                have HB := Aside0.mk (Below.refl wr.heap.size wr)
                have NB := Aside0.mk (M5.out.below HS.out)
                have BX : Aside0 (Bk wr g13 51 #[.slice (some ad) (ancL (es l1) s).length x3_, .slice X4 (reachL (es lq) s).length x4_]) := Aside0.mk (B5.out.below HS.out)
                have zBX_0 : wr.cell? ⟨g13, 0, none⟩ = some (.slice (some ad) (ancL (es l1) s).length x3_) := (blk_cell BX.out.blk 0).trans rfl
                have zBX_1 : wr.cell? ⟨g13, 1, none⟩ = some (.slice X4 (reachL (es lq) s).length x4_) := (blk_cell BX.out.blk 1).trans rfl
                go_wp2_with (((with_reducible refine gate_callee (f := 26) rfl ?_); refine goesL_ (some 84) rfl rfl Try.func26 (by kernel_rfl) rfl #[.slice X4 (reachL (es lq) s).length x4_, .string x] rfl (by (try simp only [List.map_toArray, List.map_cons, List.map_nil]); first | done | rfl | (simp only [List.length_drop, List.length_take]; rfl)) ?_; (with_reducible refine (conS_b X4 x4_ _ x _ (NB.out.below (by repeat (first | (with_reducible first | exact Below.refl _ _ | apply below_alloc | apply pw_below_drewN | apply below_drew1) | exact Below.refl _ _))) LB.out CX.out).mono ?_); rintro e w1 ⟨rfl, hb⟩; have hbx : Below wr.heap.size wr w1 := below_step (by repeat (first | (with_reducible first | exact Below.refl _ _ | apply below_alloc | apply pw_below_drewN | apply below_drew1) | exact Below.refl _ _)) hb; clear zBX_0 zBX_1; have n_NB := Aside0.mk (NB.out.below hbx); have n_BX := Aside0.mk (BX.out.below hbx); have n_HB := Aside0.mk (below_step HB.out hbx); clear HB NB BX; have NB := n_NB; have BX := n_BX; have HB := n_HB; clear hbx n_NB n_BX n_HB; clear hb; have zBX_0 : w1.cell? ⟨g13, 0, none⟩ = some (.slice (some ad) (ancL (es l1) s).length x3_) := (blk_cell BX.out.blk 0).trans rfl; have zBX_1 : w1.cell? ⟨g13, 1, none⟩ = some (.slice X4 (reachL (es lq) s).length x4_) := (blk_cell BX.out.blk 1).trans rfl; refine ⟨_, rfl, ?_⟩))
                go_roundg k1
                case measure => omega
                case rel => exact ⟨k + 1, by go_num, ⟨by have := hk.out; omega⟩, ⟨below_step HS.out HB.out⟩⟩
set_option maxHeartbeats 2000000 in
theorem rev_big (w : World) (h : Rg w A1 c1 l1 A2 c2 l2) (hz : SzR l1) (hb : ¬ tl (es l1) ≤ 0) : Calls Try.prog 8 #[.agg #[.string a0, .slice A1 l1.length c1, .slice A2 l2.length c2, .string a3], .string s] w fun x w' => x = .returned (.bool true) ∧ Below w.heap.size w w' := by
  have SZ := Aside0.mk hz
  have TL := Aside0.mk (tl_1 hb)
  have HB := Aside0.mk (Below.refl w.heap.size w)
  have R := Aside0.mk (h)
  clear h hz hb
  go_enter Try.func8, Try.ntmps8
  go_wp2_with (first | ((with_reducible refine gate_dst (N := 2) rfl ?_); refine box_event ?hg (N := 2) ?hd (cs := #[.string a0, .slice A1 l1.length c1, .slice A2 l2.length c2, .string a3]) (t := 25) ?hr ?_; (case hd => rfl); (case hg => rfl); (case hr => first | (go_simp; done) | (go_simp; rfl)); intro g2 hg w1 hbox hb; have hbx : Below w.heap.size w w1 := below_step (by repeat (first | (with_reducible first | exact Below.refl _ _ | apply below_alloc | apply pw_below_drewN | apply below_drew1) | exact Below.refl _ _)) hb; have n_R := Aside0.mk (R.out.below hbx); have n_HB := Aside0.mk (below_step HB.out hbx); clear HB R; have R := n_R; have HB := n_HB; clear hbx n_R n_HB; have BK2 := Aside0.mk (Bk.mk (hbox : Blk w1 g2 25 #[.string a0, .slice A1 l1.length c1, .slice A2 l2.length c2, .string a3])); clear hbox hg hb; have zBK2_0 : w1.cell? ⟨g2, 0, none⟩ = some (.string a0) := (blk_cell BK2.out.blk 0).trans rfl; have zBK2_1 : w1.cell? ⟨g2, 1, none⟩ = some (.slice A1 l1.length c1) := (blk_cell BK2.out.blk 1).trans rfl; have zBK2_2 : w1.cell? ⟨g2, 2, none⟩ = some (.slice A2 l2.length c2) := (blk_cell BK2.out.blk 2).trans rfl; have zBK2_3 : w1.cell? ⟨g2, 3, none⟩ = some (.string a3) := (blk_cell BK2.out.blk 3).trans rfl) | ((with_reducible refine gate_callee (f := 15) rfl ?_); refine goesL_ (some 21) rfl rfl Try.func15 (by kernel_rfl) rfl #[.agg #[.string a0, .slice A1 l1.length c1, .slice A2 l2.length c2, .string a3]] rfl (by (try simp only [List.map_toArray, List.map_cons, List.map_nil]); first | done | rfl | (simp only [List.length_drop, List.length_take]; rfl)) ?_; (with_reducible refine (Pe.tl_any _ (R.out.below (by repeat (first | (with_reducible first | exact Below.refl _ _ | apply below_alloc | apply pw_below_drewN | apply below_drew1) | exact Below.refl _ _))) SZ.out TL.out).mono ?_); rintro e w2 ⟨rfl, hb⟩; have hbx : Below w1.heap.size w1 w2 := below_step (by repeat (first | (with_reducible first | exact Below.refl _ _ | apply below_alloc | apply pw_below_drewN | apply below_drew1) | exact Below.refl _ _)) hb; clear zBK2_0 zBK2_1 zBK2_2 zBK2_3; have n_R := Aside0.mk (R.out.below hbx); have n_BK2 := Aside0.mk (BK2.out.below hbx); have n_HB := Aside0.mk (below_step HB.out hbx); clear HB R BK2; have R := n_R; have BK2 := n_BK2; have HB := n_HB; clear hbx n_R n_BK2 n_HB; clear hb; have zBK2_0 : w2.cell? ⟨g2, 0, none⟩ = some (.string a0) := (blk_cell BK2.out.blk 0).trans rfl; have zBK2_1 : w2.cell? ⟨g2, 1, none⟩ = some (.slice A1 l1.length c1) := (blk_cell BK2.out.blk 1).trans rfl; have zBK2_2 : w2.cell? ⟨g2, 2, none⟩ = some (.slice A2 l2.length c2) := (blk_cell BK2.out.blk 2).trans rfl; have zBK2_3 : w2.cell? ⟨g2, 3, none⟩ = some (.string a3) := (blk_cell BK2.out.blk 3).trans rfl; refine ⟨_, rfl, ?_⟩) | ((with_reducible refine gate_callee (f := 16) rfl ?_); refine goesL_ (some 23) rfl rfl Try.func16 (by kernel_rfl) rfl #[] rfl (by (try simp only [List.map_toArray, List.map_cons, List.map_nil]); first | done | rfl | (simp only [List.length_drop, List.length_take]; rfl)) ?_; (with_reducible refine (alive_any _).mono ?_); rintro e w3 ⟨rfl, hb⟩; have hbx : Below w2.heap.size w2 w3 := below_step (by repeat (first | (with_reducible first | exact Below.refl _ _ | apply below_alloc | apply pw_below_drewN | apply below_drew1) | exact Below.refl _ _)) hb; clear zBK2_0 zBK2_1 zBK2_2 zBK2_3; have n_R := Aside0.mk (R.out.below hbx); have n_BK2 := Aside0.mk (BK2.out.below hbx); have n_HB := Aside0.mk (below_step HB.out hbx); clear HB R BK2; have R := n_R; have BK2 := n_BK2; have HB := n_HB; clear hbx n_R n_BK2 n_HB; clear hb; have zBK2_0 : w3.cell? ⟨g2, 0, none⟩ = some (.string a0) := (blk_cell BK2.out.blk 0).trans rfl; have zBK2_1 : w3.cell? ⟨g2, 1, none⟩ = some (.slice A1 l1.length c1) := (blk_cell BK2.out.blk 1).trans rfl; have zBK2_2 : w3.cell? ⟨g2, 2, none⟩ = some (.slice A2 l2.length c2) := (blk_cell BK2.out.blk 2).trans rfl; have zBK2_3 : w3.cell? ⟨g2, 3, none⟩ = some (.string a3) := (blk_cell BK2.out.blk 3).trans rfl; refine ⟨_, rfl, ?_⟩))
  go_ret
  exact ⟨rfl, HB.out⟩
theorem rev_walk (w : World) (k1 : List Value) (y1 : ByteArray × List S41 × List S101 × ByteArray) (h1 : KRung.K w y1 k1) (hq : QRung y1) (s : ByteArray) (_ : s.size ≤ maxLen) :
    Calls Try.prog 8 #[.agg k1.toArray, .string s] w fun x w' => x = .returned (.bool true) ∧ Below w.heap.size w w' := by
  obtain ⟨A1, c1, A2, c2, rfl, r1, hz⟩ := rung_form h1 hq
  by_cases hb : tl (es y1.2.1) ≤ 0
  · exact rev_small w r1 hz hb
  · exact rev_big w r1 hz hb
end
end Go.Proofs.Ytmacdknicgfglaa.Gw
