/- graph.numbers, Outgoing, Incoming, walked. -/
import Derived.Test.YtmacdknicgfglaaGn
import Derived.Shelf.Abstract
namespace Go.Proofs.Ytmacdknicgfglaa.Gw
open Go.RowKit Go.Shelf Go.Proofs.YtmacdknicgfglaaW.PrintWords Go.Proofs.YtmacdknicgfglaaW.PrintMore Go.Proofs.YtmacdknicgfglaaW.PrintLast Go.Proofs.Ytmacdknicgfglaa.Chg Go.Proofs.Ytmacdknicgfglaa.Evt Go.Proofs.Ytmacdknicgfglaa.Impl Go.Proofs.Ytmacdknicgfglaa.Gp Go.Proofs.Ytmacdknicgfglaa.Mp
set_option linter.unusedVariables false
set_option linter.unusedSimpArgs false
set_option maxRecDepth 100000
theorem str_eq {s t : ByteArray} : s.toList = t.toList ↔ s = t := by
  rw [ByteArray.toList_eq, ByteArray.toList_eq]
  constructor
  · intro h; exact ByteArray.ext (Array.ext' h)
  · rintro rfl; rfl
theorem str_beq (s t : ByteArray) : (s.toList == t.toList) = decide (s = t) := by
  by_cases h : s = t
  · subst h; simp
  · rw [decide_eq_false h]; exact beq_eq_false_iff_ne.mpr (fun e => h (str_eq.1 e))
/-- A contact, by value. -/
abbrev cv (c : S41) : Value := .agg #[.int .i64 c.f0, .int .i64 c.f1.f0, .int .i64 c.f1.f1, .string c.f2, .string c.f3]
/-- A predicate on contacts, as a function value. -/
structure PredC (k : Nat) (lb : Array Value) (q : Ed → Bool) (w : World) : Prop where
  out : ∀ (W : World) (c : S41), Below w.heap.size w W → Calls Try.prog k (#[cv c] ++ lb) W fun e W' => e = .returned (.bool (q (c.f2, c.f3))) ∧ Below W.heap.size W W'
theorem PredC.at {k : Nat} {lb : Array Value} {q : Ed → Bool} {w W : World} (h : PredC k lb q w) (c : S41) (hb : Below w.heap.size w W) {r : Bool} (hr : q (c.f2, c.f3) = r) : Calls Try.prog k (#[cv c] ++ lb) W fun e W' => e = .returned (.bool r) ∧ Below W.heap.size W W' := by
  subst hr; exact h.out W c hb
set_option maxHeartbeats 1000000 in
theorem out1_any {w : World} {g : Nat} {s : ByteArray} (h : Bk w g 9 #[.string s]) : PredC 44 #[.pointer (some ⟨g, 0, none⟩)] (fun c => decide (c.1 = s)) w := by
  refine ⟨fun W c hB => ?_⟩
  have KS := Aside0.mk (h.below hB)
  obtain ⟨r, hr⟩ : ∃ r, (c.f2.toList == s.toList) = r := ⟨_, rfl⟩
  have hr2 := Aside0.mk ((str_beq _ _).symm.trans hr)
  clear hB h
  have HB := Aside0.mk (Below.refl W.heap.size W)
  have KT : Aside0 (Bk W g 9 #[.string s]) := Aside0.mk (KS.out)
  clear KS
  have zKT_0 : W.cell? ⟨g, 0, none⟩ = some (.string s) := (blk_cell KT.out.blk 0).trans rfl
  show Calls Try.prog 44 #[.agg #[.int .i64 c.f0, .int .i64 c.f1.f0, .int .i64 c.f1.f1, .string c.f2, .string c.f3], .pointer (some ⟨g, 0, none⟩)] W _
  go_enter Try.func44, Try.ntmps44
  go_wp2_with (((with_reducible refine gate_dst (N := 2) rfl ?_); refine box_event ?hg (N := 2) ?hd (cs := #[.int .i64 c.f0, .int .i64 c.f1.f0, .int .i64 c.f1.f1, .string c.f2, .string c.f3]) (t := 41) ?hr ?_; (case hd => rfl); (case hg => rfl); (case hr => first | (go_simp; done) | (go_simp; rfl)); intro g2 hg w1 hbox hb; have hbx : Below W.heap.size W w1 := below_step (by repeat (first | (with_reducible first | exact Below.refl _ _ | apply below_alloc | apply pw_below_drewN | apply below_drew1) | exact Below.refl _ _)) hb; clear zKT_0; have n_KT := Aside0.mk (KT.out.below hbx); have n_HB := Aside0.mk (below_step HB.out hbx); clear HB KT; have KT := n_KT; have HB := n_HB; clear hbx n_KT n_HB; have BK2 := Aside0.mk (Bk.mk (hbox : Blk w1 g2 41 #[.int .i64 c.f0, .int .i64 c.f1.f0, .int .i64 c.f1.f1, .string c.f2, .string c.f3])); clear hbox hg hb; have zKT_0 : w1.cell? ⟨g, 0, none⟩ = some (.string s) := (blk_cell KT.out.blk 0).trans rfl; have zBK2_0 : w1.cell? ⟨g2, 0, none⟩ = some (.int .i64 c.f0) := (blk_cell BK2.out.blk 0).trans rfl; have zBK2_1 : w1.cell? ⟨g2, 1, none⟩ = some (.int .i64 c.f1.f0) := (blk_cell BK2.out.blk 1).trans rfl; have zBK2_2 : w1.cell? ⟨g2, 2, none⟩ = some (.int .i64 c.f1.f1) := (blk_cell BK2.out.blk 2).trans rfl; have zBK2_3 : w1.cell? ⟨g2, 3, none⟩ = some (.string c.f2) := (blk_cell BK2.out.blk 3).trans rfl; have zBK2_4 : w1.cell? ⟨g2, 4, none⟩ = some (.string c.f3) := (blk_cell BK2.out.blk 4).trans rfl))
  go_ret
  exact ⟨by rw [hr2.out]; rfl, HB.out⟩
set_option maxHeartbeats 1000000 in
theorem in1_any {w : World} {g : Nat} {s : ByteArray} (h : Bk w g 9 #[.string s]) : PredC 45 #[.pointer (some ⟨g, 0, none⟩)] (fun c => decide (c.2 = s)) w := by
  refine ⟨fun W c hB => ?_⟩
  have KS := Aside0.mk (h.below hB)
  obtain ⟨r, hr⟩ : ∃ r, (c.f3.toList == s.toList) = r := ⟨_, rfl⟩
  have hr2 := Aside0.mk ((str_beq _ _).symm.trans hr)
  clear hB h
  have HB := Aside0.mk (Below.refl W.heap.size W)
  have KT : Aside0 (Bk W g 9 #[.string s]) := Aside0.mk (KS.out)
  clear KS
  have zKT_0 : W.cell? ⟨g, 0, none⟩ = some (.string s) := (blk_cell KT.out.blk 0).trans rfl
  show Calls Try.prog 45 #[.agg #[.int .i64 c.f0, .int .i64 c.f1.f0, .int .i64 c.f1.f1, .string c.f2, .string c.f3], .pointer (some ⟨g, 0, none⟩)] W _
  go_enter Try.func45, Try.ntmps45
  go_wp2_with (((with_reducible refine gate_dst (N := 2) rfl ?_); refine box_event ?hg (N := 2) ?hd (cs := #[.int .i64 c.f0, .int .i64 c.f1.f0, .int .i64 c.f1.f1, .string c.f2, .string c.f3]) (t := 41) ?hr ?_; (case hd => rfl); (case hg => rfl); (case hr => first | (go_simp; done) | (go_simp; rfl)); intro g2 hg w1 hbox hb; have hbx : Below W.heap.size W w1 := below_step (by repeat (first | (with_reducible first | exact Below.refl _ _ | apply below_alloc | apply pw_below_drewN | apply below_drew1) | exact Below.refl _ _)) hb; clear zKT_0; have n_KT := Aside0.mk (KT.out.below hbx); have n_HB := Aside0.mk (below_step HB.out hbx); clear HB KT; have KT := n_KT; have HB := n_HB; clear hbx n_KT n_HB; have BK2 := Aside0.mk (Bk.mk (hbox : Blk w1 g2 41 #[.int .i64 c.f0, .int .i64 c.f1.f0, .int .i64 c.f1.f1, .string c.f2, .string c.f3])); clear hbox hg hb; have zKT_0 : w1.cell? ⟨g, 0, none⟩ = some (.string s) := (blk_cell KT.out.blk 0).trans rfl; have zBK2_0 : w1.cell? ⟨g2, 0, none⟩ = some (.int .i64 c.f0) := (blk_cell BK2.out.blk 0).trans rfl; have zBK2_1 : w1.cell? ⟨g2, 1, none⟩ = some (.int .i64 c.f1.f0) := (blk_cell BK2.out.blk 1).trans rfl; have zBK2_2 : w1.cell? ⟨g2, 2, none⟩ = some (.int .i64 c.f1.f1) := (blk_cell BK2.out.blk 2).trans rfl; have zBK2_3 : w1.cell? ⟨g2, 3, none⟩ = some (.string c.f2) := (blk_cell BK2.out.blk 3).trans rfl; have zBK2_4 : w1.cell? ⟨g2, 4, none⟩ = some (.string c.f3) := (blk_cell BK2.out.blk 4).trans rfl))
  go_ret
  exact ⟨by rw [hr2.out]; rfl, HB.out⟩
section
variable {w w' : World} {A1 A2 : Option Addr} {c1 c2 : Nat} {l1 : List S41} {l2 : List S101} {a0 a3 : ByteArray}
structure Nu (w0 w : World) (v : Value) (xs : List Int) : Prop where
  row : Ro (Kd.int .i64) 3 w0 w v xs
  bel : Below w0.heap.size w0 w
theorem Nu.below {w0 : World} {v : Value} {xs : List Int} (h : Nu w0 w v xs) (hb : Below w.heap.size w w') : Nu w0 w' v xs := ⟨h.row.below hb, below_step h.bel hb⟩
set_option maxHeartbeats 4000000 in
theorem numbers_any (k : Nat) (lb : Array Value) (q : Ed → Bool) (eg : ∀ args w, (callFunc k args).run Try.prog w = .ok (.enter k args) w) (w : World) (h : Rg w A1 c1 l1 A2 c2 l2) (hn : l1.length ≤ 1000) (hp : PredC k lb q w) :
    Calls Try.prog 43 #[.agg #[.string a0, .slice A1 l1.length c1, .slice A2 l2.length c2, .string a3], .func (.func k) #[] lb] w fun e w' => ∃ v, e = .returned v ∧ Ro (Kd.int .i64) 3 w w' v (idxs q (es l1)) ∧ Below w.heap.size w w' := by
  have HB := Aside0.mk (Below.refl w.heap.size w)
  have R := Aside0.mk h
  have PQ := Aside0.mk hp
  clear h hp
  go_enter Try.func43, Try.ntmps43
  go_wp2_with (((with_reducible refine gate_dst (N := 2) rfl ?_); refine box_event ?hg (N := 2) ?hd (cs := #[.string a0, .slice A1 l1.length c1, .slice A2 l2.length c2, .string a3]) (t := 25) ?hr ?_; (case hd => rfl); (case hg => rfl); (case hr => first | (go_simp; done) | (go_simp; rfl)); intro g2 hg w1 hbox hb; have hbx : Below w.heap.size w w1 := below_step (by repeat (first | (with_reducible first | exact Below.refl _ _ | apply below_alloc | apply pw_below_drewN | apply below_drew1) | exact Below.refl _ _)) hb; have n_HB := Aside0.mk (below_step HB.out hbx); clear HB ; have HB := n_HB; clear hbx n_HB; have BK2 := Aside0.mk (Bk.mk (hbox : Blk w1 g2 25 #[.string a0, .slice A1 l1.length c1, .slice A2 l2.length c2, .string a3])); clear hbox hg hb; have zBK2_0 : w1.cell? ⟨g2, 0, none⟩ = some (.string a0) := (blk_cell BK2.out.blk 0).trans rfl; have zBK2_1 : w1.cell? ⟨g2, 1, none⟩ = some (.slice A1 l1.length c1) := (blk_cell BK2.out.blk 1).trans rfl; have zBK2_2 : w1.cell? ⟨g2, 2, none⟩ = some (.slice A2 l2.length c2) := (blk_cell BK2.out.blk 2).trans rfl; have zBK2_3 : w1.cell? ⟨g2, 3, none⟩ = some (.string a3) := (blk_cell BK2.out.blk 3).trans rfl))
  have ND : Aside0 (Nu w w1 (.slice none 0 0) (idxs q ((es l1).take 0))) := Aside0.mk ⟨⟨Kd.R_nil _ _ _ _ _⟩, HB.out⟩
  clear HB BK2 zBK2_0 zBK2_1 zBK2_2 zBK2_3
  go_loopg [5, 11] l1.length (fun kq v5 v11 wr => ∃ j : Nat, v11 = .int .i64 j ∧ Aside0 (j + kq = l1.length) ∧ Aside0 (Nu w wr v5 (idxs q ((es l1).take j))))
  case atStart => exact ⟨0, rfl, ⟨by omega⟩, ND⟩
  case round =>
    clear ND
    obtain ⟨j, rfl, hj, ND⟩ := hrel
    cases gk with
    | zero =>
      have e0 : j = l1.length := by have := hj.out; omega
      have q0 : decide (j < l1.length) = false := decide_eq_false (by omega)
      have q1 : decide ((j : Int) < (l1.length : Int)) = false := decide_eq_false (by omega)
      have NE := Aside0.mk e0
      clear e0 hj
      go_wp2
      go_ret
      refine ⟨_, rfl, ?_, ND.out.bel⟩
      have := ND.out.row
      rw [List.take_of_length_le (by rw [es_len, NE.out]; exact Nat.le_refl _)] at this
      exact this
    | succ k1 =>
      have hjl : j < l1.length := by have := hj.out; omega
      have q0 : decide (j < l1.length) = true := decide_eq_true (by omega)
      have q1 : decide ((j : Int) < (l1.length : Int)) = true := decide_eq_true (by omega)
      obtain ⟨ad, rfl, x0, x1, x2, x3, x4⟩ := (R.out.below ND.out.bel).at hjl
      have ST := Aside0.mk (idxs_take q (l := es l1) (j := j) (by rw [es_len]; exact hjl))
      have EG := Aside0.mk (es_get hjl)
      have IL := Aside0.mk (Nat.le_trans (idxs_len q ((es l1).take j)) (by rw [List.length_take]; omega : _ ≤ 1000))
      obtain ⟨r, hr⟩ : ∃ r, Aside0 (q (l1[j].f2, l1[j].f3) = r) := ⟨_, ⟨rfl⟩⟩
      have HB := Aside0.mk (Below.refl wr.heap.size wr)
      have ND' := Aside0.mk (ND.out)
      clear ND
      cases r with
      | false =>
        skip
        go_wp2_with (first | ((with_reducible refine gate_dst (N := 7) rfl ?_); refine Evt.box3 ?hg2_ (N := 7) ?hd2_ (z := #[.int .i64 0, .int .i64 0, .int .i64 0, .string ⟨#[]⟩, .string ⟨#[]⟩]) (cs := #[.int .i64 l1[j].f0, .int .i64 l1[j].f1.f0, .int .i64 l1[j].f1.f1, .string l1[j].f2, .string l1[j].f3]) (T := 41) ?hr2_ ?hg12_ (v1 := .int .i64 j) ?hr12_ ?hg22_ (.tmp 15) ?ho22_ ?hd22_ ?hy2_ ?hx2_ ?hi2_ ?hz2_ ?h12_ ?_; (case hd2_ => rfl); (case hg2_ => rfl); (case hr2_ => first | (go_simp; done) | (go_simp; rfl)); (case hg12_ => rfl); (case hr12_ => (intro W_; first | (go_simp; done) | (go_simp; rfl))); (case hg22_ => rfl); (case ho22_ => rfl); (case hd22_ => rfl); (case hy2_ => first | rfl | (go_simp; done)); (case hx2_ => first | rfl | (go_simp; done)); (case hi2_ => kernel_rfl); (case hz2_ => rfl); (case h12_ => first | rfl | (simp [Value.oneCell'])); intro g7 hg w1 hbox hb; have hbx : Below wr.heap.size wr w1 := below_step (by repeat (first | (with_reducible first | exact Below.refl _ _ | apply below_alloc | apply pw_below_drewN | apply below_drew1) | exact Below.refl _ _)) hb; have n_ND' := Aside0.mk (ND'.out.below hbx); have n_HB := Aside0.mk (below_step HB.out hbx); clear HB ND'; have ND' := n_ND'; have HB := n_HB; clear hbx n_ND' n_HB; have BK7 := Aside0.mk (Bk.mk (hbox : Blk w1 g7 41 #[.int .i64 l1[j].f0, .int .i64 l1[j].f1.f0, .int .i64 l1[j].f1.f1, .string l1[j].f2, .string l1[j].f3])); clear hbox hg hb; have zBK7_0 : w1.cell? ⟨g7, 0, none⟩ = some (.int .i64 l1[j].f0) := (blk_cell BK7.out.blk 0).trans rfl; have zBK7_1 : w1.cell? ⟨g7, 1, none⟩ = some (.int .i64 l1[j].f1.f0) := (blk_cell BK7.out.blk 1).trans rfl; have zBK7_2 : w1.cell? ⟨g7, 2, none⟩ = some (.int .i64 l1[j].f1.f1) := (blk_cell BK7.out.blk 2).trans rfl; have zBK7_3 : w1.cell? ⟨g7, 3, none⟩ = some (.string l1[j].f2) := (blk_cell BK7.out.blk 3).trans rfl; have zBK7_4 : w1.cell? ⟨g7, 4, none⟩ = some (.string l1[j].f3) := (blk_cell BK7.out.blk 4).trans rfl) | (go_at_fn k; (with_reducible refine (PQ.out.at l1[j] (below_step ND'.out.bel (by repeat (first | (with_reducible first | exact Below.refl _ _ | apply below_alloc | apply pw_below_drewN | apply below_drew1) | exact Below.refl _ _))) hr.out).mono ?_); rintro e w2 ⟨rfl, hb⟩; have hbx : Below w1.heap.size w1 w2 := below_step (by repeat (first | (with_reducible first | exact Below.refl _ _ | apply below_alloc | apply pw_below_drewN | apply below_drew1) | exact Below.refl _ _)) hb; clear zBK7_0 zBK7_1 zBK7_2 zBK7_3 zBK7_4; have n_ND' := Aside0.mk (ND'.out.below hbx); have n_BK7 := Aside0.mk (BK7.out.below hbx); have n_HB := Aside0.mk (below_step HB.out hbx); clear HB ND' BK7; have ND' := n_ND'; have BK7 := n_BK7; have HB := n_HB; clear hbx n_ND' n_BK7 n_HB; clear hb; have zBK7_0 : w2.cell? ⟨g7, 0, none⟩ = some (.int .i64 l1[j].f0) := (blk_cell BK7.out.blk 0).trans rfl; have zBK7_1 : w2.cell? ⟨g7, 1, none⟩ = some (.int .i64 l1[j].f1.f0) := (blk_cell BK7.out.blk 1).trans rfl; have zBK7_2 : w2.cell? ⟨g7, 2, none⟩ = some (.int .i64 l1[j].f1.f1) := (blk_cell BK7.out.blk 2).trans rfl; have zBK7_3 : w2.cell? ⟨g7, 3, none⟩ = some (.string l1[j].f2) := (blk_cell BK7.out.blk 3).trans rfl; have zBK7_4 : w2.cell? ⟨g7, 4, none⟩ = some (.string l1[j].f3) := (blk_cell BK7.out.blk 4).trans rfl))
        go_roundg k1
        case measure => omega
        case rel => exact ⟨j + 1, by go_num, ⟨by have := hj.out; omega⟩, ⟨by rw [ST.out, EG.out, if_neg (by rw [hr.out]; simp)]; exact ND'.out⟩⟩
        skip
      | true =>
        go_wp2_with (first | ((with_reducible refine gate_dst (N := 7) rfl ?_); refine Evt.box3 ?hg3_ (N := 7) ?hd3_ (z := #[.int .i64 0, .int .i64 0, .int .i64 0, .string ⟨#[]⟩, .string ⟨#[]⟩]) (cs := #[.int .i64 l1[j].f0, .int .i64 l1[j].f1.f0, .int .i64 l1[j].f1.f1, .string l1[j].f2, .string l1[j].f3]) (T := 41) ?hr3_ ?hg13_ (v1 := .int .i64 j) ?hr13_ ?hg23_ (.tmp 15) ?ho23_ ?hd23_ ?hy3_ ?hx3_ ?hi3_ ?hz3_ ?h13_ ?_; (case hd3_ => rfl); (case hg3_ => rfl); (case hr3_ => first | (go_simp; done) | (go_simp; rfl)); (case hg13_ => rfl); (case hr13_ => (intro W_; first | (go_simp; done) | (go_simp; rfl))); (case hg23_ => rfl); (case ho23_ => rfl); (case hd23_ => rfl); (case hy3_ => first | rfl | (go_simp; done)); (case hx3_ => first | rfl | (go_simp; done)); (case hi3_ => kernel_rfl); (case hz3_ => rfl); (case h13_ => first | rfl | (simp [Value.oneCell'])); intro g7 hg w1 hbox hb; have hbx : Below wr.heap.size wr w1 := below_step (by repeat (first | (with_reducible first | exact Below.refl _ _ | apply below_alloc | apply pw_below_drewN | apply below_drew1) | exact Below.refl _ _)) hb; have n_ND' := Aside0.mk (ND'.out.below hbx); have n_HB := Aside0.mk (below_step HB.out hbx); clear HB ND'; have ND' := n_ND'; have HB := n_HB; clear hbx n_ND' n_HB; have BK7 := Aside0.mk (Bk.mk (hbox : Blk w1 g7 41 #[.int .i64 l1[j].f0, .int .i64 l1[j].f1.f0, .int .i64 l1[j].f1.f1, .string l1[j].f2, .string l1[j].f3])); clear hbox hg hb; have zBK7_0 : w1.cell? ⟨g7, 0, none⟩ = some (.int .i64 l1[j].f0) := (blk_cell BK7.out.blk 0).trans rfl; have zBK7_1 : w1.cell? ⟨g7, 1, none⟩ = some (.int .i64 l1[j].f1.f0) := (blk_cell BK7.out.blk 1).trans rfl; have zBK7_2 : w1.cell? ⟨g7, 2, none⟩ = some (.int .i64 l1[j].f1.f1) := (blk_cell BK7.out.blk 2).trans rfl; have zBK7_3 : w1.cell? ⟨g7, 3, none⟩ = some (.string l1[j].f2) := (blk_cell BK7.out.blk 3).trans rfl; have zBK7_4 : w1.cell? ⟨g7, 4, none⟩ = some (.string l1[j].f3) := (blk_cell BK7.out.blk 4).trans rfl) | (go_at_fn k; (with_reducible refine (PQ.out.at l1[j] (below_step ND'.out.bel (by repeat (first | (with_reducible first | exact Below.refl _ _ | apply below_alloc | apply pw_below_drewN | apply below_drew1) | exact Below.refl _ _))) hr.out).mono ?_); rintro e w2 ⟨rfl, hb⟩; have hbx : Below w1.heap.size w1 w2 := below_step (by repeat (first | (with_reducible first | exact Below.refl _ _ | apply below_alloc | apply pw_below_drewN | apply below_drew1) | exact Below.refl _ _)) hb; clear zBK7_0 zBK7_1 zBK7_2 zBK7_3 zBK7_4; have n_ND' := Aside0.mk (ND'.out.below hbx); have n_BK7 := Aside0.mk (BK7.out.below hbx); have n_HB := Aside0.mk (below_step HB.out hbx); clear HB ND' BK7; have ND' := n_ND'; have BK7 := n_BK7; have HB := n_HB; clear hbx n_ND' n_BK7 n_HB; clear hb; have zBK7_0 : w2.cell? ⟨g7, 0, none⟩ = some (.int .i64 l1[j].f0) := (blk_cell BK7.out.blk 0).trans rfl; have zBK7_1 : w2.cell? ⟨g7, 1, none⟩ = some (.int .i64 l1[j].f1.f0) := (blk_cell BK7.out.blk 1).trans rfl; have zBK7_2 : w2.cell? ⟨g7, 2, none⟩ = some (.int .i64 l1[j].f1.f1) := (blk_cell BK7.out.blk 2).trans rfl; have zBK7_3 : w2.cell? ⟨g7, 3, none⟩ = some (.string l1[j].f2) := (blk_cell BK7.out.blk 3).trans rfl; have zBK7_4 : w2.cell? ⟨g7, 4, none⟩ = some (.string l1[j].f3) := (blk_cell BK7.out.blk 4).trans rfl) | ((with_reducible refine gate_dst (N := 21) rfl ?_); refine Evt.slice_event ?hg (N := 21) ?hd (cs := #[.int .i64 j]) (t := 3) (n := 1) ?hr ?_; (case hd => rfl); (case hg => rfl); (case hr => first | (go_simp; done) | (go_simp; rfl)); intro g21 hg w3 hbox hb; have hbx : Below w2.heap.size w2 w3 := below_step (by repeat (first | (with_reducible first | exact Below.refl _ _ | apply below_alloc | apply pw_below_drewN | apply below_drew1) | exact Below.refl _ _)) hb; clear zBK7_0 zBK7_1 zBK7_2 zBK7_3 zBK7_4; have n_ND' := Aside0.mk (ND'.out.below hbx); have n_BK7 := Aside0.mk (BK7.out.below hbx); have n_HB := Aside0.mk (below_step HB.out hbx); clear HB ND' BK7; have ND' := n_ND'; have BK7 := n_BK7; have HB := n_HB; clear hbx n_ND' n_BK7 n_HB; have BK21 := Aside0.mk (Bk.mk (hbox : Blk w3 g21 3 #[.int .i64 j])); clear hbox hg hb; have zBK7_0 : w3.cell? ⟨g7, 0, none⟩ = some (.int .i64 l1[j].f0) := (blk_cell BK7.out.blk 0).trans rfl; have zBK7_1 : w3.cell? ⟨g7, 1, none⟩ = some (.int .i64 l1[j].f1.f0) := (blk_cell BK7.out.blk 1).trans rfl; have zBK7_2 : w3.cell? ⟨g7, 2, none⟩ = some (.int .i64 l1[j].f1.f1) := (blk_cell BK7.out.blk 2).trans rfl; have zBK7_3 : w3.cell? ⟨g7, 3, none⟩ = some (.string l1[j].f2) := (blk_cell BK7.out.blk 3).trans rfl; have zBK7_4 : w3.cell? ⟨g7, 4, none⟩ = some (.string l1[j].f3) := (blk_cell BK7.out.blk 4).trans rfl; have zBK21_0 : w3.cell? ⟨g21, 0, none⟩ = some (.int .i64 j) := (blk_cell BK21.out.blk 0).trans rfl) | ((with_reducible refine gate_dst (N := 22) rfl ?_); at_builtin; refine Evt.ro_app (Value.int .i64) (fun _ => rfl) (0 : Int) rfl (.tmp 19) (.tmp 21) 32 3 (.int .i64 0) 8 rfl Try.underlying32 info3 rfl (by decide) u5 (idxs q ((es l1).take j)) (j : Int) g21 rfl rfl ND'.out.row BK21.out ND'.out.bel (by have := IL.out; omega) ?_; intro v22 wa_ ho hb hg hat; have NF := Aside0.mk (Nu.mk ho hb); clear ho hb hg hat ND' HB BK7 BK21 zBK7_0 zBK7_1 zBK7_2 zBK7_3 zBK7_4 zBK21_0))
        go_roundg k1
        case measure => omega
        case rel => exact ⟨j + 1, by go_num, ⟨by have := hj.out; omega⟩, ⟨by rw [ST.out, EG.out, if_pos hr.out]; exact NF.out⟩⟩
theorem eg_out : ∀ args w, (callFunc 44 args).run Try.prog w = .ok (.enter 44 args) w := enters_of Try.func44 (by kernel_rfl) rfl
theorem eg_in : ∀ args w, (callFunc 45 args).run Try.prog w = .ok (.enter 45 args) w := enters_of Try.func45 (by kernel_rfl) rfl
theorem outgoing_any (w : World) (h : Rg w A1 c1 l1 A2 c2 l2) (hn : l1.length ≤ 1000) (s : ByteArray) :
    Calls Try.prog 21 #[.agg #[.string a0, .slice A1 l1.length c1, .slice A2 l2.length c2, .string a3], .string s] w fun e w' => ∃ v, e = .returned v ∧ Ro (Kd.int .i64) 3 w w' v (outL (es l1) s) ∧ Below w.heap.size w w' := by
  have hmf : ∀ (fn : Fn) (first cap : Array Value) (w : World), (Instr.makeFunc fn first cap).run Try.prog w = .ok (.func fn first cap) w := fun _ _ _ _ => rfl
  have HB := Aside0.mk (Below.refl w.heap.size w)
  have R := Aside0.mk (h)
  clear h
  go_enter Try.func21, Try.ntmps21
  go_wp2_with (first | ((with_reducible refine gate_dst (N := 2) rfl ?_); refine box_event ?hg (N := 2) ?hd (cs := #[.string a0, .slice A1 l1.length c1, .slice A2 l2.length c2, .string a3]) (t := 25) ?hr ?_; (case hd => rfl); (case hg => rfl); (case hr => first | (go_simp; done) | (go_simp; rfl)); intro g2 hg w1 hbox hb; have hbx : Below w.heap.size w w1 := below_step (by repeat (first | (with_reducible first | exact Below.refl _ _ | apply below_alloc | apply pw_below_drewN | apply below_drew1) | exact Below.refl _ _)) hb; have n_R := Aside0.mk (R.out.below hbx); have n_HB := Aside0.mk (below_step HB.out hbx); clear HB R; have R := n_R; have HB := n_HB; clear hbx n_R n_HB; have BK2 := Aside0.mk (Bk.mk (hbox : Blk w1 g2 25 #[.string a0, .slice A1 l1.length c1, .slice A2 l2.length c2, .string a3])); clear hbox hg hb; have zBK2_0 : w1.cell? ⟨g2, 0, none⟩ = some (.string a0) := (blk_cell BK2.out.blk 0).trans rfl; have zBK2_1 : w1.cell? ⟨g2, 1, none⟩ = some (.slice A1 l1.length c1) := (blk_cell BK2.out.blk 1).trans rfl; have zBK2_2 : w1.cell? ⟨g2, 2, none⟩ = some (.slice A2 l2.length c2) := (blk_cell BK2.out.blk 2).trans rfl; have zBK2_3 : w1.cell? ⟨g2, 3, none⟩ = some (.string a3) := (blk_cell BK2.out.blk 3).trans rfl) | ((with_reducible refine gate_dst (N := 3) rfl ?_); refine box_event ?hg (N := 3) ?hd (cs := #[.string s]) (t := 9) ?hr ?_; (case hd => rfl); (case hg => rfl); (case hr => first | (go_simp; done) | (go_simp; rfl)); intro g3 hg w2 hbox hb; have hbx : Below w1.heap.size w1 w2 := below_step (by repeat (first | (with_reducible first | exact Below.refl _ _ | apply below_alloc | apply pw_below_drewN | apply below_drew1) | exact Below.refl _ _)) hb; clear zBK2_0 zBK2_1 zBK2_2 zBK2_3; have n_R := Aside0.mk (R.out.below hbx); have n_BK2 := Aside0.mk (BK2.out.below hbx); have n_HB := Aside0.mk (below_step HB.out hbx); clear HB R BK2; have R := n_R; have BK2 := n_BK2; have HB := n_HB; clear hbx n_R n_BK2 n_HB; have BK3 := Aside0.mk (Bk.mk (hbox : Blk w2 g3 9 #[.string s])); clear hbox hg hb; have zBK2_0 : w2.cell? ⟨g2, 0, none⟩ = some (.string a0) := (blk_cell BK2.out.blk 0).trans rfl; have zBK2_1 : w2.cell? ⟨g2, 1, none⟩ = some (.slice A1 l1.length c1) := (blk_cell BK2.out.blk 1).trans rfl; have zBK2_2 : w2.cell? ⟨g2, 2, none⟩ = some (.slice A2 l2.length c2) := (blk_cell BK2.out.blk 2).trans rfl; have zBK2_3 : w2.cell? ⟨g2, 3, none⟩ = some (.string a3) := (blk_cell BK2.out.blk 3).trans rfl; have zBK3_0 : w2.cell? ⟨g3, 0, none⟩ = some (.string s) := (blk_cell BK3.out.blk 0).trans rfl) | ((with_reducible refine gate_callee (f := 43) rfl ?_); refine goesL_ (some 7) rfl rfl Try.func43 (by kernel_rfl) rfl #[.agg #[.string a0, .slice A1 l1.length c1, .slice A2 l2.length c2, .string a3], .func (.func 44) #[] #[.pointer (some ⟨g3, 0, none⟩)]] rfl (by (try simp only [List.map_toArray, List.map_cons, List.map_nil]); first | done | rfl | (simp only [List.length_drop, List.length_take]; rfl)) ?_; (with_reducible refine (numbers_any _ _ _ eg_out _ (R.out.below (by repeat (first | (with_reducible first | exact Below.refl _ _ | apply below_alloc | apply pw_below_drewN | apply below_drew1) | exact Below.refl _ _))) hn (out1_any (BK3.out.below (by repeat (first | (with_reducible first | exact Below.refl _ _ | apply below_alloc | apply pw_below_drewN | apply below_drew1) | exact Below.refl _ _))))).mono ?_); rintro e w3 ⟨v, rfl, ho, hb⟩; have hbx : Below w2.heap.size w2 w3 := below_step (by repeat (first | (with_reducible first | exact Below.refl _ _ | apply below_alloc | apply pw_below_drewN | apply below_drew1) | exact Below.refl _ _)) hb; have ho_ := Ro.lower ho (below_size (below_step HB.out (by repeat (first | (with_reducible first | exact Below.refl _ _ | apply below_alloc | apply pw_below_drewN | apply below_drew1) | exact Below.refl _ _)))); clear zBK2_0 zBK2_1 zBK2_2 zBK2_3 zBK3_0; have n_R := Aside0.mk (R.out.below hbx); have n_BK2 := Aside0.mk (BK2.out.below hbx); have n_BK3 := Aside0.mk (BK3.out.below hbx); have n_HB := Aside0.mk (below_step HB.out hbx); clear HB R BK2 BK3; have R := n_R; have BK2 := n_BK2; have BK3 := n_BK3; have HB := n_HB; clear hbx n_R n_BK2 n_BK3 n_HB; have RV := Aside0.mk (ho_); clear hb; clear ho ho_; have zBK2_0 : w3.cell? ⟨g2, 0, none⟩ = some (.string a0) := (blk_cell BK2.out.blk 0).trans rfl; have zBK2_1 : w3.cell? ⟨g2, 1, none⟩ = some (.slice A1 l1.length c1) := (blk_cell BK2.out.blk 1).trans rfl; have zBK2_2 : w3.cell? ⟨g2, 2, none⟩ = some (.slice A2 l2.length c2) := (blk_cell BK2.out.blk 2).trans rfl; have zBK2_3 : w3.cell? ⟨g2, 3, none⟩ = some (.string a3) := (blk_cell BK2.out.blk 3).trans rfl; have zBK3_0 : w3.cell? ⟨g3, 0, none⟩ = some (.string s) := (blk_cell BK3.out.blk 0).trans rfl; refine ⟨_, rfl, ?_⟩))
  go_ret
  exact ⟨_, rfl, RV.out, HB.out⟩
theorem incoming_any (w : World) (h : Rg w A1 c1 l1 A2 c2 l2) (hn : l1.length ≤ 1000) (s : ByteArray) :
    Calls Try.prog 23 #[.agg #[.string a0, .slice A1 l1.length c1, .slice A2 l2.length c2, .string a3], .string s] w fun e w' => ∃ v, e = .returned v ∧ Ro (Kd.int .i64) 3 w w' v (inL (es l1) s) ∧ Below w.heap.size w w' := by
  have hmf : ∀ (fn : Fn) (first cap : Array Value) (w : World), (Instr.makeFunc fn first cap).run Try.prog w = .ok (.func fn first cap) w := fun _ _ _ _ => rfl
  have HB := Aside0.mk (Below.refl w.heap.size w)
  have R := Aside0.mk (h)
  clear h
  go_enter Try.func23, Try.ntmps23
  go_wp2_with (first | ((with_reducible refine gate_dst (N := 2) rfl ?_); refine box_event ?hg (N := 2) ?hd (cs := #[.string a0, .slice A1 l1.length c1, .slice A2 l2.length c2, .string a3]) (t := 25) ?hr ?_; (case hd => rfl); (case hg => rfl); (case hr => first | (go_simp; done) | (go_simp; rfl)); intro g2 hg w1 hbox hb; have hbx : Below w.heap.size w w1 := below_step (by repeat (first | (with_reducible first | exact Below.refl _ _ | apply below_alloc | apply pw_below_drewN | apply below_drew1) | exact Below.refl _ _)) hb; have n_R := Aside0.mk (R.out.below hbx); have n_HB := Aside0.mk (below_step HB.out hbx); clear HB R; have R := n_R; have HB := n_HB; clear hbx n_R n_HB; have BK2 := Aside0.mk (Bk.mk (hbox : Blk w1 g2 25 #[.string a0, .slice A1 l1.length c1, .slice A2 l2.length c2, .string a3])); clear hbox hg hb; have zBK2_0 : w1.cell? ⟨g2, 0, none⟩ = some (.string a0) := (blk_cell BK2.out.blk 0).trans rfl; have zBK2_1 : w1.cell? ⟨g2, 1, none⟩ = some (.slice A1 l1.length c1) := (blk_cell BK2.out.blk 1).trans rfl; have zBK2_2 : w1.cell? ⟨g2, 2, none⟩ = some (.slice A2 l2.length c2) := (blk_cell BK2.out.blk 2).trans rfl; have zBK2_3 : w1.cell? ⟨g2, 3, none⟩ = some (.string a3) := (blk_cell BK2.out.blk 3).trans rfl) | ((with_reducible refine gate_dst (N := 3) rfl ?_); refine box_event ?hg (N := 3) ?hd (cs := #[.string s]) (t := 9) ?hr ?_; (case hd => rfl); (case hg => rfl); (case hr => first | (go_simp; done) | (go_simp; rfl)); intro g3 hg w2 hbox hb; have hbx : Below w1.heap.size w1 w2 := below_step (by repeat (first | (with_reducible first | exact Below.refl _ _ | apply below_alloc | apply pw_below_drewN | apply below_drew1) | exact Below.refl _ _)) hb; clear zBK2_0 zBK2_1 zBK2_2 zBK2_3; have n_R := Aside0.mk (R.out.below hbx); have n_BK2 := Aside0.mk (BK2.out.below hbx); have n_HB := Aside0.mk (below_step HB.out hbx); clear HB R BK2; have R := n_R; have BK2 := n_BK2; have HB := n_HB; clear hbx n_R n_BK2 n_HB; have BK3 := Aside0.mk (Bk.mk (hbox : Blk w2 g3 9 #[.string s])); clear hbox hg hb; have zBK2_0 : w2.cell? ⟨g2, 0, none⟩ = some (.string a0) := (blk_cell BK2.out.blk 0).trans rfl; have zBK2_1 : w2.cell? ⟨g2, 1, none⟩ = some (.slice A1 l1.length c1) := (blk_cell BK2.out.blk 1).trans rfl; have zBK2_2 : w2.cell? ⟨g2, 2, none⟩ = some (.slice A2 l2.length c2) := (blk_cell BK2.out.blk 2).trans rfl; have zBK2_3 : w2.cell? ⟨g2, 3, none⟩ = some (.string a3) := (blk_cell BK2.out.blk 3).trans rfl; have zBK3_0 : w2.cell? ⟨g3, 0, none⟩ = some (.string s) := (blk_cell BK3.out.blk 0).trans rfl) | ((with_reducible refine gate_callee (f := 43) rfl ?_); refine goesL_ (some 7) rfl rfl Try.func43 (by kernel_rfl) rfl #[.agg #[.string a0, .slice A1 l1.length c1, .slice A2 l2.length c2, .string a3], .func (.func 45) #[] #[.pointer (some ⟨g3, 0, none⟩)]] rfl (by (try simp only [List.map_toArray, List.map_cons, List.map_nil]); first | done | rfl | (simp only [List.length_drop, List.length_take]; rfl)) ?_; (with_reducible refine (numbers_any _ _ _ eg_in _ (R.out.below (by repeat (first | (with_reducible first | exact Below.refl _ _ | apply below_alloc | apply pw_below_drewN | apply below_drew1) | exact Below.refl _ _))) hn (in1_any (BK3.out.below (by repeat (first | (with_reducible first | exact Below.refl _ _ | apply below_alloc | apply pw_below_drewN | apply below_drew1) | exact Below.refl _ _))))).mono ?_); rintro e w3 ⟨v, rfl, ho, hb⟩; have hbx : Below w2.heap.size w2 w3 := below_step (by repeat (first | (with_reducible first | exact Below.refl _ _ | apply below_alloc | apply pw_below_drewN | apply below_drew1) | exact Below.refl _ _)) hb; have ho_ := Ro.lower ho (below_size (below_step HB.out (by repeat (first | (with_reducible first | exact Below.refl _ _ | apply below_alloc | apply pw_below_drewN | apply below_drew1) | exact Below.refl _ _)))); clear zBK2_0 zBK2_1 zBK2_2 zBK2_3 zBK3_0; have n_R := Aside0.mk (R.out.below hbx); have n_BK2 := Aside0.mk (BK2.out.below hbx); have n_BK3 := Aside0.mk (BK3.out.below hbx); have n_HB := Aside0.mk (below_step HB.out hbx); clear HB R BK2 BK3; have R := n_R; have BK2 := n_BK2; have BK3 := n_BK3; have HB := n_HB; clear hbx n_R n_BK2 n_BK3 n_HB; have RV := Aside0.mk (ho_); clear hb; clear ho ho_; have zBK2_0 : w3.cell? ⟨g2, 0, none⟩ = some (.string a0) := (blk_cell BK2.out.blk 0).trans rfl; have zBK2_1 : w3.cell? ⟨g2, 1, none⟩ = some (.slice A1 l1.length c1) := (blk_cell BK2.out.blk 1).trans rfl; have zBK2_2 : w3.cell? ⟨g2, 2, none⟩ = some (.slice A2 l2.length c2) := (blk_cell BK2.out.blk 2).trans rfl; have zBK2_3 : w3.cell? ⟨g2, 3, none⟩ = some (.string a3) := (blk_cell BK2.out.blk 3).trans rfl; have zBK3_0 : w3.cell? ⟨g3, 0, none⟩ = some (.string s) := (blk_cell BK3.out.blk 0).trans rfl; refine ⟨_, rfl, ?_⟩))
  go_ret
  exact ⟨_, rfl, RV.out, HB.out⟩
end
end Go.Proofs.Ytmacdknicgfglaa.Gw
/- slices.IndexFunc, ContainsFunc at strings and at numbers, walked: whatever predicate. -/
namespace Go.Proofs.Ytmacdknicgfglaa.Gw
open Go.RowKit Go.Shelf Go.Proofs.YtmacdknicgfglaaW.PrintWords Go.Proofs.YtmacdknicgfglaaW.PrintMore Go.Proofs.YtmacdknicgfglaaW.PrintLast Go.Proofs.Ytmacdknicgfglaa.Chg Go.Proofs.Ytmacdknicgfglaa.Evt Go.Proofs.Ytmacdknicgfglaa.Impl Go.Proofs.Ytmacdknicgfglaa.Gp Go.Proofs.Ytmacdknicgfglaa.Mp
set_option linter.unusedVariables false
set_option linter.unusedSimpArgs false
set_option maxRecDepth 100000
/-- A predicate as a function value: at each x of S, in every world in which all that lay in w lies. -/
structure PredV {α : Type} (k : Nat) (lb : Array Value) (enc : α → Value) (q : α → Bool) (S : α → Prop) (w : World) : Prop where
  out : ∀ (W : World) (x : α), S x → Below w.heap.size w W → Calls Try.prog k (#[enc x] ++ lb) W fun e W' => e = .returned (.bool (q x)) ∧ Below W.heap.size W W'
theorem PredV.at {α : Type} {k : Nat} {lb : Array Value} {enc : α → Value} {q : α → Bool} {S : α → Prop} {w W : World} (h : PredV k lb enc q S w) (x : α) (hx : S x) (hb : Below w.heap.size w W) {r : Bool} (hr : q x = r) : Calls Try.prog k (#[enc x] ++ lb) W fun e W' => e = .returned (.bool r) ∧ Below W.heap.size W W' := by
  subst hr; exact h.out W x hx hb
theorem PredV.below {α : Type} {k : Nat} {lb : Array Value} {enc : α → Value} {q : α → Bool} {S : α → Prop} {w W : World} (h : PredV k lb enc q S w) (hb : Below w.heap.size w W) : PredV k lb enc q S W := ⟨fun W' x hx hb' => h.out W' x hx (below_step hb hb')⟩
def idxF {α : Type} (q : α → Bool) (l : List α) : Int := match l.findIdx? q with
  | some i => (i : Int)
  | none => -1
theorem idxF_hit {α : Type} {q : α → Bool} {l : List α} {j : Nat} (hj : j < l.length) (h : q l[j] = true) (hl : ∀ i (hi : i < j), q (l[i]'(by omega)) = false) : idxF q l = (j : Int) := by
  have : l.findIdx? q = some j := by
    rw [List.findIdx?_eq_some_iff_getElem]
    exact ⟨hj, h, fun i hi => by simpa using hl i hi⟩
  unfold idxF
  rw [this]
theorem idxF_miss {α : Type} {q : α → Bool} {l : List α} (hl : ∀ i (hi : i < l.length), q l[i] = false) : idxF q l = -1 := by
  have : l.findIdx? q = none := by
    rw [List.findIdx?_eq_none_iff]
    intro x hx
    obtain ⟨i, hi, rfl⟩ := List.mem_iff_getElem.1 hx
    exact hl i hi
  unfold idxF
  rw [this]
theorem idxF_any {α : Type} (q : α → Bool) (l : List α) : decide (0 ≤ idxF q l) = l.any q := by
  unfold idxF
  cases h : l.findIdx? q with
  | none =>
    rw [List.findIdx?_eq_none_iff] at h
    simp only [show decide ((0 : Int) ≤ -1) = false from rfl]
    symm
    rw [List.any_eq_false]
    intro x hx
    simpa using h x hx
  | some i =>
    rw [List.findIdx?_eq_some_iff_getElem] at h
    obtain ⟨hi, hq, _⟩ := h
    rw [decide_eq_true (by omega : (0 : Int) ≤ (i : Int))]
    symm
    exact List.any_eq_true.2 ⟨_, List.getElem_mem hi, hq⟩
theorem at_int0 {w : World} {A : Option Addr} {n : Nat} {xs : List Int} (h : Kd.C (Kd.int .i64) w A n xs) (i : Int) (h0 : 0 ≤ i) (h1 : i < n) : ∃ ad, A = some ad ∧ w.cell? (ad.add i.toNat) = some (.int .i64 (rd xs i)) :=
  ReadsOf.at_ (Kd.reads_of_C (enc := Value.int .i64) (d := (0 : Int)) (h1 := fun _ => rfl) h) i h0 h1
/-- Nothing of w0 has turned. -/
structure Bw0 (w0 w : World) : Prop where
  out : Below w0.heap.size w0 w
theorem Bw0.below {w0 w w' : World} (h : Bw0 w0 w) (hb : Below w.heap.size w w') : Bw0 w0 w' := ⟨below_step h.out hb⟩
set_option maxHeartbeats 1000000 in
theorem idxfS {k : Nat} {lb : Array Value} {q : ByteArray → Bool} (eg : ∀ args w, (callFunc k args).run Try.prog w = .ok (.enter k args) w) {w : World} {A : Option Addr} {c : Nat} {zs : List ByteArray} (h : Rw Kd.string w A c zs) (hn : zs.length ≤ 1000000) (hp : PredV k lb Value.string q (fun x => x ∈ zs) w) :
    Calls Try.prog 46 #[.slice A zs.length c, .func (.func k) #[] lb] w fun e w' => e = .returned (.int .i64 (idxF q zs)) ∧ Below w.heap.size w w' := by
  have R := Aside0.mk h
  have PQ := Aside0.mk hp
  clear h hp
  go_enter Try.func46, Try.ntmps46
  go_wp2
  go_loopg [8] zs.length (fun kq v8 wr => ∃ j : Nat, v8 = .int .i64 j ∧ Aside0 (j + kq = zs.length) ∧ Aside0 (∀ i (hi : i < j) (hl : i < zs.length), q zs[i] = false) ∧ Aside0 (Below w.heap.size w wr))
  case atStart => exact ⟨0, rfl, ⟨by omega⟩, ⟨fun i hi => by omega⟩, ⟨Below.refl _ _⟩⟩
  case round =>
    obtain ⟨j, rfl, hj, HN, HW⟩ := hrel
    cases gk with
    | zero =>
      have e0 : j = zs.length := by have := hj.out; omega
      have q0 : decide (j < zs.length) = false := decide_eq_false (by omega)
      have q1 : decide ((j : Int) < (zs.length : Int)) = false := decide_eq_false (by omega)
      have NE := Aside0.mk e0
      clear e0 hj
      go_wp2
      go_ret
      refine ⟨?_, HW.out⟩
      rw [idxF_miss (fun i hi => HN.out i (by rw [NE.out]; exact hi) hi)]
      rfl
    | succ k1 =>
      have hjl : j < zs.length := by have := hj.out; omega
      have q0 : decide (j < zs.length) = true := decide_eq_true (by omega)
      have q1 : decide ((j : Int) < (zs.length : Int)) = true := decide_eq_true (by omega)
      obtain ⟨ad, rfl, x0⟩ := Kd.at_string (R.out.below HW.out).row (j : Int) (by omega) (by omega)
      rw [Int.toNat_natCast, show rdOf ByteArray.empty zs (j : Int) = zs[j] by simp [rdOf, List.getD_eq_getElem?_getD, List.getElem?_eq_getElem hjl]] at x0
      obtain ⟨r, hr⟩ : ∃ r, Aside0 (q zs[j] = r) := ⟨_, ⟨rfl⟩⟩
      have HB := Aside0.mk (Below.refl wr.heap.size wr)
      have BW := Aside0.mk (Bw0.mk HW.out)
      clear HW
      cases r with
      | true =>
        skip
        go_wp2_with ((go_at_fn k; (with_reducible refine (PQ.out.at zs[j] (List.getElem_mem hjl) (below_step BW.out.out (by repeat (first | (with_reducible first | exact Below.refl _ _ | apply below_alloc | apply pw_below_drewN | apply below_drew1) | exact Below.refl _ _))) hr.out).mono ?_); rintro e w1 ⟨rfl, hb⟩; have hbx : Below wr.heap.size wr w1 := below_step (by repeat (first | (with_reducible first | exact Below.refl _ _ | apply below_alloc | apply pw_below_drewN | apply below_drew1) | exact Below.refl _ _)) hb; have n_BW := Aside0.mk (BW.out.below hbx); have n_HB := Aside0.mk (below_step HB.out hbx); clear HB BW; have BW := n_BW; have HB := n_HB; clear hbx n_BW n_HB; clear hb))
        go_ret
        refine ⟨?_, BW.out.out⟩
        rw [idxF_hit hjl hr.out (fun i hi => HN.out i hi (by omega))]
        rfl
        skip
      | false =>
        go_wp2_with ((go_at_fn k; (with_reducible refine (PQ.out.at zs[j] (List.getElem_mem hjl) (below_step BW.out.out (by repeat (first | (with_reducible first | exact Below.refl _ _ | apply below_alloc | apply pw_below_drewN | apply below_drew1) | exact Below.refl _ _))) hr.out).mono ?_); rintro e w1 ⟨rfl, hb⟩; have hbx : Below wr.heap.size wr w1 := below_step (by repeat (first | (with_reducible first | exact Below.refl _ _ | apply below_alloc | apply pw_below_drewN | apply below_drew1) | exact Below.refl _ _)) hb; have n_BW := Aside0.mk (BW.out.below hbx); have n_HB := Aside0.mk (below_step HB.out hbx); clear HB BW; have BW := n_BW; have HB := n_HB; clear hbx n_BW n_HB; clear hb))
        go_roundg k1
        case measure => omega
        case rel =>
          refine ⟨j + 1, by go_num, ⟨by have := hj.out; omega⟩, ⟨fun i hi hl => ?_⟩, ⟨BW.out.out⟩⟩
          by_cases e : i = j
          · subst e; exact hr.out
          · exact HN.out i (by omega) hl
set_option maxHeartbeats 1000000 in
theorem idxfI {k : Nat} {lb : Array Value} {q : Int → Bool} (eg : ∀ args w, (callFunc k args).run Try.prog w = .ok (.enter k args) w) {w : World} {A : Option Addr} {c : Nat} {zs : List Int} (h : Rw (Kd.int .i64) w A c zs) (hn : zs.length ≤ 1000000) (hp : PredV k lb (Value.int .i64) q (fun x => x ∈ zs) w) :
    Calls Try.prog 60 #[.slice A zs.length c, .func (.func k) #[] lb] w fun e w' => e = .returned (.int .i64 (idxF q zs)) ∧ Below w.heap.size w w' := by
  have R := Aside0.mk h
  have PQ := Aside0.mk hp
  clear h hp
  go_enter Try.func60, Try.ntmps60
  go_wp2
  go_loopg [8] zs.length (fun kq v8 wr => ∃ j : Nat, v8 = .int .i64 j ∧ Aside0 (j + kq = zs.length) ∧ Aside0 (∀ i (hi : i < j) (hl : i < zs.length), q zs[i] = false) ∧ Aside0 (Below w.heap.size w wr))
  case atStart => exact ⟨0, rfl, ⟨by omega⟩, ⟨fun i hi => by omega⟩, ⟨Below.refl _ _⟩⟩
  case round =>
    obtain ⟨j, rfl, hj, HN, HW⟩ := hrel
    cases gk with
    | zero =>
      have e0 : j = zs.length := by have := hj.out; omega
      have q0 : decide (j < zs.length) = false := decide_eq_false (by omega)
      have q1 : decide ((j : Int) < (zs.length : Int)) = false := decide_eq_false (by omega)
      have NE := Aside0.mk e0
      clear e0 hj
      go_wp2
      go_ret
      refine ⟨?_, HW.out⟩
      rw [idxF_miss (fun i hi => HN.out i (by rw [NE.out]; exact hi) hi)]
      rfl
    | succ k1 =>
      have hjl : j < zs.length := by have := hj.out; omega
      have q0 : decide (j < zs.length) = true := decide_eq_true (by omega)
      have q1 : decide ((j : Int) < (zs.length : Int)) = true := decide_eq_true (by omega)
      obtain ⟨ad, rfl, x0⟩ := at_int0 (R.out.below HW.out).row (j : Int) (by omega) (by omega)
      rw [Int.toNat_natCast, show rd zs (j : Int) = zs[j] by simp [rd, List.getD_eq_getElem?_getD, List.getElem?_eq_getElem hjl]] at x0
      obtain ⟨r, hr⟩ : ∃ r, Aside0 (q zs[j] = r) := ⟨_, ⟨rfl⟩⟩
      have HB := Aside0.mk (Below.refl wr.heap.size wr)
      have BW := Aside0.mk (Bw0.mk HW.out)
      clear HW
      cases r with
      | true =>
        skip
        go_wp2_with ((go_at_fn k; (with_reducible refine (PQ.out.at zs[j] (List.getElem_mem hjl) (below_step BW.out.out (by repeat (first | (with_reducible first | exact Below.refl _ _ | apply below_alloc | apply pw_below_drewN | apply below_drew1) | exact Below.refl _ _))) hr.out).mono ?_); rintro e w1 ⟨rfl, hb⟩; have hbx : Below wr.heap.size wr w1 := below_step (by repeat (first | (with_reducible first | exact Below.refl _ _ | apply below_alloc | apply pw_below_drewN | apply below_drew1) | exact Below.refl _ _)) hb; have n_BW := Aside0.mk (BW.out.below hbx); have n_HB := Aside0.mk (below_step HB.out hbx); clear HB BW; have BW := n_BW; have HB := n_HB; clear hbx n_BW n_HB; clear hb))
        go_ret
        refine ⟨?_, BW.out.out⟩
        rw [idxF_hit hjl hr.out (fun i hi => HN.out i hi (by omega))]
        rfl
        skip
      | false =>
        go_wp2_with ((go_at_fn k; (with_reducible refine (PQ.out.at zs[j] (List.getElem_mem hjl) (below_step BW.out.out (by repeat (first | (with_reducible first | exact Below.refl _ _ | apply below_alloc | apply pw_below_drewN | apply below_drew1) | exact Below.refl _ _))) hr.out).mono ?_); rintro e w1 ⟨rfl, hb⟩; have hbx : Below wr.heap.size wr w1 := below_step (by repeat (first | (with_reducible first | exact Below.refl _ _ | apply below_alloc | apply pw_below_drewN | apply below_drew1) | exact Below.refl _ _)) hb; have n_BW := Aside0.mk (BW.out.below hbx); have n_HB := Aside0.mk (below_step HB.out hbx); clear HB BW; have BW := n_BW; have HB := n_HB; clear hbx n_BW n_HB; clear hb))
        go_roundg k1
        case measure => omega
        case rel =>
          refine ⟨j + 1, by go_num, ⟨by have := hj.out; omega⟩, ⟨fun i hi hl => ?_⟩, ⟨BW.out.out⟩⟩
          by_cases e : i = j
          · subst e; exact hr.out
          · exact HN.out i (by omega) hl
theorem idxfI' {k : Nat} {lb : Array Value} {q : Int → Bool} (eg : ∀ args w, (callFunc k args).run Try.prog w = .ok (.enter k args) w) {w : World} {A : Option Addr} {c : Nat} {zs : List Int} (h : Rw (Kd.int .i64) w A c zs) (hn : zs.length ≤ 1000000) (hp : PredV k lb (Value.int .i64) q (fun x => x ∈ zs) w) {r : Int} (hr : idxF q zs = r) :
    Calls Try.prog 60 #[.slice A zs.length c, .func (.func k) #[] lb] w fun e w' => e = .returned (.int .i64 r) ∧ Below w.heap.size w w' := by subst hr; exact idxfI eg h hn hp
theorem idxfS' {k : Nat} {lb : Array Value} {q : ByteArray → Bool} (eg : ∀ args w, (callFunc k args).run Try.prog w = .ok (.enter k args) w) {w : World} {A : Option Addr} {c : Nat} {zs : List ByteArray} (h : Rw Kd.string w A c zs) (hn : zs.length ≤ 1000000) (hp : PredV k lb Value.string q (fun x => x ∈ zs) w) {r : Int} (hr : idxF q zs = r) :
    Calls Try.prog 46 #[.slice A zs.length c, .func (.func k) #[] lb] w fun e w' => e = .returned (.int .i64 r) ∧ Below w.heap.size w w' := by subst hr; exact idxfS eg h hn hp
set_option maxHeartbeats 1000000 in
theorem contfI {k : Nat} {lb : Array Value} {q : Int → Bool} (eg : ∀ args w, (callFunc k args).run Try.prog w = .ok (.enter k args) w) {w : World} {A : Option Addr} {c : Nat} {zs : List Int} (h : Rw (Kd.int .i64) w A c zs) (hn : zs.length ≤ 1000000) (hp : PredV k lb (Value.int .i64) q (fun x => x ∈ zs) w) :
    Calls Try.prog 48 #[.slice A zs.length c, .func (.func k) #[] lb] w fun e w' => e = .returned (.bool (zs.any q)) ∧ Below w.heap.size w w' := by
  obtain ⟨r, hr⟩ : ∃ r, idxF q zs = r := ⟨_, rfl⟩
  have h2 := Aside0.mk (idxF_any q zs)
  rw [hr] at h2
  have HR := Aside0.mk hr
  have R := Aside0.mk h
  have PQ := Aside0.mk hp
  clear h hp hr
  go_enter Try.func48, Try.ntmps48
  go_wp2_with (go_at_call 60; refine (idxfI' eg R.out hn PQ.out HR.out).mono ?_; rintro e w' ⟨rfl, hb⟩)
  go_ret
  exact ⟨by rw [← h2.out]; rfl, hb⟩
theorem contfI' {k : Nat} {lb : Array Value} {q : Int → Bool} (eg : ∀ args w, (callFunc k args).run Try.prog w = .ok (.enter k args) w) {w : World} {A : Option Addr} {c : Nat} {zs : List Int} (h : Rw (Kd.int .i64) w A c zs) (hn : zs.length ≤ 1000000) (hp : PredV k lb (Value.int .i64) q (fun x => x ∈ zs) w) {r : Bool} (hr : zs.any q = r) :
    Calls Try.prog 48 #[.slice A zs.length c, .func (.func k) #[] lb] w fun e w' => e = .returned (.bool r) ∧ Below w.heap.size w w' := by subst hr; exact contfI eg h hn hp
end Go.Proofs.Ytmacdknicgfglaa.Gw
