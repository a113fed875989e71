/- StateNewFits, walked. -/
import Derived.Test.YtjohdkbciafpfaaConA
import Derived.Test.YtjohdkbciafpfaaAlive03
import Derived.Test.YtjohdkbciafpfaaOp03
import Derived.Test.YtjohdkbciafpfaaEv2
import Derived.Test.YtjohdkbciafpfaaOr
namespace Go.Proofs.Ytjohdkbciafpfaa.St03
open Go.RowKit Go.Proofs.YtjohdkbciafpfaaW.PrintWords Go.Proofs.YtjohdkbciafpfaaW.PrintMore Go.Proofs.YtjohdkbciafpfaaW.PrintLast Go.Proofs.Ytjohdkbciafpfaa.Chg Go.Proofs.Ytjohdkbciafpfaa.Evt Go.Proofs.Ytjohdkbciafpfaa.Impl Go.Proofs.Ytjohdkbciafpfaa.Pimg
set_option linter.unusedVariables false
set_option linter.unusedSimpArgs false
set_option maxRecDepth 100000
attribute [local go_sem] max2_int min2_int max_two min_two
section
theorem nf_z {i q m e : Int} (hi : 0 ≤ i ∧ i ≤ 256) (hq : 0 ≤ q ∧ q ≤ 256) (hm : 0 ≤ m ∧ m ≤ 256) (he : 0 ≤ e ∧ e ≤ 500) : szv i q m e = 0 := if_pos ⟨hi, hq, hm, he.1, by omega⟩
theorem nwv0 (q : Int) : nwv 0 q = List.replicate q.toNat false := if_pos rfl
/-- What the new state's rows are. -/
structure Nf (q m e : Int) (L0 L1 L2 : List Bool) : Prop where
  e0 : L0 = List.replicate q.toNat false
  e1 : L1 = List.replicate m.toNat false
  e2 : L2 = List.replicate e.toNat false
theorem newN {w : World} {i q m e : Int} {L0 L1 L2 : List Bool} (hz : szv i q m e = 0) (h : Nf q m e L0 L1 L2) : Calls Try.prog 25 #[.agg #[.int .i64 i, .int .i64 q, .int .i64 m, .int .i64 e]] w fun x w' => Gives w x w' L0 L1 L2 0 := by
  have hn := newC (w := w) i q m e
  rw [hz, nwv0, nwv0, nwv0, ← h.e0, ← h.e1, ← h.e2] at hn
  exact hn
theorem ftv_is {i q m e q' m' e' : Int} {L0 L1 L2 : List Bool} (hq : 0 ≤ q) (hm : 0 ≤ m) (he : 0 ≤ e) (h : Nf q m e L0 L1 L2) {r : Bool} (hr : r = (decide (q = q') && (decide (m = m') && (decide (e = e') && szv i q' m' e' == 0)))) : ftv i q' m' e' L0.length L1.length L2.length = r := by
  subst hr
  rw [h.e0, h.e1, h.e2]
  unfold ftv
  rw [List.length_replicate, List.length_replicate, List.length_replicate, Int.toNat_of_nonneg hq, Int.toNat_of_nonneg hm, Int.toNat_of_nonneg he]
/-- A row of false bits, just made. -/
theorem rw_made {L : List Bool} (hL : L = List.replicate L.length false) (hn : L.length ≤ 1000) (W : World) : Rw Kd.bool (W.alloc (.cells (madeCells #[.bool false] L.length) 4 (0, 0))) (some ⟨W.heap.size, 0, none⟩) L.length L := by
  have h2 := World.ownsRow_lit (base := 0) (e := 4) (size := 1) W (madeCells #[.bool false] L.length) L.length (Nat.zero_le _) (by simp [maxLen]; omega) (by simp [size_madeCells])
  have hr : Reps (fun (b : Bool) (cs : List Value) => cs = [Value.bool b]) 1 (List.replicate L.length false) (madeCells (Value.bool false).cells (L.length * 1)).toList := Kd.reps_made (R := fun (b : Bool) (cs : List Value) => cs = [Value.bool b]) (z := .bool false) (size := 1) (z0 := false) rfl (by decide) rfl L.length
  rw [← hL, Nat.mul_one] at hr
  refine Rw.of_R (e := 4) (base := 0) (n := L.length) (ok := fun _ => True) ⟨fun _ _ => trivial, _, ?_, hr⟩
  exact h2
theorem Rw.drewN' {w : World} {A : Option Addr} {c : Nat} {l : List Bool} (h : Rw Kd.bool w A c l) (n : Nat) : Rw Kd.bool (w.drewN n) A c l := h.below (pw_below_drewN (Below.refl _ _) n)
theorem Rw.drew' {w : World} {A : Option Addr} {c : Nat} {l : List Bool} (h : Rw Kd.bool w A c l) : Rw Kd.bool w.drew A c l := h.below (below_drew (Below.refl _ _))
theorem mk_run {L : List Bool} {i : Int} (hi : 0 ≤ i) (hL : L.length = i.toNat) (hn : L.length ≤ 1000) (W : World) : (Instr.makeSlice 22 (.int .i64 i) (.int .i64 i)).run Try.prog W = .ok (.slice (some ⟨W.heap.size, 0, none⟩) L.length L.length) (W.alloc (.cells (madeCells #[.bool false] L.length) 4 (0, 0))) := by
  obtain ⟨i0, h0, h1⟩ := Option.map_eq_some_iff.1 info4
  simp only [Prod.mk.injEq] at h1
  have h := run_make (P := Try.prog) W 22 4 i0 (.bool false) Try.underlying22 h0 h1.1 .i64 .i64 i i hi (Int.le_refl _) (by rw [h1.2.2]; omega) (by omega)
  rw [h1.2.1, Nat.mul_one, ← hL] at h
  exact h
theorem readN {w : World} {A A0 A1 A2 : Option Addr} {c c0 c1 c2 : Nat} {l l0 l1 l2 : List Bool} {s n : Int} {v : Bool} {e : Int} (hr : rdv l l0 l1 s n = (v, e)) (h : Rw Kd.bool w A c l) (h' : Sb w A0 c0 A1 c1 A2 c2 l0 l1 l2) :
    Calls Try.prog 18 #[.slice A l.length c, .agg #[.slice A0 l0.length c0, .slice A1 l1.length c1, .slice A2 l2.length c2], .agg #[.int .i64 s, .int .i64 n]] w fun x w' => x = .returned (.tuple #[.bool v, .int .i64 e]) ∧ Below w.heap.size w w' := by
  have := readC s n h h'
  rw [hr] at this
  exact this
theorem rd_rep (k : Nat) (n : Int) : rdOf false (List.replicate k false) n = false := by
  unfold rdOf
  rw [List.getD_eq_getElem?_getD, List.getElem?_replicate]
  split <;> rfl
/-- What is read of a new state. -/
theorem rdv_new {i q m e s n : Int} {LI L0 L1 L2 : List Bool} (hi : LI = List.replicate i.toNat false) (h : Nf q m e L0 L1 L2) {f : Int}
    (hf : f = if s = 0 then (if 0 ≤ n ∧ n < i.toNat then 0 else 3) else if s = 1 then (if 0 ≤ n ∧ n < q.toNat then 0 else 3) else if s = 2 then (if 0 ≤ n ∧ n < m.toNat then 0 else 3) else 8) : rdv LI L0 L1 s n = (false, f) := by
  subst hf
  unfold rdv
  rw [hi, h.e0, h.e1]
  simp only [List.length_replicate, rd_rep]
  repeat' split
  all_goals rfl
set_option maxHeartbeats 8000000 in
theorem nf_core (w : World) (n0 n1 n2 n3 s n : Int) (h0 : 0 ≤ n0 ∧ n0 < 65536) (h1 : 0 ≤ n1 ∧ n1 < 65536) (h2 : 0 ≤ n2 ∧ n2 < 65536) (h3 : 0 ≤ n3 ∧ n3 < 65536) :
    Calls Try.prog 5 #[.agg #[.int .u16 n0, .int .u16 n1, .int .u16 n2, .int .u16 n3], .agg #[.int .i64 s, .int .i64 n]] w fun x w' => x = .returned (.bool true) ∧ Below w.heap.size w w' := by
  have HB := Aside0.mk (Below.refl w.heap.size w)
  obtain ⟨i, hi⟩ : ∃ i : Int, n0 % 257 = i := ⟨_, rfl⟩
  obtain ⟨q, hq⟩ : ∃ i : Int, n1 % 257 = i := ⟨_, rfl⟩
  obtain ⟨m, hm⟩ : ∃ i : Int, n2 % 257 = i := ⟨_, rfl⟩
  obtain ⟨e, he⟩ : ∃ i : Int, n3 % 500 = i := ⟨_, rfl⟩
  have bi : 0 ≤ i ∧ i ≤ 256 := by omega
  have bq : 0 ≤ q ∧ q ≤ 256 := by omega
  have bm : 0 ≤ m ∧ m ≤ 256 := by omega
  have be : 0 ≤ e ∧ e ≤ 500 := by omega
  obtain ⟨q', hq'⟩ : ∃ i : Int, (q + 1) % 257 = i := ⟨_, rfl⟩
  obtain ⟨m', hm'⟩ : ∃ i : Int, (m + 1) % 257 = i := ⟨_, rfl⟩
  have bq' : 0 ≤ q' ∧ q' ≤ 256 := by omega
  have bm' : 0 ≤ m' ∧ m' ≤ 256 := by omega
  have nq' : q ≠ q' := by omega
  have nm' : m ≠ m' := by omega
  have Z := Aside0.mk (nf_z bi bq bm be)
  obtain ⟨L0, L1, L2, hNf⟩ : ∃ L0 L1 L2, Aside0 (Nf q m e L0 L1 L2) := ⟨_, _, _, ⟨⟨rfl, rfl, rfl⟩⟩⟩
  have F0 := Aside0.mk (ftv_is (i := i) (q' := q) (m' := m) (e' := e) (r := true) bq.1 bm.1 be.1 hNf.out (by rw [nf_z bi bq bm be]; simp))
  have F1 := Aside0.mk (ftv_is (i := i) (q' := q') (m' := m) (e' := e) (r := false) bq.1 bm.1 be.1 hNf.out (by simp [nq']))
  have F2 := Aside0.mk (ftv_is (i := i) (q' := q) (m' := m') (e' := e) (r := false) bq.1 bm.1 be.1 hNf.out (by simp [nm']))
  have F3 := Aside0.mk (ftv_is (i := i) (q' := q) (m' := m) (e' := e + 1) (r := false) bq.1 bm.1 be.1 hNf.out (by simp; omega))
  have SZ := Aside0.mk (show L0.length ≤ 20000 ∧ L1.length ≤ 20000 ∧ L2.length ≤ 20000 by rw [hNf.out.e0, hNf.out.e1, hNf.out.e2, List.length_replicate, List.length_replicate, List.length_replicate]; omega)
  clear nq' nm' bq' bm'
  go_enter Try.func5, Try.ntmps5
  go_wp2_with (first | ((with_reducible refine gate_dst (N := 2) rfl ?_); refine box_event ?hg (N := 2) ?hd (cs := #[.int .u16 n0, .int .u16 n1, .int .u16 n2, .int .u16 n3]) (t := 45) ?hr ?_; (case hd => rfl); (case hg => rfl); (case hr => first | (go_simp; done) | (go_simp; rfl)); intro g2 hg w1 hbox hb; have hbx : Below w.heap.size w w1 := below_step (by repeat (first | (with_reducible first | exact Below.refl _ _ | apply below_alloc | apply pw_below_drewN | apply below_drew1) | exact Below.refl _ _)) hb; have n_HB := Aside0.mk (below_step HB.out hbx); clear HB ; have HB := n_HB; clear hbx n_HB; have BK2 := Aside0.mk (Bk.mk (hbox : Blk w1 g2 45 #[.int .u16 n0, .int .u16 n1, .int .u16 n2, .int .u16 n3])); clear hbox hg hb; have zBK2_0 : w1.cell? ⟨g2, 0, none⟩ = some (.int .u16 n0) := (blk_cell BK2.out.blk 0).trans rfl; have zBK2_1 : w1.cell? ⟨g2, 1, none⟩ = some (.int .u16 n1) := (blk_cell BK2.out.blk 1).trans rfl; have zBK2_2 : w1.cell? ⟨g2, 2, none⟩ = some (.int .u16 n2) := (blk_cell BK2.out.blk 2).trans rfl; have zBK2_3 : w1.cell? ⟨g2, 3, none⟩ = some (.int .u16 n3) := (blk_cell BK2.out.blk 3).trans rfl) | ((with_reducible refine gate_dst (N := 3) rfl ?_); refine box_event ?hg (N := 3) ?hd (cs := #[.int .i64 s, .int .i64 n]) (t := 26) ?hr ?_; (case hd => rfl); (case hg => rfl); (case hr => first | (go_simp; done) | (go_simp; rfl)); intro g3 hg w2 hbox hb; have hbx : Below w1.heap.size w1 w2 := below_step (by repeat (first | (with_reducible first | exact Below.refl _ _ | apply below_alloc | apply pw_below_drewN | apply below_drew1) | exact Below.refl _ _)) hb; clear zBK2_0 zBK2_1 zBK2_2 zBK2_3; have n_BK2 := Aside0.mk (BK2.out.below hbx); have n_HB := Aside0.mk (below_step HB.out hbx); clear HB BK2; have BK2 := n_BK2; have HB := n_HB; clear hbx n_BK2 n_HB; have BK3 := Aside0.mk (Bk.mk (hbox : Blk w2 g3 26 #[.int .i64 s, .int .i64 n])); clear hbox hg hb; have zBK2_0 : w2.cell? ⟨g2, 0, none⟩ = some (.int .u16 n0) := (blk_cell BK2.out.blk 0).trans rfl; have zBK2_1 : w2.cell? ⟨g2, 1, none⟩ = some (.int .u16 n1) := (blk_cell BK2.out.blk 1).trans rfl; have zBK2_2 : w2.cell? ⟨g2, 2, none⟩ = some (.int .u16 n2) := (blk_cell BK2.out.blk 2).trans rfl; have zBK2_3 : w2.cell? ⟨g2, 3, none⟩ = some (.int .u16 n3) := (blk_cell BK2.out.blk 3).trans rfl; have zBK3_0 : w2.cell? ⟨g3, 0, none⟩ = some (.int .i64 s) := (blk_cell BK3.out.blk 0).trans rfl; have zBK3_1 : w2.cell? ⟨g3, 1, none⟩ = some (.int .i64 n) := (blk_cell BK3.out.blk 1).trans rfl) | ((with_reducible refine gate_dst (N := 5) rfl ?_); refine Evt.box2 ?hg (N := 5) ?hd (z := #[.int .i64 0, .int .i64 0, .int .i64 0, .int .i64 0]) (cs := #[.int .i64 i, .int .i64 q, .int .i64 m, .int .i64 e]) (T := 47) ?hr ?hg2 (.tmp 28) ?ho2 ?hd2 ?hy ?hx ?hi ?hz ?h1 ?_; (case hd => rfl); (case hg => rfl); (case hr => first | (go_simp; done) | (go_simp; rfl)); (case hg2 => rfl); (case ho2 => rfl); (case hd2 => rfl); (case hy => first | rfl | (go_simp; done)); (case hx => first | rfl | (go_simp; done)); (case hi => kernel_rfl); (case hz => rfl); (case h1 => first | rfl | (simp [Value.oneCell'])); intro g5 hg w3 hbox hb; have hbx : Below w2.heap.size w2 w3 := below_step (by repeat (first | (with_reducible first | exact Below.refl _ _ | apply below_alloc | apply pw_below_drewN | apply below_drew1) | exact Below.refl _ _)) hb; clear zBK2_0 zBK2_1 zBK2_2 zBK2_3 zBK3_0 zBK3_1; have n_BK2 := Aside0.mk (BK2.out.below hbx); have n_BK3 := Aside0.mk (BK3.out.below hbx); have n_HB := Aside0.mk (below_step HB.out hbx); clear HB BK2 BK3; have BK2 := n_BK2; have BK3 := n_BK3; have HB := n_HB; clear hbx n_BK2 n_BK3 n_HB; have BK5 := Aside0.mk (Bk.mk (hbox : Blk w3 g5 47 #[.int .i64 i, .int .i64 q, .int .i64 m, .int .i64 e])); clear hbox hg hb; have zBK2_0 : w3.cell? ⟨g2, 0, none⟩ = some (.int .u16 n0) := (blk_cell BK2.out.blk 0).trans rfl; have zBK2_1 : w3.cell? ⟨g2, 1, none⟩ = some (.int .u16 n1) := (blk_cell BK2.out.blk 1).trans rfl; have zBK2_2 : w3.cell? ⟨g2, 2, none⟩ = some (.int .u16 n2) := (blk_cell BK2.out.blk 2).trans rfl; have zBK2_3 : w3.cell? ⟨g2, 3, none⟩ = some (.int .u16 n3) := (blk_cell BK2.out.blk 3).trans rfl; have zBK3_0 : w3.cell? ⟨g3, 0, none⟩ = some (.int .i64 s) := (blk_cell BK3.out.blk 0).trans rfl; have zBK3_1 : w3.cell? ⟨g3, 1, none⟩ = some (.int .i64 n) := (blk_cell BK3.out.blk 1).trans rfl; have zBK5_0 : w3.cell? ⟨g5, 0, none⟩ = some (.int .i64 i) := (blk_cell BK5.out.blk 0).trans rfl; have zBK5_1 : w3.cell? ⟨g5, 1, none⟩ = some (.int .i64 q) := (blk_cell BK5.out.blk 1).trans rfl; have zBK5_2 : w3.cell? ⟨g5, 2, none⟩ = some (.int .i64 m) := (blk_cell BK5.out.blk 2).trans rfl; have zBK5_3 : w3.cell? ⟨g5, 3, none⟩ = some (.int .i64 e) := (blk_cell BK5.out.blk 3).trans rfl) | ((with_reducible refine gate_callee (f := 25) rfl ?_); refine goesL_ (some 31) rfl rfl Try.func25 (by kernel_rfl) rfl #[.agg #[.int .i64 i, .int .i64 q, .int .i64 m, .int .i64 e]] rfl (by (try simp only [List.map_toArray, List.map_cons, List.map_nil]); first | done | rfl | (simp only [List.length_drop, List.length_take]; rfl)) ?_; (with_reducible refine (newN Z.out hNf.out).mono ?_); rintro e w4 ⟨X0, x0, X1, x1, X2, x2, rfl, ho, hb⟩; have hbx : Below w3.heap.size w3 w4 := below_step (by repeat (first | (with_reducible first | exact Below.refl _ _ | apply below_alloc | apply pw_below_drewN | apply below_drew1) | exact Below.refl _ _)) hb; clear zBK2_0 zBK2_1 zBK2_2 zBK2_3 zBK3_0 zBK3_1 zBK5_0 zBK5_1 zBK5_2 zBK5_3; have n_BK2 := Aside0.mk (BK2.out.below hbx); have n_BK3 := Aside0.mk (BK3.out.below hbx); have n_BK5 := Aside0.mk (BK5.out.below hbx); have n_HB := Aside0.mk (below_step HB.out hbx); clear HB BK2 BK3 BK5; have BK2 := n_BK2; have BK3 := n_BK3; have BK5 := n_BK5; have HB := n_HB; clear hbx n_BK2 n_BK3 n_BK5 n_HB; have SN := Aside0.mk (Sb.mk ho.sr SZ.out.1 SZ.out.2.1 SZ.out.2.2); clear hb; clear ho; have zBK2_0 : w4.cell? ⟨g2, 0, none⟩ = some (.int .u16 n0) := (blk_cell BK2.out.blk 0).trans rfl; have zBK2_1 : w4.cell? ⟨g2, 1, none⟩ = some (.int .u16 n1) := (blk_cell BK2.out.blk 1).trans rfl; have zBK2_2 : w4.cell? ⟨g2, 2, none⟩ = some (.int .u16 n2) := (blk_cell BK2.out.blk 2).trans rfl; have zBK2_3 : w4.cell? ⟨g2, 3, none⟩ = some (.int .u16 n3) := (blk_cell BK2.out.blk 3).trans rfl; have zBK3_0 : w4.cell? ⟨g3, 0, none⟩ = some (.int .i64 s) := (blk_cell BK3.out.blk 0).trans rfl; have zBK3_1 : w4.cell? ⟨g3, 1, none⟩ = some (.int .i64 n) := (blk_cell BK3.out.blk 1).trans rfl; have zBK5_0 : w4.cell? ⟨g5, 0, none⟩ = some (.int .i64 i) := (blk_cell BK5.out.blk 0).trans rfl; have zBK5_1 : w4.cell? ⟨g5, 1, none⟩ = some (.int .i64 q) := (blk_cell BK5.out.blk 1).trans rfl; have zBK5_2 : w4.cell? ⟨g5, 2, none⟩ = some (.int .i64 m) := (blk_cell BK5.out.blk 2).trans rfl; have zBK5_3 : w4.cell? ⟨g5, 3, none⟩ = some (.int .i64 e) := (blk_cell BK5.out.blk 3).trans rfl; refine ⟨_, rfl, ?_⟩) | ((with_reducible refine gate_dst (N := 6) rfl ?_); refine Evt.box2 ?hg (N := 6) ?hd (z := #[.slice none 0 0, .slice none 0 0, .slice none 0 0]) (cs := #[.slice X0 L0.length x0, .slice X1 L1.length x1, .slice X2 L2.length x2]) (T := 24) ?hr ?hg2 (.tmp 32) ?ho2 ?hd2 ?hy ?hx ?hi ?hz ?h1 ?_; (case hd => rfl); (case hg => rfl); (case hr => first | (go_simp; done) | (go_simp; rfl)); (case hg2 => rfl); (case ho2 => rfl); (case hd2 => rfl); (case hy => first | rfl | (go_simp; done)); (case hx => first | rfl | (go_simp; done)); (case hi => kernel_rfl); (case hz => rfl); (case h1 => first | rfl | (simp [Value.oneCell'])); intro g6 hg w5 hbox hb; have hbx : Below w4.heap.size w4 w5 := below_step (by repeat (first | (with_reducible first | exact Below.refl _ _ | apply below_alloc | apply pw_below_drewN | apply below_drew1) | exact Below.refl _ _)) hb; clear zBK2_0 zBK2_1 zBK2_2 zBK2_3 zBK3_0 zBK3_1 zBK5_0 zBK5_1 zBK5_2 zBK5_3; have n_BK2 := Aside0.mk (BK2.out.below hbx); have n_BK3 := Aside0.mk (BK3.out.below hbx); have n_BK5 := Aside0.mk (BK5.out.below hbx); have n_SN := Aside0.mk (SN.out.below hbx); have n_HB := Aside0.mk (below_step HB.out hbx); clear HB BK2 BK3 BK5 SN; have BK2 := n_BK2; have BK3 := n_BK3; have BK5 := n_BK5; have SN := n_SN; have HB := n_HB; clear hbx n_BK2 n_BK3 n_BK5 n_SN n_HB; have BK6 := Aside0.mk (Bk.mk (hbox : Blk w5 g6 24 #[.slice X0 L0.length x0, .slice X1 L1.length x1, .slice X2 L2.length x2])); clear hbox hg hb; have zBK2_0 : w5.cell? ⟨g2, 0, none⟩ = some (.int .u16 n0) := (blk_cell BK2.out.blk 0).trans rfl; have zBK2_1 : w5.cell? ⟨g2, 1, none⟩ = some (.int .u16 n1) := (blk_cell BK2.out.blk 1).trans rfl; have zBK2_2 : w5.cell? ⟨g2, 2, none⟩ = some (.int .u16 n2) := (blk_cell BK2.out.blk 2).trans rfl; have zBK2_3 : w5.cell? ⟨g2, 3, none⟩ = some (.int .u16 n3) := (blk_cell BK2.out.blk 3).trans rfl; have zBK3_0 : w5.cell? ⟨g3, 0, none⟩ = some (.int .i64 s) := (blk_cell BK3.out.blk 0).trans rfl; have zBK3_1 : w5.cell? ⟨g3, 1, none⟩ = some (.int .i64 n) := (blk_cell BK3.out.blk 1).trans rfl; have zBK5_0 : w5.cell? ⟨g5, 0, none⟩ = some (.int .i64 i) := (blk_cell BK5.out.blk 0).trans rfl; have zBK5_1 : w5.cell? ⟨g5, 1, none⟩ = some (.int .i64 q) := (blk_cell BK5.out.blk 1).trans rfl; have zBK5_2 : w5.cell? ⟨g5, 2, none⟩ = some (.int .i64 m) := (blk_cell BK5.out.blk 2).trans rfl; have zBK5_3 : w5.cell? ⟨g5, 3, none⟩ = some (.int .i64 e) := (blk_cell BK5.out.blk 3).trans rfl; have zBK6_0 : w5.cell? ⟨g6, 0, none⟩ = some (.slice X0 L0.length x0) := (blk_cell BK6.out.blk 0).trans rfl; have zBK6_1 : w5.cell? ⟨g6, 1, none⟩ = some (.slice X1 L1.length x1) := (blk_cell BK6.out.blk 1).trans rfl; have zBK6_2 : w5.cell? ⟨g6, 2, none⟩ = some (.slice X2 L2.length x2) := (blk_cell BK6.out.blk 2).trans rfl) | (go_at_call 26; (with_reducible refine (fitsC' F0.out (SN.out.below (by repeat (first | (with_reducible first | exact Below.refl _ _ | apply below_alloc | apply pw_below_drewN | apply below_drew1) | exact Below.refl _ _)))).mono ?_); rintro e w6 ⟨rfl, hb⟩; have hbx : Below w5.heap.size w5 w6 := below_step (by repeat (first | (with_reducible first | exact Below.refl _ _ | apply below_alloc | apply pw_below_drewN | apply below_drew1) | exact Below.refl _ _)) hb; clear zBK2_0 zBK2_1 zBK2_2 zBK2_3 zBK3_0 zBK3_1 zBK5_0 zBK5_1 zBK5_2 zBK5_3 zBK6_0 zBK6_1 zBK6_2; have n_BK2 := Aside0.mk (BK2.out.below hbx); have n_BK3 := Aside0.mk (BK3.out.below hbx); have n_BK5 := Aside0.mk (BK5.out.below hbx); have n_SN := Aside0.mk (SN.out.below hbx); have n_BK6 := Aside0.mk (BK6.out.below hbx); have n_HB := Aside0.mk (below_step HB.out hbx); clear HB BK2 BK3 BK5 SN BK6; have BK2 := n_BK2; have BK3 := n_BK3; have BK5 := n_BK5; have SN := n_SN; have BK6 := n_BK6; have HB := n_HB; clear hbx n_BK2 n_BK3 n_BK5 n_SN n_BK6 n_HB; clear hb; have zBK2_0 : w6.cell? ⟨g2, 0, none⟩ = some (.int .u16 n0) := (blk_cell BK2.out.blk 0).trans rfl; have zBK2_1 : w6.cell? ⟨g2, 1, none⟩ = some (.int .u16 n1) := (blk_cell BK2.out.blk 1).trans rfl; have zBK2_2 : w6.cell? ⟨g2, 2, none⟩ = some (.int .u16 n2) := (blk_cell BK2.out.blk 2).trans rfl; have zBK2_3 : w6.cell? ⟨g2, 3, none⟩ = some (.int .u16 n3) := (blk_cell BK2.out.blk 3).trans rfl; have zBK3_0 : w6.cell? ⟨g3, 0, none⟩ = some (.int .i64 s) := (blk_cell BK3.out.blk 0).trans rfl; have zBK3_1 : w6.cell? ⟨g3, 1, none⟩ = some (.int .i64 n) := (blk_cell BK3.out.blk 1).trans rfl; have zBK5_0 : w6.cell? ⟨g5, 0, none⟩ = some (.int .i64 i) := (blk_cell BK5.out.blk 0).trans rfl; have zBK5_1 : w6.cell? ⟨g5, 1, none⟩ = some (.int .i64 q) := (blk_cell BK5.out.blk 1).trans rfl; have zBK5_2 : w6.cell? ⟨g5, 2, none⟩ = some (.int .i64 m) := (blk_cell BK5.out.blk 2).trans rfl; have zBK5_3 : w6.cell? ⟨g5, 3, none⟩ = some (.int .i64 e) := (blk_cell BK5.out.blk 3).trans rfl; have zBK6_0 : w6.cell? ⟨g6, 0, none⟩ = some (.slice X0 L0.length x0) := (blk_cell BK6.out.blk 0).trans rfl; have zBK6_1 : w6.cell? ⟨g6, 1, none⟩ = some (.slice X1 L1.length x1) := (blk_cell BK6.out.blk 1).trans rfl; have zBK6_2 : w6.cell? ⟨g6, 2, none⟩ = some (.slice X2 L2.length x2) := (blk_cell BK6.out.blk 2).trans rfl))
  clear hi hq hm he
  refine wp_loop_rounds 4 ?_
  rw [rounds_succ]
  go_wp2_with (first | ((with_reducible refine gate_dst (N := 9) rfl ?_); refine Evt.box2 ?hg (N := 9) ?hd (z := #[.int .i64 0, .int .i64 0, .int .i64 0, .int .i64 0]) (cs := #[.int .i64 i, .int .i64 q, .int .i64 m, .int .i64 e]) (T := 47) ?hr ?hg2 (.tmp 45) ?ho2 ?hd2 ?hy ?hx ?hi ?hz ?h1 ?_; (case hd => rfl); (case hg => rfl); (case hr => first | (go_simp; done) | (go_simp; rfl)); (case hg2 => rfl); (case ho2 => rfl); (case hd2 => rfl); (case hy => first | rfl | (go_simp; done)); (case hx => first | rfl | (go_simp; done)); (case hi => kernel_rfl); (case hz => rfl); (case h1 => first | rfl | (simp [Value.oneCell'])); intro g9 hg w7 hbox hb; have HBX := Aside0.mk (below_step (by repeat (first | (with_reducible first | exact Below.refl _ _ | apply below_alloc | apply pw_below_drewN | apply below_drew1) | exact Below.refl _ _)) hb); have GEX := Aside0.mk (show w6.heap.size ≤ g9 from (by rw [hg]; exact below_size (by repeat (first | (with_reducible first | exact Below.refl _ _ | apply below_alloc | apply pw_below_drewN | apply below_drew1) | exact Below.refl _ _)))); have zX_0 : w7.cell? ⟨g9, 0, none⟩ = some (.int .i64 i) := (blk_cell hbox 0).trans rfl; have fX_0 := blk_frozen hbox 0; have zX_1 : w7.cell? ⟨g9, 1, none⟩ = some (.int .i64 q) := (blk_cell hbox 1).trans rfl; have fX_1 := blk_frozen hbox 1; have zX_2 : w7.cell? ⟨g9, 2, none⟩ = some (.int .i64 m) := (blk_cell hbox 2).trans rfl; have fX_2 := blk_frozen hbox 2; have zX_3 : w7.cell? ⟨g9, 3, none⟩ = some (.int .i64 e) := (blk_cell hbox 3).trans rfl; have fX_3 := blk_frozen hbox 3; have neX_BK2 : g2 ≠ g9 := (fun e_ => (by have h1_ := blk_lt BK2.out.blk; have h2_ := GEX.out; omega)); have nfX_BK2 := Ne.symm neX_BK2; have yX_BK2_0 : w7.cell? ⟨g2, 0, none⟩ = some (.int .u16 n0) := (blk_cell (BK2.out.below HBX.out).blk 0).trans rfl; have yX_BK2_1 : w7.cell? ⟨g2, 1, none⟩ = some (.int .u16 n1) := (blk_cell (BK2.out.below HBX.out).blk 1).trans rfl; have yX_BK2_2 : w7.cell? ⟨g2, 2, none⟩ = some (.int .u16 n2) := (blk_cell (BK2.out.below HBX.out).blk 2).trans rfl; have yX_BK2_3 : w7.cell? ⟨g2, 3, none⟩ = some (.int .u16 n3) := (blk_cell (BK2.out.below HBX.out).blk 3).trans rfl; have neX_BK3 : g3 ≠ g9 := (fun e_ => (by have h1_ := blk_lt BK3.out.blk; have h2_ := GEX.out; omega)); have nfX_BK3 := Ne.symm neX_BK3; have yX_BK3_0 : w7.cell? ⟨g3, 0, none⟩ = some (.int .i64 s) := (blk_cell (BK3.out.below HBX.out).blk 0).trans rfl; have yX_BK3_1 : w7.cell? ⟨g3, 1, none⟩ = some (.int .i64 n) := (blk_cell (BK3.out.below HBX.out).blk 1).trans rfl; have neX_BK5 : g5 ≠ g9 := (fun e_ => (by have h1_ := blk_lt BK5.out.blk; have h2_ := GEX.out; omega)); have nfX_BK5 := Ne.symm neX_BK5; have yX_BK5_0 : w7.cell? ⟨g5, 0, none⟩ = some (.int .i64 i) := (blk_cell (BK5.out.below HBX.out).blk 0).trans rfl; have yX_BK5_1 : w7.cell? ⟨g5, 1, none⟩ = some (.int .i64 q) := (blk_cell (BK5.out.below HBX.out).blk 1).trans rfl; have yX_BK5_2 : w7.cell? ⟨g5, 2, none⟩ = some (.int .i64 m) := (blk_cell (BK5.out.below HBX.out).blk 2).trans rfl; have yX_BK5_3 : w7.cell? ⟨g5, 3, none⟩ = some (.int .i64 e) := (blk_cell (BK5.out.below HBX.out).blk 3).trans rfl; have neX_BK6 : g6 ≠ g9 := (fun e_ => (by have h1_ := blk_lt BK6.out.blk; have h2_ := GEX.out; omega)); have nfX_BK6 := Ne.symm neX_BK6; have yX_BK6_0 : w7.cell? ⟨g6, 0, none⟩ = some (.slice X0 L0.length x0) := (blk_cell (BK6.out.below HBX.out).blk 0).trans rfl; have yX_BK6_1 : w7.cell? ⟨g6, 1, none⟩ = some (.slice X1 L1.length x1) := (blk_cell (BK6.out.below HBX.out).blk 1).trans rfl; have yX_BK6_2 : w7.cell? ⟨g6, 2, none⟩ = some (.slice X2 L2.length x2) := (blk_cell (BK6.out.below HBX.out).blk 2).trans rfl; clear hbox hg hb) | ((with_reducible refine gate_callee (f := 26) rfl ?_); refine goesL_ (some 69) rfl rfl Try.func26 (by kernel_rfl) rfl #[.agg #[.int .i64 i, .int .i64 q', .int .i64 m, .int .i64 e], .agg #[.slice X0 L0.length x0, .slice X1 L1.length x1, .slice X2 L2.length x2]] rfl (by (try simp only [List.map_toArray, List.map_cons, List.map_nil]); first | done | rfl | (simp only [List.length_drop, List.length_take]; rfl)) ?_; (with_reducible refine (fitsC' F1.out (SN.out.below (by repeat (first | (with_reducible first | exact HBX.out | apply below_alloc | apply pw_below_drewN | apply below_drew1 | refine below_set ?_ GEX.out) | exact HBX.out)))).mono ?_); rintro e w8 ⟨rfl, hb⟩; have hbx : Below w6.heap.size w6 w8 := below_step (by repeat (first | (with_reducible first | exact HBX.out | apply below_alloc | apply pw_below_drewN | apply below_drew1 | refine below_set ?_ GEX.out) | exact HBX.out)) hb; clear HBX GEX zX_0 fX_0 zX_1 fX_1 zX_2 fX_2 zX_3 fX_3 neX_BK2 nfX_BK2 yX_BK2_0 yX_BK2_1 yX_BK2_2 yX_BK2_3 neX_BK3 nfX_BK3 yX_BK3_0 yX_BK3_1 neX_BK5 nfX_BK5 yX_BK5_0 yX_BK5_1 yX_BK5_2 yX_BK5_3 neX_BK6 nfX_BK6 yX_BK6_0 yX_BK6_1 yX_BK6_2; clear zBK2_0 zBK2_1 zBK2_2 zBK2_3 zBK3_0 zBK3_1 zBK5_0 zBK5_1 zBK5_2 zBK5_3 zBK6_0 zBK6_1 zBK6_2; have n_BK2 := Aside0.mk (BK2.out.below hbx); have n_BK3 := Aside0.mk (BK3.out.below hbx); have n_BK5 := Aside0.mk (BK5.out.below hbx); have n_SN := Aside0.mk (SN.out.below hbx); have n_BK6 := Aside0.mk (BK6.out.below hbx); have n_HB := Aside0.mk (below_step HB.out hbx); clear HB BK2 BK3 BK5 SN BK6; have BK2 := n_BK2; have BK3 := n_BK3; have BK5 := n_BK5; have SN := n_SN; have BK6 := n_BK6; have HB := n_HB; clear hbx n_BK2 n_BK3 n_BK5 n_SN n_BK6 n_HB; clear hb; have zBK2_0 : w8.cell? ⟨g2, 0, none⟩ = some (.int .u16 n0) := (blk_cell BK2.out.blk 0).trans rfl; have zBK2_1 : w8.cell? ⟨g2, 1, none⟩ = some (.int .u16 n1) := (blk_cell BK2.out.blk 1).trans rfl; have zBK2_2 : w8.cell? ⟨g2, 2, none⟩ = some (.int .u16 n2) := (blk_cell BK2.out.blk 2).trans rfl; have zBK2_3 : w8.cell? ⟨g2, 3, none⟩ = some (.int .u16 n3) := (blk_cell BK2.out.blk 3).trans rfl; have zBK3_0 : w8.cell? ⟨g3, 0, none⟩ = some (.int .i64 s) := (blk_cell BK3.out.blk 0).trans rfl; have zBK3_1 : w8.cell? ⟨g3, 1, none⟩ = some (.int .i64 n) := (blk_cell BK3.out.blk 1).trans rfl; have zBK5_0 : w8.cell? ⟨g5, 0, none⟩ = some (.int .i64 i) := (blk_cell BK5.out.blk 0).trans rfl; have zBK5_1 : w8.cell? ⟨g5, 1, none⟩ = some (.int .i64 q) := (blk_cell BK5.out.blk 1).trans rfl; have zBK5_2 : w8.cell? ⟨g5, 2, none⟩ = some (.int .i64 m) := (blk_cell BK5.out.blk 2).trans rfl; have zBK5_3 : w8.cell? ⟨g5, 3, none⟩ = some (.int .i64 e) := (blk_cell BK5.out.blk 3).trans rfl; have zBK6_0 : w8.cell? ⟨g6, 0, none⟩ = some (.slice X0 L0.length x0) := (blk_cell BK6.out.blk 0).trans rfl; have zBK6_1 : w8.cell? ⟨g6, 1, none⟩ = some (.slice X1 L1.length x1) := (blk_cell BK6.out.blk 1).trans rfl; have zBK6_2 : w8.cell? ⟨g6, 2, none⟩ = some (.slice X2 L2.length x2) := (blk_cell BK6.out.blk 2).trans rfl; refine ⟨_, rfl, ?_⟩))
  rw [rounds_succ]
  go_wp2_with (first | ((with_reducible refine gate_dst (N := 9) rfl ?_); refine Evt.box2 ?hg (N := 9) ?hd (z := #[.int .i64 0, .int .i64 0, .int .i64 0, .int .i64 0]) (cs := #[.int .i64 i, .int .i64 q, .int .i64 m, .int .i64 e]) (T := 47) ?hr ?hg2 (.tmp 45) ?ho2 ?hd2 ?hy ?hx ?hi ?hz ?h1 ?_; (case hd => rfl); (case hg => rfl); (case hr => first | (go_simp; done) | (go_simp; rfl)); (case hg2 => rfl); (case ho2 => rfl); (case hd2 => rfl); (case hy => first | rfl | (go_simp; done)); (case hx => first | rfl | (go_simp; done)); (case hi => kernel_rfl); (case hz => rfl); (case h1 => first | rfl | (simp [Value.oneCell'])); intro g9 hg w9 hbox hb; have HBX := Aside0.mk (below_step (by repeat (first | (with_reducible first | exact Below.refl _ _ | apply below_alloc | apply pw_below_drewN | apply below_drew1) | exact Below.refl _ _)) hb); have GEX := Aside0.mk (show w8.heap.size ≤ g9 from (by rw [hg]; exact below_size (by repeat (first | (with_reducible first | exact Below.refl _ _ | apply below_alloc | apply pw_below_drewN | apply below_drew1) | exact Below.refl _ _)))); have zX_0 : w9.cell? ⟨g9, 0, none⟩ = some (.int .i64 i) := (blk_cell hbox 0).trans rfl; have fX_0 := blk_frozen hbox 0; have zX_1 : w9.cell? ⟨g9, 1, none⟩ = some (.int .i64 q) := (blk_cell hbox 1).trans rfl; have fX_1 := blk_frozen hbox 1; have zX_2 : w9.cell? ⟨g9, 2, none⟩ = some (.int .i64 m) := (blk_cell hbox 2).trans rfl; have fX_2 := blk_frozen hbox 2; have zX_3 : w9.cell? ⟨g9, 3, none⟩ = some (.int .i64 e) := (blk_cell hbox 3).trans rfl; have fX_3 := blk_frozen hbox 3; have neX_BK2 : g2 ≠ g9 := (fun e_ => (by have h1_ := blk_lt BK2.out.blk; have h2_ := GEX.out; omega)); have nfX_BK2 := Ne.symm neX_BK2; have yX_BK2_0 : w9.cell? ⟨g2, 0, none⟩ = some (.int .u16 n0) := (blk_cell (BK2.out.below HBX.out).blk 0).trans rfl; have yX_BK2_1 : w9.cell? ⟨g2, 1, none⟩ = some (.int .u16 n1) := (blk_cell (BK2.out.below HBX.out).blk 1).trans rfl; have yX_BK2_2 : w9.cell? ⟨g2, 2, none⟩ = some (.int .u16 n2) := (blk_cell (BK2.out.below HBX.out).blk 2).trans rfl; have yX_BK2_3 : w9.cell? ⟨g2, 3, none⟩ = some (.int .u16 n3) := (blk_cell (BK2.out.below HBX.out).blk 3).trans rfl; have neX_BK3 : g3 ≠ g9 := (fun e_ => (by have h1_ := blk_lt BK3.out.blk; have h2_ := GEX.out; omega)); have nfX_BK3 := Ne.symm neX_BK3; have yX_BK3_0 : w9.cell? ⟨g3, 0, none⟩ = some (.int .i64 s) := (blk_cell (BK3.out.below HBX.out).blk 0).trans rfl; have yX_BK3_1 : w9.cell? ⟨g3, 1, none⟩ = some (.int .i64 n) := (blk_cell (BK3.out.below HBX.out).blk 1).trans rfl; have neX_BK5 : g5 ≠ g9 := (fun e_ => (by have h1_ := blk_lt BK5.out.blk; have h2_ := GEX.out; omega)); have nfX_BK5 := Ne.symm neX_BK5; have yX_BK5_0 : w9.cell? ⟨g5, 0, none⟩ = some (.int .i64 i) := (blk_cell (BK5.out.below HBX.out).blk 0).trans rfl; have yX_BK5_1 : w9.cell? ⟨g5, 1, none⟩ = some (.int .i64 q) := (blk_cell (BK5.out.below HBX.out).blk 1).trans rfl; have yX_BK5_2 : w9.cell? ⟨g5, 2, none⟩ = some (.int .i64 m) := (blk_cell (BK5.out.below HBX.out).blk 2).trans rfl; have yX_BK5_3 : w9.cell? ⟨g5, 3, none⟩ = some (.int .i64 e) := (blk_cell (BK5.out.below HBX.out).blk 3).trans rfl; have neX_BK6 : g6 ≠ g9 := (fun e_ => (by have h1_ := blk_lt BK6.out.blk; have h2_ := GEX.out; omega)); have nfX_BK6 := Ne.symm neX_BK6; have yX_BK6_0 : w9.cell? ⟨g6, 0, none⟩ = some (.slice X0 L0.length x0) := (blk_cell (BK6.out.below HBX.out).blk 0).trans rfl; have yX_BK6_1 : w9.cell? ⟨g6, 1, none⟩ = some (.slice X1 L1.length x1) := (blk_cell (BK6.out.below HBX.out).blk 1).trans rfl; have yX_BK6_2 : w9.cell? ⟨g6, 2, none⟩ = some (.slice X2 L2.length x2) := (blk_cell (BK6.out.below HBX.out).blk 2).trans rfl; clear hbox hg hb) | ((with_reducible refine gate_callee (f := 26) rfl ?_); refine goesL_ (some 69) rfl rfl Try.func26 (by kernel_rfl) rfl #[.agg #[.int .i64 i, .int .i64 q, .int .i64 m', .int .i64 e], .agg #[.slice X0 L0.length x0, .slice X1 L1.length x1, .slice X2 L2.length x2]] rfl (by (try simp only [List.map_toArray, List.map_cons, List.map_nil]); first | done | rfl | (simp only [List.length_drop, List.length_take]; rfl)) ?_; (with_reducible refine (fitsC' F2.out (SN.out.below (by repeat (first | (with_reducible first | exact HBX.out | apply below_alloc | apply pw_below_drewN | apply below_drew1 | refine below_set ?_ GEX.out) | exact HBX.out)))).mono ?_); rintro e w10 ⟨rfl, hb⟩; have hbx : Below w8.heap.size w8 w10 := below_step (by repeat (first | (with_reducible first | exact HBX.out | apply below_alloc | apply pw_below_drewN | apply below_drew1 | refine below_set ?_ GEX.out) | exact HBX.out)) hb; clear HBX GEX zX_0 fX_0 zX_1 fX_1 zX_2 fX_2 zX_3 fX_3 neX_BK2 nfX_BK2 yX_BK2_0 yX_BK2_1 yX_BK2_2 yX_BK2_3 neX_BK3 nfX_BK3 yX_BK3_0 yX_BK3_1 neX_BK5 nfX_BK5 yX_BK5_0 yX_BK5_1 yX_BK5_2 yX_BK5_3 neX_BK6 nfX_BK6 yX_BK6_0 yX_BK6_1 yX_BK6_2; clear zBK2_0 zBK2_1 zBK2_2 zBK2_3 zBK3_0 zBK3_1 zBK5_0 zBK5_1 zBK5_2 zBK5_3 zBK6_0 zBK6_1 zBK6_2; have n_BK2 := Aside0.mk (BK2.out.below hbx); have n_BK3 := Aside0.mk (BK3.out.below hbx); have n_BK5 := Aside0.mk (BK5.out.below hbx); have n_SN := Aside0.mk (SN.out.below hbx); have n_BK6 := Aside0.mk (BK6.out.below hbx); have n_HB := Aside0.mk (below_step HB.out hbx); clear HB BK2 BK3 BK5 SN BK6; have BK2 := n_BK2; have BK3 := n_BK3; have BK5 := n_BK5; have SN := n_SN; have BK6 := n_BK6; have HB := n_HB; clear hbx n_BK2 n_BK3 n_BK5 n_SN n_BK6 n_HB; clear hb; have zBK2_0 : w10.cell? ⟨g2, 0, none⟩ = some (.int .u16 n0) := (blk_cell BK2.out.blk 0).trans rfl; have zBK2_1 : w10.cell? ⟨g2, 1, none⟩ = some (.int .u16 n1) := (blk_cell BK2.out.blk 1).trans rfl; have zBK2_2 : w10.cell? ⟨g2, 2, none⟩ = some (.int .u16 n2) := (blk_cell BK2.out.blk 2).trans rfl; have zBK2_3 : w10.cell? ⟨g2, 3, none⟩ = some (.int .u16 n3) := (blk_cell BK2.out.blk 3).trans rfl; have zBK3_0 : w10.cell? ⟨g3, 0, none⟩ = some (.int .i64 s) := (blk_cell BK3.out.blk 0).trans rfl; have zBK3_1 : w10.cell? ⟨g3, 1, none⟩ = some (.int .i64 n) := (blk_cell BK3.out.blk 1).trans rfl; have zBK5_0 : w10.cell? ⟨g5, 0, none⟩ = some (.int .i64 i) := (blk_cell BK5.out.blk 0).trans rfl; have zBK5_1 : w10.cell? ⟨g5, 1, none⟩ = some (.int .i64 q) := (blk_cell BK5.out.blk 1).trans rfl; have zBK5_2 : w10.cell? ⟨g5, 2, none⟩ = some (.int .i64 m) := (blk_cell BK5.out.blk 2).trans rfl; have zBK5_3 : w10.cell? ⟨g5, 3, none⟩ = some (.int .i64 e) := (blk_cell BK5.out.blk 3).trans rfl; have zBK6_0 : w10.cell? ⟨g6, 0, none⟩ = some (.slice X0 L0.length x0) := (blk_cell BK6.out.blk 0).trans rfl; have zBK6_1 : w10.cell? ⟨g6, 1, none⟩ = some (.slice X1 L1.length x1) := (blk_cell BK6.out.blk 1).trans rfl; have zBK6_2 : w10.cell? ⟨g6, 2, none⟩ = some (.slice X2 L2.length x2) := (blk_cell BK6.out.blk 2).trans rfl; refine ⟨_, rfl, ?_⟩))
  rw [rounds_succ]
  go_wp2_with (first | ((with_reducible refine gate_dst (N := 9) rfl ?_); refine Evt.box2 ?hg (N := 9) ?hd (z := #[.int .i64 0, .int .i64 0, .int .i64 0, .int .i64 0]) (cs := #[.int .i64 i, .int .i64 q, .int .i64 m, .int .i64 e]) (T := 47) ?hr ?hg2 (.tmp 45) ?ho2 ?hd2 ?hy ?hx ?hi ?hz ?h1 ?_; (case hd => rfl); (case hg => rfl); (case hr => first | (go_simp; done) | (go_simp; rfl)); (case hg2 => rfl); (case ho2 => rfl); (case hd2 => rfl); (case hy => first | rfl | (go_simp; done)); (case hx => first | rfl | (go_simp; done)); (case hi => kernel_rfl); (case hz => rfl); (case h1 => first | rfl | (simp [Value.oneCell'])); intro g9 hg w11 hbox hb; have HBX := Aside0.mk (below_step (by repeat (first | (with_reducible first | exact Below.refl _ _ | apply below_alloc | apply pw_below_drewN | apply below_drew1) | exact Below.refl _ _)) hb); have GEX := Aside0.mk (show w10.heap.size ≤ g9 from (by rw [hg]; exact below_size (by repeat (first | (with_reducible first | exact Below.refl _ _ | apply below_alloc | apply pw_below_drewN | apply below_drew1) | exact Below.refl _ _)))); have zX_0 : w11.cell? ⟨g9, 0, none⟩ = some (.int .i64 i) := (blk_cell hbox 0).trans rfl; have fX_0 := blk_frozen hbox 0; have zX_1 : w11.cell? ⟨g9, 1, none⟩ = some (.int .i64 q) := (blk_cell hbox 1).trans rfl; have fX_1 := blk_frozen hbox 1; have zX_2 : w11.cell? ⟨g9, 2, none⟩ = some (.int .i64 m) := (blk_cell hbox 2).trans rfl; have fX_2 := blk_frozen hbox 2; have zX_3 : w11.cell? ⟨g9, 3, none⟩ = some (.int .i64 e) := (blk_cell hbox 3).trans rfl; have fX_3 := blk_frozen hbox 3; have neX_BK2 : g2 ≠ g9 := (fun e_ => (by have h1_ := blk_lt BK2.out.blk; have h2_ := GEX.out; omega)); have nfX_BK2 := Ne.symm neX_BK2; have yX_BK2_0 : w11.cell? ⟨g2, 0, none⟩ = some (.int .u16 n0) := (blk_cell (BK2.out.below HBX.out).blk 0).trans rfl; have yX_BK2_1 : w11.cell? ⟨g2, 1, none⟩ = some (.int .u16 n1) := (blk_cell (BK2.out.below HBX.out).blk 1).trans rfl; have yX_BK2_2 : w11.cell? ⟨g2, 2, none⟩ = some (.int .u16 n2) := (blk_cell (BK2.out.below HBX.out).blk 2).trans rfl; have yX_BK2_3 : w11.cell? ⟨g2, 3, none⟩ = some (.int .u16 n3) := (blk_cell (BK2.out.below HBX.out).blk 3).trans rfl; have neX_BK3 : g3 ≠ g9 := (fun e_ => (by have h1_ := blk_lt BK3.out.blk; have h2_ := GEX.out; omega)); have nfX_BK3 := Ne.symm neX_BK3; have yX_BK3_0 : w11.cell? ⟨g3, 0, none⟩ = some (.int .i64 s) := (blk_cell (BK3.out.below HBX.out).blk 0).trans rfl; have yX_BK3_1 : w11.cell? ⟨g3, 1, none⟩ = some (.int .i64 n) := (blk_cell (BK3.out.below HBX.out).blk 1).trans rfl; have neX_BK5 : g5 ≠ g9 := (fun e_ => (by have h1_ := blk_lt BK5.out.blk; have h2_ := GEX.out; omega)); have nfX_BK5 := Ne.symm neX_BK5; have yX_BK5_0 : w11.cell? ⟨g5, 0, none⟩ = some (.int .i64 i) := (blk_cell (BK5.out.below HBX.out).blk 0).trans rfl; have yX_BK5_1 : w11.cell? ⟨g5, 1, none⟩ = some (.int .i64 q) := (blk_cell (BK5.out.below HBX.out).blk 1).trans rfl; have yX_BK5_2 : w11.cell? ⟨g5, 2, none⟩ = some (.int .i64 m) := (blk_cell (BK5.out.below HBX.out).blk 2).trans rfl; have yX_BK5_3 : w11.cell? ⟨g5, 3, none⟩ = some (.int .i64 e) := (blk_cell (BK5.out.below HBX.out).blk 3).trans rfl; have neX_BK6 : g6 ≠ g9 := (fun e_ => (by have h1_ := blk_lt BK6.out.blk; have h2_ := GEX.out; omega)); have nfX_BK6 := Ne.symm neX_BK6; have yX_BK6_0 : w11.cell? ⟨g6, 0, none⟩ = some (.slice X0 L0.length x0) := (blk_cell (BK6.out.below HBX.out).blk 0).trans rfl; have yX_BK6_1 : w11.cell? ⟨g6, 1, none⟩ = some (.slice X1 L1.length x1) := (blk_cell (BK6.out.below HBX.out).blk 1).trans rfl; have yX_BK6_2 : w11.cell? ⟨g6, 2, none⟩ = some (.slice X2 L2.length x2) := (blk_cell (BK6.out.below HBX.out).blk 2).trans rfl; clear hbox hg hb) | ((with_reducible refine gate_callee (f := 26) rfl ?_); refine goesL_ (some 69) rfl rfl Try.func26 (by kernel_rfl) rfl #[.agg #[.int .i64 i, .int .i64 q, .int .i64 m, .int .i64 (e + 1)], .agg #[.slice X0 L0.length x0, .slice X1 L1.length x1, .slice X2 L2.length x2]] rfl (by (try simp only [List.map_toArray, List.map_cons, List.map_nil]); first | done | rfl | (simp only [List.length_drop, List.length_take]; rfl)) ?_; (with_reducible refine (fitsC' F3.out (SN.out.below (by repeat (first | (with_reducible first | exact HBX.out | apply below_alloc | apply pw_below_drewN | apply below_drew1 | refine below_set ?_ GEX.out) | exact HBX.out)))).mono ?_); rintro e w12 ⟨rfl, hb⟩; have hbx : Below w10.heap.size w10 w12 := below_step (by repeat (first | (with_reducible first | exact HBX.out | apply below_alloc | apply pw_below_drewN | apply below_drew1 | refine below_set ?_ GEX.out) | exact HBX.out)) hb; clear HBX GEX zX_0 fX_0 zX_1 fX_1 zX_2 fX_2 zX_3 fX_3 neX_BK2 nfX_BK2 yX_BK2_0 yX_BK2_1 yX_BK2_2 yX_BK2_3 neX_BK3 nfX_BK3 yX_BK3_0 yX_BK3_1 neX_BK5 nfX_BK5 yX_BK5_0 yX_BK5_1 yX_BK5_2 yX_BK5_3 neX_BK6 nfX_BK6 yX_BK6_0 yX_BK6_1 yX_BK6_2; clear zBK2_0 zBK2_1 zBK2_2 zBK2_3 zBK3_0 zBK3_1 zBK5_0 zBK5_1 zBK5_2 zBK5_3 zBK6_0 zBK6_1 zBK6_2; have n_BK2 := Aside0.mk (BK2.out.below hbx); have n_BK3 := Aside0.mk (BK3.out.below hbx); have n_BK5 := Aside0.mk (BK5.out.below hbx); have n_SN := Aside0.mk (SN.out.below hbx); have n_BK6 := Aside0.mk (BK6.out.below hbx); have n_HB := Aside0.mk (below_step HB.out hbx); clear HB BK2 BK3 BK5 SN BK6; have BK2 := n_BK2; have BK3 := n_BK3; have BK5 := n_BK5; have SN := n_SN; have BK6 := n_BK6; have HB := n_HB; clear hbx n_BK2 n_BK3 n_BK5 n_SN n_BK6 n_HB; clear hb; have zBK2_0 : w12.cell? ⟨g2, 0, none⟩ = some (.int .u16 n0) := (blk_cell BK2.out.blk 0).trans rfl; have zBK2_1 : w12.cell? ⟨g2, 1, none⟩ = some (.int .u16 n1) := (blk_cell BK2.out.blk 1).trans rfl; have zBK2_2 : w12.cell? ⟨g2, 2, none⟩ = some (.int .u16 n2) := (blk_cell BK2.out.blk 2).trans rfl; have zBK2_3 : w12.cell? ⟨g2, 3, none⟩ = some (.int .u16 n3) := (blk_cell BK2.out.blk 3).trans rfl; have zBK3_0 : w12.cell? ⟨g3, 0, none⟩ = some (.int .i64 s) := (blk_cell BK3.out.blk 0).trans rfl; have zBK3_1 : w12.cell? ⟨g3, 1, none⟩ = some (.int .i64 n) := (blk_cell BK3.out.blk 1).trans rfl; have zBK5_0 : w12.cell? ⟨g5, 0, none⟩ = some (.int .i64 i) := (blk_cell BK5.out.blk 0).trans rfl; have zBK5_1 : w12.cell? ⟨g5, 1, none⟩ = some (.int .i64 q) := (blk_cell BK5.out.blk 1).trans rfl; have zBK5_2 : w12.cell? ⟨g5, 2, none⟩ = some (.int .i64 m) := (blk_cell BK5.out.blk 2).trans rfl; have zBK5_3 : w12.cell? ⟨g5, 3, none⟩ = some (.int .i64 e) := (blk_cell BK5.out.blk 3).trans rfl; have zBK6_0 : w12.cell? ⟨g6, 0, none⟩ = some (.slice X0 L0.length x0) := (blk_cell BK6.out.blk 0).trans rfl; have zBK6_1 : w12.cell? ⟨g6, 1, none⟩ = some (.slice X1 L1.length x1) := (blk_cell BK6.out.blk 1).trans rfl; have zBK6_2 : w12.cell? ⟨g6, 2, none⟩ = some (.slice X2 L2.length x2) := (blk_cell BK6.out.blk 2).trans rfl; refine ⟨_, rfl, ?_⟩))
  rw [rounds_succ]
  go_wp2_with fail
  obtain ⟨LI, hLI⟩ : ∃ LI : List Bool, Aside0 (LI = List.replicate i.toNat false) := ⟨_, ⟨rfl⟩⟩
  have LL := Aside0.mk (show LI.length = i.toNat by rw [hLI.out, List.length_replicate])
  have LR := Aside0.mk (show LI = List.replicate LI.length false by rw [LL.out]; exact hLI.out)
  have LN := Aside0.mk (show LI.length ≤ 1000 by rw [LL.out]; omega)
  have hmk := mk_run bi.1 LL.out LN.out
  rcases (show s < 0 ∨ 2 < s ∨ s = 0 ∨ s = 1 ∨ s = 2 by omega) with hs | hs | rfl | rfl | rfl
  · have V := Aside0.mk (rdv_new (s := s) (n := n) (f := 8) hLI.out hNf.out (by rw [if_neg (by omega), if_neg (by omega), if_neg (by omega)]))
    have hs0 : decide (0 ≤ s) = false := decide_eq_false (by omega)
    skip
    have KP : Aside0 (∀ w', Below w12.heap.size w12 w' → (w'.cell? ⟨g3, 0, none⟩ = some (.int .i64 s) ∧ w'.cell? ⟨g3, 1, none⟩ = some (.int .i64 n) ∧ w'.cell? ⟨g5, 0, none⟩ = some (.int .i64 i) ∧ w'.cell? ⟨g5, 1, none⟩ = some (.int .i64 q) ∧ w'.cell? ⟨g5, 2, none⟩ = some (.int .i64 m) ∧ w'.cell? ⟨g5, 3, none⟩ = some (.int .i64 e) ∧ w'.cell? ⟨g6, 0, none⟩ = some (.slice X0 L0.length x0) ∧ w'.cell? ⟨g6, 1, none⟩ = some (.slice X1 L1.length x1) ∧ w'.cell? ⟨g6, 2, none⟩ = some (.slice X2 L2.length x2))) := Aside0.mk (fun w' hb => ⟨(blk_cell (BK3.out.below hb).blk 0).trans rfl, (blk_cell (BK3.out.below hb).blk 1).trans rfl, (blk_cell (BK5.out.below hb).blk 0).trans rfl, (blk_cell (BK5.out.below hb).blk 1).trans rfl, (blk_cell (BK5.out.below hb).blk 2).trans rfl, (blk_cell (BK5.out.below hb).blk 3).trans rfl, (blk_cell (BK6.out.below hb).blk 0).trans rfl, (blk_cell (BK6.out.below hb).blk 1).trans rfl, (blk_cell (BK6.out.below hb).blk 2).trans rfl⟩)
    clear zBK2_0 zBK2_1 zBK2_2 zBK2_3 zBK3_0 zBK3_1 zBK5_0 zBK5_1 zBK5_2 zBK5_3 zBK6_0 zBK6_1 zBK6_2
    refine Evt.ow_start (w0 := w12) (T := (true, [([], []), ([0], [0]), ([1, 1], [1]), ([], []), ([], []), ([2, 3, 4], [2, 3, 4]), ([5], [5]), ([6], [6]), ([6], [6]), ([7, 5, 0, 1, 2, 3, 4, 5, 6, 7], [7]), ([8, 9, 0, 1, 2, 3, 4, 5, 6, 7, 8, 9], [8])])) (B := [0, 1, 3, 0, 0, 31, 63, 127, 127, 255, 1023]) 11 [(0, some 72), (1, some 73), (3, some 75), (4, some 76), (2, some 74), (5, some 77), (6, some 71), (7, some 78), (8, some 79), (9, some 10), (10, some 11)] (by kernel_rfl) rfl (by kernel_rfl) (by kernel_rfl) (by kernel_rfl) (by repeat (first | (with_reducible first | exact Below.refl _ _ | apply below_alloc | apply pw_below_drewN | apply below_drew1) | exact Below.refl _ _)) ?_
    intro HT_ HW_ w_ hHeld
    iterate 4 (first | (refine Evt.ow_off (a' := ?_) HT_ rfl rfl (by rfl) (by kernel_rfl) (fun _ _ _ h => h) ?_ ?_; rotate_left; (· (try simp only [Act.put, List.setIfInBounds_toArray, List.set_cons_zero, List.set_cons_succ, i64_w, i32_w]); rfl)) | (refine Evt.ow_pure (a' := ?_) (v := ?_) HT_ rfl rfl rfl (by rfl) (by kernel_rfl) (fun _ _ _ h => h) ?_ ?_ ?_; rotate_left 2; (· intro w'; go_simp; with_reducible rfl); (· (try simp only [Act.put, List.setIfInBounds_toArray, List.set_cons_zero, List.set_cons_succ, i64_w, i32_w]); rfl)) | (refine Evt.ow_load (a' := ?_) (v := ?_) HT_ HW_ hHeld rfl rfl rfl (by rfl) (by kernel_rfl) (fun _ _ _ h => h) ?_ ?_ ?_; rotate_left 2; (· intro w' hS_; obtain ⟨s0, s1, s2, s3, s4, s5, s6, s7, s8⟩ := KP.out w' hS_.out; go_simp; with_reducible rfl); (· (try simp only [Act.put, List.setIfInBounds_toArray, List.set_cons_zero, List.set_cons_succ, i64_w, i32_w]); rfl)))
    refine Evt.ow_value (a' := ?a1_) (v := ?v1_) (w1 := ?w11_) HT_ hHeld rfl rfl (by rfl) (by kernel_rfl) ?hr1_ ?hb1_ ?ha1_ ?h1_
    case hr1_ => (first | (go_simp; done) | (go_simp; refine ⟨?_, ?_⟩ <;> rfl) | (go_simp; rfl))
    case hb1_ => (repeat (first | (with_reducible first | exact Below.refl _ _ | apply below_alloc) | exact Below.refl _ _))
    case ha1_ => (simp only [Act.put, List.setIfInBounds_toArray, List.set_cons_zero, List.set_cons_succ, i64_w, i32_w]; rfl)
    intro hHeld_
    clear hHeld
    have hHeld := hHeld_
    clear hHeld_
    refine Evt.ow_call HT_ hHeld rfl rfl rfl (by kernel_rfl) Try.func18 (by kernel_rfl) rfl #[.slice (some ⟨w_.heap.size, 0, none⟩) LI.length LI.length, .agg #[.slice X0 L0.length x0, .slice X1 L1.length x1, .slice X2 L2.length x2], .agg #[.int .i64 s, .int .i64 n]] (by rfl) (by (try simp only [List.map_toArray, List.map_cons, List.map_nil]); first | done | rfl | (simp only [List.length_drop, List.length_take]; rfl)) ?_
    (with_reducible refine (readN V.out (by repeat (first | (with_reducible first | exact rw_made LR.out LN.out _ | refine Rw.drewN' ?_ _ | refine Rw.drew' ?_) | exact rw_made LR.out LN.out _)) (SN.out.below hHeld.out)).mono ?_)
    rintro e w_ ⟨rfl, hb⟩
    refine ⟨_, rfl, hb, fun hHeld_ => ?_⟩
    clear hHeld hb
    have hHeld := hHeld_
    clear hHeld_
    refine Evt.ow_norm (a' := ?_) ?_ ?_
    rotate_left
    · simp only [Act.put, List.setIfInBounds_toArray, List.set_cons_zero, List.set_cons_succ, i64_w, i32_w]; rfl
    iterate 5 (first | (refine Evt.ow_off (a' := ?_) HT_ rfl rfl (by rfl) (by kernel_rfl) (fun _ _ _ h => h) ?_ ?_; rotate_left; (· (try simp only [Act.put, List.setIfInBounds_toArray, List.set_cons_zero, List.set_cons_succ, i64_w, i32_w]); rfl)) | (refine Evt.ow_pure (a' := ?_) (v := ?_) HT_ rfl rfl rfl (by rfl) (by kernel_rfl) (fun _ _ _ h => h) ?_ ?_ ?_; rotate_left 2; (· intro w'; go_simp; with_reducible rfl); (· (try simp only [Act.put, List.setIfInBounds_toArray, List.set_cons_zero, List.set_cons_succ, i64_w, i32_w]); rfl)) | (refine Evt.ow_load (a' := ?_) (v := ?_) HT_ HW_ hHeld rfl rfl rfl (by rfl) (by kernel_rfl) (fun _ _ _ h => h) ?_ ?_ ?_; rotate_left 2; (· intro w' hS_; obtain ⟨s0, s1, s2, s3, s4, s5, s6, s7, s8⟩ := KP.out w' hS_.out; go_simp; with_reducible rfl); (· (try simp only [Act.put, List.setIfInBounds_toArray, List.set_cons_zero, List.set_cons_succ, i64_w, i32_w]); rfl)))
    refine Evt.ow_done HT_ (by kernel_rfl) ?_
    refine Evt.gen_any (w0 := w12) hHeld.out ?_
    intro w13 hbx
    clear hHeld HT_ HW_ KP
    have n_BK2 := Aside0.mk (BK2.out.below hbx)
    have n_BK3 := Aside0.mk (BK3.out.below hbx)
    have n_BK5 := Aside0.mk (BK5.out.below hbx)
    have n_SN := Aside0.mk (SN.out.below hbx)
    have n_BK6 := Aside0.mk (BK6.out.below hbx)
    have n_HB := Aside0.mk (below_step HB.out hbx)
    clear HB BK2 BK3 BK5 SN BK6
    have BK2 := n_BK2
    have BK3 := n_BK3
    have BK5 := n_BK5
    have SN := n_SN
    have BK6 := n_BK6
    have HB := n_HB
    clear hbx n_BK2 n_BK3 n_BK5 n_SN n_BK6 n_HB
    have zBK2_0 : w13.cell? ⟨g2, 0, none⟩ = some (.int .u16 n0) := (blk_cell BK2.out.blk 0).trans rfl
    have zBK2_1 : w13.cell? ⟨g2, 1, none⟩ = some (.int .u16 n1) := (blk_cell BK2.out.blk 1).trans rfl
    have zBK2_2 : w13.cell? ⟨g2, 2, none⟩ = some (.int .u16 n2) := (blk_cell BK2.out.blk 2).trans rfl
    have zBK2_3 : w13.cell? ⟨g2, 3, none⟩ = some (.int .u16 n3) := (blk_cell BK2.out.blk 3).trans rfl
    have zBK3_0 : w13.cell? ⟨g3, 0, none⟩ = some (.int .i64 s) := (blk_cell BK3.out.blk 0).trans rfl
    have zBK3_1 : w13.cell? ⟨g3, 1, none⟩ = some (.int .i64 n) := (blk_cell BK3.out.blk 1).trans rfl
    have zBK5_0 : w13.cell? ⟨g5, 0, none⟩ = some (.int .i64 i) := (blk_cell BK5.out.blk 0).trans rfl
    have zBK5_1 : w13.cell? ⟨g5, 1, none⟩ = some (.int .i64 q) := (blk_cell BK5.out.blk 1).trans rfl
    have zBK5_2 : w13.cell? ⟨g5, 2, none⟩ = some (.int .i64 m) := (blk_cell BK5.out.blk 2).trans rfl
    have zBK5_3 : w13.cell? ⟨g5, 3, none⟩ = some (.int .i64 e) := (blk_cell BK5.out.blk 3).trans rfl
    have zBK6_0 : w13.cell? ⟨g6, 0, none⟩ = some (.slice X0 L0.length x0) := (blk_cell BK6.out.blk 0).trans rfl
    have zBK6_1 : w13.cell? ⟨g6, 1, none⟩ = some (.slice X1 L1.length x1) := (blk_cell BK6.out.blk 1).trans rfl
    have zBK6_2 : w13.cell? ⟨g6, 2, none⟩ = some (.slice X2 L2.length x2) := (blk_cell BK6.out.blk 2).trans rfl
    go_wp2_with fail
    have KP : Aside0 (∀ w', Below w13.heap.size w13 w' → (w'.cell? ⟨g3, 0, none⟩ = some (.int .i64 s) ∧ w'.cell? ⟨g3, 1, none⟩ = some (.int .i64 n) ∧ w'.cell? ⟨g5, 0, none⟩ = some (.int .i64 i) ∧ w'.cell? ⟨g5, 1, none⟩ = some (.int .i64 q) ∧ w'.cell? ⟨g5, 2, none⟩ = some (.int .i64 m) ∧ w'.cell? ⟨g5, 3, none⟩ = some (.int .i64 e))) := Aside0.mk (fun w' hb => ⟨(blk_cell (BK3.out.below hb).blk 0).trans rfl, (blk_cell (BK3.out.below hb).blk 1).trans rfl, (blk_cell (BK5.out.below hb).blk 0).trans rfl, (blk_cell (BK5.out.below hb).blk 1).trans rfl, (blk_cell (BK5.out.below hb).blk 2).trans rfl, (blk_cell (BK5.out.below hb).blk 3).trans rfl⟩)
    clear zBK2_0 zBK2_1 zBK2_2 zBK2_3 zBK3_0 zBK3_1 zBK5_0 zBK5_1 zBK5_2 zBK5_3 zBK6_0 zBK6_1 zBK6_2
    refine Evt.ow_start (w0 := w13) (T := (true, [([], []), ([0, 0], [0]), ([1], [1]), ([2, 1], [1, 2]), ([1, 3], [1, 3]), ([4, 1], [4]), ([5], [5]), ([6, 5], [5, 6]), ([5], [5]), ([8, 5], [5, 8]), ([9, 5], [5, 9]), ([10, 5, 5], [5, 10]), ([11], [11]), ([12, 11], [11, 12]), ([13, 11], [11, 13]), ([11, 14, 5], [5, 11, 14]), ([15, 11, 5], [5, 15]), ([16], [16]), ([17, 16], [16, 17]), ([18, 16], [16, 18]), ([16, 19, 5], [5, 16, 19]), ([20, 16, 5], [5, 20]), ([21], [21]), ([22, 21], [21, 22]), ([21], [21]), ([24, 21], [21, 24]), ([21], [21]), ([26, 21], [21, 26]), ([21], [21]), ([28, 21], [21, 28]), ([25, 27, 29, 21], [21, 25, 27, 29]), ([21], [21]), ([31, 21], [21, 31]), ([32, 21], [21, 32]), ([33, 21], [21, 33]), ([30, 34, 21], [21, 30, 34]), ([35, 21], [21, 35]), ([23, 36, 21], [21, 23, 36]), ([21, 37, 5], [5, 21, 37]), ([7, 38, 5], [5, 7, 38]), ([5, 39], [5, 39]), ([40, 21, 0, 1, 2, 3, 4, 5, 6, 7, 8, 9, 10, 11, 12, 13, 14, 15, 16, 17, 18, 19, 20, 21, 22, 23, 24, 25, 26, 27, 28, 29, 30, 31, 32, 33, 34, 35, 36, 37, 38, 39, 40], [40])])) (B := [0, 1, 3, 7, 15, 31, 63, 127, 63, 319, 831, 1855, 3903, 7999, 16191, 32575, 65343, 130879, 261951, 524095, 1048383, 2096959, 4194111, 8388415, 4194111, 20971327, 4194111, 71302975, 4194111, 272629567, 1061158719, 4194111, 2151677759, 6446645055, 15036579647, 34347155263, 68706893631, 137438953279, 274877906751, 549755813887, 1099511627775, 2199023255551]) 42 [(0, some 80), (1, some 81), (2, some 82), (3, some 83), (4, some 84), (5, some 85), (6, some 86), (7, some 87), (8, some 88), (9, some 89), (10, some 90), (11, some 91), (12, some 92), (13, some 93), (14, some 94), (15, some 95), (16, some 96), (17, some 97), (18, some 98), (19, some 99), (20, some 100), (21, some 101), (22, some 102), (23, some 103), (24, some 104), (25, some 105), (26, some 106), (27, some 107), (28, some 108), (29, some 109), (30, some 110), (31, some 111), (32, some 112), (33, some 113), (34, some 114), (35, some 115), (36, some 116), (37, some 117), (38, some 118), (39, some 119), (40, some 120), (41, some 4)] (by kernel_rfl) rfl (by kernel_rfl) (by kernel_rfl) (by kernel_rfl) (by repeat (first | (with_reducible first | exact Below.refl _ _ | apply below_alloc | apply pw_below_drewN | apply below_drew1) | exact Below.refl _ _)) ?_
    intro HT_ HW_ w_ hHeld
    refine Evt.ow_call HT_ hHeld rfl rfl rfl (by kernel_rfl) Try.func17 (by kernel_rfl) rfl #[] (by rfl) (by (try simp only [List.map_toArray, List.map_cons, List.map_nil]); first | done | rfl | (simp only [List.length_drop, List.length_take]; rfl)) ?_
    (with_reducible refine (alive_any _).mono ?_)
    rintro e w_ ⟨rfl, hb⟩
    refine ⟨_, rfl, hb, fun hHeld_ => ?_⟩
    clear hHeld hb
    have hHeld := hHeld_
    clear hHeld_
    refine Evt.ow_norm (a' := ?_) ?_ ?_
    rotate_left
    · simp only [Act.put, List.setIfInBounds_toArray, List.set_cons_zero, List.set_cons_succ, i64_w, i32_w]; rfl
    iterate 41 (first | (refine Evt.ow_off (a' := ?_) HT_ rfl rfl (by rfl) (by kernel_rfl) (fun _ _ _ h => h) ?_ ?_; rotate_left; (· (try simp only [Act.put, List.setIfInBounds_toArray, List.set_cons_zero, List.set_cons_succ, i64_w, i32_w]); rfl)) | (refine Evt.ow_pure (a' := ?_) (v := ?_) HT_ rfl rfl rfl (by rfl) (by kernel_rfl) (fun _ _ _ h => h) ?_ ?_ ?_; rotate_left 2; (· intro w'; go_simp; with_reducible rfl); (· (try simp only [Act.put, List.setIfInBounds_toArray, List.set_cons_zero, List.set_cons_succ, i64_w, i32_w]); rfl)) | (refine Evt.ow_load (a' := ?_) (v := ?_) HT_ HW_ hHeld rfl rfl rfl (by rfl) (by kernel_rfl) (fun _ _ _ h => h) ?_ ?_ ?_; rotate_left 2; (· intro w' hS_; obtain ⟨s0, s1, s2, s3, s4, s5⟩ := KP.out w' hS_.out; go_simp; with_reducible rfl); (· (try simp only [Act.put, List.setIfInBounds_toArray, List.set_cons_zero, List.set_cons_succ, i64_w, i32_w]); rfl)))
    refine Evt.ow_done HT_ (by kernel_rfl) ?_
    refine Evt.gen_any (w0 := w13) hHeld.out ?_
    intro w14 hbx
    clear hHeld HT_ HW_ KP
    have n_BK2 := Aside0.mk (BK2.out.below hbx)
    have n_BK3 := Aside0.mk (BK3.out.below hbx)
    have n_BK5 := Aside0.mk (BK5.out.below hbx)
    have n_SN := Aside0.mk (SN.out.below hbx)
    have n_BK6 := Aside0.mk (BK6.out.below hbx)
    have n_HB := Aside0.mk (below_step HB.out hbx)
    clear HB BK2 BK3 BK5 SN BK6
    have BK2 := n_BK2
    have BK3 := n_BK3
    have BK5 := n_BK5
    have SN := n_SN
    have BK6 := n_BK6
    have HB := n_HB
    clear hbx n_BK2 n_BK3 n_BK5 n_SN n_BK6 n_HB
    have zBK2_0 : w14.cell? ⟨g2, 0, none⟩ = some (.int .u16 n0) := (blk_cell BK2.out.blk 0).trans rfl
    have zBK2_1 : w14.cell? ⟨g2, 1, none⟩ = some (.int .u16 n1) := (blk_cell BK2.out.blk 1).trans rfl
    have zBK2_2 : w14.cell? ⟨g2, 2, none⟩ = some (.int .u16 n2) := (blk_cell BK2.out.blk 2).trans rfl
    have zBK2_3 : w14.cell? ⟨g2, 3, none⟩ = some (.int .u16 n3) := (blk_cell BK2.out.blk 3).trans rfl
    have zBK3_0 : w14.cell? ⟨g3, 0, none⟩ = some (.int .i64 s) := (blk_cell BK3.out.blk 0).trans rfl
    have zBK3_1 : w14.cell? ⟨g3, 1, none⟩ = some (.int .i64 n) := (blk_cell BK3.out.blk 1).trans rfl
    have zBK5_0 : w14.cell? ⟨g5, 0, none⟩ = some (.int .i64 i) := (blk_cell BK5.out.blk 0).trans rfl
    have zBK5_1 : w14.cell? ⟨g5, 1, none⟩ = some (.int .i64 q) := (blk_cell BK5.out.blk 1).trans rfl
    have zBK5_2 : w14.cell? ⟨g5, 2, none⟩ = some (.int .i64 m) := (blk_cell BK5.out.blk 2).trans rfl
    have zBK5_3 : w14.cell? ⟨g5, 3, none⟩ = some (.int .i64 e) := (blk_cell BK5.out.blk 3).trans rfl
    have zBK6_0 : w14.cell? ⟨g6, 0, none⟩ = some (.slice X0 L0.length x0) := (blk_cell BK6.out.blk 0).trans rfl
    have zBK6_1 : w14.cell? ⟨g6, 1, none⟩ = some (.slice X1 L1.length x1) := (blk_cell BK6.out.blk 1).trans rfl
    have zBK6_2 : w14.cell? ⟨g6, 2, none⟩ = some (.slice X2 L2.length x2) := (blk_cell BK6.out.blk 2).trans rfl
    go_wp2
    go_ret
    exact ⟨rfl, HB.out⟩
    skip
  · have V := Aside0.mk (rdv_new (s := s) (n := n) (f := 8) hLI.out hNf.out (by rw [if_neg (by omega), if_neg (by omega), if_neg (by omega)]))
    have hs0 : decide (0 ≤ s) = true := decide_eq_true (by omega)
    have hs1 : decide (s ≤ 2) = false := decide_eq_false (by omega)
    skip
    have KP : Aside0 (∀ w', Below w12.heap.size w12 w' → (w'.cell? ⟨g3, 0, none⟩ = some (.int .i64 s) ∧ w'.cell? ⟨g3, 1, none⟩ = some (.int .i64 n) ∧ w'.cell? ⟨g5, 0, none⟩ = some (.int .i64 i) ∧ w'.cell? ⟨g5, 1, none⟩ = some (.int .i64 q) ∧ w'.cell? ⟨g5, 2, none⟩ = some (.int .i64 m) ∧ w'.cell? ⟨g5, 3, none⟩ = some (.int .i64 e) ∧ w'.cell? ⟨g6, 0, none⟩ = some (.slice X0 L0.length x0) ∧ w'.cell? ⟨g6, 1, none⟩ = some (.slice X1 L1.length x1) ∧ w'.cell? ⟨g6, 2, none⟩ = some (.slice X2 L2.length x2))) := Aside0.mk (fun w' hb => ⟨(blk_cell (BK3.out.below hb).blk 0).trans rfl, (blk_cell (BK3.out.below hb).blk 1).trans rfl, (blk_cell (BK5.out.below hb).blk 0).trans rfl, (blk_cell (BK5.out.below hb).blk 1).trans rfl, (blk_cell (BK5.out.below hb).blk 2).trans rfl, (blk_cell (BK5.out.below hb).blk 3).trans rfl, (blk_cell (BK6.out.below hb).blk 0).trans rfl, (blk_cell (BK6.out.below hb).blk 1).trans rfl, (blk_cell (BK6.out.below hb).blk 2).trans rfl⟩)
    clear zBK2_0 zBK2_1 zBK2_2 zBK2_3 zBK3_0 zBK3_1 zBK5_0 zBK5_1 zBK5_2 zBK5_3 zBK6_0 zBK6_1 zBK6_2
    refine Evt.ow_start (w0 := w12) (T := (true, [([], []), ([0], [0]), ([1, 1], [1]), ([], []), ([], []), ([2, 3, 4], [2, 3, 4]), ([5], [5]), ([6], [6]), ([6], [6]), ([7, 5, 0, 1, 2, 3, 4, 5, 6, 7], [7]), ([8, 9, 0, 1, 2, 3, 4, 5, 6, 7, 8, 9], [8])])) (B := [0, 1, 3, 0, 0, 31, 63, 127, 127, 255, 1023]) 11 [(0, some 72), (1, some 73), (3, some 75), (4, some 76), (2, some 74), (5, some 77), (6, some 71), (7, some 78), (8, some 79), (9, some 10), (10, some 11)] (by kernel_rfl) rfl (by kernel_rfl) (by kernel_rfl) (by kernel_rfl) (by repeat (first | (with_reducible first | exact Below.refl _ _ | apply below_alloc | apply pw_below_drewN | apply below_drew1) | exact Below.refl _ _)) ?_
    intro HT_ HW_ w_ hHeld
    iterate 4 (first | (refine Evt.ow_off (a' := ?_) HT_ rfl rfl (by rfl) (by kernel_rfl) (fun _ _ _ h => h) ?_ ?_; rotate_left; (· (try simp only [Act.put, List.setIfInBounds_toArray, List.set_cons_zero, List.set_cons_succ, i64_w, i32_w]); rfl)) | (refine Evt.ow_pure (a' := ?_) (v := ?_) HT_ rfl rfl rfl (by rfl) (by kernel_rfl) (fun _ _ _ h => h) ?_ ?_ ?_; rotate_left 2; (· intro w'; go_simp; with_reducible rfl); (· (try simp only [Act.put, List.setIfInBounds_toArray, List.set_cons_zero, List.set_cons_succ, i64_w, i32_w]); rfl)) | (refine Evt.ow_load (a' := ?_) (v := ?_) HT_ HW_ hHeld rfl rfl rfl (by rfl) (by kernel_rfl) (fun _ _ _ h => h) ?_ ?_ ?_; rotate_left 2; (· intro w' hS_; obtain ⟨s0, s1, s2, s3, s4, s5, s6, s7, s8⟩ := KP.out w' hS_.out; go_simp; with_reducible rfl); (· (try simp only [Act.put, List.setIfInBounds_toArray, List.set_cons_zero, List.set_cons_succ, i64_w, i32_w]); rfl)))
    refine Evt.ow_value (a' := ?a2_) (v := ?v2_) (w1 := ?w12_) HT_ hHeld rfl rfl (by rfl) (by kernel_rfl) ?hr2_ ?hb2_ ?ha2_ ?h2_
    case hr2_ => (first | (go_simp; done) | (go_simp; refine ⟨?_, ?_⟩ <;> rfl) | (go_simp; rfl))
    case hb2_ => (repeat (first | (with_reducible first | exact Below.refl _ _ | apply below_alloc) | exact Below.refl _ _))
    case ha2_ => (simp only [Act.put, List.setIfInBounds_toArray, List.set_cons_zero, List.set_cons_succ, i64_w, i32_w]; rfl)
    intro hHeld_
    clear hHeld
    have hHeld := hHeld_
    clear hHeld_
    refine Evt.ow_call HT_ hHeld rfl rfl rfl (by kernel_rfl) Try.func18 (by kernel_rfl) rfl #[.slice (some ⟨w_.heap.size, 0, none⟩) LI.length LI.length, .agg #[.slice X0 L0.length x0, .slice X1 L1.length x1, .slice X2 L2.length x2], .agg #[.int .i64 s, .int .i64 n]] (by rfl) (by (try simp only [List.map_toArray, List.map_cons, List.map_nil]); first | done | rfl | (simp only [List.length_drop, List.length_take]; rfl)) ?_
    (with_reducible refine (readN V.out (by repeat (first | (with_reducible first | exact rw_made LR.out LN.out _ | refine Rw.drewN' ?_ _ | refine Rw.drew' ?_) | exact rw_made LR.out LN.out _)) (SN.out.below hHeld.out)).mono ?_)
    rintro e w_ ⟨rfl, hb⟩
    refine ⟨_, rfl, hb, fun hHeld_ => ?_⟩
    clear hHeld hb
    have hHeld := hHeld_
    clear hHeld_
    refine Evt.ow_norm (a' := ?_) ?_ ?_
    rotate_left
    · simp only [Act.put, List.setIfInBounds_toArray, List.set_cons_zero, List.set_cons_succ, i64_w, i32_w]; rfl
    iterate 5 (first | (refine Evt.ow_off (a' := ?_) HT_ rfl rfl (by rfl) (by kernel_rfl) (fun _ _ _ h => h) ?_ ?_; rotate_left; (· (try simp only [Act.put, List.setIfInBounds_toArray, List.set_cons_zero, List.set_cons_succ, i64_w, i32_w]); rfl)) | (refine Evt.ow_pure (a' := ?_) (v := ?_) HT_ rfl rfl rfl (by rfl) (by kernel_rfl) (fun _ _ _ h => h) ?_ ?_ ?_; rotate_left 2; (· intro w'; go_simp; with_reducible rfl); (· (try simp only [Act.put, List.setIfInBounds_toArray, List.set_cons_zero, List.set_cons_succ, i64_w, i32_w]); rfl)) | (refine Evt.ow_load (a' := ?_) (v := ?_) HT_ HW_ hHeld rfl rfl rfl (by rfl) (by kernel_rfl) (fun _ _ _ h => h) ?_ ?_ ?_; rotate_left 2; (· intro w' hS_; obtain ⟨s0, s1, s2, s3, s4, s5, s6, s7, s8⟩ := KP.out w' hS_.out; go_simp; with_reducible rfl); (· (try simp only [Act.put, List.setIfInBounds_toArray, List.set_cons_zero, List.set_cons_succ, i64_w, i32_w]); rfl)))
    refine Evt.ow_done HT_ (by kernel_rfl) ?_
    refine Evt.gen_any (w0 := w12) hHeld.out ?_
    intro w13 hbx
    clear hHeld HT_ HW_ KP
    have n_BK2 := Aside0.mk (BK2.out.below hbx)
    have n_BK3 := Aside0.mk (BK3.out.below hbx)
    have n_BK5 := Aside0.mk (BK5.out.below hbx)
    have n_SN := Aside0.mk (SN.out.below hbx)
    have n_BK6 := Aside0.mk (BK6.out.below hbx)
    have n_HB := Aside0.mk (below_step HB.out hbx)
    clear HB BK2 BK3 BK5 SN BK6
    have BK2 := n_BK2
    have BK3 := n_BK3
    have BK5 := n_BK5
    have SN := n_SN
    have BK6 := n_BK6
    have HB := n_HB
    clear hbx n_BK2 n_BK3 n_BK5 n_SN n_BK6 n_HB
    have zBK2_0 : w13.cell? ⟨g2, 0, none⟩ = some (.int .u16 n0) := (blk_cell BK2.out.blk 0).trans rfl
    have zBK2_1 : w13.cell? ⟨g2, 1, none⟩ = some (.int .u16 n1) := (blk_cell BK2.out.blk 1).trans rfl
    have zBK2_2 : w13.cell? ⟨g2, 2, none⟩ = some (.int .u16 n2) := (blk_cell BK2.out.blk 2).trans rfl
    have zBK2_3 : w13.cell? ⟨g2, 3, none⟩ = some (.int .u16 n3) := (blk_cell BK2.out.blk 3).trans rfl
    have zBK3_0 : w13.cell? ⟨g3, 0, none⟩ = some (.int .i64 s) := (blk_cell BK3.out.blk 0).trans rfl
    have zBK3_1 : w13.cell? ⟨g3, 1, none⟩ = some (.int .i64 n) := (blk_cell BK3.out.blk 1).trans rfl
    have zBK5_0 : w13.cell? ⟨g5, 0, none⟩ = some (.int .i64 i) := (blk_cell BK5.out.blk 0).trans rfl
    have zBK5_1 : w13.cell? ⟨g5, 1, none⟩ = some (.int .i64 q) := (blk_cell BK5.out.blk 1).trans rfl
    have zBK5_2 : w13.cell? ⟨g5, 2, none⟩ = some (.int .i64 m) := (blk_cell BK5.out.blk 2).trans rfl
    have zBK5_3 : w13.cell? ⟨g5, 3, none⟩ = some (.int .i64 e) := (blk_cell BK5.out.blk 3).trans rfl
    have zBK6_0 : w13.cell? ⟨g6, 0, none⟩ = some (.slice X0 L0.length x0) := (blk_cell BK6.out.blk 0).trans rfl
    have zBK6_1 : w13.cell? ⟨g6, 1, none⟩ = some (.slice X1 L1.length x1) := (blk_cell BK6.out.blk 1).trans rfl
    have zBK6_2 : w13.cell? ⟨g6, 2, none⟩ = some (.slice X2 L2.length x2) := (blk_cell BK6.out.blk 2).trans rfl
    go_wp2_with fail
    have KP : Aside0 (∀ w', Below w13.heap.size w13 w' → (w'.cell? ⟨g3, 0, none⟩ = some (.int .i64 s) ∧ w'.cell? ⟨g3, 1, none⟩ = some (.int .i64 n) ∧ w'.cell? ⟨g5, 0, none⟩ = some (.int .i64 i) ∧ w'.cell? ⟨g5, 1, none⟩ = some (.int .i64 q) ∧ w'.cell? ⟨g5, 2, none⟩ = some (.int .i64 m) ∧ w'.cell? ⟨g5, 3, none⟩ = some (.int .i64 e))) := Aside0.mk (fun w' hb => ⟨(blk_cell (BK3.out.below hb).blk 0).trans rfl, (blk_cell (BK3.out.below hb).blk 1).trans rfl, (blk_cell (BK5.out.below hb).blk 0).trans rfl, (blk_cell (BK5.out.below hb).blk 1).trans rfl, (blk_cell (BK5.out.below hb).blk 2).trans rfl, (blk_cell (BK5.out.below hb).blk 3).trans rfl⟩)
    clear zBK2_0 zBK2_1 zBK2_2 zBK2_3 zBK3_0 zBK3_1 zBK5_0 zBK5_1 zBK5_2 zBK5_3 zBK6_0 zBK6_1 zBK6_2
    refine Evt.ow_start (w0 := w13) (T := (true, [([], []), ([0, 0], [0]), ([1], [1]), ([2, 1], [1, 2]), ([1, 3], [1, 3]), ([4, 1], [4]), ([5], [5]), ([6, 5], [5, 6]), ([5], [5]), ([8, 5], [5, 8]), ([9, 5], [5, 9]), ([10, 5, 5], [5, 10]), ([11], [11]), ([12, 11], [11, 12]), ([13, 11], [11, 13]), ([11, 14, 5], [5, 11, 14]), ([15, 11, 5], [5, 15]), ([16], [16]), ([17, 16], [16, 17]), ([18, 16], [16, 18]), ([16, 19, 5], [5, 16, 19]), ([20, 16, 5], [5, 20]), ([21], [21]), ([22, 21], [21, 22]), ([21], [21]), ([24, 21], [21, 24]), ([21], [21]), ([26, 21], [21, 26]), ([21], [21]), ([28, 21], [21, 28]), ([25, 27, 29, 21], [21, 25, 27, 29]), ([21], [21]), ([31, 21], [21, 31]), ([32, 21], [21, 32]), ([33, 21], [21, 33]), ([30, 34, 21], [21, 30, 34]), ([35, 21], [21, 35]), ([23, 36, 21], [21, 23, 36]), ([21, 37, 5], [5, 21, 37]), ([7, 38, 5], [5, 7, 38]), ([5, 39], [5, 39]), ([40, 21, 0, 1, 2, 3, 4, 5, 6, 7, 8, 9, 10, 11, 12, 13, 14, 15, 16, 17, 18, 19, 20, 21, 22, 23, 24, 25, 26, 27, 28, 29, 30, 31, 32, 33, 34, 35, 36, 37, 38, 39, 40], [40])])) (B := [0, 1, 3, 7, 15, 31, 63, 127, 63, 319, 831, 1855, 3903, 7999, 16191, 32575, 65343, 130879, 261951, 524095, 1048383, 2096959, 4194111, 8388415, 4194111, 20971327, 4194111, 71302975, 4194111, 272629567, 1061158719, 4194111, 2151677759, 6446645055, 15036579647, 34347155263, 68706893631, 137438953279, 274877906751, 549755813887, 1099511627775, 2199023255551]) 42 [(0, some 80), (1, some 81), (2, some 82), (3, some 83), (4, some 84), (5, some 85), (6, some 86), (7, some 87), (8, some 88), (9, some 89), (10, some 90), (11, some 91), (12, some 92), (13, some 93), (14, some 94), (15, some 95), (16, some 96), (17, some 97), (18, some 98), (19, some 99), (20, some 100), (21, some 101), (22, some 102), (23, some 103), (24, some 104), (25, some 105), (26, some 106), (27, some 107), (28, some 108), (29, some 109), (30, some 110), (31, some 111), (32, some 112), (33, some 113), (34, some 114), (35, some 115), (36, some 116), (37, some 117), (38, some 118), (39, some 119), (40, some 120), (41, some 4)] (by kernel_rfl) rfl (by kernel_rfl) (by kernel_rfl) (by kernel_rfl) (by repeat (first | (with_reducible first | exact Below.refl _ _ | apply below_alloc | apply pw_below_drewN | apply below_drew1) | exact Below.refl _ _)) ?_
    intro HT_ HW_ w_ hHeld
    refine Evt.ow_call HT_ hHeld rfl rfl rfl (by kernel_rfl) Try.func17 (by kernel_rfl) rfl #[] (by rfl) (by (try simp only [List.map_toArray, List.map_cons, List.map_nil]); first | done | rfl | (simp only [List.length_drop, List.length_take]; rfl)) ?_
    (with_reducible refine (alive_any _).mono ?_)
    rintro e w_ ⟨rfl, hb⟩
    refine ⟨_, rfl, hb, fun hHeld_ => ?_⟩
    clear hHeld hb
    have hHeld := hHeld_
    clear hHeld_
    refine Evt.ow_norm (a' := ?_) ?_ ?_
    rotate_left
    · simp only [Act.put, List.setIfInBounds_toArray, List.set_cons_zero, List.set_cons_succ, i64_w, i32_w]; rfl
    iterate 41 (first | (refine Evt.ow_off (a' := ?_) HT_ rfl rfl (by rfl) (by kernel_rfl) (fun _ _ _ h => h) ?_ ?_; rotate_left; (· (try simp only [Act.put, List.setIfInBounds_toArray, List.set_cons_zero, List.set_cons_succ, i64_w, i32_w]); rfl)) | (refine Evt.ow_pure (a' := ?_) (v := ?_) HT_ rfl rfl rfl (by rfl) (by kernel_rfl) (fun _ _ _ h => h) ?_ ?_ ?_; rotate_left 2; (· intro w'; go_simp; with_reducible rfl); (· (try simp only [Act.put, List.setIfInBounds_toArray, List.set_cons_zero, List.set_cons_succ, i64_w, i32_w]); rfl)) | (refine Evt.ow_load (a' := ?_) (v := ?_) HT_ HW_ hHeld rfl rfl rfl (by rfl) (by kernel_rfl) (fun _ _ _ h => h) ?_ ?_ ?_; rotate_left 2; (· intro w' hS_; obtain ⟨s0, s1, s2, s3, s4, s5⟩ := KP.out w' hS_.out; go_simp; with_reducible rfl); (· (try simp only [Act.put, List.setIfInBounds_toArray, List.set_cons_zero, List.set_cons_succ, i64_w, i32_w]); rfl)))
    refine Evt.ow_done HT_ (by kernel_rfl) ?_
    refine Evt.gen_any (w0 := w13) hHeld.out ?_
    intro w14 hbx
    clear hHeld HT_ HW_ KP
    have n_BK2 := Aside0.mk (BK2.out.below hbx)
    have n_BK3 := Aside0.mk (BK3.out.below hbx)
    have n_BK5 := Aside0.mk (BK5.out.below hbx)
    have n_SN := Aside0.mk (SN.out.below hbx)
    have n_BK6 := Aside0.mk (BK6.out.below hbx)
    have n_HB := Aside0.mk (below_step HB.out hbx)
    clear HB BK2 BK3 BK5 SN BK6
    have BK2 := n_BK2
    have BK3 := n_BK3
    have BK5 := n_BK5
    have SN := n_SN
    have BK6 := n_BK6
    have HB := n_HB
    clear hbx n_BK2 n_BK3 n_BK5 n_SN n_BK6 n_HB
    have zBK2_0 : w14.cell? ⟨g2, 0, none⟩ = some (.int .u16 n0) := (blk_cell BK2.out.blk 0).trans rfl
    have zBK2_1 : w14.cell? ⟨g2, 1, none⟩ = some (.int .u16 n1) := (blk_cell BK2.out.blk 1).trans rfl
    have zBK2_2 : w14.cell? ⟨g2, 2, none⟩ = some (.int .u16 n2) := (blk_cell BK2.out.blk 2).trans rfl
    have zBK2_3 : w14.cell? ⟨g2, 3, none⟩ = some (.int .u16 n3) := (blk_cell BK2.out.blk 3).trans rfl
    have zBK3_0 : w14.cell? ⟨g3, 0, none⟩ = some (.int .i64 s) := (blk_cell BK3.out.blk 0).trans rfl
    have zBK3_1 : w14.cell? ⟨g3, 1, none⟩ = some (.int .i64 n) := (blk_cell BK3.out.blk 1).trans rfl
    have zBK5_0 : w14.cell? ⟨g5, 0, none⟩ = some (.int .i64 i) := (blk_cell BK5.out.blk 0).trans rfl
    have zBK5_1 : w14.cell? ⟨g5, 1, none⟩ = some (.int .i64 q) := (blk_cell BK5.out.blk 1).trans rfl
    have zBK5_2 : w14.cell? ⟨g5, 2, none⟩ = some (.int .i64 m) := (blk_cell BK5.out.blk 2).trans rfl
    have zBK5_3 : w14.cell? ⟨g5, 3, none⟩ = some (.int .i64 e) := (blk_cell BK5.out.blk 3).trans rfl
    have zBK6_0 : w14.cell? ⟨g6, 0, none⟩ = some (.slice X0 L0.length x0) := (blk_cell BK6.out.blk 0).trans rfl
    have zBK6_1 : w14.cell? ⟨g6, 1, none⟩ = some (.slice X1 L1.length x1) := (blk_cell BK6.out.blk 1).trans rfl
    have zBK6_2 : w14.cell? ⟨g6, 2, none⟩ = some (.slice X2 L2.length x2) := (blk_cell BK6.out.blk 2).trans rfl
    go_wp2
    go_ret
    exact ⟨rfl, HB.out⟩
    skip
  · rcases (show n < 0 ∨ (0 ≤ n ∧ n < i) ∨ i ≤ n by omega) with hn | hn | hn
    · have V := Aside0.mk (rdv_new (s := 0) (n := n) (f := 3) hLI.out hNf.out (by rw [if_pos rfl, if_neg (by omega)]))
      have hn0 : decide (0 ≤ n) = false := decide_eq_false (by omega)
      skip
      skip
      have KP : Aside0 (∀ w', Below w12.heap.size w12 w' → (w'.cell? ⟨g3, 0, none⟩ = some (.int .i64 0) ∧ w'.cell? ⟨g3, 1, none⟩ = some (.int .i64 n) ∧ w'.cell? ⟨g5, 0, none⟩ = some (.int .i64 i) ∧ w'.cell? ⟨g5, 1, none⟩ = some (.int .i64 q) ∧ w'.cell? ⟨g5, 2, none⟩ = some (.int .i64 m) ∧ w'.cell? ⟨g5, 3, none⟩ = some (.int .i64 e) ∧ w'.cell? ⟨g6, 0, none⟩ = some (.slice X0 L0.length x0) ∧ w'.cell? ⟨g6, 1, none⟩ = some (.slice X1 L1.length x1) ∧ w'.cell? ⟨g6, 2, none⟩ = some (.slice X2 L2.length x2))) := Aside0.mk (fun w' hb => ⟨(blk_cell (BK3.out.below hb).blk 0).trans rfl, (blk_cell (BK3.out.below hb).blk 1).trans rfl, (blk_cell (BK5.out.below hb).blk 0).trans rfl, (blk_cell (BK5.out.below hb).blk 1).trans rfl, (blk_cell (BK5.out.below hb).blk 2).trans rfl, (blk_cell (BK5.out.below hb).blk 3).trans rfl, (blk_cell (BK6.out.below hb).blk 0).trans rfl, (blk_cell (BK6.out.below hb).blk 1).trans rfl, (blk_cell (BK6.out.below hb).blk 2).trans rfl⟩)
      clear zBK2_0 zBK2_1 zBK2_2 zBK2_3 zBK3_0 zBK3_1 zBK5_0 zBK5_1 zBK5_2 zBK5_3 zBK6_0 zBK6_1 zBK6_2
      refine Evt.ow_start (w0 := w12) (T := (true, [([], []), ([0], [0]), ([1, 1], [1]), ([], []), ([], []), ([2, 3, 4], [2, 3, 4]), ([5], [5]), ([6], [6]), ([6], [6]), ([7, 5, 0, 1, 2, 3, 4, 5, 6, 7], [7]), ([8, 9, 0, 1, 2, 3, 4, 5, 6, 7, 8, 9], [8])])) (B := [0, 1, 3, 0, 0, 31, 63, 127, 127, 255, 1023]) 11 [(0, some 72), (1, some 73), (3, some 75), (4, some 76), (2, some 74), (5, some 77), (6, some 71), (7, some 78), (8, some 79), (9, some 10), (10, some 11)] (by kernel_rfl) rfl (by kernel_rfl) (by kernel_rfl) (by kernel_rfl) (by repeat (first | (with_reducible first | exact Below.refl _ _ | apply below_alloc | apply pw_below_drewN | apply below_drew1) | exact Below.refl _ _)) ?_
      intro HT_ HW_ w_ hHeld
      iterate 4 (first | (refine Evt.ow_off (a' := ?_) HT_ rfl rfl (by rfl) (by kernel_rfl) (fun _ _ _ h => h) ?_ ?_; rotate_left; (· (try simp only [Act.put, List.setIfInBounds_toArray, List.set_cons_zero, List.set_cons_succ, i64_w, i32_w]); rfl)) | (refine Evt.ow_pure (a' := ?_) (v := ?_) HT_ rfl rfl rfl (by rfl) (by kernel_rfl) (fun _ _ _ h => h) ?_ ?_ ?_; rotate_left 2; (· intro w'; go_simp; with_reducible rfl); (· (try simp only [Act.put, List.setIfInBounds_toArray, List.set_cons_zero, List.set_cons_succ, i64_w, i32_w]); rfl)) | (refine Evt.ow_load (a' := ?_) (v := ?_) HT_ HW_ hHeld rfl rfl rfl (by rfl) (by kernel_rfl) (fun _ _ _ h => h) ?_ ?_ ?_; rotate_left 2; (· intro w' hS_; obtain ⟨s0, s1, s2, s3, s4, s5, s6, s7, s8⟩ := KP.out w' hS_.out; go_simp; with_reducible rfl); (· (try simp only [Act.put, List.setIfInBounds_toArray, List.set_cons_zero, List.set_cons_succ, i64_w, i32_w]); rfl)))
      refine Evt.ow_value (a' := ?a3_) (v := ?v3_) (w1 := ?w13_) HT_ hHeld rfl rfl (by rfl) (by kernel_rfl) ?hr3_ ?hb3_ ?ha3_ ?h3_
      case hr3_ => (first | (go_simp; done) | (go_simp; refine ⟨?_, ?_⟩ <;> rfl) | (go_simp; rfl))
      case hb3_ => (repeat (first | (with_reducible first | exact Below.refl _ _ | apply below_alloc) | exact Below.refl _ _))
      case ha3_ => (simp only [Act.put, List.setIfInBounds_toArray, List.set_cons_zero, List.set_cons_succ, i64_w, i32_w]; rfl)
      intro hHeld_
      clear hHeld
      have hHeld := hHeld_
      clear hHeld_
      refine Evt.ow_call HT_ hHeld rfl rfl rfl (by kernel_rfl) Try.func18 (by kernel_rfl) rfl #[.slice (some ⟨w_.heap.size, 0, none⟩) LI.length LI.length, .agg #[.slice X0 L0.length x0, .slice X1 L1.length x1, .slice X2 L2.length x2], .agg #[.int .i64 0, .int .i64 n]] (by rfl) (by (try simp only [List.map_toArray, List.map_cons, List.map_nil]); first | done | rfl | (simp only [List.length_drop, List.length_take]; rfl)) ?_
      (with_reducible refine (readN V.out (by repeat (first | (with_reducible first | exact rw_made LR.out LN.out _ | refine Rw.drewN' ?_ _ | refine Rw.drew' ?_) | exact rw_made LR.out LN.out _)) (SN.out.below hHeld.out)).mono ?_)
      rintro e w_ ⟨rfl, hb⟩
      refine ⟨_, rfl, hb, fun hHeld_ => ?_⟩
      clear hHeld hb
      have hHeld := hHeld_
      clear hHeld_
      refine Evt.ow_norm (a' := ?_) ?_ ?_
      rotate_left
      · simp only [Act.put, List.setIfInBounds_toArray, List.set_cons_zero, List.set_cons_succ, i64_w, i32_w]; rfl
      iterate 5 (first | (refine Evt.ow_off (a' := ?_) HT_ rfl rfl (by rfl) (by kernel_rfl) (fun _ _ _ h => h) ?_ ?_; rotate_left; (· (try simp only [Act.put, List.setIfInBounds_toArray, List.set_cons_zero, List.set_cons_succ, i64_w, i32_w]); rfl)) | (refine Evt.ow_pure (a' := ?_) (v := ?_) HT_ rfl rfl rfl (by rfl) (by kernel_rfl) (fun _ _ _ h => h) ?_ ?_ ?_; rotate_left 2; (· intro w'; go_simp; with_reducible rfl); (· (try simp only [Act.put, List.setIfInBounds_toArray, List.set_cons_zero, List.set_cons_succ, i64_w, i32_w]); rfl)) | (refine Evt.ow_load (a' := ?_) (v := ?_) HT_ HW_ hHeld rfl rfl rfl (by rfl) (by kernel_rfl) (fun _ _ _ h => h) ?_ ?_ ?_; rotate_left 2; (· intro w' hS_; obtain ⟨s0, s1, s2, s3, s4, s5, s6, s7, s8⟩ := KP.out w' hS_.out; go_simp; with_reducible rfl); (· (try simp only [Act.put, List.setIfInBounds_toArray, List.set_cons_zero, List.set_cons_succ, i64_w, i32_w]); rfl)))
      refine Evt.ow_done HT_ (by kernel_rfl) ?_
      refine Evt.gen_any (w0 := w12) hHeld.out ?_
      intro w13 hbx
      clear hHeld HT_ HW_ KP
      have n_BK2 := Aside0.mk (BK2.out.below hbx)
      have n_BK3 := Aside0.mk (BK3.out.below hbx)
      have n_BK5 := Aside0.mk (BK5.out.below hbx)
      have n_SN := Aside0.mk (SN.out.below hbx)
      have n_BK6 := Aside0.mk (BK6.out.below hbx)
      have n_HB := Aside0.mk (below_step HB.out hbx)
      clear HB BK2 BK3 BK5 SN BK6
      have BK2 := n_BK2
      have BK3 := n_BK3
      have BK5 := n_BK5
      have SN := n_SN
      have BK6 := n_BK6
      have HB := n_HB
      clear hbx n_BK2 n_BK3 n_BK5 n_SN n_BK6 n_HB
      have zBK2_0 : w13.cell? ⟨g2, 0, none⟩ = some (.int .u16 n0) := (blk_cell BK2.out.blk 0).trans rfl
      have zBK2_1 : w13.cell? ⟨g2, 1, none⟩ = some (.int .u16 n1) := (blk_cell BK2.out.blk 1).trans rfl
      have zBK2_2 : w13.cell? ⟨g2, 2, none⟩ = some (.int .u16 n2) := (blk_cell BK2.out.blk 2).trans rfl
      have zBK2_3 : w13.cell? ⟨g2, 3, none⟩ = some (.int .u16 n3) := (blk_cell BK2.out.blk 3).trans rfl
      have zBK3_0 : w13.cell? ⟨g3, 0, none⟩ = some (.int .i64 0) := (blk_cell BK3.out.blk 0).trans rfl
      have zBK3_1 : w13.cell? ⟨g3, 1, none⟩ = some (.int .i64 n) := (blk_cell BK3.out.blk 1).trans rfl
      have zBK5_0 : w13.cell? ⟨g5, 0, none⟩ = some (.int .i64 i) := (blk_cell BK5.out.blk 0).trans rfl
      have zBK5_1 : w13.cell? ⟨g5, 1, none⟩ = some (.int .i64 q) := (blk_cell BK5.out.blk 1).trans rfl
      have zBK5_2 : w13.cell? ⟨g5, 2, none⟩ = some (.int .i64 m) := (blk_cell BK5.out.blk 2).trans rfl
      have zBK5_3 : w13.cell? ⟨g5, 3, none⟩ = some (.int .i64 e) := (blk_cell BK5.out.blk 3).trans rfl
      have zBK6_0 : w13.cell? ⟨g6, 0, none⟩ = some (.slice X0 L0.length x0) := (blk_cell BK6.out.blk 0).trans rfl
      have zBK6_1 : w13.cell? ⟨g6, 1, none⟩ = some (.slice X1 L1.length x1) := (blk_cell BK6.out.blk 1).trans rfl
      have zBK6_2 : w13.cell? ⟨g6, 2, none⟩ = some (.slice X2 L2.length x2) := (blk_cell BK6.out.blk 2).trans rfl
      go_wp2_with fail
      have KP : Aside0 (∀ w', Below w13.heap.size w13 w' → (w'.cell? ⟨g3, 0, none⟩ = some (.int .i64 0) ∧ w'.cell? ⟨g3, 1, none⟩ = some (.int .i64 n) ∧ w'.cell? ⟨g5, 0, none⟩ = some (.int .i64 i) ∧ w'.cell? ⟨g5, 1, none⟩ = some (.int .i64 q) ∧ w'.cell? ⟨g5, 2, none⟩ = some (.int .i64 m) ∧ w'.cell? ⟨g5, 3, none⟩ = some (.int .i64 e))) := Aside0.mk (fun w' hb => ⟨(blk_cell (BK3.out.below hb).blk 0).trans rfl, (blk_cell (BK3.out.below hb).blk 1).trans rfl, (blk_cell (BK5.out.below hb).blk 0).trans rfl, (blk_cell (BK5.out.below hb).blk 1).trans rfl, (blk_cell (BK5.out.below hb).blk 2).trans rfl, (blk_cell (BK5.out.below hb).blk 3).trans rfl⟩)
      clear zBK2_0 zBK2_1 zBK2_2 zBK2_3 zBK3_0 zBK3_1 zBK5_0 zBK5_1 zBK5_2 zBK5_3 zBK6_0 zBK6_1 zBK6_2
      refine Evt.ow_start (w0 := w13) (T := (true, [([], []), ([0, 0], [0]), ([1], [1]), ([2, 1], [1, 2]), ([1, 3], [1, 3]), ([4, 1], [4]), ([5], [5]), ([6, 5], [5, 6]), ([5], [5]), ([8, 5], [5, 8]), ([9, 5], [5, 9]), ([10, 5, 5], [5, 10]), ([11], [11]), ([12, 11], [11, 12]), ([13, 11], [11, 13]), ([11, 14, 5], [5, 11, 14]), ([15, 11, 5], [5, 15]), ([16], [16]), ([17, 16], [16, 17]), ([18, 16], [16, 18]), ([16, 19, 5], [5, 16, 19]), ([20, 16, 5], [5, 20]), ([21], [21]), ([22, 21], [21, 22]), ([21], [21]), ([24, 21], [21, 24]), ([21], [21]), ([26, 21], [21, 26]), ([21], [21]), ([28, 21], [21, 28]), ([25, 27, 29, 21], [21, 25, 27, 29]), ([21], [21]), ([31, 21], [21, 31]), ([32, 21], [21, 32]), ([33, 21], [21, 33]), ([30, 34, 21], [21, 30, 34]), ([35, 21], [21, 35]), ([23, 36, 21], [21, 23, 36]), ([21, 37, 5], [5, 21, 37]), ([7, 38, 5], [5, 7, 38]), ([5, 39], [5, 39]), ([40, 21, 0, 1, 2, 3, 4, 5, 6, 7, 8, 9, 10, 11, 12, 13, 14, 15, 16, 17, 18, 19, 20, 21, 22, 23, 24, 25, 26, 27, 28, 29, 30, 31, 32, 33, 34, 35, 36, 37, 38, 39, 40], [40])])) (B := [0, 1, 3, 7, 15, 31, 63, 127, 63, 319, 831, 1855, 3903, 7999, 16191, 32575, 65343, 130879, 261951, 524095, 1048383, 2096959, 4194111, 8388415, 4194111, 20971327, 4194111, 71302975, 4194111, 272629567, 1061158719, 4194111, 2151677759, 6446645055, 15036579647, 34347155263, 68706893631, 137438953279, 274877906751, 549755813887, 1099511627775, 2199023255551]) 42 [(0, some 80), (1, some 81), (2, some 82), (3, some 83), (4, some 84), (5, some 85), (6, some 86), (7, some 87), (8, some 88), (9, some 89), (10, some 90), (11, some 91), (12, some 92), (13, some 93), (14, some 94), (15, some 95), (16, some 96), (17, some 97), (18, some 98), (19, some 99), (20, some 100), (21, some 101), (22, some 102), (23, some 103), (24, some 104), (25, some 105), (26, some 106), (27, some 107), (28, some 108), (29, some 109), (30, some 110), (31, some 111), (32, some 112), (33, some 113), (34, some 114), (35, some 115), (36, some 116), (37, some 117), (38, some 118), (39, some 119), (40, some 120), (41, some 4)] (by kernel_rfl) rfl (by kernel_rfl) (by kernel_rfl) (by kernel_rfl) (by repeat (first | (with_reducible first | exact Below.refl _ _ | apply below_alloc | apply pw_below_drewN | apply below_drew1) | exact Below.refl _ _)) ?_
      intro HT_ HW_ w_ hHeld
      refine Evt.ow_call HT_ hHeld rfl rfl rfl (by kernel_rfl) Try.func17 (by kernel_rfl) rfl #[] (by rfl) (by (try simp only [List.map_toArray, List.map_cons, List.map_nil]); first | done | rfl | (simp only [List.length_drop, List.length_take]; rfl)) ?_
      (with_reducible refine (alive_any _).mono ?_)
      rintro e w_ ⟨rfl, hb⟩
      refine ⟨_, rfl, hb, fun hHeld_ => ?_⟩
      clear hHeld hb
      have hHeld := hHeld_
      clear hHeld_
      refine Evt.ow_norm (a' := ?_) ?_ ?_
      rotate_left
      · simp only [Act.put, List.setIfInBounds_toArray, List.set_cons_zero, List.set_cons_succ, i64_w, i32_w]; rfl
      iterate 41 (first | (refine Evt.ow_off (a' := ?_) HT_ rfl rfl (by rfl) (by kernel_rfl) (fun _ _ _ h => h) ?_ ?_; rotate_left; (· (try simp only [Act.put, List.setIfInBounds_toArray, List.set_cons_zero, List.set_cons_succ, i64_w, i32_w]); rfl)) | (refine Evt.ow_pure (a' := ?_) (v := ?_) HT_ rfl rfl rfl (by rfl) (by kernel_rfl) (fun _ _ _ h => h) ?_ ?_ ?_; rotate_left 2; (· intro w'; go_simp; with_reducible rfl); (· (try simp only [Act.put, List.setIfInBounds_toArray, List.set_cons_zero, List.set_cons_succ, i64_w, i32_w]); rfl)) | (refine Evt.ow_load (a' := ?_) (v := ?_) HT_ HW_ hHeld rfl rfl rfl (by rfl) (by kernel_rfl) (fun _ _ _ h => h) ?_ ?_ ?_; rotate_left 2; (· intro w' hS_; obtain ⟨s0, s1, s2, s3, s4, s5⟩ := KP.out w' hS_.out; go_simp; with_reducible rfl); (· (try simp only [Act.put, List.setIfInBounds_toArray, List.set_cons_zero, List.set_cons_succ, i64_w, i32_w]); rfl)))
      refine Evt.ow_done HT_ (by kernel_rfl) ?_
      refine Evt.gen_any (w0 := w13) hHeld.out ?_
      intro w14 hbx
      clear hHeld HT_ HW_ KP
      have n_BK2 := Aside0.mk (BK2.out.below hbx)
      have n_BK3 := Aside0.mk (BK3.out.below hbx)
      have n_BK5 := Aside0.mk (BK5.out.below hbx)
      have n_SN := Aside0.mk (SN.out.below hbx)
      have n_BK6 := Aside0.mk (BK6.out.below hbx)
      have n_HB := Aside0.mk (below_step HB.out hbx)
      clear HB BK2 BK3 BK5 SN BK6
      have BK2 := n_BK2
      have BK3 := n_BK3
      have BK5 := n_BK5
      have SN := n_SN
      have BK6 := n_BK6
      have HB := n_HB
      clear hbx n_BK2 n_BK3 n_BK5 n_SN n_BK6 n_HB
      have zBK2_0 : w14.cell? ⟨g2, 0, none⟩ = some (.int .u16 n0) := (blk_cell BK2.out.blk 0).trans rfl
      have zBK2_1 : w14.cell? ⟨g2, 1, none⟩ = some (.int .u16 n1) := (blk_cell BK2.out.blk 1).trans rfl
      have zBK2_2 : w14.cell? ⟨g2, 2, none⟩ = some (.int .u16 n2) := (blk_cell BK2.out.blk 2).trans rfl
      have zBK2_3 : w14.cell? ⟨g2, 3, none⟩ = some (.int .u16 n3) := (blk_cell BK2.out.blk 3).trans rfl
      have zBK3_0 : w14.cell? ⟨g3, 0, none⟩ = some (.int .i64 0) := (blk_cell BK3.out.blk 0).trans rfl
      have zBK3_1 : w14.cell? ⟨g3, 1, none⟩ = some (.int .i64 n) := (blk_cell BK3.out.blk 1).trans rfl
      have zBK5_0 : w14.cell? ⟨g5, 0, none⟩ = some (.int .i64 i) := (blk_cell BK5.out.blk 0).trans rfl
      have zBK5_1 : w14.cell? ⟨g5, 1, none⟩ = some (.int .i64 q) := (blk_cell BK5.out.blk 1).trans rfl
      have zBK5_2 : w14.cell? ⟨g5, 2, none⟩ = some (.int .i64 m) := (blk_cell BK5.out.blk 2).trans rfl
      have zBK5_3 : w14.cell? ⟨g5, 3, none⟩ = some (.int .i64 e) := (blk_cell BK5.out.blk 3).trans rfl
      have zBK6_0 : w14.cell? ⟨g6, 0, none⟩ = some (.slice X0 L0.length x0) := (blk_cell BK6.out.blk 0).trans rfl
      have zBK6_1 : w14.cell? ⟨g6, 1, none⟩ = some (.slice X1 L1.length x1) := (blk_cell BK6.out.blk 1).trans rfl
      have zBK6_2 : w14.cell? ⟨g6, 2, none⟩ = some (.slice X2 L2.length x2) := (blk_cell BK6.out.blk 2).trans rfl
      go_wp2
      go_ret
      exact ⟨rfl, HB.out⟩
      skip
    · have V := Aside0.mk (rdv_new (s := 0) (n := n) (f := 0) hLI.out hNf.out (by rw [if_pos rfl, if_pos (by omega)]))
      have hn0 : decide (0 ≤ n) = true := decide_eq_true (by omega)
      have hn1 : decide (n < i) = true := decide_eq_true (by omega)
      skip
      skip
      have KP : Aside0 (∀ w', Below w12.heap.size w12 w' → (w'.cell? ⟨g3, 0, none⟩ = some (.int .i64 0) ∧ w'.cell? ⟨g3, 1, none⟩ = some (.int .i64 n) ∧ w'.cell? ⟨g5, 0, none⟩ = some (.int .i64 i) ∧ w'.cell? ⟨g5, 1, none⟩ = some (.int .i64 q) ∧ w'.cell? ⟨g5, 2, none⟩ = some (.int .i64 m) ∧ w'.cell? ⟨g5, 3, none⟩ = some (.int .i64 e) ∧ w'.cell? ⟨g6, 0, none⟩ = some (.slice X0 L0.length x0) ∧ w'.cell? ⟨g6, 1, none⟩ = some (.slice X1 L1.length x1) ∧ w'.cell? ⟨g6, 2, none⟩ = some (.slice X2 L2.length x2))) := Aside0.mk (fun w' hb => ⟨(blk_cell (BK3.out.below hb).blk 0).trans rfl, (blk_cell (BK3.out.below hb).blk 1).trans rfl, (blk_cell (BK5.out.below hb).blk 0).trans rfl, (blk_cell (BK5.out.below hb).blk 1).trans rfl, (blk_cell (BK5.out.below hb).blk 2).trans rfl, (blk_cell (BK5.out.below hb).blk 3).trans rfl, (blk_cell (BK6.out.below hb).blk 0).trans rfl, (blk_cell (BK6.out.below hb).blk 1).trans rfl, (blk_cell (BK6.out.below hb).blk 2).trans rfl⟩)
      clear zBK2_0 zBK2_1 zBK2_2 zBK2_3 zBK3_0 zBK3_1 zBK5_0 zBK5_1 zBK5_2 zBK5_3 zBK6_0 zBK6_1 zBK6_2
      refine Evt.ow_start (w0 := w12) (T := (true, [([], []), ([0], [0]), ([1, 1], [1]), ([], []), ([], []), ([2, 3, 4], [2, 3, 4]), ([5], [5]), ([6], [6]), ([6], [6]), ([7, 5, 0, 1, 2, 3, 4, 5, 6, 7], [7]), ([8, 9, 0, 1, 2, 3, 4, 5, 6, 7, 8, 9], [8])])) (B := [0, 1, 3, 0, 0, 31, 63, 127, 127, 255, 1023]) 11 [(0, some 72), (1, some 73), (3, some 75), (4, some 76), (2, some 74), (5, some 77), (6, some 71), (7, some 78), (8, some 79), (9, some 10), (10, some 11)] (by kernel_rfl) rfl (by kernel_rfl) (by kernel_rfl) (by kernel_rfl) (by repeat (first | (with_reducible first | exact Below.refl _ _ | apply below_alloc | apply pw_below_drewN | apply below_drew1) | exact Below.refl _ _)) ?_
      intro HT_ HW_ w_ hHeld
      iterate 4 (first | (refine Evt.ow_off (a' := ?_) HT_ rfl rfl (by rfl) (by kernel_rfl) (fun _ _ _ h => h) ?_ ?_; rotate_left; (· (try simp only [Act.put, List.setIfInBounds_toArray, List.set_cons_zero, List.set_cons_succ, i64_w, i32_w]); rfl)) | (refine Evt.ow_pure (a' := ?_) (v := ?_) HT_ rfl rfl rfl (by rfl) (by kernel_rfl) (fun _ _ _ h => h) ?_ ?_ ?_; rotate_left 2; (· intro w'; go_simp; with_reducible rfl); (· (try simp only [Act.put, List.setIfInBounds_toArray, List.set_cons_zero, List.set_cons_succ, i64_w, i32_w]); rfl)) | (refine Evt.ow_load (a' := ?_) (v := ?_) HT_ HW_ hHeld rfl rfl rfl (by rfl) (by kernel_rfl) (fun _ _ _ h => h) ?_ ?_ ?_; rotate_left 2; (· intro w' hS_; obtain ⟨s0, s1, s2, s3, s4, s5, s6, s7, s8⟩ := KP.out w' hS_.out; go_simp; with_reducible rfl); (· (try simp only [Act.put, List.setIfInBounds_toArray, List.set_cons_zero, List.set_cons_succ, i64_w, i32_w]); rfl)))
      refine Evt.ow_value (a' := ?a4_) (v := ?v4_) (w1 := ?w14_) HT_ hHeld rfl rfl (by rfl) (by kernel_rfl) ?hr4_ ?hb4_ ?ha4_ ?h4_
      case hr4_ => (first | (go_simp; done) | (go_simp; refine ⟨?_, ?_⟩ <;> rfl) | (go_simp; rfl))
      case hb4_ => (repeat (first | (with_reducible first | exact Below.refl _ _ | apply below_alloc) | exact Below.refl _ _))
      case ha4_ => (simp only [Act.put, List.setIfInBounds_toArray, List.set_cons_zero, List.set_cons_succ, i64_w, i32_w]; rfl)
      intro hHeld_
      clear hHeld
      have hHeld := hHeld_
      clear hHeld_
      refine Evt.ow_call HT_ hHeld rfl rfl rfl (by kernel_rfl) Try.func18 (by kernel_rfl) rfl #[.slice (some ⟨w_.heap.size, 0, none⟩) LI.length LI.length, .agg #[.slice X0 L0.length x0, .slice X1 L1.length x1, .slice X2 L2.length x2], .agg #[.int .i64 0, .int .i64 n]] (by rfl) (by (try simp only [List.map_toArray, List.map_cons, List.map_nil]); first | done | rfl | (simp only [List.length_drop, List.length_take]; rfl)) ?_
      (with_reducible refine (readN V.out (by repeat (first | (with_reducible first | exact rw_made LR.out LN.out _ | refine Rw.drewN' ?_ _ | refine Rw.drew' ?_) | exact rw_made LR.out LN.out _)) (SN.out.below hHeld.out)).mono ?_)
      rintro e w_ ⟨rfl, hb⟩
      refine ⟨_, rfl, hb, fun hHeld_ => ?_⟩
      clear hHeld hb
      have hHeld := hHeld_
      clear hHeld_
      refine Evt.ow_norm (a' := ?_) ?_ ?_
      rotate_left
      · simp only [Act.put, List.setIfInBounds_toArray, List.set_cons_zero, List.set_cons_succ, i64_w, i32_w]; rfl
      iterate 5 (first | (refine Evt.ow_off (a' := ?_) HT_ rfl rfl (by rfl) (by kernel_rfl) (fun _ _ _ h => h) ?_ ?_; rotate_left; (· (try simp only [Act.put, List.setIfInBounds_toArray, List.set_cons_zero, List.set_cons_succ, i64_w, i32_w]); rfl)) | (refine Evt.ow_pure (a' := ?_) (v := ?_) HT_ rfl rfl rfl (by rfl) (by kernel_rfl) (fun _ _ _ h => h) ?_ ?_ ?_; rotate_left 2; (· intro w'; go_simp; with_reducible rfl); (· (try simp only [Act.put, List.setIfInBounds_toArray, List.set_cons_zero, List.set_cons_succ, i64_w, i32_w]); rfl)) | (refine Evt.ow_load (a' := ?_) (v := ?_) HT_ HW_ hHeld rfl rfl rfl (by rfl) (by kernel_rfl) (fun _ _ _ h => h) ?_ ?_ ?_; rotate_left 2; (· intro w' hS_; obtain ⟨s0, s1, s2, s3, s4, s5, s6, s7, s8⟩ := KP.out w' hS_.out; go_simp; with_reducible rfl); (· (try simp only [Act.put, List.setIfInBounds_toArray, List.set_cons_zero, List.set_cons_succ, i64_w, i32_w]); rfl)))
      refine Evt.ow_done HT_ (by kernel_rfl) ?_
      refine Evt.gen_any (w0 := w12) hHeld.out ?_
      intro w13 hbx
      clear hHeld HT_ HW_ KP
      have n_BK2 := Aside0.mk (BK2.out.below hbx)
      have n_BK3 := Aside0.mk (BK3.out.below hbx)
      have n_BK5 := Aside0.mk (BK5.out.below hbx)
      have n_SN := Aside0.mk (SN.out.below hbx)
      have n_BK6 := Aside0.mk (BK6.out.below hbx)
      have n_HB := Aside0.mk (below_step HB.out hbx)
      clear HB BK2 BK3 BK5 SN BK6
      have BK2 := n_BK2
      have BK3 := n_BK3
      have BK5 := n_BK5
      have SN := n_SN
      have BK6 := n_BK6
      have HB := n_HB
      clear hbx n_BK2 n_BK3 n_BK5 n_SN n_BK6 n_HB
      have zBK2_0 : w13.cell? ⟨g2, 0, none⟩ = some (.int .u16 n0) := (blk_cell BK2.out.blk 0).trans rfl
      have zBK2_1 : w13.cell? ⟨g2, 1, none⟩ = some (.int .u16 n1) := (blk_cell BK2.out.blk 1).trans rfl
      have zBK2_2 : w13.cell? ⟨g2, 2, none⟩ = some (.int .u16 n2) := (blk_cell BK2.out.blk 2).trans rfl
      have zBK2_3 : w13.cell? ⟨g2, 3, none⟩ = some (.int .u16 n3) := (blk_cell BK2.out.blk 3).trans rfl
      have zBK3_0 : w13.cell? ⟨g3, 0, none⟩ = some (.int .i64 0) := (blk_cell BK3.out.blk 0).trans rfl
      have zBK3_1 : w13.cell? ⟨g3, 1, none⟩ = some (.int .i64 n) := (blk_cell BK3.out.blk 1).trans rfl
      have zBK5_0 : w13.cell? ⟨g5, 0, none⟩ = some (.int .i64 i) := (blk_cell BK5.out.blk 0).trans rfl
      have zBK5_1 : w13.cell? ⟨g5, 1, none⟩ = some (.int .i64 q) := (blk_cell BK5.out.blk 1).trans rfl
      have zBK5_2 : w13.cell? ⟨g5, 2, none⟩ = some (.int .i64 m) := (blk_cell BK5.out.blk 2).trans rfl
      have zBK5_3 : w13.cell? ⟨g5, 3, none⟩ = some (.int .i64 e) := (blk_cell BK5.out.blk 3).trans rfl
      have zBK6_0 : w13.cell? ⟨g6, 0, none⟩ = some (.slice X0 L0.length x0) := (blk_cell BK6.out.blk 0).trans rfl
      have zBK6_1 : w13.cell? ⟨g6, 1, none⟩ = some (.slice X1 L1.length x1) := (blk_cell BK6.out.blk 1).trans rfl
      have zBK6_2 : w13.cell? ⟨g6, 2, none⟩ = some (.slice X2 L2.length x2) := (blk_cell BK6.out.blk 2).trans rfl
      go_wp2_with fail
      have KP : Aside0 (∀ w', Below w13.heap.size w13 w' → (w'.cell? ⟨g3, 0, none⟩ = some (.int .i64 0) ∧ w'.cell? ⟨g3, 1, none⟩ = some (.int .i64 n) ∧ w'.cell? ⟨g5, 0, none⟩ = some (.int .i64 i) ∧ w'.cell? ⟨g5, 1, none⟩ = some (.int .i64 q) ∧ w'.cell? ⟨g5, 2, none⟩ = some (.int .i64 m) ∧ w'.cell? ⟨g5, 3, none⟩ = some (.int .i64 e))) := Aside0.mk (fun w' hb => ⟨(blk_cell (BK3.out.below hb).blk 0).trans rfl, (blk_cell (BK3.out.below hb).blk 1).trans rfl, (blk_cell (BK5.out.below hb).blk 0).trans rfl, (blk_cell (BK5.out.below hb).blk 1).trans rfl, (blk_cell (BK5.out.below hb).blk 2).trans rfl, (blk_cell (BK5.out.below hb).blk 3).trans rfl⟩)
      clear zBK2_0 zBK2_1 zBK2_2 zBK2_3 zBK3_0 zBK3_1 zBK5_0 zBK5_1 zBK5_2 zBK5_3 zBK6_0 zBK6_1 zBK6_2
      refine Evt.ow_start (w0 := w13) (T := (true, [([], []), ([0, 0], [0]), ([1], [1]), ([2, 1], [1, 2]), ([1, 3], [1, 3]), ([4, 1], [4]), ([5], [5]), ([6, 5], [5, 6]), ([5], [5]), ([8, 5], [5, 8]), ([9, 5], [5, 9]), ([10, 5, 5], [5, 10]), ([11], [11]), ([12, 11], [11, 12]), ([13, 11], [11, 13]), ([11, 14, 5], [5, 11, 14]), ([15, 11, 5], [5, 15]), ([16], [16]), ([17, 16], [16, 17]), ([18, 16], [16, 18]), ([16, 19, 5], [5, 16, 19]), ([20, 16, 5], [5, 20]), ([21], [21]), ([22, 21], [21, 22]), ([21], [21]), ([24, 21], [21, 24]), ([21], [21]), ([26, 21], [21, 26]), ([21], [21]), ([28, 21], [21, 28]), ([25, 27, 29, 21], [21, 25, 27, 29]), ([21], [21]), ([31, 21], [21, 31]), ([32, 21], [21, 32]), ([33, 21], [21, 33]), ([30, 34, 21], [21, 30, 34]), ([35, 21], [21, 35]), ([23, 36, 21], [21, 23, 36]), ([21, 37, 5], [5, 21, 37]), ([7, 38, 5], [5, 7, 38]), ([5, 39], [5, 39]), ([40, 21, 0, 1, 2, 3, 4, 5, 6, 7, 8, 9, 10, 11, 12, 13, 14, 15, 16, 17, 18, 19, 20, 21, 22, 23, 24, 25, 26, 27, 28, 29, 30, 31, 32, 33, 34, 35, 36, 37, 38, 39, 40], [40])])) (B := [0, 1, 3, 7, 15, 31, 63, 127, 63, 319, 831, 1855, 3903, 7999, 16191, 32575, 65343, 130879, 261951, 524095, 1048383, 2096959, 4194111, 8388415, 4194111, 20971327, 4194111, 71302975, 4194111, 272629567, 1061158719, 4194111, 2151677759, 6446645055, 15036579647, 34347155263, 68706893631, 137438953279, 274877906751, 549755813887, 1099511627775, 2199023255551]) 42 [(0, some 80), (1, some 81), (2, some 82), (3, some 83), (4, some 84), (5, some 85), (6, some 86), (7, some 87), (8, some 88), (9, some 89), (10, some 90), (11, some 91), (12, some 92), (13, some 93), (14, some 94), (15, some 95), (16, some 96), (17, some 97), (18, some 98), (19, some 99), (20, some 100), (21, some 101), (22, some 102), (24, some 104), (26, some 106), (28, some 108), (31, some 111), (23, some 103), (25, some 105), (27, some 107), (29, some 109), (32, some 112), (33, some 113), (34, some 114), (30, some 110), (35, some 115), (36, some 116), (37, some 117), (38, some 118), (39, some 119), (40, some 120), (41, some 4)] (by kernel_rfl) rfl (by kernel_rfl) (by kernel_rfl) (by kernel_rfl) (by repeat (first | (with_reducible first | exact Below.refl _ _ | apply below_alloc | apply pw_below_drewN | apply below_drew1) | exact Below.refl _ _)) ?_
      intro HT_ HW_ w_ hHeld
      refine Evt.ow_call HT_ hHeld rfl rfl rfl (by kernel_rfl) Try.func17 (by kernel_rfl) rfl #[] (by rfl) (by (try simp only [List.map_toArray, List.map_cons, List.map_nil]); first | done | rfl | (simp only [List.length_drop, List.length_take]; rfl)) ?_
      (with_reducible refine (alive_any _).mono ?_)
      rintro e w_ ⟨rfl, hb⟩
      refine ⟨_, rfl, hb, fun hHeld_ => ?_⟩
      clear hHeld hb
      have hHeld := hHeld_
      clear hHeld_
      refine Evt.ow_norm (a' := ?_) ?_ ?_
      rotate_left
      · simp only [Act.put, List.setIfInBounds_toArray, List.set_cons_zero, List.set_cons_succ, i64_w, i32_w]; rfl
      iterate 33 (first | (refine Evt.ow_off (a' := ?_) HT_ rfl rfl (by rfl) (by kernel_rfl) (fun _ _ _ h => h) ?_ ?_; rotate_left; (· (try simp only [Act.put, List.setIfInBounds_toArray, List.set_cons_zero, List.set_cons_succ, i64_w, i32_w]); rfl)) | (refine Evt.ow_pure (a' := ?_) (v := ?_) HT_ rfl rfl rfl (by rfl) (by kernel_rfl) (fun _ _ _ h => h) ?_ ?_ ?_; rotate_left 2; (· intro w'; go_simp; with_reducible rfl); (· (try simp only [Act.put, List.setIfInBounds_toArray, List.set_cons_zero, List.set_cons_succ, i64_w, i32_w]); rfl)) | (refine Evt.ow_load (a' := ?_) (v := ?_) HT_ HW_ hHeld rfl rfl rfl (by rfl) (by kernel_rfl) (fun _ _ _ h => h) ?_ ?_ ?_; rotate_left 2; (· intro w' hS_; obtain ⟨s0, s1, s2, s3, s4, s5⟩ := KP.out w' hS_.out; go_simp; with_reducible rfl); (· (try simp only [Act.put, List.setIfInBounds_toArray, List.set_cons_zero, List.set_cons_succ, i64_w, i32_w]); rfl)))
      refine Evt.ow_value (a' := ?a5_) (v := ?v5_) (w1 := ?w15_) HT_ hHeld rfl rfl (by rfl) (by kernel_rfl) ?hr5_ ?hb5_ ?ha5_ ?h5_
      case hr5_ => (first | (go_simp; done) | (go_simp; refine ⟨?_, ?_⟩ <;> rfl) | (go_simp; rfl))
      case hb5_ => (repeat (first | (with_reducible first | exact Below.refl _ _ | apply below_alloc) | exact Below.refl _ _))
      case ha5_ => (simp only [Act.put, List.setIfInBounds_toArray, List.set_cons_zero, List.set_cons_succ, i64_w, i32_w]; rfl)
      intro hHeld_
      clear hHeld
      have hHeld := hHeld_
      clear hHeld_
      (first | (refine Evt.ow_off (a' := ?_) HT_ rfl rfl (by rfl) (by kernel_rfl) (fun _ _ _ h => h) ?_ ?_; rotate_left; (· (try simp only [Act.put, List.setIfInBounds_toArray, List.set_cons_zero, List.set_cons_succ, i64_w, i32_w]); rfl)) | (refine Evt.ow_pure (a' := ?_) (v := ?_) HT_ rfl rfl rfl (by rfl) (by kernel_rfl) (fun _ _ _ h => h) ?_ ?_ ?_; rotate_left 2; (· intro w'; go_simp; with_reducible rfl); (· (try simp only [Act.put, List.setIfInBounds_toArray, List.set_cons_zero, List.set_cons_succ, i64_w, i32_w]); rfl)) | (refine Evt.ow_load (a' := ?_) (v := ?_) HT_ HW_ hHeld rfl rfl rfl (by rfl) (by kernel_rfl) (fun _ _ _ h => h) ?_ ?_ ?_; rotate_left 2; (· intro w' hS_; obtain ⟨s0, s1, s2, s3, s4, s5⟩ := KP.out w' hS_.out; go_simp; with_reducible rfl); (· (try simp only [Act.put, List.setIfInBounds_toArray, List.set_cons_zero, List.set_cons_succ, i64_w, i32_w]); rfl)))
      refine Evt.ow_value (a' := ?a6_) (v := ?v6_) (w1 := ?w16_) HT_ hHeld rfl rfl (by rfl) (by kernel_rfl) ?hr6_ ?hb6_ ?ha6_ ?h6_
      case hr6_ => (first | (go_simp; done) | (go_simp; refine ⟨?_, ?_⟩ <;> rfl) | (go_simp; rfl))
      case hb6_ => (repeat (first | (with_reducible first | exact Below.refl _ _ | apply below_alloc) | exact Below.refl _ _))
      case ha6_ => (simp only [Act.put, List.setIfInBounds_toArray, List.set_cons_zero, List.set_cons_succ, i64_w, i32_w]; rfl)
      intro hHeld_
      clear hHeld
      have hHeld := hHeld_
      clear hHeld_
      iterate 5 (first | (refine Evt.ow_off (a' := ?_) HT_ rfl rfl (by rfl) (by kernel_rfl) (fun _ _ _ h => h) ?_ ?_; rotate_left; (· (try simp only [Act.put, List.setIfInBounds_toArray, List.set_cons_zero, List.set_cons_succ, i64_w, i32_w]); rfl)) | (refine Evt.ow_pure (a' := ?_) (v := ?_) HT_ rfl rfl rfl (by rfl) (by kernel_rfl) (fun _ _ _ h => h) ?_ ?_ ?_; rotate_left 2; (· intro w'; go_simp; with_reducible rfl); (· (try simp only [Act.put, List.setIfInBounds_toArray, List.set_cons_zero, List.set_cons_succ, i64_w, i32_w]); rfl)) | (refine Evt.ow_load (a' := ?_) (v := ?_) HT_ HW_ hHeld rfl rfl rfl (by rfl) (by kernel_rfl) (fun _ _ _ h => h) ?_ ?_ ?_; rotate_left 2; (· intro w' hS_; obtain ⟨s0, s1, s2, s3, s4, s5⟩ := KP.out w' hS_.out; go_simp; with_reducible rfl); (· (try simp only [Act.put, List.setIfInBounds_toArray, List.set_cons_zero, List.set_cons_succ, i64_w, i32_w]); rfl)))
      refine Evt.ow_done HT_ (by kernel_rfl) ?_
      refine Evt.gen_any (w0 := w13) hHeld.out ?_
      intro w14 hbx
      clear hHeld HT_ HW_ KP
      have n_BK2 := Aside0.mk (BK2.out.below hbx)
      have n_BK3 := Aside0.mk (BK3.out.below hbx)
      have n_BK5 := Aside0.mk (BK5.out.below hbx)
      have n_SN := Aside0.mk (SN.out.below hbx)
      have n_BK6 := Aside0.mk (BK6.out.below hbx)
      have n_HB := Aside0.mk (below_step HB.out hbx)
      clear HB BK2 BK3 BK5 SN BK6
      have BK2 := n_BK2
      have BK3 := n_BK3
      have BK5 := n_BK5
      have SN := n_SN
      have BK6 := n_BK6
      have HB := n_HB
      clear hbx n_BK2 n_BK3 n_BK5 n_SN n_BK6 n_HB
      have zBK2_0 : w14.cell? ⟨g2, 0, none⟩ = some (.int .u16 n0) := (blk_cell BK2.out.blk 0).trans rfl
      have zBK2_1 : w14.cell? ⟨g2, 1, none⟩ = some (.int .u16 n1) := (blk_cell BK2.out.blk 1).trans rfl
      have zBK2_2 : w14.cell? ⟨g2, 2, none⟩ = some (.int .u16 n2) := (blk_cell BK2.out.blk 2).trans rfl
      have zBK2_3 : w14.cell? ⟨g2, 3, none⟩ = some (.int .u16 n3) := (blk_cell BK2.out.blk 3).trans rfl
      have zBK3_0 : w14.cell? ⟨g3, 0, none⟩ = some (.int .i64 0) := (blk_cell BK3.out.blk 0).trans rfl
      have zBK3_1 : w14.cell? ⟨g3, 1, none⟩ = some (.int .i64 n) := (blk_cell BK3.out.blk 1).trans rfl
      have zBK5_0 : w14.cell? ⟨g5, 0, none⟩ = some (.int .i64 i) := (blk_cell BK5.out.blk 0).trans rfl
      have zBK5_1 : w14.cell? ⟨g5, 1, none⟩ = some (.int .i64 q) := (blk_cell BK5.out.blk 1).trans rfl
      have zBK5_2 : w14.cell? ⟨g5, 2, none⟩ = some (.int .i64 m) := (blk_cell BK5.out.blk 2).trans rfl
      have zBK5_3 : w14.cell? ⟨g5, 3, none⟩ = some (.int .i64 e) := (blk_cell BK5.out.blk 3).trans rfl
      have zBK6_0 : w14.cell? ⟨g6, 0, none⟩ = some (.slice X0 L0.length x0) := (blk_cell BK6.out.blk 0).trans rfl
      have zBK6_1 : w14.cell? ⟨g6, 1, none⟩ = some (.slice X1 L1.length x1) := (blk_cell BK6.out.blk 1).trans rfl
      have zBK6_2 : w14.cell? ⟨g6, 2, none⟩ = some (.slice X2 L2.length x2) := (blk_cell BK6.out.blk 2).trans rfl
      go_wp2
      go_ret
      exact ⟨rfl, HB.out⟩
      skip
    · have V := Aside0.mk (rdv_new (s := 0) (n := n) (f := 3) hLI.out hNf.out (by rw [if_pos rfl, if_neg (by omega)]))
      have hn0 : decide (0 ≤ n) = true := decide_eq_true (by omega)
      have hn1 : decide (n < i) = false := decide_eq_false (by omega)
      skip
      skip
      have KP : Aside0 (∀ w', Below w12.heap.size w12 w' → (w'.cell? ⟨g3, 0, none⟩ = some (.int .i64 0) ∧ w'.cell? ⟨g3, 1, none⟩ = some (.int .i64 n) ∧ w'.cell? ⟨g5, 0, none⟩ = some (.int .i64 i) ∧ w'.cell? ⟨g5, 1, none⟩ = some (.int .i64 q) ∧ w'.cell? ⟨g5, 2, none⟩ = some (.int .i64 m) ∧ w'.cell? ⟨g5, 3, none⟩ = some (.int .i64 e) ∧ w'.cell? ⟨g6, 0, none⟩ = some (.slice X0 L0.length x0) ∧ w'.cell? ⟨g6, 1, none⟩ = some (.slice X1 L1.length x1) ∧ w'.cell? ⟨g6, 2, none⟩ = some (.slice X2 L2.length x2))) := Aside0.mk (fun w' hb => ⟨(blk_cell (BK3.out.below hb).blk 0).trans rfl, (blk_cell (BK3.out.below hb).blk 1).trans rfl, (blk_cell (BK5.out.below hb).blk 0).trans rfl, (blk_cell (BK5.out.below hb).blk 1).trans rfl, (blk_cell (BK5.out.below hb).blk 2).trans rfl, (blk_cell (BK5.out.below hb).blk 3).trans rfl, (blk_cell (BK6.out.below hb).blk 0).trans rfl, (blk_cell (BK6.out.below hb).blk 1).trans rfl, (blk_cell (BK6.out.below hb).blk 2).trans rfl⟩)
      clear zBK2_0 zBK2_1 zBK2_2 zBK2_3 zBK3_0 zBK3_1 zBK5_0 zBK5_1 zBK5_2 zBK5_3 zBK6_0 zBK6_1 zBK6_2
      refine Evt.ow_start (w0 := w12) (T := (true, [([], []), ([0], [0]), ([1, 1], [1]), ([], []), ([], []), ([2, 3, 4], [2, 3, 4]), ([5], [5]), ([6], [6]), ([6], [6]), ([7, 5, 0, 1, 2, 3, 4, 5, 6, 7], [7]), ([8, 9, 0, 1, 2, 3, 4, 5, 6, 7, 8, 9], [8])])) (B := [0, 1, 3, 0, 0, 31, 63, 127, 127, 255, 1023]) 11 [(0, some 72), (1, some 73), (3, some 75), (4, some 76), (2, some 74), (5, some 77), (6, some 71), (7, some 78), (8, some 79), (9, some 10), (10, some 11)] (by kernel_rfl) rfl (by kernel_rfl) (by kernel_rfl) (by kernel_rfl) (by repeat (first | (with_reducible first | exact Below.refl _ _ | apply below_alloc | apply pw_below_drewN | apply below_drew1) | exact Below.refl _ _)) ?_
      intro HT_ HW_ w_ hHeld
      iterate 4 (first | (refine Evt.ow_off (a' := ?_) HT_ rfl rfl (by rfl) (by kernel_rfl) (fun _ _ _ h => h) ?_ ?_; rotate_left; (· (try simp only [Act.put, List.setIfInBounds_toArray, List.set_cons_zero, List.set_cons_succ, i64_w, i32_w]); rfl)) | (refine Evt.ow_pure (a' := ?_) (v := ?_) HT_ rfl rfl rfl (by rfl) (by kernel_rfl) (fun _ _ _ h => h) ?_ ?_ ?_; rotate_left 2; (· intro w'; go_simp; with_reducible rfl); (· (try simp only [Act.put, List.setIfInBounds_toArray, List.set_cons_zero, List.set_cons_succ, i64_w, i32_w]); rfl)) | (refine Evt.ow_load (a' := ?_) (v := ?_) HT_ HW_ hHeld rfl rfl rfl (by rfl) (by kernel_rfl) (fun _ _ _ h => h) ?_ ?_ ?_; rotate_left 2; (· intro w' hS_; obtain ⟨s0, s1, s2, s3, s4, s5, s6, s7, s8⟩ := KP.out w' hS_.out; go_simp; with_reducible rfl); (· (try simp only [Act.put, List.setIfInBounds_toArray, List.set_cons_zero, List.set_cons_succ, i64_w, i32_w]); rfl)))
      refine Evt.ow_value (a' := ?a7_) (v := ?v7_) (w1 := ?w17_) HT_ hHeld rfl rfl (by rfl) (by kernel_rfl) ?hr7_ ?hb7_ ?ha7_ ?h7_
      case hr7_ => (first | (go_simp; done) | (go_simp; refine ⟨?_, ?_⟩ <;> rfl) | (go_simp; rfl))
      case hb7_ => (repeat (first | (with_reducible first | exact Below.refl _ _ | apply below_alloc) | exact Below.refl _ _))
      case ha7_ => (simp only [Act.put, List.setIfInBounds_toArray, List.set_cons_zero, List.set_cons_succ, i64_w, i32_w]; rfl)
      intro hHeld_
      clear hHeld
      have hHeld := hHeld_
      clear hHeld_
      refine Evt.ow_call HT_ hHeld rfl rfl rfl (by kernel_rfl) Try.func18 (by kernel_rfl) rfl #[.slice (some ⟨w_.heap.size, 0, none⟩) LI.length LI.length, .agg #[.slice X0 L0.length x0, .slice X1 L1.length x1, .slice X2 L2.length x2], .agg #[.int .i64 0, .int .i64 n]] (by rfl) (by (try simp only [List.map_toArray, List.map_cons, List.map_nil]); first | done | rfl | (simp only [List.length_drop, List.length_take]; rfl)) ?_
      (with_reducible refine (readN V.out (by repeat (first | (with_reducible first | exact rw_made LR.out LN.out _ | refine Rw.drewN' ?_ _ | refine Rw.drew' ?_) | exact rw_made LR.out LN.out _)) (SN.out.below hHeld.out)).mono ?_)
      rintro e w_ ⟨rfl, hb⟩
      refine ⟨_, rfl, hb, fun hHeld_ => ?_⟩
      clear hHeld hb
      have hHeld := hHeld_
      clear hHeld_
      refine Evt.ow_norm (a' := ?_) ?_ ?_
      rotate_left
      · simp only [Act.put, List.setIfInBounds_toArray, List.set_cons_zero, List.set_cons_succ, i64_w, i32_w]; rfl
      iterate 5 (first | (refine Evt.ow_off (a' := ?_) HT_ rfl rfl (by rfl) (by kernel_rfl) (fun _ _ _ h => h) ?_ ?_; rotate_left; (· (try simp only [Act.put, List.setIfInBounds_toArray, List.set_cons_zero, List.set_cons_succ, i64_w, i32_w]); rfl)) | (refine Evt.ow_pure (a' := ?_) (v := ?_) HT_ rfl rfl rfl (by rfl) (by kernel_rfl) (fun _ _ _ h => h) ?_ ?_ ?_; rotate_left 2; (· intro w'; go_simp; with_reducible rfl); (· (try simp only [Act.put, List.setIfInBounds_toArray, List.set_cons_zero, List.set_cons_succ, i64_w, i32_w]); rfl)) | (refine Evt.ow_load (a' := ?_) (v := ?_) HT_ HW_ hHeld rfl rfl rfl (by rfl) (by kernel_rfl) (fun _ _ _ h => h) ?_ ?_ ?_; rotate_left 2; (· intro w' hS_; obtain ⟨s0, s1, s2, s3, s4, s5, s6, s7, s8⟩ := KP.out w' hS_.out; go_simp; with_reducible rfl); (· (try simp only [Act.put, List.setIfInBounds_toArray, List.set_cons_zero, List.set_cons_succ, i64_w, i32_w]); rfl)))
      refine Evt.ow_done HT_ (by kernel_rfl) ?_
      refine Evt.gen_any (w0 := w12) hHeld.out ?_
      intro w13 hbx
      clear hHeld HT_ HW_ KP
      have n_BK2 := Aside0.mk (BK2.out.below hbx)
      have n_BK3 := Aside0.mk (BK3.out.below hbx)
      have n_BK5 := Aside0.mk (BK5.out.below hbx)
      have n_SN := Aside0.mk (SN.out.below hbx)
      have n_BK6 := Aside0.mk (BK6.out.below hbx)
      have n_HB := Aside0.mk (below_step HB.out hbx)
      clear HB BK2 BK3 BK5 SN BK6
      have BK2 := n_BK2
      have BK3 := n_BK3
      have BK5 := n_BK5
      have SN := n_SN
      have BK6 := n_BK6
      have HB := n_HB
      clear hbx n_BK2 n_BK3 n_BK5 n_SN n_BK6 n_HB
      have zBK2_0 : w13.cell? ⟨g2, 0, none⟩ = some (.int .u16 n0) := (blk_cell BK2.out.blk 0).trans rfl
      have zBK2_1 : w13.cell? ⟨g2, 1, none⟩ = some (.int .u16 n1) := (blk_cell BK2.out.blk 1).trans rfl
      have zBK2_2 : w13.cell? ⟨g2, 2, none⟩ = some (.int .u16 n2) := (blk_cell BK2.out.blk 2).trans rfl
      have zBK2_3 : w13.cell? ⟨g2, 3, none⟩ = some (.int .u16 n3) := (blk_cell BK2.out.blk 3).trans rfl
      have zBK3_0 : w13.cell? ⟨g3, 0, none⟩ = some (.int .i64 0) := (blk_cell BK3.out.blk 0).trans rfl
      have zBK3_1 : w13.cell? ⟨g3, 1, none⟩ = some (.int .i64 n) := (blk_cell BK3.out.blk 1).trans rfl
      have zBK5_0 : w13.cell? ⟨g5, 0, none⟩ = some (.int .i64 i) := (blk_cell BK5.out.blk 0).trans rfl
      have zBK5_1 : w13.cell? ⟨g5, 1, none⟩ = some (.int .i64 q) := (blk_cell BK5.out.blk 1).trans rfl
      have zBK5_2 : w13.cell? ⟨g5, 2, none⟩ = some (.int .i64 m) := (blk_cell BK5.out.blk 2).trans rfl
      have zBK5_3 : w13.cell? ⟨g5, 3, none⟩ = some (.int .i64 e) := (blk_cell BK5.out.blk 3).trans rfl
      have zBK6_0 : w13.cell? ⟨g6, 0, none⟩ = some (.slice X0 L0.length x0) := (blk_cell BK6.out.blk 0).trans rfl
      have zBK6_1 : w13.cell? ⟨g6, 1, none⟩ = some (.slice X1 L1.length x1) := (blk_cell BK6.out.blk 1).trans rfl
      have zBK6_2 : w13.cell? ⟨g6, 2, none⟩ = some (.slice X2 L2.length x2) := (blk_cell BK6.out.blk 2).trans rfl
      go_wp2_with fail
      have KP : Aside0 (∀ w', Below w13.heap.size w13 w' → (w'.cell? ⟨g3, 0, none⟩ = some (.int .i64 0) ∧ w'.cell? ⟨g3, 1, none⟩ = some (.int .i64 n) ∧ w'.cell? ⟨g5, 0, none⟩ = some (.int .i64 i) ∧ w'.cell? ⟨g5, 1, none⟩ = some (.int .i64 q) ∧ w'.cell? ⟨g5, 2, none⟩ = some (.int .i64 m) ∧ w'.cell? ⟨g5, 3, none⟩ = some (.int .i64 e))) := Aside0.mk (fun w' hb => ⟨(blk_cell (BK3.out.below hb).blk 0).trans rfl, (blk_cell (BK3.out.below hb).blk 1).trans rfl, (blk_cell (BK5.out.below hb).blk 0).trans rfl, (blk_cell (BK5.out.below hb).blk 1).trans rfl, (blk_cell (BK5.out.below hb).blk 2).trans rfl, (blk_cell (BK5.out.below hb).blk 3).trans rfl⟩)
      clear zBK2_0 zBK2_1 zBK2_2 zBK2_3 zBK3_0 zBK3_1 zBK5_0 zBK5_1 zBK5_2 zBK5_3 zBK6_0 zBK6_1 zBK6_2
      refine Evt.ow_start (w0 := w13) (T := (true, [([], []), ([0, 0], [0]), ([1], [1]), ([2, 1], [1, 2]), ([1, 3], [1, 3]), ([4, 1], [4]), ([5], [5]), ([6, 5], [5, 6]), ([5], [5]), ([8, 5], [5, 8]), ([9, 5], [5, 9]), ([10, 5, 5], [5, 10]), ([11], [11]), ([12, 11], [11, 12]), ([13, 11], [11, 13]), ([11, 14, 5], [5, 11, 14]), ([15, 11, 5], [5, 15]), ([16], [16]), ([17, 16], [16, 17]), ([18, 16], [16, 18]), ([16, 19, 5], [5, 16, 19]), ([20, 16, 5], [5, 20]), ([21], [21]), ([22, 21], [21, 22]), ([21], [21]), ([24, 21], [21, 24]), ([21], [21]), ([26, 21], [21, 26]), ([21], [21]), ([28, 21], [21, 28]), ([25, 27, 29, 21], [21, 25, 27, 29]), ([21], [21]), ([31, 21], [21, 31]), ([32, 21], [21, 32]), ([33, 21], [21, 33]), ([30, 34, 21], [21, 30, 34]), ([35, 21], [21, 35]), ([23, 36, 21], [21, 23, 36]), ([21, 37, 5], [5, 21, 37]), ([7, 38, 5], [5, 7, 38]), ([5, 39], [5, 39]), ([40, 21, 0, 1, 2, 3, 4, 5, 6, 7, 8, 9, 10, 11, 12, 13, 14, 15, 16, 17, 18, 19, 20, 21, 22, 23, 24, 25, 26, 27, 28, 29, 30, 31, 32, 33, 34, 35, 36, 37, 38, 39, 40], [40])])) (B := [0, 1, 3, 7, 15, 31, 63, 127, 63, 319, 831, 1855, 3903, 7999, 16191, 32575, 65343, 130879, 261951, 524095, 1048383, 2096959, 4194111, 8388415, 4194111, 20971327, 4194111, 71302975, 4194111, 272629567, 1061158719, 4194111, 2151677759, 6446645055, 15036579647, 34347155263, 68706893631, 137438953279, 274877906751, 549755813887, 1099511627775, 2199023255551]) 42 [(0, some 80), (1, some 81), (2, some 82), (3, some 83), (4, some 84), (5, some 85), (6, some 86), (7, some 87), (8, some 88), (9, some 89), (10, some 90), (11, some 91), (12, some 92), (13, some 93), (14, some 94), (15, some 95), (16, some 96), (17, some 97), (18, some 98), (19, some 99), (20, some 100), (21, some 101), (22, some 102), (24, some 104), (26, some 106), (28, some 108), (31, some 111), (23, some 103), (25, some 105), (27, some 107), (29, some 109), (32, some 112), (33, some 113), (34, some 114), (30, some 110), (35, some 115), (36, some 116), (37, some 117), (38, some 118), (39, some 119), (40, some 120), (41, some 4)] (by kernel_rfl) rfl (by kernel_rfl) (by kernel_rfl) (by kernel_rfl) (by repeat (first | (with_reducible first | exact Below.refl _ _ | apply below_alloc | apply pw_below_drewN | apply below_drew1) | exact Below.refl _ _)) ?_
      intro HT_ HW_ w_ hHeld
      refine Evt.ow_call HT_ hHeld rfl rfl rfl (by kernel_rfl) Try.func17 (by kernel_rfl) rfl #[] (by rfl) (by (try simp only [List.map_toArray, List.map_cons, List.map_nil]); first | done | rfl | (simp only [List.length_drop, List.length_take]; rfl)) ?_
      (with_reducible refine (alive_any _).mono ?_)
      rintro e w_ ⟨rfl, hb⟩
      refine ⟨_, rfl, hb, fun hHeld_ => ?_⟩
      clear hHeld hb
      have hHeld := hHeld_
      clear hHeld_
      refine Evt.ow_norm (a' := ?_) ?_ ?_
      rotate_left
      · simp only [Act.put, List.setIfInBounds_toArray, List.set_cons_zero, List.set_cons_succ, i64_w, i32_w]; rfl
      iterate 33 (first | (refine Evt.ow_off (a' := ?_) HT_ rfl rfl (by rfl) (by kernel_rfl) (fun _ _ _ h => h) ?_ ?_; rotate_left; (· (try simp only [Act.put, List.setIfInBounds_toArray, List.set_cons_zero, List.set_cons_succ, i64_w, i32_w]); rfl)) | (refine Evt.ow_pure (a' := ?_) (v := ?_) HT_ rfl rfl rfl (by rfl) (by kernel_rfl) (fun _ _ _ h => h) ?_ ?_ ?_; rotate_left 2; (· intro w'; go_simp; with_reducible rfl); (· (try simp only [Act.put, List.setIfInBounds_toArray, List.set_cons_zero, List.set_cons_succ, i64_w, i32_w]); rfl)) | (refine Evt.ow_load (a' := ?_) (v := ?_) HT_ HW_ hHeld rfl rfl rfl (by rfl) (by kernel_rfl) (fun _ _ _ h => h) ?_ ?_ ?_; rotate_left 2; (· intro w' hS_; obtain ⟨s0, s1, s2, s3, s4, s5⟩ := KP.out w' hS_.out; go_simp; with_reducible rfl); (· (try simp only [Act.put, List.setIfInBounds_toArray, List.set_cons_zero, List.set_cons_succ, i64_w, i32_w]); rfl)))
      refine Evt.ow_value (a' := ?a8_) (v := ?v8_) (w1 := ?w18_) HT_ hHeld rfl rfl (by rfl) (by kernel_rfl) ?hr8_ ?hb8_ ?ha8_ ?h8_
      case hr8_ => (first | (go_simp; done) | (go_simp; refine ⟨?_, ?_⟩ <;> rfl) | (go_simp; rfl))
      case hb8_ => (repeat (first | (with_reducible first | exact Below.refl _ _ | apply below_alloc) | exact Below.refl _ _))
      case ha8_ => (simp only [Act.put, List.setIfInBounds_toArray, List.set_cons_zero, List.set_cons_succ, i64_w, i32_w]; rfl)
      intro hHeld_
      clear hHeld
      have hHeld := hHeld_
      clear hHeld_
      (first | (refine Evt.ow_off (a' := ?_) HT_ rfl rfl (by rfl) (by kernel_rfl) (fun _ _ _ h => h) ?_ ?_; rotate_left; (· (try simp only [Act.put, List.setIfInBounds_toArray, List.set_cons_zero, List.set_cons_succ, i64_w, i32_w]); rfl)) | (refine Evt.ow_pure (a' := ?_) (v := ?_) HT_ rfl rfl rfl (by rfl) (by kernel_rfl) (fun _ _ _ h => h) ?_ ?_ ?_; rotate_left 2; (· intro w'; go_simp; with_reducible rfl); (· (try simp only [Act.put, List.setIfInBounds_toArray, List.set_cons_zero, List.set_cons_succ, i64_w, i32_w]); rfl)) | (refine Evt.ow_load (a' := ?_) (v := ?_) HT_ HW_ hHeld rfl rfl rfl (by rfl) (by kernel_rfl) (fun _ _ _ h => h) ?_ ?_ ?_; rotate_left 2; (· intro w' hS_; obtain ⟨s0, s1, s2, s3, s4, s5⟩ := KP.out w' hS_.out; go_simp; with_reducible rfl); (· (try simp only [Act.put, List.setIfInBounds_toArray, List.set_cons_zero, List.set_cons_succ, i64_w, i32_w]); rfl)))
      refine Evt.ow_value (a' := ?a9_) (v := ?v9_) (w1 := ?w19_) HT_ hHeld rfl rfl (by rfl) (by kernel_rfl) ?hr9_ ?hb9_ ?ha9_ ?h9_
      case hr9_ => (first | (go_simp; done) | (go_simp; refine ⟨?_, ?_⟩ <;> rfl) | (go_simp; rfl))
      case hb9_ => (repeat (first | (with_reducible first | exact Below.refl _ _ | apply below_alloc) | exact Below.refl _ _))
      case ha9_ => (simp only [Act.put, List.setIfInBounds_toArray, List.set_cons_zero, List.set_cons_succ, i64_w, i32_w]; rfl)
      intro hHeld_
      clear hHeld
      have hHeld := hHeld_
      clear hHeld_
      iterate 5 (first | (refine Evt.ow_off (a' := ?_) HT_ rfl rfl (by rfl) (by kernel_rfl) (fun _ _ _ h => h) ?_ ?_; rotate_left; (· (try simp only [Act.put, List.setIfInBounds_toArray, List.set_cons_zero, List.set_cons_succ, i64_w, i32_w]); rfl)) | (refine Evt.ow_pure (a' := ?_) (v := ?_) HT_ rfl rfl rfl (by rfl) (by kernel_rfl) (fun _ _ _ h => h) ?_ ?_ ?_; rotate_left 2; (· intro w'; go_simp; with_reducible rfl); (· (try simp only [Act.put, List.setIfInBounds_toArray, List.set_cons_zero, List.set_cons_succ, i64_w, i32_w]); rfl)) | (refine Evt.ow_load (a' := ?_) (v := ?_) HT_ HW_ hHeld rfl rfl rfl (by rfl) (by kernel_rfl) (fun _ _ _ h => h) ?_ ?_ ?_; rotate_left 2; (· intro w' hS_; obtain ⟨s0, s1, s2, s3, s4, s5⟩ := KP.out w' hS_.out; go_simp; with_reducible rfl); (· (try simp only [Act.put, List.setIfInBounds_toArray, List.set_cons_zero, List.set_cons_succ, i64_w, i32_w]); rfl)))
      refine Evt.ow_done HT_ (by kernel_rfl) ?_
      refine Evt.gen_any (w0 := w13) hHeld.out ?_
      intro w14 hbx
      clear hHeld HT_ HW_ KP
      have n_BK2 := Aside0.mk (BK2.out.below hbx)
      have n_BK3 := Aside0.mk (BK3.out.below hbx)
      have n_BK5 := Aside0.mk (BK5.out.below hbx)
      have n_SN := Aside0.mk (SN.out.below hbx)
      have n_BK6 := Aside0.mk (BK6.out.below hbx)
      have n_HB := Aside0.mk (below_step HB.out hbx)
      clear HB BK2 BK3 BK5 SN BK6
      have BK2 := n_BK2
      have BK3 := n_BK3
      have BK5 := n_BK5
      have SN := n_SN
      have BK6 := n_BK6
      have HB := n_HB
      clear hbx n_BK2 n_BK3 n_BK5 n_SN n_BK6 n_HB
      have zBK2_0 : w14.cell? ⟨g2, 0, none⟩ = some (.int .u16 n0) := (blk_cell BK2.out.blk 0).trans rfl
      have zBK2_1 : w14.cell? ⟨g2, 1, none⟩ = some (.int .u16 n1) := (blk_cell BK2.out.blk 1).trans rfl
      have zBK2_2 : w14.cell? ⟨g2, 2, none⟩ = some (.int .u16 n2) := (blk_cell BK2.out.blk 2).trans rfl
      have zBK2_3 : w14.cell? ⟨g2, 3, none⟩ = some (.int .u16 n3) := (blk_cell BK2.out.blk 3).trans rfl
      have zBK3_0 : w14.cell? ⟨g3, 0, none⟩ = some (.int .i64 0) := (blk_cell BK3.out.blk 0).trans rfl
      have zBK3_1 : w14.cell? ⟨g3, 1, none⟩ = some (.int .i64 n) := (blk_cell BK3.out.blk 1).trans rfl
      have zBK5_0 : w14.cell? ⟨g5, 0, none⟩ = some (.int .i64 i) := (blk_cell BK5.out.blk 0).trans rfl
      have zBK5_1 : w14.cell? ⟨g5, 1, none⟩ = some (.int .i64 q) := (blk_cell BK5.out.blk 1).trans rfl
      have zBK5_2 : w14.cell? ⟨g5, 2, none⟩ = some (.int .i64 m) := (blk_cell BK5.out.blk 2).trans rfl
      have zBK5_3 : w14.cell? ⟨g5, 3, none⟩ = some (.int .i64 e) := (blk_cell BK5.out.blk 3).trans rfl
      have zBK6_0 : w14.cell? ⟨g6, 0, none⟩ = some (.slice X0 L0.length x0) := (blk_cell BK6.out.blk 0).trans rfl
      have zBK6_1 : w14.cell? ⟨g6, 1, none⟩ = some (.slice X1 L1.length x1) := (blk_cell BK6.out.blk 1).trans rfl
      have zBK6_2 : w14.cell? ⟨g6, 2, none⟩ = some (.slice X2 L2.length x2) := (blk_cell BK6.out.blk 2).trans rfl
      go_wp2
      go_ret
      exact ⟨rfl, HB.out⟩
      skip
  · rcases (show n < 0 ∨ (0 ≤ n ∧ n < q) ∨ q ≤ n by omega) with hn | hn | hn
    · have V := Aside0.mk (rdv_new (s := 1) (n := n) (f := 3) hLI.out hNf.out (by rw [if_neg (by decide), if_pos rfl, if_neg (by omega)]))
      have hn0 : decide (0 ≤ n) = false := decide_eq_false (by omega)
      skip
      skip
      have KP : Aside0 (∀ w', Below w12.heap.size w12 w' → (w'.cell? ⟨g3, 0, none⟩ = some (.int .i64 1) ∧ w'.cell? ⟨g3, 1, none⟩ = some (.int .i64 n) ∧ w'.cell? ⟨g5, 0, none⟩ = some (.int .i64 i) ∧ w'.cell? ⟨g5, 1, none⟩ = some (.int .i64 q) ∧ w'.cell? ⟨g5, 2, none⟩ = some (.int .i64 m) ∧ w'.cell? ⟨g5, 3, none⟩ = some (.int .i64 e) ∧ w'.cell? ⟨g6, 0, none⟩ = some (.slice X0 L0.length x0) ∧ w'.cell? ⟨g6, 1, none⟩ = some (.slice X1 L1.length x1) ∧ w'.cell? ⟨g6, 2, none⟩ = some (.slice X2 L2.length x2))) := Aside0.mk (fun w' hb => ⟨(blk_cell (BK3.out.below hb).blk 0).trans rfl, (blk_cell (BK3.out.below hb).blk 1).trans rfl, (blk_cell (BK5.out.below hb).blk 0).trans rfl, (blk_cell (BK5.out.below hb).blk 1).trans rfl, (blk_cell (BK5.out.below hb).blk 2).trans rfl, (blk_cell (BK5.out.below hb).blk 3).trans rfl, (blk_cell (BK6.out.below hb).blk 0).trans rfl, (blk_cell (BK6.out.below hb).blk 1).trans rfl, (blk_cell (BK6.out.below hb).blk 2).trans rfl⟩)
      clear zBK2_0 zBK2_1 zBK2_2 zBK2_3 zBK3_0 zBK3_1 zBK5_0 zBK5_1 zBK5_2 zBK5_3 zBK6_0 zBK6_1 zBK6_2
      refine Evt.ow_start (w0 := w12) (T := (true, [([], []), ([0], [0]), ([1, 1], [1]), ([], []), ([], []), ([2, 3, 4], [2, 3, 4]), ([5], [5]), ([6], [6]), ([6], [6]), ([7, 5, 0, 1, 2, 3, 4, 5, 6, 7], [7]), ([8, 9, 0, 1, 2, 3, 4, 5, 6, 7, 8, 9], [8])])) (B := [0, 1, 3, 0, 0, 31, 63, 127, 127, 255, 1023]) 11 [(0, some 72), (1, some 73), (3, some 75), (4, some 76), (2, some 74), (5, some 77), (6, some 71), (7, some 78), (8, some 79), (9, some 10), (10, some 11)] (by kernel_rfl) rfl (by kernel_rfl) (by kernel_rfl) (by kernel_rfl) (by repeat (first | (with_reducible first | exact Below.refl _ _ | apply below_alloc | apply pw_below_drewN | apply below_drew1) | exact Below.refl _ _)) ?_
      intro HT_ HW_ w_ hHeld
      iterate 4 (first | (refine Evt.ow_off (a' := ?_) HT_ rfl rfl (by rfl) (by kernel_rfl) (fun _ _ _ h => h) ?_ ?_; rotate_left; (· (try simp only [Act.put, List.setIfInBounds_toArray, List.set_cons_zero, List.set_cons_succ, i64_w, i32_w]); rfl)) | (refine Evt.ow_pure (a' := ?_) (v := ?_) HT_ rfl rfl rfl (by rfl) (by kernel_rfl) (fun _ _ _ h => h) ?_ ?_ ?_; rotate_left 2; (· intro w'; go_simp; with_reducible rfl); (· (try simp only [Act.put, List.setIfInBounds_toArray, List.set_cons_zero, List.set_cons_succ, i64_w, i32_w]); rfl)) | (refine Evt.ow_load (a' := ?_) (v := ?_) HT_ HW_ hHeld rfl rfl rfl (by rfl) (by kernel_rfl) (fun _ _ _ h => h) ?_ ?_ ?_; rotate_left 2; (· intro w' hS_; obtain ⟨s0, s1, s2, s3, s4, s5, s6, s7, s8⟩ := KP.out w' hS_.out; go_simp; with_reducible rfl); (· (try simp only [Act.put, List.setIfInBounds_toArray, List.set_cons_zero, List.set_cons_succ, i64_w, i32_w]); rfl)))
      refine Evt.ow_value (a' := ?a10_) (v := ?v10_) (w1 := ?w110_) HT_ hHeld rfl rfl (by rfl) (by kernel_rfl) ?hr10_ ?hb10_ ?ha10_ ?h10_
      case hr10_ => (first | (go_simp; done) | (go_simp; refine ⟨?_, ?_⟩ <;> rfl) | (go_simp; rfl))
      case hb10_ => (repeat (first | (with_reducible first | exact Below.refl _ _ | apply below_alloc) | exact Below.refl _ _))
      case ha10_ => (simp only [Act.put, List.setIfInBounds_toArray, List.set_cons_zero, List.set_cons_succ, i64_w, i32_w]; rfl)
      intro hHeld_
      clear hHeld
      have hHeld := hHeld_
      clear hHeld_
      refine Evt.ow_call HT_ hHeld rfl rfl rfl (by kernel_rfl) Try.func18 (by kernel_rfl) rfl #[.slice (some ⟨w_.heap.size, 0, none⟩) LI.length LI.length, .agg #[.slice X0 L0.length x0, .slice X1 L1.length x1, .slice X2 L2.length x2], .agg #[.int .i64 1, .int .i64 n]] (by rfl) (by (try simp only [List.map_toArray, List.map_cons, List.map_nil]); first | done | rfl | (simp only [List.length_drop, List.length_take]; rfl)) ?_
      (with_reducible refine (readN V.out (by repeat (first | (with_reducible first | exact rw_made LR.out LN.out _ | refine Rw.drewN' ?_ _ | refine Rw.drew' ?_) | exact rw_made LR.out LN.out _)) (SN.out.below hHeld.out)).mono ?_)
      rintro e w_ ⟨rfl, hb⟩
      refine ⟨_, rfl, hb, fun hHeld_ => ?_⟩
      clear hHeld hb
      have hHeld := hHeld_
      clear hHeld_
      refine Evt.ow_norm (a' := ?_) ?_ ?_
      rotate_left
      · simp only [Act.put, List.setIfInBounds_toArray, List.set_cons_zero, List.set_cons_succ, i64_w, i32_w]; rfl
      iterate 5 (first | (refine Evt.ow_off (a' := ?_) HT_ rfl rfl (by rfl) (by kernel_rfl) (fun _ _ _ h => h) ?_ ?_; rotate_left; (· (try simp only [Act.put, List.setIfInBounds_toArray, List.set_cons_zero, List.set_cons_succ, i64_w, i32_w]); rfl)) | (refine Evt.ow_pure (a' := ?_) (v := ?_) HT_ rfl rfl rfl (by rfl) (by kernel_rfl) (fun _ _ _ h => h) ?_ ?_ ?_; rotate_left 2; (· intro w'; go_simp; with_reducible rfl); (· (try simp only [Act.put, List.setIfInBounds_toArray, List.set_cons_zero, List.set_cons_succ, i64_w, i32_w]); rfl)) | (refine Evt.ow_load (a' := ?_) (v := ?_) HT_ HW_ hHeld rfl rfl rfl (by rfl) (by kernel_rfl) (fun _ _ _ h => h) ?_ ?_ ?_; rotate_left 2; (· intro w' hS_; obtain ⟨s0, s1, s2, s3, s4, s5, s6, s7, s8⟩ := KP.out w' hS_.out; go_simp; with_reducible rfl); (· (try simp only [Act.put, List.setIfInBounds_toArray, List.set_cons_zero, List.set_cons_succ, i64_w, i32_w]); rfl)))
      refine Evt.ow_done HT_ (by kernel_rfl) ?_
      refine Evt.gen_any (w0 := w12) hHeld.out ?_
      intro w13 hbx
      clear hHeld HT_ HW_ KP
      have n_BK2 := Aside0.mk (BK2.out.below hbx)
      have n_BK3 := Aside0.mk (BK3.out.below hbx)
      have n_BK5 := Aside0.mk (BK5.out.below hbx)
      have n_SN := Aside0.mk (SN.out.below hbx)
      have n_BK6 := Aside0.mk (BK6.out.below hbx)
      have n_HB := Aside0.mk (below_step HB.out hbx)
      clear HB BK2 BK3 BK5 SN BK6
      have BK2 := n_BK2
      have BK3 := n_BK3
      have BK5 := n_BK5
      have SN := n_SN
      have BK6 := n_BK6
      have HB := n_HB
      clear hbx n_BK2 n_BK3 n_BK5 n_SN n_BK6 n_HB
      have zBK2_0 : w13.cell? ⟨g2, 0, none⟩ = some (.int .u16 n0) := (blk_cell BK2.out.blk 0).trans rfl
      have zBK2_1 : w13.cell? ⟨g2, 1, none⟩ = some (.int .u16 n1) := (blk_cell BK2.out.blk 1).trans rfl
      have zBK2_2 : w13.cell? ⟨g2, 2, none⟩ = some (.int .u16 n2) := (blk_cell BK2.out.blk 2).trans rfl
      have zBK2_3 : w13.cell? ⟨g2, 3, none⟩ = some (.int .u16 n3) := (blk_cell BK2.out.blk 3).trans rfl
      have zBK3_0 : w13.cell? ⟨g3, 0, none⟩ = some (.int .i64 1) := (blk_cell BK3.out.blk 0).trans rfl
      have zBK3_1 : w13.cell? ⟨g3, 1, none⟩ = some (.int .i64 n) := (blk_cell BK3.out.blk 1).trans rfl
      have zBK5_0 : w13.cell? ⟨g5, 0, none⟩ = some (.int .i64 i) := (blk_cell BK5.out.blk 0).trans rfl
      have zBK5_1 : w13.cell? ⟨g5, 1, none⟩ = some (.int .i64 q) := (blk_cell BK5.out.blk 1).trans rfl
      have zBK5_2 : w13.cell? ⟨g5, 2, none⟩ = some (.int .i64 m) := (blk_cell BK5.out.blk 2).trans rfl
      have zBK5_3 : w13.cell? ⟨g5, 3, none⟩ = some (.int .i64 e) := (blk_cell BK5.out.blk 3).trans rfl
      have zBK6_0 : w13.cell? ⟨g6, 0, none⟩ = some (.slice X0 L0.length x0) := (blk_cell BK6.out.blk 0).trans rfl
      have zBK6_1 : w13.cell? ⟨g6, 1, none⟩ = some (.slice X1 L1.length x1) := (blk_cell BK6.out.blk 1).trans rfl
      have zBK6_2 : w13.cell? ⟨g6, 2, none⟩ = some (.slice X2 L2.length x2) := (blk_cell BK6.out.blk 2).trans rfl
      go_wp2_with fail
      have KP : Aside0 (∀ w', Below w13.heap.size w13 w' → (w'.cell? ⟨g3, 0, none⟩ = some (.int .i64 1) ∧ w'.cell? ⟨g3, 1, none⟩ = some (.int .i64 n) ∧ w'.cell? ⟨g5, 0, none⟩ = some (.int .i64 i) ∧ w'.cell? ⟨g5, 1, none⟩ = some (.int .i64 q) ∧ w'.cell? ⟨g5, 2, none⟩ = some (.int .i64 m) ∧ w'.cell? ⟨g5, 3, none⟩ = some (.int .i64 e))) := Aside0.mk (fun w' hb => ⟨(blk_cell (BK3.out.below hb).blk 0).trans rfl, (blk_cell (BK3.out.below hb).blk 1).trans rfl, (blk_cell (BK5.out.below hb).blk 0).trans rfl, (blk_cell (BK5.out.below hb).blk 1).trans rfl, (blk_cell (BK5.out.below hb).blk 2).trans rfl, (blk_cell (BK5.out.below hb).blk 3).trans rfl⟩)
      clear zBK2_0 zBK2_1 zBK2_2 zBK2_3 zBK3_0 zBK3_1 zBK5_0 zBK5_1 zBK5_2 zBK5_3 zBK6_0 zBK6_1 zBK6_2
      refine Evt.ow_start (w0 := w13) (T := (true, [([], []), ([0, 0], [0]), ([1], [1]), ([2, 1], [1, 2]), ([1, 3], [1, 3]), ([4, 1], [4]), ([5], [5]), ([6, 5], [5, 6]), ([5], [5]), ([8, 5], [5, 8]), ([9, 5], [5, 9]), ([10, 5, 5], [5, 10]), ([11], [11]), ([12, 11], [11, 12]), ([13, 11], [11, 13]), ([11, 14, 5], [5, 11, 14]), ([15, 11, 5], [5, 15]), ([16], [16]), ([17, 16], [16, 17]), ([18, 16], [16, 18]), ([16, 19, 5], [5, 16, 19]), ([20, 16, 5], [5, 20]), ([21], [21]), ([22, 21], [21, 22]), ([21], [21]), ([24, 21], [21, 24]), ([21], [21]), ([26, 21], [21, 26]), ([21], [21]), ([28, 21], [21, 28]), ([25, 27, 29, 21], [21, 25, 27, 29]), ([21], [21]), ([31, 21], [21, 31]), ([32, 21], [21, 32]), ([33, 21], [21, 33]), ([30, 34, 21], [21, 30, 34]), ([35, 21], [21, 35]), ([23, 36, 21], [21, 23, 36]), ([21, 37, 5], [5, 21, 37]), ([7, 38, 5], [5, 7, 38]), ([5, 39], [5, 39]), ([40, 21, 0, 1, 2, 3, 4, 5, 6, 7, 8, 9, 10, 11, 12, 13, 14, 15, 16, 17, 18, 19, 20, 21, 22, 23, 24, 25, 26, 27, 28, 29, 30, 31, 32, 33, 34, 35, 36, 37, 38, 39, 40], [40])])) (B := [0, 1, 3, 7, 15, 31, 63, 127, 63, 319, 831, 1855, 3903, 7999, 16191, 32575, 65343, 130879, 261951, 524095, 1048383, 2096959, 4194111, 8388415, 4194111, 20971327, 4194111, 71302975, 4194111, 272629567, 1061158719, 4194111, 2151677759, 6446645055, 15036579647, 34347155263, 68706893631, 137438953279, 274877906751, 549755813887, 1099511627775, 2199023255551]) 42 [(0, some 80), (1, some 81), (2, some 82), (3, some 83), (4, some 84), (5, some 85), (6, some 86), (7, some 87), (8, some 88), (9, some 89), (10, some 90), (11, some 91), (12, some 92), (13, some 93), (14, some 94), (15, some 95), (16, some 96), (17, some 97), (18, some 98), (19, some 99), (20, some 100), (21, some 101), (22, some 102), (23, some 103), (24, some 104), (25, some 105), (26, some 106), (27, some 107), (28, some 108), (29, some 109), (30, some 110), (31, some 111), (32, some 112), (33, some 113), (34, some 114), (35, some 115), (36, some 116), (37, some 117), (38, some 118), (39, some 119), (40, some 120), (41, some 4)] (by kernel_rfl) rfl (by kernel_rfl) (by kernel_rfl) (by kernel_rfl) (by repeat (first | (with_reducible first | exact Below.refl _ _ | apply below_alloc | apply pw_below_drewN | apply below_drew1) | exact Below.refl _ _)) ?_
      intro HT_ HW_ w_ hHeld
      refine Evt.ow_call HT_ hHeld rfl rfl rfl (by kernel_rfl) Try.func17 (by kernel_rfl) rfl #[] (by rfl) (by (try simp only [List.map_toArray, List.map_cons, List.map_nil]); first | done | rfl | (simp only [List.length_drop, List.length_take]; rfl)) ?_
      (with_reducible refine (alive_any _).mono ?_)
      rintro e w_ ⟨rfl, hb⟩
      refine ⟨_, rfl, hb, fun hHeld_ => ?_⟩
      clear hHeld hb
      have hHeld := hHeld_
      clear hHeld_
      refine Evt.ow_norm (a' := ?_) ?_ ?_
      rotate_left
      · simp only [Act.put, List.setIfInBounds_toArray, List.set_cons_zero, List.set_cons_succ, i64_w, i32_w]; rfl
      iterate 41 (first | (refine Evt.ow_off (a' := ?_) HT_ rfl rfl (by rfl) (by kernel_rfl) (fun _ _ _ h => h) ?_ ?_; rotate_left; (· (try simp only [Act.put, List.setIfInBounds_toArray, List.set_cons_zero, List.set_cons_succ, i64_w, i32_w]); rfl)) | (refine Evt.ow_pure (a' := ?_) (v := ?_) HT_ rfl rfl rfl (by rfl) (by kernel_rfl) (fun _ _ _ h => h) ?_ ?_ ?_; rotate_left 2; (· intro w'; go_simp; with_reducible rfl); (· (try simp only [Act.put, List.setIfInBounds_toArray, List.set_cons_zero, List.set_cons_succ, i64_w, i32_w]); rfl)) | (refine Evt.ow_load (a' := ?_) (v := ?_) HT_ HW_ hHeld rfl rfl rfl (by rfl) (by kernel_rfl) (fun _ _ _ h => h) ?_ ?_ ?_; rotate_left 2; (· intro w' hS_; obtain ⟨s0, s1, s2, s3, s4, s5⟩ := KP.out w' hS_.out; go_simp; with_reducible rfl); (· (try simp only [Act.put, List.setIfInBounds_toArray, List.set_cons_zero, List.set_cons_succ, i64_w, i32_w]); rfl)))
      refine Evt.ow_done HT_ (by kernel_rfl) ?_
      refine Evt.gen_any (w0 := w13) hHeld.out ?_
      intro w14 hbx
      clear hHeld HT_ HW_ KP
      have n_BK2 := Aside0.mk (BK2.out.below hbx)
      have n_BK3 := Aside0.mk (BK3.out.below hbx)
      have n_BK5 := Aside0.mk (BK5.out.below hbx)
      have n_SN := Aside0.mk (SN.out.below hbx)
      have n_BK6 := Aside0.mk (BK6.out.below hbx)
      have n_HB := Aside0.mk (below_step HB.out hbx)
      clear HB BK2 BK3 BK5 SN BK6
      have BK2 := n_BK2
      have BK3 := n_BK3
      have BK5 := n_BK5
      have SN := n_SN
      have BK6 := n_BK6
      have HB := n_HB
      clear hbx n_BK2 n_BK3 n_BK5 n_SN n_BK6 n_HB
      have zBK2_0 : w14.cell? ⟨g2, 0, none⟩ = some (.int .u16 n0) := (blk_cell BK2.out.blk 0).trans rfl
      have zBK2_1 : w14.cell? ⟨g2, 1, none⟩ = some (.int .u16 n1) := (blk_cell BK2.out.blk 1).trans rfl
      have zBK2_2 : w14.cell? ⟨g2, 2, none⟩ = some (.int .u16 n2) := (blk_cell BK2.out.blk 2).trans rfl
      have zBK2_3 : w14.cell? ⟨g2, 3, none⟩ = some (.int .u16 n3) := (blk_cell BK2.out.blk 3).trans rfl
      have zBK3_0 : w14.cell? ⟨g3, 0, none⟩ = some (.int .i64 1) := (blk_cell BK3.out.blk 0).trans rfl
      have zBK3_1 : w14.cell? ⟨g3, 1, none⟩ = some (.int .i64 n) := (blk_cell BK3.out.blk 1).trans rfl
      have zBK5_0 : w14.cell? ⟨g5, 0, none⟩ = some (.int .i64 i) := (blk_cell BK5.out.blk 0).trans rfl
      have zBK5_1 : w14.cell? ⟨g5, 1, none⟩ = some (.int .i64 q) := (blk_cell BK5.out.blk 1).trans rfl
      have zBK5_2 : w14.cell? ⟨g5, 2, none⟩ = some (.int .i64 m) := (blk_cell BK5.out.blk 2).trans rfl
      have zBK5_3 : w14.cell? ⟨g5, 3, none⟩ = some (.int .i64 e) := (blk_cell BK5.out.blk 3).trans rfl
      have zBK6_0 : w14.cell? ⟨g6, 0, none⟩ = some (.slice X0 L0.length x0) := (blk_cell BK6.out.blk 0).trans rfl
      have zBK6_1 : w14.cell? ⟨g6, 1, none⟩ = some (.slice X1 L1.length x1) := (blk_cell BK6.out.blk 1).trans rfl
      have zBK6_2 : w14.cell? ⟨g6, 2, none⟩ = some (.slice X2 L2.length x2) := (blk_cell BK6.out.blk 2).trans rfl
      go_wp2
      go_ret
      exact ⟨rfl, HB.out⟩
      skip
    · have V := Aside0.mk (rdv_new (s := 1) (n := n) (f := 0) hLI.out hNf.out (by rw [if_neg (by decide), if_pos rfl, if_pos (by omega)]))
      have hn0 : decide (0 ≤ n) = true := decide_eq_true (by omega)
      have hn1 : decide (n < q) = true := decide_eq_true (by omega)
      skip
      skip
      have KP : Aside0 (∀ w', Below w12.heap.size w12 w' → (w'.cell? ⟨g3, 0, none⟩ = some (.int .i64 1) ∧ w'.cell? ⟨g3, 1, none⟩ = some (.int .i64 n) ∧ w'.cell? ⟨g5, 0, none⟩ = some (.int .i64 i) ∧ w'.cell? ⟨g5, 1, none⟩ = some (.int .i64 q) ∧ w'.cell? ⟨g5, 2, none⟩ = some (.int .i64 m) ∧ w'.cell? ⟨g5, 3, none⟩ = some (.int .i64 e) ∧ w'.cell? ⟨g6, 0, none⟩ = some (.slice X0 L0.length x0) ∧ w'.cell? ⟨g6, 1, none⟩ = some (.slice X1 L1.length x1) ∧ w'.cell? ⟨g6, 2, none⟩ = some (.slice X2 L2.length x2))) := Aside0.mk (fun w' hb => ⟨(blk_cell (BK3.out.below hb).blk 0).trans rfl, (blk_cell (BK3.out.below hb).blk 1).trans rfl, (blk_cell (BK5.out.below hb).blk 0).trans rfl, (blk_cell (BK5.out.below hb).blk 1).trans rfl, (blk_cell (BK5.out.below hb).blk 2).trans rfl, (blk_cell (BK5.out.below hb).blk 3).trans rfl, (blk_cell (BK6.out.below hb).blk 0).trans rfl, (blk_cell (BK6.out.below hb).blk 1).trans rfl, (blk_cell (BK6.out.below hb).blk 2).trans rfl⟩)
      clear zBK2_0 zBK2_1 zBK2_2 zBK2_3 zBK3_0 zBK3_1 zBK5_0 zBK5_1 zBK5_2 zBK5_3 zBK6_0 zBK6_1 zBK6_2
      refine Evt.ow_start (w0 := w12) (T := (true, [([], []), ([0], [0]), ([1, 1], [1]), ([], []), ([], []), ([2, 3, 4], [2, 3, 4]), ([5], [5]), ([6], [6]), ([6], [6]), ([7, 5, 0, 1, 2, 3, 4, 5, 6, 7], [7]), ([8, 9, 0, 1, 2, 3, 4, 5, 6, 7, 8, 9], [8])])) (B := [0, 1, 3, 0, 0, 31, 63, 127, 127, 255, 1023]) 11 [(0, some 72), (1, some 73), (3, some 75), (4, some 76), (2, some 74), (5, some 77), (6, some 71), (7, some 78), (8, some 79), (9, some 10), (10, some 11)] (by kernel_rfl) rfl (by kernel_rfl) (by kernel_rfl) (by kernel_rfl) (by repeat (first | (with_reducible first | exact Below.refl _ _ | apply below_alloc | apply pw_below_drewN | apply below_drew1) | exact Below.refl _ _)) ?_
      intro HT_ HW_ w_ hHeld
      iterate 4 (first | (refine Evt.ow_off (a' := ?_) HT_ rfl rfl (by rfl) (by kernel_rfl) (fun _ _ _ h => h) ?_ ?_; rotate_left; (· (try simp only [Act.put, List.setIfInBounds_toArray, List.set_cons_zero, List.set_cons_succ, i64_w, i32_w]); rfl)) | (refine Evt.ow_pure (a' := ?_) (v := ?_) HT_ rfl rfl rfl (by rfl) (by kernel_rfl) (fun _ _ _ h => h) ?_ ?_ ?_; rotate_left 2; (· intro w'; go_simp; with_reducible rfl); (· (try simp only [Act.put, List.setIfInBounds_toArray, List.set_cons_zero, List.set_cons_succ, i64_w, i32_w]); rfl)) | (refine Evt.ow_load (a' := ?_) (v := ?_) HT_ HW_ hHeld rfl rfl rfl (by rfl) (by kernel_rfl) (fun _ _ _ h => h) ?_ ?_ ?_; rotate_left 2; (· intro w' hS_; obtain ⟨s0, s1, s2, s3, s4, s5, s6, s7, s8⟩ := KP.out w' hS_.out; go_simp; with_reducible rfl); (· (try simp only [Act.put, List.setIfInBounds_toArray, List.set_cons_zero, List.set_cons_succ, i64_w, i32_w]); rfl)))
      refine Evt.ow_value (a' := ?a11_) (v := ?v11_) (w1 := ?w111_) HT_ hHeld rfl rfl (by rfl) (by kernel_rfl) ?hr11_ ?hb11_ ?ha11_ ?h11_
      case hr11_ => (first | (go_simp; done) | (go_simp; refine ⟨?_, ?_⟩ <;> rfl) | (go_simp; rfl))
      case hb11_ => (repeat (first | (with_reducible first | exact Below.refl _ _ | apply below_alloc) | exact Below.refl _ _))
      case ha11_ => (simp only [Act.put, List.setIfInBounds_toArray, List.set_cons_zero, List.set_cons_succ, i64_w, i32_w]; rfl)
      intro hHeld_
      clear hHeld
      have hHeld := hHeld_
      clear hHeld_
      refine Evt.ow_call HT_ hHeld rfl rfl rfl (by kernel_rfl) Try.func18 (by kernel_rfl) rfl #[.slice (some ⟨w_.heap.size, 0, none⟩) LI.length LI.length, .agg #[.slice X0 L0.length x0, .slice X1 L1.length x1, .slice X2 L2.length x2], .agg #[.int .i64 1, .int .i64 n]] (by rfl) (by (try simp only [List.map_toArray, List.map_cons, List.map_nil]); first | done | rfl | (simp only [List.length_drop, List.length_take]; rfl)) ?_
      (with_reducible refine (readN V.out (by repeat (first | (with_reducible first | exact rw_made LR.out LN.out _ | refine Rw.drewN' ?_ _ | refine Rw.drew' ?_) | exact rw_made LR.out LN.out _)) (SN.out.below hHeld.out)).mono ?_)
      rintro e w_ ⟨rfl, hb⟩
      refine ⟨_, rfl, hb, fun hHeld_ => ?_⟩
      clear hHeld hb
      have hHeld := hHeld_
      clear hHeld_
      refine Evt.ow_norm (a' := ?_) ?_ ?_
      rotate_left
      · simp only [Act.put, List.setIfInBounds_toArray, List.set_cons_zero, List.set_cons_succ, i64_w, i32_w]; rfl
      iterate 5 (first | (refine Evt.ow_off (a' := ?_) HT_ rfl rfl (by rfl) (by kernel_rfl) (fun _ _ _ h => h) ?_ ?_; rotate_left; (· (try simp only [Act.put, List.setIfInBounds_toArray, List.set_cons_zero, List.set_cons_succ, i64_w, i32_w]); rfl)) | (refine Evt.ow_pure (a' := ?_) (v := ?_) HT_ rfl rfl rfl (by rfl) (by kernel_rfl) (fun _ _ _ h => h) ?_ ?_ ?_; rotate_left 2; (· intro w'; go_simp; with_reducible rfl); (· (try simp only [Act.put, List.setIfInBounds_toArray, List.set_cons_zero, List.set_cons_succ, i64_w, i32_w]); rfl)) | (refine Evt.ow_load (a' := ?_) (v := ?_) HT_ HW_ hHeld rfl rfl rfl (by rfl) (by kernel_rfl) (fun _ _ _ h => h) ?_ ?_ ?_; rotate_left 2; (· intro w' hS_; obtain ⟨s0, s1, s2, s3, s4, s5, s6, s7, s8⟩ := KP.out w' hS_.out; go_simp; with_reducible rfl); (· (try simp only [Act.put, List.setIfInBounds_toArray, List.set_cons_zero, List.set_cons_succ, i64_w, i32_w]); rfl)))
      refine Evt.ow_done HT_ (by kernel_rfl) ?_
      refine Evt.gen_any (w0 := w12) hHeld.out ?_
      intro w13 hbx
      clear hHeld HT_ HW_ KP
      have n_BK2 := Aside0.mk (BK2.out.below hbx)
      have n_BK3 := Aside0.mk (BK3.out.below hbx)
      have n_BK5 := Aside0.mk (BK5.out.below hbx)
      have n_SN := Aside0.mk (SN.out.below hbx)
      have n_BK6 := Aside0.mk (BK6.out.below hbx)
      have n_HB := Aside0.mk (below_step HB.out hbx)
      clear HB BK2 BK3 BK5 SN BK6
      have BK2 := n_BK2
      have BK3 := n_BK3
      have BK5 := n_BK5
      have SN := n_SN
      have BK6 := n_BK6
      have HB := n_HB
      clear hbx n_BK2 n_BK3 n_BK5 n_SN n_BK6 n_HB
      have zBK2_0 : w13.cell? ⟨g2, 0, none⟩ = some (.int .u16 n0) := (blk_cell BK2.out.blk 0).trans rfl
      have zBK2_1 : w13.cell? ⟨g2, 1, none⟩ = some (.int .u16 n1) := (blk_cell BK2.out.blk 1).trans rfl
      have zBK2_2 : w13.cell? ⟨g2, 2, none⟩ = some (.int .u16 n2) := (blk_cell BK2.out.blk 2).trans rfl
      have zBK2_3 : w13.cell? ⟨g2, 3, none⟩ = some (.int .u16 n3) := (blk_cell BK2.out.blk 3).trans rfl
      have zBK3_0 : w13.cell? ⟨g3, 0, none⟩ = some (.int .i64 1) := (blk_cell BK3.out.blk 0).trans rfl
      have zBK3_1 : w13.cell? ⟨g3, 1, none⟩ = some (.int .i64 n) := (blk_cell BK3.out.blk 1).trans rfl
      have zBK5_0 : w13.cell? ⟨g5, 0, none⟩ = some (.int .i64 i) := (blk_cell BK5.out.blk 0).trans rfl
      have zBK5_1 : w13.cell? ⟨g5, 1, none⟩ = some (.int .i64 q) := (blk_cell BK5.out.blk 1).trans rfl
      have zBK5_2 : w13.cell? ⟨g5, 2, none⟩ = some (.int .i64 m) := (blk_cell BK5.out.blk 2).trans rfl
      have zBK5_3 : w13.cell? ⟨g5, 3, none⟩ = some (.int .i64 e) := (blk_cell BK5.out.blk 3).trans rfl
      have zBK6_0 : w13.cell? ⟨g6, 0, none⟩ = some (.slice X0 L0.length x0) := (blk_cell BK6.out.blk 0).trans rfl
      have zBK6_1 : w13.cell? ⟨g6, 1, none⟩ = some (.slice X1 L1.length x1) := (blk_cell BK6.out.blk 1).trans rfl
      have zBK6_2 : w13.cell? ⟨g6, 2, none⟩ = some (.slice X2 L2.length x2) := (blk_cell BK6.out.blk 2).trans rfl
      go_wp2_with fail
      have KP : Aside0 (∀ w', Below w13.heap.size w13 w' → (w'.cell? ⟨g3, 0, none⟩ = some (.int .i64 1) ∧ w'.cell? ⟨g3, 1, none⟩ = some (.int .i64 n) ∧ w'.cell? ⟨g5, 0, none⟩ = some (.int .i64 i) ∧ w'.cell? ⟨g5, 1, none⟩ = some (.int .i64 q) ∧ w'.cell? ⟨g5, 2, none⟩ = some (.int .i64 m) ∧ w'.cell? ⟨g5, 3, none⟩ = some (.int .i64 e))) := Aside0.mk (fun w' hb => ⟨(blk_cell (BK3.out.below hb).blk 0).trans rfl, (blk_cell (BK3.out.below hb).blk 1).trans rfl, (blk_cell (BK5.out.below hb).blk 0).trans rfl, (blk_cell (BK5.out.below hb).blk 1).trans rfl, (blk_cell (BK5.out.below hb).blk 2).trans rfl, (blk_cell (BK5.out.below hb).blk 3).trans rfl⟩)
      clear zBK2_0 zBK2_1 zBK2_2 zBK2_3 zBK3_0 zBK3_1 zBK5_0 zBK5_1 zBK5_2 zBK5_3 zBK6_0 zBK6_1 zBK6_2
      refine Evt.ow_start (w0 := w13) (T := (true, [([], []), ([0, 0], [0]), ([1], [1]), ([2, 1], [1, 2]), ([1, 3], [1, 3]), ([4, 1], [4]), ([5], [5]), ([6, 5], [5, 6]), ([5], [5]), ([8, 5], [5, 8]), ([9, 5], [5, 9]), ([10, 5, 5], [5, 10]), ([11], [11]), ([12, 11], [11, 12]), ([13, 11], [11, 13]), ([11, 14, 5], [5, 11, 14]), ([15, 11, 5], [5, 15]), ([16], [16]), ([17, 16], [16, 17]), ([18, 16], [16, 18]), ([16, 19, 5], [5, 16, 19]), ([20, 16, 5], [5, 20]), ([21], [21]), ([22, 21], [21, 22]), ([21], [21]), ([24, 21], [21, 24]), ([21], [21]), ([26, 21], [21, 26]), ([21], [21]), ([28, 21], [21, 28]), ([25, 27, 29, 21], [21, 25, 27, 29]), ([21], [21]), ([31, 21], [21, 31]), ([32, 21], [21, 32]), ([33, 21], [21, 33]), ([30, 34, 21], [21, 30, 34]), ([35, 21], [21, 35]), ([23, 36, 21], [21, 23, 36]), ([21, 37, 5], [5, 21, 37]), ([7, 38, 5], [5, 7, 38]), ([5, 39], [5, 39]), ([40, 21, 0, 1, 2, 3, 4, 5, 6, 7, 8, 9, 10, 11, 12, 13, 14, 15, 16, 17, 18, 19, 20, 21, 22, 23, 24, 25, 26, 27, 28, 29, 30, 31, 32, 33, 34, 35, 36, 37, 38, 39, 40], [40])])) (B := [0, 1, 3, 7, 15, 31, 63, 127, 63, 319, 831, 1855, 3903, 7999, 16191, 32575, 65343, 130879, 261951, 524095, 1048383, 2096959, 4194111, 8388415, 4194111, 20971327, 4194111, 71302975, 4194111, 272629567, 1061158719, 4194111, 2151677759, 6446645055, 15036579647, 34347155263, 68706893631, 137438953279, 274877906751, 549755813887, 1099511627775, 2199023255551]) 42 [(0, some 80), (1, some 81), (2, some 82), (3, some 83), (4, some 84), (5, some 85), (6, some 86), (7, some 87), (8, some 88), (9, some 89), (10, some 90), (11, some 91), (12, some 92), (13, some 93), (14, some 94), (15, some 95), (16, some 96), (17, some 97), (18, some 98), (19, some 99), (20, some 100), (21, some 101), (22, some 102), (24, some 104), (26, some 106), (28, some 108), (31, some 111), (23, some 103), (25, some 105), (27, some 107), (29, some 109), (32, some 112), (33, some 113), (34, some 114), (30, some 110), (35, some 115), (36, some 116), (37, some 117), (38, some 118), (39, some 119), (40, some 120), (41, some 4)] (by kernel_rfl) rfl (by kernel_rfl) (by kernel_rfl) (by kernel_rfl) (by repeat (first | (with_reducible first | exact Below.refl _ _ | apply below_alloc | apply pw_below_drewN | apply below_drew1) | exact Below.refl _ _)) ?_
      intro HT_ HW_ w_ hHeld
      refine Evt.ow_call HT_ hHeld rfl rfl rfl (by kernel_rfl) Try.func17 (by kernel_rfl) rfl #[] (by rfl) (by (try simp only [List.map_toArray, List.map_cons, List.map_nil]); first | done | rfl | (simp only [List.length_drop, List.length_take]; rfl)) ?_
      (with_reducible refine (alive_any _).mono ?_)
      rintro e w_ ⟨rfl, hb⟩
      refine ⟨_, rfl, hb, fun hHeld_ => ?_⟩
      clear hHeld hb
      have hHeld := hHeld_
      clear hHeld_
      refine Evt.ow_norm (a' := ?_) ?_ ?_
      rotate_left
      · simp only [Act.put, List.setIfInBounds_toArray, List.set_cons_zero, List.set_cons_succ, i64_w, i32_w]; rfl
      iterate 33 (first | (refine Evt.ow_off (a' := ?_) HT_ rfl rfl (by rfl) (by kernel_rfl) (fun _ _ _ h => h) ?_ ?_; rotate_left; (· (try simp only [Act.put, List.setIfInBounds_toArray, List.set_cons_zero, List.set_cons_succ, i64_w, i32_w]); rfl)) | (refine Evt.ow_pure (a' := ?_) (v := ?_) HT_ rfl rfl rfl (by rfl) (by kernel_rfl) (fun _ _ _ h => h) ?_ ?_ ?_; rotate_left 2; (· intro w'; go_simp; with_reducible rfl); (· (try simp only [Act.put, List.setIfInBounds_toArray, List.set_cons_zero, List.set_cons_succ, i64_w, i32_w]); rfl)) | (refine Evt.ow_load (a' := ?_) (v := ?_) HT_ HW_ hHeld rfl rfl rfl (by rfl) (by kernel_rfl) (fun _ _ _ h => h) ?_ ?_ ?_; rotate_left 2; (· intro w' hS_; obtain ⟨s0, s1, s2, s3, s4, s5⟩ := KP.out w' hS_.out; go_simp; with_reducible rfl); (· (try simp only [Act.put, List.setIfInBounds_toArray, List.set_cons_zero, List.set_cons_succ, i64_w, i32_w]); rfl)))
      refine Evt.ow_value (a' := ?a12_) (v := ?v12_) (w1 := ?w112_) HT_ hHeld rfl rfl (by rfl) (by kernel_rfl) ?hr12_ ?hb12_ ?ha12_ ?h12_
      case hr12_ => (first | (go_simp; done) | (go_simp; refine ⟨?_, ?_⟩ <;> rfl) | (go_simp; rfl))
      case hb12_ => (repeat (first | (with_reducible first | exact Below.refl _ _ | apply below_alloc) | exact Below.refl _ _))
      case ha12_ => (simp only [Act.put, List.setIfInBounds_toArray, List.set_cons_zero, List.set_cons_succ, i64_w, i32_w]; rfl)
      intro hHeld_
      clear hHeld
      have hHeld := hHeld_
      clear hHeld_
      (first | (refine Evt.ow_off (a' := ?_) HT_ rfl rfl (by rfl) (by kernel_rfl) (fun _ _ _ h => h) ?_ ?_; rotate_left; (· (try simp only [Act.put, List.setIfInBounds_toArray, List.set_cons_zero, List.set_cons_succ, i64_w, i32_w]); rfl)) | (refine Evt.ow_pure (a' := ?_) (v := ?_) HT_ rfl rfl rfl (by rfl) (by kernel_rfl) (fun _ _ _ h => h) ?_ ?_ ?_; rotate_left 2; (· intro w'; go_simp; with_reducible rfl); (· (try simp only [Act.put, List.setIfInBounds_toArray, List.set_cons_zero, List.set_cons_succ, i64_w, i32_w]); rfl)) | (refine Evt.ow_load (a' := ?_) (v := ?_) HT_ HW_ hHeld rfl rfl rfl (by rfl) (by kernel_rfl) (fun _ _ _ h => h) ?_ ?_ ?_; rotate_left 2; (· intro w' hS_; obtain ⟨s0, s1, s2, s3, s4, s5⟩ := KP.out w' hS_.out; go_simp; with_reducible rfl); (· (try simp only [Act.put, List.setIfInBounds_toArray, List.set_cons_zero, List.set_cons_succ, i64_w, i32_w]); rfl)))
      refine Evt.ow_value (a' := ?a13_) (v := ?v13_) (w1 := ?w113_) HT_ hHeld rfl rfl (by rfl) (by kernel_rfl) ?hr13_ ?hb13_ ?ha13_ ?h13_
      case hr13_ => (first | (go_simp; done) | (go_simp; refine ⟨?_, ?_⟩ <;> rfl) | (go_simp; rfl))
      case hb13_ => (repeat (first | (with_reducible first | exact Below.refl _ _ | apply below_alloc) | exact Below.refl _ _))
      case ha13_ => (simp only [Act.put, List.setIfInBounds_toArray, List.set_cons_zero, List.set_cons_succ, i64_w, i32_w]; rfl)
      intro hHeld_
      clear hHeld
      have hHeld := hHeld_
      clear hHeld_
      iterate 5 (first | (refine Evt.ow_off (a' := ?_) HT_ rfl rfl (by rfl) (by kernel_rfl) (fun _ _ _ h => h) ?_ ?_; rotate_left; (· (try simp only [Act.put, List.setIfInBounds_toArray, List.set_cons_zero, List.set_cons_succ, i64_w, i32_w]); rfl)) | (refine Evt.ow_pure (a' := ?_) (v := ?_) HT_ rfl rfl rfl (by rfl) (by kernel_rfl) (fun _ _ _ h => h) ?_ ?_ ?_; rotate_left 2; (· intro w'; go_simp; with_reducible rfl); (· (try simp only [Act.put, List.setIfInBounds_toArray, List.set_cons_zero, List.set_cons_succ, i64_w, i32_w]); rfl)) | (refine Evt.ow_load (a' := ?_) (v := ?_) HT_ HW_ hHeld rfl rfl rfl (by rfl) (by kernel_rfl) (fun _ _ _ h => h) ?_ ?_ ?_; rotate_left 2; (· intro w' hS_; obtain ⟨s0, s1, s2, s3, s4, s5⟩ := KP.out w' hS_.out; go_simp; with_reducible rfl); (· (try simp only [Act.put, List.setIfInBounds_toArray, List.set_cons_zero, List.set_cons_succ, i64_w, i32_w]); rfl)))
      refine Evt.ow_done HT_ (by kernel_rfl) ?_
      refine Evt.gen_any (w0 := w13) hHeld.out ?_
      intro w14 hbx
      clear hHeld HT_ HW_ KP
      have n_BK2 := Aside0.mk (BK2.out.below hbx)
      have n_BK3 := Aside0.mk (BK3.out.below hbx)
      have n_BK5 := Aside0.mk (BK5.out.below hbx)
      have n_SN := Aside0.mk (SN.out.below hbx)
      have n_BK6 := Aside0.mk (BK6.out.below hbx)
      have n_HB := Aside0.mk (below_step HB.out hbx)
      clear HB BK2 BK3 BK5 SN BK6
      have BK2 := n_BK2
      have BK3 := n_BK3
      have BK5 := n_BK5
      have SN := n_SN
      have BK6 := n_BK6
      have HB := n_HB
      clear hbx n_BK2 n_BK3 n_BK5 n_SN n_BK6 n_HB
      have zBK2_0 : w14.cell? ⟨g2, 0, none⟩ = some (.int .u16 n0) := (blk_cell BK2.out.blk 0).trans rfl
      have zBK2_1 : w14.cell? ⟨g2, 1, none⟩ = some (.int .u16 n1) := (blk_cell BK2.out.blk 1).trans rfl
      have zBK2_2 : w14.cell? ⟨g2, 2, none⟩ = some (.int .u16 n2) := (blk_cell BK2.out.blk 2).trans rfl
      have zBK2_3 : w14.cell? ⟨g2, 3, none⟩ = some (.int .u16 n3) := (blk_cell BK2.out.blk 3).trans rfl
      have zBK3_0 : w14.cell? ⟨g3, 0, none⟩ = some (.int .i64 1) := (blk_cell BK3.out.blk 0).trans rfl
      have zBK3_1 : w14.cell? ⟨g3, 1, none⟩ = some (.int .i64 n) := (blk_cell BK3.out.blk 1).trans rfl
      have zBK5_0 : w14.cell? ⟨g5, 0, none⟩ = some (.int .i64 i) := (blk_cell BK5.out.blk 0).trans rfl
      have zBK5_1 : w14.cell? ⟨g5, 1, none⟩ = some (.int .i64 q) := (blk_cell BK5.out.blk 1).trans rfl
      have zBK5_2 : w14.cell? ⟨g5, 2, none⟩ = some (.int .i64 m) := (blk_cell BK5.out.blk 2).trans rfl
      have zBK5_3 : w14.cell? ⟨g5, 3, none⟩ = some (.int .i64 e) := (blk_cell BK5.out.blk 3).trans rfl
      have zBK6_0 : w14.cell? ⟨g6, 0, none⟩ = some (.slice X0 L0.length x0) := (blk_cell BK6.out.blk 0).trans rfl
      have zBK6_1 : w14.cell? ⟨g6, 1, none⟩ = some (.slice X1 L1.length x1) := (blk_cell BK6.out.blk 1).trans rfl
      have zBK6_2 : w14.cell? ⟨g6, 2, none⟩ = some (.slice X2 L2.length x2) := (blk_cell BK6.out.blk 2).trans rfl
      go_wp2
      go_ret
      exact ⟨rfl, HB.out⟩
      skip
    · have V := Aside0.mk (rdv_new (s := 1) (n := n) (f := 3) hLI.out hNf.out (by rw [if_neg (by decide), if_pos rfl, if_neg (by omega)]))
      have hn0 : decide (0 ≤ n) = true := decide_eq_true (by omega)
      have hn1 : decide (n < q) = false := decide_eq_false (by omega)
      skip
      skip
      have KP : Aside0 (∀ w', Below w12.heap.size w12 w' → (w'.cell? ⟨g3, 0, none⟩ = some (.int .i64 1) ∧ w'.cell? ⟨g3, 1, none⟩ = some (.int .i64 n) ∧ w'.cell? ⟨g5, 0, none⟩ = some (.int .i64 i) ∧ w'.cell? ⟨g5, 1, none⟩ = some (.int .i64 q) ∧ w'.cell? ⟨g5, 2, none⟩ = some (.int .i64 m) ∧ w'.cell? ⟨g5, 3, none⟩ = some (.int .i64 e) ∧ w'.cell? ⟨g6, 0, none⟩ = some (.slice X0 L0.length x0) ∧ w'.cell? ⟨g6, 1, none⟩ = some (.slice X1 L1.length x1) ∧ w'.cell? ⟨g6, 2, none⟩ = some (.slice X2 L2.length x2))) := Aside0.mk (fun w' hb => ⟨(blk_cell (BK3.out.below hb).blk 0).trans rfl, (blk_cell (BK3.out.below hb).blk 1).trans rfl, (blk_cell (BK5.out.below hb).blk 0).trans rfl, (blk_cell (BK5.out.below hb).blk 1).trans rfl, (blk_cell (BK5.out.below hb).blk 2).trans rfl, (blk_cell (BK5.out.below hb).blk 3).trans rfl, (blk_cell (BK6.out.below hb).blk 0).trans rfl, (blk_cell (BK6.out.below hb).blk 1).trans rfl, (blk_cell (BK6.out.below hb).blk 2).trans rfl⟩)
      clear zBK2_0 zBK2_1 zBK2_2 zBK2_3 zBK3_0 zBK3_1 zBK5_0 zBK5_1 zBK5_2 zBK5_3 zBK6_0 zBK6_1 zBK6_2
      refine Evt.ow_start (w0 := w12) (T := (true, [([], []), ([0], [0]), ([1, 1], [1]), ([], []), ([], []), ([2, 3, 4], [2, 3, 4]), ([5], [5]), ([6], [6]), ([6], [6]), ([7, 5, 0, 1, 2, 3, 4, 5, 6, 7], [7]), ([8, 9, 0, 1, 2, 3, 4, 5, 6, 7, 8, 9], [8])])) (B := [0, 1, 3, 0, 0, 31, 63, 127, 127, 255, 1023]) 11 [(0, some 72), (1, some 73), (3, some 75), (4, some 76), (2, some 74), (5, some 77), (6, some 71), (7, some 78), (8, some 79), (9, some 10), (10, some 11)] (by kernel_rfl) rfl (by kernel_rfl) (by kernel_rfl) (by kernel_rfl) (by repeat (first | (with_reducible first | exact Below.refl _ _ | apply below_alloc | apply pw_below_drewN | apply below_drew1) | exact Below.refl _ _)) ?_
      intro HT_ HW_ w_ hHeld
      iterate 4 (first | (refine Evt.ow_off (a' := ?_) HT_ rfl rfl (by rfl) (by kernel_rfl) (fun _ _ _ h => h) ?_ ?_; rotate_left; (· (try simp only [Act.put, List.setIfInBounds_toArray, List.set_cons_zero, List.set_cons_succ, i64_w, i32_w]); rfl)) | (refine Evt.ow_pure (a' := ?_) (v := ?_) HT_ rfl rfl rfl (by rfl) (by kernel_rfl) (fun _ _ _ h => h) ?_ ?_ ?_; rotate_left 2; (· intro w'; go_simp; with_reducible rfl); (· (try simp only [Act.put, List.setIfInBounds_toArray, List.set_cons_zero, List.set_cons_succ, i64_w, i32_w]); rfl)) | (refine Evt.ow_load (a' := ?_) (v := ?_) HT_ HW_ hHeld rfl rfl rfl (by rfl) (by kernel_rfl) (fun _ _ _ h => h) ?_ ?_ ?_; rotate_left 2; (· intro w' hS_; obtain ⟨s0, s1, s2, s3, s4, s5, s6, s7, s8⟩ := KP.out w' hS_.out; go_simp; with_reducible rfl); (· (try simp only [Act.put, List.setIfInBounds_toArray, List.set_cons_zero, List.set_cons_succ, i64_w, i32_w]); rfl)))
      refine Evt.ow_value (a' := ?a14_) (v := ?v14_) (w1 := ?w114_) HT_ hHeld rfl rfl (by rfl) (by kernel_rfl) ?hr14_ ?hb14_ ?ha14_ ?h14_
      case hr14_ => (first | (go_simp; done) | (go_simp; refine ⟨?_, ?_⟩ <;> rfl) | (go_simp; rfl))
      case hb14_ => (repeat (first | (with_reducible first | exact Below.refl _ _ | apply below_alloc) | exact Below.refl _ _))
      case ha14_ => (simp only [Act.put, List.setIfInBounds_toArray, List.set_cons_zero, List.set_cons_succ, i64_w, i32_w]; rfl)
      intro hHeld_
      clear hHeld
      have hHeld := hHeld_
      clear hHeld_
      refine Evt.ow_call HT_ hHeld rfl rfl rfl (by kernel_rfl) Try.func18 (by kernel_rfl) rfl #[.slice (some ⟨w_.heap.size, 0, none⟩) LI.length LI.length, .agg #[.slice X0 L0.length x0, .slice X1 L1.length x1, .slice X2 L2.length x2], .agg #[.int .i64 1, .int .i64 n]] (by rfl) (by (try simp only [List.map_toArray, List.map_cons, List.map_nil]); first | done | rfl | (simp only [List.length_drop, List.length_take]; rfl)) ?_
      (with_reducible refine (readN V.out (by repeat (first | (with_reducible first | exact rw_made LR.out LN.out _ | refine Rw.drewN' ?_ _ | refine Rw.drew' ?_) | exact rw_made LR.out LN.out _)) (SN.out.below hHeld.out)).mono ?_)
      rintro e w_ ⟨rfl, hb⟩
      refine ⟨_, rfl, hb, fun hHeld_ => ?_⟩
      clear hHeld hb
      have hHeld := hHeld_
      clear hHeld_
      refine Evt.ow_norm (a' := ?_) ?_ ?_
      rotate_left
      · simp only [Act.put, List.setIfInBounds_toArray, List.set_cons_zero, List.set_cons_succ, i64_w, i32_w]; rfl
      iterate 5 (first | (refine Evt.ow_off (a' := ?_) HT_ rfl rfl (by rfl) (by kernel_rfl) (fun _ _ _ h => h) ?_ ?_; rotate_left; (· (try simp only [Act.put, List.setIfInBounds_toArray, List.set_cons_zero, List.set_cons_succ, i64_w, i32_w]); rfl)) | (refine Evt.ow_pure (a' := ?_) (v := ?_) HT_ rfl rfl rfl (by rfl) (by kernel_rfl) (fun _ _ _ h => h) ?_ ?_ ?_; rotate_left 2; (· intro w'; go_simp; with_reducible rfl); (· (try simp only [Act.put, List.setIfInBounds_toArray, List.set_cons_zero, List.set_cons_succ, i64_w, i32_w]); rfl)) | (refine Evt.ow_load (a' := ?_) (v := ?_) HT_ HW_ hHeld rfl rfl rfl (by rfl) (by kernel_rfl) (fun _ _ _ h => h) ?_ ?_ ?_; rotate_left 2; (· intro w' hS_; obtain ⟨s0, s1, s2, s3, s4, s5, s6, s7, s8⟩ := KP.out w' hS_.out; go_simp; with_reducible rfl); (· (try simp only [Act.put, List.setIfInBounds_toArray, List.set_cons_zero, List.set_cons_succ, i64_w, i32_w]); rfl)))
      refine Evt.ow_done HT_ (by kernel_rfl) ?_
      refine Evt.gen_any (w0 := w12) hHeld.out ?_
      intro w13 hbx
      clear hHeld HT_ HW_ KP
      have n_BK2 := Aside0.mk (BK2.out.below hbx)
      have n_BK3 := Aside0.mk (BK3.out.below hbx)
      have n_BK5 := Aside0.mk (BK5.out.below hbx)
      have n_SN := Aside0.mk (SN.out.below hbx)
      have n_BK6 := Aside0.mk (BK6.out.below hbx)
      have n_HB := Aside0.mk (below_step HB.out hbx)
      clear HB BK2 BK3 BK5 SN BK6
      have BK2 := n_BK2
      have BK3 := n_BK3
      have BK5 := n_BK5
      have SN := n_SN
      have BK6 := n_BK6
      have HB := n_HB
      clear hbx n_BK2 n_BK3 n_BK5 n_SN n_BK6 n_HB
      have zBK2_0 : w13.cell? ⟨g2, 0, none⟩ = some (.int .u16 n0) := (blk_cell BK2.out.blk 0).trans rfl
      have zBK2_1 : w13.cell? ⟨g2, 1, none⟩ = some (.int .u16 n1) := (blk_cell BK2.out.blk 1).trans rfl
      have zBK2_2 : w13.cell? ⟨g2, 2, none⟩ = some (.int .u16 n2) := (blk_cell BK2.out.blk 2).trans rfl
      have zBK2_3 : w13.cell? ⟨g2, 3, none⟩ = some (.int .u16 n3) := (blk_cell BK2.out.blk 3).trans rfl
      have zBK3_0 : w13.cell? ⟨g3, 0, none⟩ = some (.int .i64 1) := (blk_cell BK3.out.blk 0).trans rfl
      have zBK3_1 : w13.cell? ⟨g3, 1, none⟩ = some (.int .i64 n) := (blk_cell BK3.out.blk 1).trans rfl
      have zBK5_0 : w13.cell? ⟨g5, 0, none⟩ = some (.int .i64 i) := (blk_cell BK5.out.blk 0).trans rfl
      have zBK5_1 : w13.cell? ⟨g5, 1, none⟩ = some (.int .i64 q) := (blk_cell BK5.out.blk 1).trans rfl
      have zBK5_2 : w13.cell? ⟨g5, 2, none⟩ = some (.int .i64 m) := (blk_cell BK5.out.blk 2).trans rfl
      have zBK5_3 : w13.cell? ⟨g5, 3, none⟩ = some (.int .i64 e) := (blk_cell BK5.out.blk 3).trans rfl
      have zBK6_0 : w13.cell? ⟨g6, 0, none⟩ = some (.slice X0 L0.length x0) := (blk_cell BK6.out.blk 0).trans rfl
      have zBK6_1 : w13.cell? ⟨g6, 1, none⟩ = some (.slice X1 L1.length x1) := (blk_cell BK6.out.blk 1).trans rfl
      have zBK6_2 : w13.cell? ⟨g6, 2, none⟩ = some (.slice X2 L2.length x2) := (blk_cell BK6.out.blk 2).trans rfl
      go_wp2_with fail
      have KP : Aside0 (∀ w', Below w13.heap.size w13 w' → (w'.cell? ⟨g3, 0, none⟩ = some (.int .i64 1) ∧ w'.cell? ⟨g3, 1, none⟩ = some (.int .i64 n) ∧ w'.cell? ⟨g5, 0, none⟩ = some (.int .i64 i) ∧ w'.cell? ⟨g5, 1, none⟩ = some (.int .i64 q) ∧ w'.cell? ⟨g5, 2, none⟩ = some (.int .i64 m) ∧ w'.cell? ⟨g5, 3, none⟩ = some (.int .i64 e))) := Aside0.mk (fun w' hb => ⟨(blk_cell (BK3.out.below hb).blk 0).trans rfl, (blk_cell (BK3.out.below hb).blk 1).trans rfl, (blk_cell (BK5.out.below hb).blk 0).trans rfl, (blk_cell (BK5.out.below hb).blk 1).trans rfl, (blk_cell (BK5.out.below hb).blk 2).trans rfl, (blk_cell (BK5.out.below hb).blk 3).trans rfl⟩)
      clear zBK2_0 zBK2_1 zBK2_2 zBK2_3 zBK3_0 zBK3_1 zBK5_0 zBK5_1 zBK5_2 zBK5_3 zBK6_0 zBK6_1 zBK6_2
      refine Evt.ow_start (w0 := w13) (T := (true, [([], []), ([0, 0], [0]), ([1], [1]), ([2, 1], [1, 2]), ([1, 3], [1, 3]), ([4, 1], [4]), ([5], [5]), ([6, 5], [5, 6]), ([5], [5]), ([8, 5], [5, 8]), ([9, 5], [5, 9]), ([10, 5, 5], [5, 10]), ([11], [11]), ([12, 11], [11, 12]), ([13, 11], [11, 13]), ([11, 14, 5], [5, 11, 14]), ([15, 11, 5], [5, 15]), ([16], [16]), ([17, 16], [16, 17]), ([18, 16], [16, 18]), ([16, 19, 5], [5, 16, 19]), ([20, 16, 5], [5, 20]), ([21], [21]), ([22, 21], [21, 22]), ([21], [21]), ([24, 21], [21, 24]), ([21], [21]), ([26, 21], [21, 26]), ([21], [21]), ([28, 21], [21, 28]), ([25, 27, 29, 21], [21, 25, 27, 29]), ([21], [21]), ([31, 21], [21, 31]), ([32, 21], [21, 32]), ([33, 21], [21, 33]), ([30, 34, 21], [21, 30, 34]), ([35, 21], [21, 35]), ([23, 36, 21], [21, 23, 36]), ([21, 37, 5], [5, 21, 37]), ([7, 38, 5], [5, 7, 38]), ([5, 39], [5, 39]), ([40, 21, 0, 1, 2, 3, 4, 5, 6, 7, 8, 9, 10, 11, 12, 13, 14, 15, 16, 17, 18, 19, 20, 21, 22, 23, 24, 25, 26, 27, 28, 29, 30, 31, 32, 33, 34, 35, 36, 37, 38, 39, 40], [40])])) (B := [0, 1, 3, 7, 15, 31, 63, 127, 63, 319, 831, 1855, 3903, 7999, 16191, 32575, 65343, 130879, 261951, 524095, 1048383, 2096959, 4194111, 8388415, 4194111, 20971327, 4194111, 71302975, 4194111, 272629567, 1061158719, 4194111, 2151677759, 6446645055, 15036579647, 34347155263, 68706893631, 137438953279, 274877906751, 549755813887, 1099511627775, 2199023255551]) 42 [(0, some 80), (1, some 81), (2, some 82), (3, some 83), (4, some 84), (5, some 85), (6, some 86), (7, some 87), (8, some 88), (9, some 89), (10, some 90), (11, some 91), (12, some 92), (13, some 93), (14, some 94), (15, some 95), (16, some 96), (17, some 97), (18, some 98), (19, some 99), (20, some 100), (21, some 101), (22, some 102), (24, some 104), (26, some 106), (28, some 108), (31, some 111), (23, some 103), (25, some 105), (27, some 107), (29, some 109), (32, some 112), (33, some 113), (34, some 114), (30, some 110), (35, some 115), (36, some 116), (37, some 117), (38, some 118), (39, some 119), (40, some 120), (41, some 4)] (by kernel_rfl) rfl (by kernel_rfl) (by kernel_rfl) (by kernel_rfl) (by repeat (first | (with_reducible first | exact Below.refl _ _ | apply below_alloc | apply pw_below_drewN | apply below_drew1) | exact Below.refl _ _)) ?_
      intro HT_ HW_ w_ hHeld
      refine Evt.ow_call HT_ hHeld rfl rfl rfl (by kernel_rfl) Try.func17 (by kernel_rfl) rfl #[] (by rfl) (by (try simp only [List.map_toArray, List.map_cons, List.map_nil]); first | done | rfl | (simp only [List.length_drop, List.length_take]; rfl)) ?_
      (with_reducible refine (alive_any _).mono ?_)
      rintro e w_ ⟨rfl, hb⟩
      refine ⟨_, rfl, hb, fun hHeld_ => ?_⟩
      clear hHeld hb
      have hHeld := hHeld_
      clear hHeld_
      refine Evt.ow_norm (a' := ?_) ?_ ?_
      rotate_left
      · simp only [Act.put, List.setIfInBounds_toArray, List.set_cons_zero, List.set_cons_succ, i64_w, i32_w]; rfl
      iterate 33 (first | (refine Evt.ow_off (a' := ?_) HT_ rfl rfl (by rfl) (by kernel_rfl) (fun _ _ _ h => h) ?_ ?_; rotate_left; (· (try simp only [Act.put, List.setIfInBounds_toArray, List.set_cons_zero, List.set_cons_succ, i64_w, i32_w]); rfl)) | (refine Evt.ow_pure (a' := ?_) (v := ?_) HT_ rfl rfl rfl (by rfl) (by kernel_rfl) (fun _ _ _ h => h) ?_ ?_ ?_; rotate_left 2; (· intro w'; go_simp; with_reducible rfl); (· (try simp only [Act.put, List.setIfInBounds_toArray, List.set_cons_zero, List.set_cons_succ, i64_w, i32_w]); rfl)) | (refine Evt.ow_load (a' := ?_) (v := ?_) HT_ HW_ hHeld rfl rfl rfl (by rfl) (by kernel_rfl) (fun _ _ _ h => h) ?_ ?_ ?_; rotate_left 2; (· intro w' hS_; obtain ⟨s0, s1, s2, s3, s4, s5⟩ := KP.out w' hS_.out; go_simp; with_reducible rfl); (· (try simp only [Act.put, List.setIfInBounds_toArray, List.set_cons_zero, List.set_cons_succ, i64_w, i32_w]); rfl)))
      refine Evt.ow_value (a' := ?a15_) (v := ?v15_) (w1 := ?w115_) HT_ hHeld rfl rfl (by rfl) (by kernel_rfl) ?hr15_ ?hb15_ ?ha15_ ?h15_
      case hr15_ => (first | (go_simp; done) | (go_simp; refine ⟨?_, ?_⟩ <;> rfl) | (go_simp; rfl))
      case hb15_ => (repeat (first | (with_reducible first | exact Below.refl _ _ | apply below_alloc) | exact Below.refl _ _))
      case ha15_ => (simp only [Act.put, List.setIfInBounds_toArray, List.set_cons_zero, List.set_cons_succ, i64_w, i32_w]; rfl)
      intro hHeld_
      clear hHeld
      have hHeld := hHeld_
      clear hHeld_
      (first | (refine Evt.ow_off (a' := ?_) HT_ rfl rfl (by rfl) (by kernel_rfl) (fun _ _ _ h => h) ?_ ?_; rotate_left; (· (try simp only [Act.put, List.setIfInBounds_toArray, List.set_cons_zero, List.set_cons_succ, i64_w, i32_w]); rfl)) | (refine Evt.ow_pure (a' := ?_) (v := ?_) HT_ rfl rfl rfl (by rfl) (by kernel_rfl) (fun _ _ _ h => h) ?_ ?_ ?_; rotate_left 2; (· intro w'; go_simp; with_reducible rfl); (· (try simp only [Act.put, List.setIfInBounds_toArray, List.set_cons_zero, List.set_cons_succ, i64_w, i32_w]); rfl)) | (refine Evt.ow_load (a' := ?_) (v := ?_) HT_ HW_ hHeld rfl rfl rfl (by rfl) (by kernel_rfl) (fun _ _ _ h => h) ?_ ?_ ?_; rotate_left 2; (· intro w' hS_; obtain ⟨s0, s1, s2, s3, s4, s5⟩ := KP.out w' hS_.out; go_simp; with_reducible rfl); (· (try simp only [Act.put, List.setIfInBounds_toArray, List.set_cons_zero, List.set_cons_succ, i64_w, i32_w]); rfl)))
      refine Evt.ow_value (a' := ?a16_) (v := ?v16_) (w1 := ?w116_) HT_ hHeld rfl rfl (by rfl) (by kernel_rfl) ?hr16_ ?hb16_ ?ha16_ ?h16_
      case hr16_ => (first | (go_simp; done) | (go_simp; refine ⟨?_, ?_⟩ <;> rfl) | (go_simp; rfl))
      case hb16_ => (repeat (first | (with_reducible first | exact Below.refl _ _ | apply below_alloc) | exact Below.refl _ _))
      case ha16_ => (simp only [Act.put, List.setIfInBounds_toArray, List.set_cons_zero, List.set_cons_succ, i64_w, i32_w]; rfl)
      intro hHeld_
      clear hHeld
      have hHeld := hHeld_
      clear hHeld_
      iterate 5 (first | (refine Evt.ow_off (a' := ?_) HT_ rfl rfl (by rfl) (by kernel_rfl) (fun _ _ _ h => h) ?_ ?_; rotate_left; (· (try simp only [Act.put, List.setIfInBounds_toArray, List.set_cons_zero, List.set_cons_succ, i64_w, i32_w]); rfl)) | (refine Evt.ow_pure (a' := ?_) (v := ?_) HT_ rfl rfl rfl (by rfl) (by kernel_rfl) (fun _ _ _ h => h) ?_ ?_ ?_; rotate_left 2; (· intro w'; go_simp; with_reducible rfl); (· (try simp only [Act.put, List.setIfInBounds_toArray, List.set_cons_zero, List.set_cons_succ, i64_w, i32_w]); rfl)) | (refine Evt.ow_load (a' := ?_) (v := ?_) HT_ HW_ hHeld rfl rfl rfl (by rfl) (by kernel_rfl) (fun _ _ _ h => h) ?_ ?_ ?_; rotate_left 2; (· intro w' hS_; obtain ⟨s0, s1, s2, s3, s4, s5⟩ := KP.out w' hS_.out; go_simp; with_reducible rfl); (· (try simp only [Act.put, List.setIfInBounds_toArray, List.set_cons_zero, List.set_cons_succ, i64_w, i32_w]); rfl)))
      refine Evt.ow_done HT_ (by kernel_rfl) ?_
      refine Evt.gen_any (w0 := w13) hHeld.out ?_
      intro w14 hbx
      clear hHeld HT_ HW_ KP
      have n_BK2 := Aside0.mk (BK2.out.below hbx)
      have n_BK3 := Aside0.mk (BK3.out.below hbx)
      have n_BK5 := Aside0.mk (BK5.out.below hbx)
      have n_SN := Aside0.mk (SN.out.below hbx)
      have n_BK6 := Aside0.mk (BK6.out.below hbx)
      have n_HB := Aside0.mk (below_step HB.out hbx)
      clear HB BK2 BK3 BK5 SN BK6
      have BK2 := n_BK2
      have BK3 := n_BK3
      have BK5 := n_BK5
      have SN := n_SN
      have BK6 := n_BK6
      have HB := n_HB
      clear hbx n_BK2 n_BK3 n_BK5 n_SN n_BK6 n_HB
      have zBK2_0 : w14.cell? ⟨g2, 0, none⟩ = some (.int .u16 n0) := (blk_cell BK2.out.blk 0).trans rfl
      have zBK2_1 : w14.cell? ⟨g2, 1, none⟩ = some (.int .u16 n1) := (blk_cell BK2.out.blk 1).trans rfl
      have zBK2_2 : w14.cell? ⟨g2, 2, none⟩ = some (.int .u16 n2) := (blk_cell BK2.out.blk 2).trans rfl
      have zBK2_3 : w14.cell? ⟨g2, 3, none⟩ = some (.int .u16 n3) := (blk_cell BK2.out.blk 3).trans rfl
      have zBK3_0 : w14.cell? ⟨g3, 0, none⟩ = some (.int .i64 1) := (blk_cell BK3.out.blk 0).trans rfl
      have zBK3_1 : w14.cell? ⟨g3, 1, none⟩ = some (.int .i64 n) := (blk_cell BK3.out.blk 1).trans rfl
      have zBK5_0 : w14.cell? ⟨g5, 0, none⟩ = some (.int .i64 i) := (blk_cell BK5.out.blk 0).trans rfl
      have zBK5_1 : w14.cell? ⟨g5, 1, none⟩ = some (.int .i64 q) := (blk_cell BK5.out.blk 1).trans rfl
      have zBK5_2 : w14.cell? ⟨g5, 2, none⟩ = some (.int .i64 m) := (blk_cell BK5.out.blk 2).trans rfl
      have zBK5_3 : w14.cell? ⟨g5, 3, none⟩ = some (.int .i64 e) := (blk_cell BK5.out.blk 3).trans rfl
      have zBK6_0 : w14.cell? ⟨g6, 0, none⟩ = some (.slice X0 L0.length x0) := (blk_cell BK6.out.blk 0).trans rfl
      have zBK6_1 : w14.cell? ⟨g6, 1, none⟩ = some (.slice X1 L1.length x1) := (blk_cell BK6.out.blk 1).trans rfl
      have zBK6_2 : w14.cell? ⟨g6, 2, none⟩ = some (.slice X2 L2.length x2) := (blk_cell BK6.out.blk 2).trans rfl
      go_wp2
      go_ret
      exact ⟨rfl, HB.out⟩
      skip
  · rcases (show n < 0 ∨ (0 ≤ n ∧ n < m) ∨ m ≤ n by omega) with hn | hn | hn
    · have V := Aside0.mk (rdv_new (s := 2) (n := n) (f := 3) hLI.out hNf.out (by rw [if_neg (by decide), if_neg (by decide), if_pos rfl, if_neg (by omega)]))
      have hn0 : decide (0 ≤ n) = false := decide_eq_false (by omega)
      skip
      skip
      have KP : Aside0 (∀ w', Below w12.heap.size w12 w' → (w'.cell? ⟨g3, 0, none⟩ = some (.int .i64 2) ∧ w'.cell? ⟨g3, 1, none⟩ = some (.int .i64 n) ∧ w'.cell? ⟨g5, 0, none⟩ = some (.int .i64 i) ∧ w'.cell? ⟨g5, 1, none⟩ = some (.int .i64 q) ∧ w'.cell? ⟨g5, 2, none⟩ = some (.int .i64 m) ∧ w'.cell? ⟨g5, 3, none⟩ = some (.int .i64 e) ∧ w'.cell? ⟨g6, 0, none⟩ = some (.slice X0 L0.length x0) ∧ w'.cell? ⟨g6, 1, none⟩ = some (.slice X1 L1.length x1) ∧ w'.cell? ⟨g6, 2, none⟩ = some (.slice X2 L2.length x2))) := Aside0.mk (fun w' hb => ⟨(blk_cell (BK3.out.below hb).blk 0).trans rfl, (blk_cell (BK3.out.below hb).blk 1).trans rfl, (blk_cell (BK5.out.below hb).blk 0).trans rfl, (blk_cell (BK5.out.below hb).blk 1).trans rfl, (blk_cell (BK5.out.below hb).blk 2).trans rfl, (blk_cell (BK5.out.below hb).blk 3).trans rfl, (blk_cell (BK6.out.below hb).blk 0).trans rfl, (blk_cell (BK6.out.below hb).blk 1).trans rfl, (blk_cell (BK6.out.below hb).blk 2).trans rfl⟩)
      clear zBK2_0 zBK2_1 zBK2_2 zBK2_3 zBK3_0 zBK3_1 zBK5_0 zBK5_1 zBK5_2 zBK5_3 zBK6_0 zBK6_1 zBK6_2
      refine Evt.ow_start (w0 := w12) (T := (true, [([], []), ([0], [0]), ([1, 1], [1]), ([], []), ([], []), ([2, 3, 4], [2, 3, 4]), ([5], [5]), ([6], [6]), ([6], [6]), ([7, 5, 0, 1, 2, 3, 4, 5, 6, 7], [7]), ([8, 9, 0, 1, 2, 3, 4, 5, 6, 7, 8, 9], [8])])) (B := [0, 1, 3, 0, 0, 31, 63, 127, 127, 255, 1023]) 11 [(0, some 72), (1, some 73), (3, some 75), (4, some 76), (2, some 74), (5, some 77), (6, some 71), (7, some 78), (8, some 79), (9, some 10), (10, some 11)] (by kernel_rfl) rfl (by kernel_rfl) (by kernel_rfl) (by kernel_rfl) (by repeat (first | (with_reducible first | exact Below.refl _ _ | apply below_alloc | apply pw_below_drewN | apply below_drew1) | exact Below.refl _ _)) ?_
      intro HT_ HW_ w_ hHeld
      iterate 4 (first | (refine Evt.ow_off (a' := ?_) HT_ rfl rfl (by rfl) (by kernel_rfl) (fun _ _ _ h => h) ?_ ?_; rotate_left; (· (try simp only [Act.put, List.setIfInBounds_toArray, List.set_cons_zero, List.set_cons_succ, i64_w, i32_w]); rfl)) | (refine Evt.ow_pure (a' := ?_) (v := ?_) HT_ rfl rfl rfl (by rfl) (by kernel_rfl) (fun _ _ _ h => h) ?_ ?_ ?_; rotate_left 2; (· intro w'; go_simp; with_reducible rfl); (· (try simp only [Act.put, List.setIfInBounds_toArray, List.set_cons_zero, List.set_cons_succ, i64_w, i32_w]); rfl)) | (refine Evt.ow_load (a' := ?_) (v := ?_) HT_ HW_ hHeld rfl rfl rfl (by rfl) (by kernel_rfl) (fun _ _ _ h => h) ?_ ?_ ?_; rotate_left 2; (· intro w' hS_; obtain ⟨s0, s1, s2, s3, s4, s5, s6, s7, s8⟩ := KP.out w' hS_.out; go_simp; with_reducible rfl); (· (try simp only [Act.put, List.setIfInBounds_toArray, List.set_cons_zero, List.set_cons_succ, i64_w, i32_w]); rfl)))
      refine Evt.ow_value (a' := ?a17_) (v := ?v17_) (w1 := ?w117_) HT_ hHeld rfl rfl (by rfl) (by kernel_rfl) ?hr17_ ?hb17_ ?ha17_ ?h17_
      case hr17_ => (first | (go_simp; done) | (go_simp; refine ⟨?_, ?_⟩ <;> rfl) | (go_simp; rfl))
      case hb17_ => (repeat (first | (with_reducible first | exact Below.refl _ _ | apply below_alloc) | exact Below.refl _ _))
      case ha17_ => (simp only [Act.put, List.setIfInBounds_toArray, List.set_cons_zero, List.set_cons_succ, i64_w, i32_w]; rfl)
      intro hHeld_
      clear hHeld
      have hHeld := hHeld_
      clear hHeld_
      refine Evt.ow_call HT_ hHeld rfl rfl rfl (by kernel_rfl) Try.func18 (by kernel_rfl) rfl #[.slice (some ⟨w_.heap.size, 0, none⟩) LI.length LI.length, .agg #[.slice X0 L0.length x0, .slice X1 L1.length x1, .slice X2 L2.length x2], .agg #[.int .i64 2, .int .i64 n]] (by rfl) (by (try simp only [List.map_toArray, List.map_cons, List.map_nil]); first | done | rfl | (simp only [List.length_drop, List.length_take]; rfl)) ?_
      (with_reducible refine (readN V.out (by repeat (first | (with_reducible first | exact rw_made LR.out LN.out _ | refine Rw.drewN' ?_ _ | refine Rw.drew' ?_) | exact rw_made LR.out LN.out _)) (SN.out.below hHeld.out)).mono ?_)
      rintro e w_ ⟨rfl, hb⟩
      refine ⟨_, rfl, hb, fun hHeld_ => ?_⟩
      clear hHeld hb
      have hHeld := hHeld_
      clear hHeld_
      refine Evt.ow_norm (a' := ?_) ?_ ?_
      rotate_left
      · simp only [Act.put, List.setIfInBounds_toArray, List.set_cons_zero, List.set_cons_succ, i64_w, i32_w]; rfl
      iterate 5 (first | (refine Evt.ow_off (a' := ?_) HT_ rfl rfl (by rfl) (by kernel_rfl) (fun _ _ _ h => h) ?_ ?_; rotate_left; (· (try simp only [Act.put, List.setIfInBounds_toArray, List.set_cons_zero, List.set_cons_succ, i64_w, i32_w]); rfl)) | (refine Evt.ow_pure (a' := ?_) (v := ?_) HT_ rfl rfl rfl (by rfl) (by kernel_rfl) (fun _ _ _ h => h) ?_ ?_ ?_; rotate_left 2; (· intro w'; go_simp; with_reducible rfl); (· (try simp only [Act.put, List.setIfInBounds_toArray, List.set_cons_zero, List.set_cons_succ, i64_w, i32_w]); rfl)) | (refine Evt.ow_load (a' := ?_) (v := ?_) HT_ HW_ hHeld rfl rfl rfl (by rfl) (by kernel_rfl) (fun _ _ _ h => h) ?_ ?_ ?_; rotate_left 2; (· intro w' hS_; obtain ⟨s0, s1, s2, s3, s4, s5, s6, s7, s8⟩ := KP.out w' hS_.out; go_simp; with_reducible rfl); (· (try simp only [Act.put, List.setIfInBounds_toArray, List.set_cons_zero, List.set_cons_succ, i64_w, i32_w]); rfl)))
      refine Evt.ow_done HT_ (by kernel_rfl) ?_
      refine Evt.gen_any (w0 := w12) hHeld.out ?_
      intro w13 hbx
      clear hHeld HT_ HW_ KP
      have n_BK2 := Aside0.mk (BK2.out.below hbx)
      have n_BK3 := Aside0.mk (BK3.out.below hbx)
      have n_BK5 := Aside0.mk (BK5.out.below hbx)
      have n_SN := Aside0.mk (SN.out.below hbx)
      have n_BK6 := Aside0.mk (BK6.out.below hbx)
      have n_HB := Aside0.mk (below_step HB.out hbx)
      clear HB BK2 BK3 BK5 SN BK6
      have BK2 := n_BK2
      have BK3 := n_BK3
      have BK5 := n_BK5
      have SN := n_SN
      have BK6 := n_BK6
      have HB := n_HB
      clear hbx n_BK2 n_BK3 n_BK5 n_SN n_BK6 n_HB
      have zBK2_0 : w13.cell? ⟨g2, 0, none⟩ = some (.int .u16 n0) := (blk_cell BK2.out.blk 0).trans rfl
      have zBK2_1 : w13.cell? ⟨g2, 1, none⟩ = some (.int .u16 n1) := (blk_cell BK2.out.blk 1).trans rfl
      have zBK2_2 : w13.cell? ⟨g2, 2, none⟩ = some (.int .u16 n2) := (blk_cell BK2.out.blk 2).trans rfl
      have zBK2_3 : w13.cell? ⟨g2, 3, none⟩ = some (.int .u16 n3) := (blk_cell BK2.out.blk 3).trans rfl
      have zBK3_0 : w13.cell? ⟨g3, 0, none⟩ = some (.int .i64 2) := (blk_cell BK3.out.blk 0).trans rfl
      have zBK3_1 : w13.cell? ⟨g3, 1, none⟩ = some (.int .i64 n) := (blk_cell BK3.out.blk 1).trans rfl
      have zBK5_0 : w13.cell? ⟨g5, 0, none⟩ = some (.int .i64 i) := (blk_cell BK5.out.blk 0).trans rfl
      have zBK5_1 : w13.cell? ⟨g5, 1, none⟩ = some (.int .i64 q) := (blk_cell BK5.out.blk 1).trans rfl
      have zBK5_2 : w13.cell? ⟨g5, 2, none⟩ = some (.int .i64 m) := (blk_cell BK5.out.blk 2).trans rfl
      have zBK5_3 : w13.cell? ⟨g5, 3, none⟩ = some (.int .i64 e) := (blk_cell BK5.out.blk 3).trans rfl
      have zBK6_0 : w13.cell? ⟨g6, 0, none⟩ = some (.slice X0 L0.length x0) := (blk_cell BK6.out.blk 0).trans rfl
      have zBK6_1 : w13.cell? ⟨g6, 1, none⟩ = some (.slice X1 L1.length x1) := (blk_cell BK6.out.blk 1).trans rfl
      have zBK6_2 : w13.cell? ⟨g6, 2, none⟩ = some (.slice X2 L2.length x2) := (blk_cell BK6.out.blk 2).trans rfl
      go_wp2_with fail
      have KP : Aside0 (∀ w', Below w13.heap.size w13 w' → (w'.cell? ⟨g3, 0, none⟩ = some (.int .i64 2) ∧ w'.cell? ⟨g3, 1, none⟩ = some (.int .i64 n) ∧ w'.cell? ⟨g5, 0, none⟩ = some (.int .i64 i) ∧ w'.cell? ⟨g5, 1, none⟩ = some (.int .i64 q) ∧ w'.cell? ⟨g5, 2, none⟩ = some (.int .i64 m) ∧ w'.cell? ⟨g5, 3, none⟩ = some (.int .i64 e))) := Aside0.mk (fun w' hb => ⟨(blk_cell (BK3.out.below hb).blk 0).trans rfl, (blk_cell (BK3.out.below hb).blk 1).trans rfl, (blk_cell (BK5.out.below hb).blk 0).trans rfl, (blk_cell (BK5.out.below hb).blk 1).trans rfl, (blk_cell (BK5.out.below hb).blk 2).trans rfl, (blk_cell (BK5.out.below hb).blk 3).trans rfl⟩)
      clear zBK2_0 zBK2_1 zBK2_2 zBK2_3 zBK3_0 zBK3_1 zBK5_0 zBK5_1 zBK5_2 zBK5_3 zBK6_0 zBK6_1 zBK6_2
      refine Evt.ow_start (w0 := w13) (T := (true, [([], []), ([0, 0], [0]), ([1], [1]), ([2, 1], [1, 2]), ([1, 3], [1, 3]), ([4, 1], [4]), ([5], [5]), ([6, 5], [5, 6]), ([5], [5]), ([8, 5], [5, 8]), ([9, 5], [5, 9]), ([10, 5, 5], [5, 10]), ([11], [11]), ([12, 11], [11, 12]), ([13, 11], [11, 13]), ([11, 14, 5], [5, 11, 14]), ([15, 11, 5], [5, 15]), ([16], [16]), ([17, 16], [16, 17]), ([18, 16], [16, 18]), ([16, 19, 5], [5, 16, 19]), ([20, 16, 5], [5, 20]), ([21], [21]), ([22, 21], [21, 22]), ([21], [21]), ([24, 21], [21, 24]), ([21], [21]), ([26, 21], [21, 26]), ([21], [21]), ([28, 21], [21, 28]), ([25, 27, 29, 21], [21, 25, 27, 29]), ([21], [21]), ([31, 21], [21, 31]), ([32, 21], [21, 32]), ([33, 21], [21, 33]), ([30, 34, 21], [21, 30, 34]), ([35, 21], [21, 35]), ([23, 36, 21], [21, 23, 36]), ([21, 37, 5], [5, 21, 37]), ([7, 38, 5], [5, 7, 38]), ([5, 39], [5, 39]), ([40, 21, 0, 1, 2, 3, 4, 5, 6, 7, 8, 9, 10, 11, 12, 13, 14, 15, 16, 17, 18, 19, 20, 21, 22, 23, 24, 25, 26, 27, 28, 29, 30, 31, 32, 33, 34, 35, 36, 37, 38, 39, 40], [40])])) (B := [0, 1, 3, 7, 15, 31, 63, 127, 63, 319, 831, 1855, 3903, 7999, 16191, 32575, 65343, 130879, 261951, 524095, 1048383, 2096959, 4194111, 8388415, 4194111, 20971327, 4194111, 71302975, 4194111, 272629567, 1061158719, 4194111, 2151677759, 6446645055, 15036579647, 34347155263, 68706893631, 137438953279, 274877906751, 549755813887, 1099511627775, 2199023255551]) 42 [(0, some 80), (1, some 81), (2, some 82), (3, some 83), (4, some 84), (5, some 85), (6, some 86), (7, some 87), (8, some 88), (9, some 89), (10, some 90), (11, some 91), (12, some 92), (13, some 93), (14, some 94), (15, some 95), (16, some 96), (17, some 97), (18, some 98), (19, some 99), (20, some 100), (21, some 101), (22, some 102), (23, some 103), (24, some 104), (25, some 105), (26, some 106), (27, some 107), (28, some 108), (29, some 109), (30, some 110), (31, some 111), (32, some 112), (33, some 113), (34, some 114), (35, some 115), (36, some 116), (37, some 117), (38, some 118), (39, some 119), (40, some 120), (41, some 4)] (by kernel_rfl) rfl (by kernel_rfl) (by kernel_rfl) (by kernel_rfl) (by repeat (first | (with_reducible first | exact Below.refl _ _ | apply below_alloc | apply pw_below_drewN | apply below_drew1) | exact Below.refl _ _)) ?_
      intro HT_ HW_ w_ hHeld
      refine Evt.ow_call HT_ hHeld rfl rfl rfl (by kernel_rfl) Try.func17 (by kernel_rfl) rfl #[] (by rfl) (by (try simp only [List.map_toArray, List.map_cons, List.map_nil]); first | done | rfl | (simp only [List.length_drop, List.length_take]; rfl)) ?_
      (with_reducible refine (alive_any _).mono ?_)
      rintro e w_ ⟨rfl, hb⟩
      refine ⟨_, rfl, hb, fun hHeld_ => ?_⟩
      clear hHeld hb
      have hHeld := hHeld_
      clear hHeld_
      refine Evt.ow_norm (a' := ?_) ?_ ?_
      rotate_left
      · simp only [Act.put, List.setIfInBounds_toArray, List.set_cons_zero, List.set_cons_succ, i64_w, i32_w]; rfl
      iterate 41 (first | (refine Evt.ow_off (a' := ?_) HT_ rfl rfl (by rfl) (by kernel_rfl) (fun _ _ _ h => h) ?_ ?_; rotate_left; (· (try simp only [Act.put, List.setIfInBounds_toArray, List.set_cons_zero, List.set_cons_succ, i64_w, i32_w]); rfl)) | (refine Evt.ow_pure (a' := ?_) (v := ?_) HT_ rfl rfl rfl (by rfl) (by kernel_rfl) (fun _ _ _ h => h) ?_ ?_ ?_; rotate_left 2; (· intro w'; go_simp; with_reducible rfl); (· (try simp only [Act.put, List.setIfInBounds_toArray, List.set_cons_zero, List.set_cons_succ, i64_w, i32_w]); rfl)) | (refine Evt.ow_load (a' := ?_) (v := ?_) HT_ HW_ hHeld rfl rfl rfl (by rfl) (by kernel_rfl) (fun _ _ _ h => h) ?_ ?_ ?_; rotate_left 2; (· intro w' hS_; obtain ⟨s0, s1, s2, s3, s4, s5⟩ := KP.out w' hS_.out; go_simp; with_reducible rfl); (· (try simp only [Act.put, List.setIfInBounds_toArray, List.set_cons_zero, List.set_cons_succ, i64_w, i32_w]); rfl)))
      refine Evt.ow_done HT_ (by kernel_rfl) ?_
      refine Evt.gen_any (w0 := w13) hHeld.out ?_
      intro w14 hbx
      clear hHeld HT_ HW_ KP
      have n_BK2 := Aside0.mk (BK2.out.below hbx)
      have n_BK3 := Aside0.mk (BK3.out.below hbx)
      have n_BK5 := Aside0.mk (BK5.out.below hbx)
      have n_SN := Aside0.mk (SN.out.below hbx)
      have n_BK6 := Aside0.mk (BK6.out.below hbx)
      have n_HB := Aside0.mk (below_step HB.out hbx)
      clear HB BK2 BK3 BK5 SN BK6
      have BK2 := n_BK2
      have BK3 := n_BK3
      have BK5 := n_BK5
      have SN := n_SN
      have BK6 := n_BK6
      have HB := n_HB
      clear hbx n_BK2 n_BK3 n_BK5 n_SN n_BK6 n_HB
      have zBK2_0 : w14.cell? ⟨g2, 0, none⟩ = some (.int .u16 n0) := (blk_cell BK2.out.blk 0).trans rfl
      have zBK2_1 : w14.cell? ⟨g2, 1, none⟩ = some (.int .u16 n1) := (blk_cell BK2.out.blk 1).trans rfl
      have zBK2_2 : w14.cell? ⟨g2, 2, none⟩ = some (.int .u16 n2) := (blk_cell BK2.out.blk 2).trans rfl
      have zBK2_3 : w14.cell? ⟨g2, 3, none⟩ = some (.int .u16 n3) := (blk_cell BK2.out.blk 3).trans rfl
      have zBK3_0 : w14.cell? ⟨g3, 0, none⟩ = some (.int .i64 2) := (blk_cell BK3.out.blk 0).trans rfl
      have zBK3_1 : w14.cell? ⟨g3, 1, none⟩ = some (.int .i64 n) := (blk_cell BK3.out.blk 1).trans rfl
      have zBK5_0 : w14.cell? ⟨g5, 0, none⟩ = some (.int .i64 i) := (blk_cell BK5.out.blk 0).trans rfl
      have zBK5_1 : w14.cell? ⟨g5, 1, none⟩ = some (.int .i64 q) := (blk_cell BK5.out.blk 1).trans rfl
      have zBK5_2 : w14.cell? ⟨g5, 2, none⟩ = some (.int .i64 m) := (blk_cell BK5.out.blk 2).trans rfl
      have zBK5_3 : w14.cell? ⟨g5, 3, none⟩ = some (.int .i64 e) := (blk_cell BK5.out.blk 3).trans rfl
      have zBK6_0 : w14.cell? ⟨g6, 0, none⟩ = some (.slice X0 L0.length x0) := (blk_cell BK6.out.blk 0).trans rfl
      have zBK6_1 : w14.cell? ⟨g6, 1, none⟩ = some (.slice X1 L1.length x1) := (blk_cell BK6.out.blk 1).trans rfl
      have zBK6_2 : w14.cell? ⟨g6, 2, none⟩ = some (.slice X2 L2.length x2) := (blk_cell BK6.out.blk 2).trans rfl
      go_wp2
      go_ret
      exact ⟨rfl, HB.out⟩
      skip
    · have V := Aside0.mk (rdv_new (s := 2) (n := n) (f := 0) hLI.out hNf.out (by rw [if_neg (by decide), if_neg (by decide), if_pos rfl, if_pos (by omega)]))
      have hn0 : decide (0 ≤ n) = true := decide_eq_true (by omega)
      have hn1 : decide (n < m) = true := decide_eq_true (by omega)
      skip
      skip
      have KP : Aside0 (∀ w', Below w12.heap.size w12 w' → (w'.cell? ⟨g3, 0, none⟩ = some (.int .i64 2) ∧ w'.cell? ⟨g3, 1, none⟩ = some (.int .i64 n) ∧ w'.cell? ⟨g5, 0, none⟩ = some (.int .i64 i) ∧ w'.cell? ⟨g5, 1, none⟩ = some (.int .i64 q) ∧ w'.cell? ⟨g5, 2, none⟩ = some (.int .i64 m) ∧ w'.cell? ⟨g5, 3, none⟩ = some (.int .i64 e) ∧ w'.cell? ⟨g6, 0, none⟩ = some (.slice X0 L0.length x0) ∧ w'.cell? ⟨g6, 1, none⟩ = some (.slice X1 L1.length x1) ∧ w'.cell? ⟨g6, 2, none⟩ = some (.slice X2 L2.length x2))) := Aside0.mk (fun w' hb => ⟨(blk_cell (BK3.out.below hb).blk 0).trans rfl, (blk_cell (BK3.out.below hb).blk 1).trans rfl, (blk_cell (BK5.out.below hb).blk 0).trans rfl, (blk_cell (BK5.out.below hb).blk 1).trans rfl, (blk_cell (BK5.out.below hb).blk 2).trans rfl, (blk_cell (BK5.out.below hb).blk 3).trans rfl, (blk_cell (BK6.out.below hb).blk 0).trans rfl, (blk_cell (BK6.out.below hb).blk 1).trans rfl, (blk_cell (BK6.out.below hb).blk 2).trans rfl⟩)
      clear zBK2_0 zBK2_1 zBK2_2 zBK2_3 zBK3_0 zBK3_1 zBK5_0 zBK5_1 zBK5_2 zBK5_3 zBK6_0 zBK6_1 zBK6_2
      refine Evt.ow_start (w0 := w12) (T := (true, [([], []), ([0], [0]), ([1, 1], [1]), ([], []), ([], []), ([2, 3, 4], [2, 3, 4]), ([5], [5]), ([6], [6]), ([6], [6]), ([7, 5, 0, 1, 2, 3, 4, 5, 6, 7], [7]), ([8, 9, 0, 1, 2, 3, 4, 5, 6, 7, 8, 9], [8])])) (B := [0, 1, 3, 0, 0, 31, 63, 127, 127, 255, 1023]) 11 [(0, some 72), (1, some 73), (3, some 75), (4, some 76), (2, some 74), (5, some 77), (6, some 71), (7, some 78), (8, some 79), (9, some 10), (10, some 11)] (by kernel_rfl) rfl (by kernel_rfl) (by kernel_rfl) (by kernel_rfl) (by repeat (first | (with_reducible first | exact Below.refl _ _ | apply below_alloc | apply pw_below_drewN | apply below_drew1) | exact Below.refl _ _)) ?_
      intro HT_ HW_ w_ hHeld
      iterate 4 (first | (refine Evt.ow_off (a' := ?_) HT_ rfl rfl (by rfl) (by kernel_rfl) (fun _ _ _ h => h) ?_ ?_; rotate_left; (· (try simp only [Act.put, List.setIfInBounds_toArray, List.set_cons_zero, List.set_cons_succ, i64_w, i32_w]); rfl)) | (refine Evt.ow_pure (a' := ?_) (v := ?_) HT_ rfl rfl rfl (by rfl) (by kernel_rfl) (fun _ _ _ h => h) ?_ ?_ ?_; rotate_left 2; (· intro w'; go_simp; with_reducible rfl); (· (try simp only [Act.put, List.setIfInBounds_toArray, List.set_cons_zero, List.set_cons_succ, i64_w, i32_w]); rfl)) | (refine Evt.ow_load (a' := ?_) (v := ?_) HT_ HW_ hHeld rfl rfl rfl (by rfl) (by kernel_rfl) (fun _ _ _ h => h) ?_ ?_ ?_; rotate_left 2; (· intro w' hS_; obtain ⟨s0, s1, s2, s3, s4, s5, s6, s7, s8⟩ := KP.out w' hS_.out; go_simp; with_reducible rfl); (· (try simp only [Act.put, List.setIfInBounds_toArray, List.set_cons_zero, List.set_cons_succ, i64_w, i32_w]); rfl)))
      refine Evt.ow_value (a' := ?a18_) (v := ?v18_) (w1 := ?w118_) HT_ hHeld rfl rfl (by rfl) (by kernel_rfl) ?hr18_ ?hb18_ ?ha18_ ?h18_
      case hr18_ => (first | (go_simp; done) | (go_simp; refine ⟨?_, ?_⟩ <;> rfl) | (go_simp; rfl))
      case hb18_ => (repeat (first | (with_reducible first | exact Below.refl _ _ | apply below_alloc) | exact Below.refl _ _))
      case ha18_ => (simp only [Act.put, List.setIfInBounds_toArray, List.set_cons_zero, List.set_cons_succ, i64_w, i32_w]; rfl)
      intro hHeld_
      clear hHeld
      have hHeld := hHeld_
      clear hHeld_
      refine Evt.ow_call HT_ hHeld rfl rfl rfl (by kernel_rfl) Try.func18 (by kernel_rfl) rfl #[.slice (some ⟨w_.heap.size, 0, none⟩) LI.length LI.length, .agg #[.slice X0 L0.length x0, .slice X1 L1.length x1, .slice X2 L2.length x2], .agg #[.int .i64 2, .int .i64 n]] (by rfl) (by (try simp only [List.map_toArray, List.map_cons, List.map_nil]); first | done | rfl | (simp only [List.length_drop, List.length_take]; rfl)) ?_
      (with_reducible refine (readN V.out (by repeat (first | (with_reducible first | exact rw_made LR.out LN.out _ | refine Rw.drewN' ?_ _ | refine Rw.drew' ?_) | exact rw_made LR.out LN.out _)) (SN.out.below hHeld.out)).mono ?_)
      rintro e w_ ⟨rfl, hb⟩
      refine ⟨_, rfl, hb, fun hHeld_ => ?_⟩
      clear hHeld hb
      have hHeld := hHeld_
      clear hHeld_
      refine Evt.ow_norm (a' := ?_) ?_ ?_
      rotate_left
      · simp only [Act.put, List.setIfInBounds_toArray, List.set_cons_zero, List.set_cons_succ, i64_w, i32_w]; rfl
      iterate 5 (first | (refine Evt.ow_off (a' := ?_) HT_ rfl rfl (by rfl) (by kernel_rfl) (fun _ _ _ h => h) ?_ ?_; rotate_left; (· (try simp only [Act.put, List.setIfInBounds_toArray, List.set_cons_zero, List.set_cons_succ, i64_w, i32_w]); rfl)) | (refine Evt.ow_pure (a' := ?_) (v := ?_) HT_ rfl rfl rfl (by rfl) (by kernel_rfl) (fun _ _ _ h => h) ?_ ?_ ?_; rotate_left 2; (· intro w'; go_simp; with_reducible rfl); (· (try simp only [Act.put, List.setIfInBounds_toArray, List.set_cons_zero, List.set_cons_succ, i64_w, i32_w]); rfl)) | (refine Evt.ow_load (a' := ?_) (v := ?_) HT_ HW_ hHeld rfl rfl rfl (by rfl) (by kernel_rfl) (fun _ _ _ h => h) ?_ ?_ ?_; rotate_left 2; (· intro w' hS_; obtain ⟨s0, s1, s2, s3, s4, s5, s6, s7, s8⟩ := KP.out w' hS_.out; go_simp; with_reducible rfl); (· (try simp only [Act.put, List.setIfInBounds_toArray, List.set_cons_zero, List.set_cons_succ, i64_w, i32_w]); rfl)))
      refine Evt.ow_done HT_ (by kernel_rfl) ?_
      refine Evt.gen_any (w0 := w12) hHeld.out ?_
      intro w13 hbx
      clear hHeld HT_ HW_ KP
      have n_BK2 := Aside0.mk (BK2.out.below hbx)
      have n_BK3 := Aside0.mk (BK3.out.below hbx)
      have n_BK5 := Aside0.mk (BK5.out.below hbx)
      have n_SN := Aside0.mk (SN.out.below hbx)
      have n_BK6 := Aside0.mk (BK6.out.below hbx)
      have n_HB := Aside0.mk (below_step HB.out hbx)
      clear HB BK2 BK3 BK5 SN BK6
      have BK2 := n_BK2
      have BK3 := n_BK3
      have BK5 := n_BK5
      have SN := n_SN
      have BK6 := n_BK6
      have HB := n_HB
      clear hbx n_BK2 n_BK3 n_BK5 n_SN n_BK6 n_HB
      have zBK2_0 : w13.cell? ⟨g2, 0, none⟩ = some (.int .u16 n0) := (blk_cell BK2.out.blk 0).trans rfl
      have zBK2_1 : w13.cell? ⟨g2, 1, none⟩ = some (.int .u16 n1) := (blk_cell BK2.out.blk 1).trans rfl
      have zBK2_2 : w13.cell? ⟨g2, 2, none⟩ = some (.int .u16 n2) := (blk_cell BK2.out.blk 2).trans rfl
      have zBK2_3 : w13.cell? ⟨g2, 3, none⟩ = some (.int .u16 n3) := (blk_cell BK2.out.blk 3).trans rfl
      have zBK3_0 : w13.cell? ⟨g3, 0, none⟩ = some (.int .i64 2) := (blk_cell BK3.out.blk 0).trans rfl
      have zBK3_1 : w13.cell? ⟨g3, 1, none⟩ = some (.int .i64 n) := (blk_cell BK3.out.blk 1).trans rfl
      have zBK5_0 : w13.cell? ⟨g5, 0, none⟩ = some (.int .i64 i) := (blk_cell BK5.out.blk 0).trans rfl
      have zBK5_1 : w13.cell? ⟨g5, 1, none⟩ = some (.int .i64 q) := (blk_cell BK5.out.blk 1).trans rfl
      have zBK5_2 : w13.cell? ⟨g5, 2, none⟩ = some (.int .i64 m) := (blk_cell BK5.out.blk 2).trans rfl
      have zBK5_3 : w13.cell? ⟨g5, 3, none⟩ = some (.int .i64 e) := (blk_cell BK5.out.blk 3).trans rfl
      have zBK6_0 : w13.cell? ⟨g6, 0, none⟩ = some (.slice X0 L0.length x0) := (blk_cell BK6.out.blk 0).trans rfl
      have zBK6_1 : w13.cell? ⟨g6, 1, none⟩ = some (.slice X1 L1.length x1) := (blk_cell BK6.out.blk 1).trans rfl
      have zBK6_2 : w13.cell? ⟨g6, 2, none⟩ = some (.slice X2 L2.length x2) := (blk_cell BK6.out.blk 2).trans rfl
      go_wp2_with fail
      have KP : Aside0 (∀ w', Below w13.heap.size w13 w' → (w'.cell? ⟨g3, 0, none⟩ = some (.int .i64 2) ∧ w'.cell? ⟨g3, 1, none⟩ = some (.int .i64 n) ∧ w'.cell? ⟨g5, 0, none⟩ = some (.int .i64 i) ∧ w'.cell? ⟨g5, 1, none⟩ = some (.int .i64 q) ∧ w'.cell? ⟨g5, 2, none⟩ = some (.int .i64 m) ∧ w'.cell? ⟨g5, 3, none⟩ = some (.int .i64 e))) := Aside0.mk (fun w' hb => ⟨(blk_cell (BK3.out.below hb).blk 0).trans rfl, (blk_cell (BK3.out.below hb).blk 1).trans rfl, (blk_cell (BK5.out.below hb).blk 0).trans rfl, (blk_cell (BK5.out.below hb).blk 1).trans rfl, (blk_cell (BK5.out.below hb).blk 2).trans rfl, (blk_cell (BK5.out.below hb).blk 3).trans rfl⟩)
      clear zBK2_0 zBK2_1 zBK2_2 zBK2_3 zBK3_0 zBK3_1 zBK5_0 zBK5_1 zBK5_2 zBK5_3 zBK6_0 zBK6_1 zBK6_2
      refine Evt.ow_start (w0 := w13) (T := (true, [([], []), ([0, 0], [0]), ([1], [1]), ([2, 1], [1, 2]), ([1, 3], [1, 3]), ([4, 1], [4]), ([5], [5]), ([6, 5], [5, 6]), ([5], [5]), ([8, 5], [5, 8]), ([9, 5], [5, 9]), ([10, 5, 5], [5, 10]), ([11], [11]), ([12, 11], [11, 12]), ([13, 11], [11, 13]), ([11, 14, 5], [5, 11, 14]), ([15, 11, 5], [5, 15]), ([16], [16]), ([17, 16], [16, 17]), ([18, 16], [16, 18]), ([16, 19, 5], [5, 16, 19]), ([20, 16, 5], [5, 20]), ([21], [21]), ([22, 21], [21, 22]), ([21], [21]), ([24, 21], [21, 24]), ([21], [21]), ([26, 21], [21, 26]), ([21], [21]), ([28, 21], [21, 28]), ([25, 27, 29, 21], [21, 25, 27, 29]), ([21], [21]), ([31, 21], [21, 31]), ([32, 21], [21, 32]), ([33, 21], [21, 33]), ([30, 34, 21], [21, 30, 34]), ([35, 21], [21, 35]), ([23, 36, 21], [21, 23, 36]), ([21, 37, 5], [5, 21, 37]), ([7, 38, 5], [5, 7, 38]), ([5, 39], [5, 39]), ([40, 21, 0, 1, 2, 3, 4, 5, 6, 7, 8, 9, 10, 11, 12, 13, 14, 15, 16, 17, 18, 19, 20, 21, 22, 23, 24, 25, 26, 27, 28, 29, 30, 31, 32, 33, 34, 35, 36, 37, 38, 39, 40], [40])])) (B := [0, 1, 3, 7, 15, 31, 63, 127, 63, 319, 831, 1855, 3903, 7999, 16191, 32575, 65343, 130879, 261951, 524095, 1048383, 2096959, 4194111, 8388415, 4194111, 20971327, 4194111, 71302975, 4194111, 272629567, 1061158719, 4194111, 2151677759, 6446645055, 15036579647, 34347155263, 68706893631, 137438953279, 274877906751, 549755813887, 1099511627775, 2199023255551]) 42 [(0, some 80), (1, some 81), (2, some 82), (3, some 83), (4, some 84), (5, some 85), (6, some 86), (7, some 87), (8, some 88), (9, some 89), (10, some 90), (11, some 91), (12, some 92), (13, some 93), (14, some 94), (15, some 95), (16, some 96), (17, some 97), (18, some 98), (19, some 99), (20, some 100), (21, some 101), (22, some 102), (24, some 104), (26, some 106), (28, some 108), (31, some 111), (23, some 103), (25, some 105), (27, some 107), (29, some 109), (32, some 112), (33, some 113), (34, some 114), (30, some 110), (35, some 115), (36, some 116), (37, some 117), (38, some 118), (39, some 119), (40, some 120), (41, some 4)] (by kernel_rfl) rfl (by kernel_rfl) (by kernel_rfl) (by kernel_rfl) (by repeat (first | (with_reducible first | exact Below.refl _ _ | apply below_alloc | apply pw_below_drewN | apply below_drew1) | exact Below.refl _ _)) ?_
      intro HT_ HW_ w_ hHeld
      refine Evt.ow_call HT_ hHeld rfl rfl rfl (by kernel_rfl) Try.func17 (by kernel_rfl) rfl #[] (by rfl) (by (try simp only [List.map_toArray, List.map_cons, List.map_nil]); first | done | rfl | (simp only [List.length_drop, List.length_take]; rfl)) ?_
      (with_reducible refine (alive_any _).mono ?_)
      rintro e w_ ⟨rfl, hb⟩
      refine ⟨_, rfl, hb, fun hHeld_ => ?_⟩
      clear hHeld hb
      have hHeld := hHeld_
      clear hHeld_
      refine Evt.ow_norm (a' := ?_) ?_ ?_
      rotate_left
      · simp only [Act.put, List.setIfInBounds_toArray, List.set_cons_zero, List.set_cons_succ, i64_w, i32_w]; rfl
      iterate 33 (first | (refine Evt.ow_off (a' := ?_) HT_ rfl rfl (by rfl) (by kernel_rfl) (fun _ _ _ h => h) ?_ ?_; rotate_left; (· (try simp only [Act.put, List.setIfInBounds_toArray, List.set_cons_zero, List.set_cons_succ, i64_w, i32_w]); rfl)) | (refine Evt.ow_pure (a' := ?_) (v := ?_) HT_ rfl rfl rfl (by rfl) (by kernel_rfl) (fun _ _ _ h => h) ?_ ?_ ?_; rotate_left 2; (· intro w'; go_simp; with_reducible rfl); (· (try simp only [Act.put, List.setIfInBounds_toArray, List.set_cons_zero, List.set_cons_succ, i64_w, i32_w]); rfl)) | (refine Evt.ow_load (a' := ?_) (v := ?_) HT_ HW_ hHeld rfl rfl rfl (by rfl) (by kernel_rfl) (fun _ _ _ h => h) ?_ ?_ ?_; rotate_left 2; (· intro w' hS_; obtain ⟨s0, s1, s2, s3, s4, s5⟩ := KP.out w' hS_.out; go_simp; with_reducible rfl); (· (try simp only [Act.put, List.setIfInBounds_toArray, List.set_cons_zero, List.set_cons_succ, i64_w, i32_w]); rfl)))
      refine Evt.ow_value (a' := ?a19_) (v := ?v19_) (w1 := ?w119_) HT_ hHeld rfl rfl (by rfl) (by kernel_rfl) ?hr19_ ?hb19_ ?ha19_ ?h19_
      case hr19_ => (first | (go_simp; done) | (go_simp; refine ⟨?_, ?_⟩ <;> rfl) | (go_simp; rfl))
      case hb19_ => (repeat (first | (with_reducible first | exact Below.refl _ _ | apply below_alloc) | exact Below.refl _ _))
      case ha19_ => (simp only [Act.put, List.setIfInBounds_toArray, List.set_cons_zero, List.set_cons_succ, i64_w, i32_w]; rfl)
      intro hHeld_
      clear hHeld
      have hHeld := hHeld_
      clear hHeld_
      (first | (refine Evt.ow_off (a' := ?_) HT_ rfl rfl (by rfl) (by kernel_rfl) (fun _ _ _ h => h) ?_ ?_; rotate_left; (· (try simp only [Act.put, List.setIfInBounds_toArray, List.set_cons_zero, List.set_cons_succ, i64_w, i32_w]); rfl)) | (refine Evt.ow_pure (a' := ?_) (v := ?_) HT_ rfl rfl rfl (by rfl) (by kernel_rfl) (fun _ _ _ h => h) ?_ ?_ ?_; rotate_left 2; (· intro w'; go_simp; with_reducible rfl); (· (try simp only [Act.put, List.setIfInBounds_toArray, List.set_cons_zero, List.set_cons_succ, i64_w, i32_w]); rfl)) | (refine Evt.ow_load (a' := ?_) (v := ?_) HT_ HW_ hHeld rfl rfl rfl (by rfl) (by kernel_rfl) (fun _ _ _ h => h) ?_ ?_ ?_; rotate_left 2; (· intro w' hS_; obtain ⟨s0, s1, s2, s3, s4, s5⟩ := KP.out w' hS_.out; go_simp; with_reducible rfl); (· (try simp only [Act.put, List.setIfInBounds_toArray, List.set_cons_zero, List.set_cons_succ, i64_w, i32_w]); rfl)))
      refine Evt.ow_value (a' := ?a20_) (v := ?v20_) (w1 := ?w120_) HT_ hHeld rfl rfl (by rfl) (by kernel_rfl) ?hr20_ ?hb20_ ?ha20_ ?h20_
      case hr20_ => (first | (go_simp; done) | (go_simp; refine ⟨?_, ?_⟩ <;> rfl) | (go_simp; rfl))
      case hb20_ => (repeat (first | (with_reducible first | exact Below.refl _ _ | apply below_alloc) | exact Below.refl _ _))
      case ha20_ => (simp only [Act.put, List.setIfInBounds_toArray, List.set_cons_zero, List.set_cons_succ, i64_w, i32_w]; rfl)
      intro hHeld_
      clear hHeld
      have hHeld := hHeld_
      clear hHeld_
      iterate 5 (first | (refine Evt.ow_off (a' := ?_) HT_ rfl rfl (by rfl) (by kernel_rfl) (fun _ _ _ h => h) ?_ ?_; rotate_left; (· (try simp only [Act.put, List.setIfInBounds_toArray, List.set_cons_zero, List.set_cons_succ, i64_w, i32_w]); rfl)) | (refine Evt.ow_pure (a' := ?_) (v := ?_) HT_ rfl rfl rfl (by rfl) (by kernel_rfl) (fun _ _ _ h => h) ?_ ?_ ?_; rotate_left 2; (· intro w'; go_simp; with_reducible rfl); (· (try simp only [Act.put, List.setIfInBounds_toArray, List.set_cons_zero, List.set_cons_succ, i64_w, i32_w]); rfl)) | (refine Evt.ow_load (a' := ?_) (v := ?_) HT_ HW_ hHeld rfl rfl rfl (by rfl) (by kernel_rfl) (fun _ _ _ h => h) ?_ ?_ ?_; rotate_left 2; (· intro w' hS_; obtain ⟨s0, s1, s2, s3, s4, s5⟩ := KP.out w' hS_.out; go_simp; with_reducible rfl); (· (try simp only [Act.put, List.setIfInBounds_toArray, List.set_cons_zero, List.set_cons_succ, i64_w, i32_w]); rfl)))
      refine Evt.ow_done HT_ (by kernel_rfl) ?_
      refine Evt.gen_any (w0 := w13) hHeld.out ?_
      intro w14 hbx
      clear hHeld HT_ HW_ KP
      have n_BK2 := Aside0.mk (BK2.out.below hbx)
      have n_BK3 := Aside0.mk (BK3.out.below hbx)
      have n_BK5 := Aside0.mk (BK5.out.below hbx)
      have n_SN := Aside0.mk (SN.out.below hbx)
      have n_BK6 := Aside0.mk (BK6.out.below hbx)
      have n_HB := Aside0.mk (below_step HB.out hbx)
      clear HB BK2 BK3 BK5 SN BK6
      have BK2 := n_BK2
      have BK3 := n_BK3
      have BK5 := n_BK5
      have SN := n_SN
      have BK6 := n_BK6
      have HB := n_HB
      clear hbx n_BK2 n_BK3 n_BK5 n_SN n_BK6 n_HB
      have zBK2_0 : w14.cell? ⟨g2, 0, none⟩ = some (.int .u16 n0) := (blk_cell BK2.out.blk 0).trans rfl
      have zBK2_1 : w14.cell? ⟨g2, 1, none⟩ = some (.int .u16 n1) := (blk_cell BK2.out.blk 1).trans rfl
      have zBK2_2 : w14.cell? ⟨g2, 2, none⟩ = some (.int .u16 n2) := (blk_cell BK2.out.blk 2).trans rfl
      have zBK2_3 : w14.cell? ⟨g2, 3, none⟩ = some (.int .u16 n3) := (blk_cell BK2.out.blk 3).trans rfl
      have zBK3_0 : w14.cell? ⟨g3, 0, none⟩ = some (.int .i64 2) := (blk_cell BK3.out.blk 0).trans rfl
      have zBK3_1 : w14.cell? ⟨g3, 1, none⟩ = some (.int .i64 n) := (blk_cell BK3.out.blk 1).trans rfl
      have zBK5_0 : w14.cell? ⟨g5, 0, none⟩ = some (.int .i64 i) := (blk_cell BK5.out.blk 0).trans rfl
      have zBK5_1 : w14.cell? ⟨g5, 1, none⟩ = some (.int .i64 q) := (blk_cell BK5.out.blk 1).trans rfl
      have zBK5_2 : w14.cell? ⟨g5, 2, none⟩ = some (.int .i64 m) := (blk_cell BK5.out.blk 2).trans rfl
      have zBK5_3 : w14.cell? ⟨g5, 3, none⟩ = some (.int .i64 e) := (blk_cell BK5.out.blk 3).trans rfl
      have zBK6_0 : w14.cell? ⟨g6, 0, none⟩ = some (.slice X0 L0.length x0) := (blk_cell BK6.out.blk 0).trans rfl
      have zBK6_1 : w14.cell? ⟨g6, 1, none⟩ = some (.slice X1 L1.length x1) := (blk_cell BK6.out.blk 1).trans rfl
      have zBK6_2 : w14.cell? ⟨g6, 2, none⟩ = some (.slice X2 L2.length x2) := (blk_cell BK6.out.blk 2).trans rfl
      go_wp2
      go_ret
      exact ⟨rfl, HB.out⟩
      skip
    · have V := Aside0.mk (rdv_new (s := 2) (n := n) (f := 3) hLI.out hNf.out (by rw [if_neg (by decide), if_neg (by decide), if_pos rfl, if_neg (by omega)]))
      have hn0 : decide (0 ≤ n) = true := decide_eq_true (by omega)
      have hn1 : decide (n < m) = false := decide_eq_false (by omega)
      skip
      skip
      have KP : Aside0 (∀ w', Below w12.heap.size w12 w' → (w'.cell? ⟨g3, 0, none⟩ = some (.int .i64 2) ∧ w'.cell? ⟨g3, 1, none⟩ = some (.int .i64 n) ∧ w'.cell? ⟨g5, 0, none⟩ = some (.int .i64 i) ∧ w'.cell? ⟨g5, 1, none⟩ = some (.int .i64 q) ∧ w'.cell? ⟨g5, 2, none⟩ = some (.int .i64 m) ∧ w'.cell? ⟨g5, 3, none⟩ = some (.int .i64 e) ∧ w'.cell? ⟨g6, 0, none⟩ = some (.slice X0 L0.length x0) ∧ w'.cell? ⟨g6, 1, none⟩ = some (.slice X1 L1.length x1) ∧ w'.cell? ⟨g6, 2, none⟩ = some (.slice X2 L2.length x2))) := Aside0.mk (fun w' hb => ⟨(blk_cell (BK3.out.below hb).blk 0).trans rfl, (blk_cell (BK3.out.below hb).blk 1).trans rfl, (blk_cell (BK5.out.below hb).blk 0).trans rfl, (blk_cell (BK5.out.below hb).blk 1).trans rfl, (blk_cell (BK5.out.below hb).blk 2).trans rfl, (blk_cell (BK5.out.below hb).blk 3).trans rfl, (blk_cell (BK6.out.below hb).blk 0).trans rfl, (blk_cell (BK6.out.below hb).blk 1).trans rfl, (blk_cell (BK6.out.below hb).blk 2).trans rfl⟩)
      clear zBK2_0 zBK2_1 zBK2_2 zBK2_3 zBK3_0 zBK3_1 zBK5_0 zBK5_1 zBK5_2 zBK5_3 zBK6_0 zBK6_1 zBK6_2
      refine Evt.ow_start (w0 := w12) (T := (true, [([], []), ([0], [0]), ([1, 1], [1]), ([], []), ([], []), ([2, 3, 4], [2, 3, 4]), ([5], [5]), ([6], [6]), ([6], [6]), ([7, 5, 0, 1, 2, 3, 4, 5, 6, 7], [7]), ([8, 9, 0, 1, 2, 3, 4, 5, 6, 7, 8, 9], [8])])) (B := [0, 1, 3, 0, 0, 31, 63, 127, 127, 255, 1023]) 11 [(0, some 72), (1, some 73), (3, some 75), (4, some 76), (2, some 74), (5, some 77), (6, some 71), (7, some 78), (8, some 79), (9, some 10), (10, some 11)] (by kernel_rfl) rfl (by kernel_rfl) (by kernel_rfl) (by kernel_rfl) (by repeat (first | (with_reducible first | exact Below.refl _ _ | apply below_alloc | apply pw_below_drewN | apply below_drew1) | exact Below.refl _ _)) ?_
      intro HT_ HW_ w_ hHeld
      iterate 4 (first | (refine Evt.ow_off (a' := ?_) HT_ rfl rfl (by rfl) (by kernel_rfl) (fun _ _ _ h => h) ?_ ?_; rotate_left; (· (try simp only [Act.put, List.setIfInBounds_toArray, List.set_cons_zero, List.set_cons_succ, i64_w, i32_w]); rfl)) | (refine Evt.ow_pure (a' := ?_) (v := ?_) HT_ rfl rfl rfl (by rfl) (by kernel_rfl) (fun _ _ _ h => h) ?_ ?_ ?_; rotate_left 2; (· intro w'; go_simp; with_reducible rfl); (· (try simp only [Act.put, List.setIfInBounds_toArray, List.set_cons_zero, List.set_cons_succ, i64_w, i32_w]); rfl)) | (refine Evt.ow_load (a' := ?_) (v := ?_) HT_ HW_ hHeld rfl rfl rfl (by rfl) (by kernel_rfl) (fun _ _ _ h => h) ?_ ?_ ?_; rotate_left 2; (· intro w' hS_; obtain ⟨s0, s1, s2, s3, s4, s5, s6, s7, s8⟩ := KP.out w' hS_.out; go_simp; with_reducible rfl); (· (try simp only [Act.put, List.setIfInBounds_toArray, List.set_cons_zero, List.set_cons_succ, i64_w, i32_w]); rfl)))
      refine Evt.ow_value (a' := ?a21_) (v := ?v21_) (w1 := ?w121_) HT_ hHeld rfl rfl (by rfl) (by kernel_rfl) ?hr21_ ?hb21_ ?ha21_ ?h21_
      case hr21_ => (first | (go_simp; done) | (go_simp; refine ⟨?_, ?_⟩ <;> rfl) | (go_simp; rfl))
      case hb21_ => (repeat (first | (with_reducible first | exact Below.refl _ _ | apply below_alloc) | exact Below.refl _ _))
      case ha21_ => (simp only [Act.put, List.setIfInBounds_toArray, List.set_cons_zero, List.set_cons_succ, i64_w, i32_w]; rfl)
      intro hHeld_
      clear hHeld
      have hHeld := hHeld_
      clear hHeld_
      refine Evt.ow_call HT_ hHeld rfl rfl rfl (by kernel_rfl) Try.func18 (by kernel_rfl) rfl #[.slice (some ⟨w_.heap.size, 0, none⟩) LI.length LI.length, .agg #[.slice X0 L0.length x0, .slice X1 L1.length x1, .slice X2 L2.length x2], .agg #[.int .i64 2, .int .i64 n]] (by rfl) (by (try simp only [List.map_toArray, List.map_cons, List.map_nil]); first | done | rfl | (simp only [List.length_drop, List.length_take]; rfl)) ?_
      (with_reducible refine (readN V.out (by repeat (first | (with_reducible first | exact rw_made LR.out LN.out _ | refine Rw.drewN' ?_ _ | refine Rw.drew' ?_) | exact rw_made LR.out LN.out _)) (SN.out.below hHeld.out)).mono ?_)
      rintro e w_ ⟨rfl, hb⟩
      refine ⟨_, rfl, hb, fun hHeld_ => ?_⟩
      clear hHeld hb
      have hHeld := hHeld_
      clear hHeld_
      refine Evt.ow_norm (a' := ?_) ?_ ?_
      rotate_left
      · simp only [Act.put, List.setIfInBounds_toArray, List.set_cons_zero, List.set_cons_succ, i64_w, i32_w]; rfl
      iterate 5 (first | (refine Evt.ow_off (a' := ?_) HT_ rfl rfl (by rfl) (by kernel_rfl) (fun _ _ _ h => h) ?_ ?_; rotate_left; (· (try simp only [Act.put, List.setIfInBounds_toArray, List.set_cons_zero, List.set_cons_succ, i64_w, i32_w]); rfl)) | (refine Evt.ow_pure (a' := ?_) (v := ?_) HT_ rfl rfl rfl (by rfl) (by kernel_rfl) (fun _ _ _ h => h) ?_ ?_ ?_; rotate_left 2; (· intro w'; go_simp; with_reducible rfl); (· (try simp only [Act.put, List.setIfInBounds_toArray, List.set_cons_zero, List.set_cons_succ, i64_w, i32_w]); rfl)) | (refine Evt.ow_load (a' := ?_) (v := ?_) HT_ HW_ hHeld rfl rfl rfl (by rfl) (by kernel_rfl) (fun _ _ _ h => h) ?_ ?_ ?_; rotate_left 2; (· intro w' hS_; obtain ⟨s0, s1, s2, s3, s4, s5, s6, s7, s8⟩ := KP.out w' hS_.out; go_simp; with_reducible rfl); (· (try simp only [Act.put, List.setIfInBounds_toArray, List.set_cons_zero, List.set_cons_succ, i64_w, i32_w]); rfl)))
      refine Evt.ow_done HT_ (by kernel_rfl) ?_
      refine Evt.gen_any (w0 := w12) hHeld.out ?_
      intro w13 hbx
      clear hHeld HT_ HW_ KP
      have n_BK2 := Aside0.mk (BK2.out.below hbx)
      have n_BK3 := Aside0.mk (BK3.out.below hbx)
      have n_BK5 := Aside0.mk (BK5.out.below hbx)
      have n_SN := Aside0.mk (SN.out.below hbx)
      have n_BK6 := Aside0.mk (BK6.out.below hbx)
      have n_HB := Aside0.mk (below_step HB.out hbx)
      clear HB BK2 BK3 BK5 SN BK6
      have BK2 := n_BK2
      have BK3 := n_BK3
      have BK5 := n_BK5
      have SN := n_SN
      have BK6 := n_BK6
      have HB := n_HB
      clear hbx n_BK2 n_BK3 n_BK5 n_SN n_BK6 n_HB
      have zBK2_0 : w13.cell? ⟨g2, 0, none⟩ = some (.int .u16 n0) := (blk_cell BK2.out.blk 0).trans rfl
      have zBK2_1 : w13.cell? ⟨g2, 1, none⟩ = some (.int .u16 n1) := (blk_cell BK2.out.blk 1).trans rfl
      have zBK2_2 : w13.cell? ⟨g2, 2, none⟩ = some (.int .u16 n2) := (blk_cell BK2.out.blk 2).trans rfl
      have zBK2_3 : w13.cell? ⟨g2, 3, none⟩ = some (.int .u16 n3) := (blk_cell BK2.out.blk 3).trans rfl
      have zBK3_0 : w13.cell? ⟨g3, 0, none⟩ = some (.int .i64 2) := (blk_cell BK3.out.blk 0).trans rfl
      have zBK3_1 : w13.cell? ⟨g3, 1, none⟩ = some (.int .i64 n) := (blk_cell BK3.out.blk 1).trans rfl
      have zBK5_0 : w13.cell? ⟨g5, 0, none⟩ = some (.int .i64 i) := (blk_cell BK5.out.blk 0).trans rfl
      have zBK5_1 : w13.cell? ⟨g5, 1, none⟩ = some (.int .i64 q) := (blk_cell BK5.out.blk 1).trans rfl
      have zBK5_2 : w13.cell? ⟨g5, 2, none⟩ = some (.int .i64 m) := (blk_cell BK5.out.blk 2).trans rfl
      have zBK5_3 : w13.cell? ⟨g5, 3, none⟩ = some (.int .i64 e) := (blk_cell BK5.out.blk 3).trans rfl
      have zBK6_0 : w13.cell? ⟨g6, 0, none⟩ = some (.slice X0 L0.length x0) := (blk_cell BK6.out.blk 0).trans rfl
      have zBK6_1 : w13.cell? ⟨g6, 1, none⟩ = some (.slice X1 L1.length x1) := (blk_cell BK6.out.blk 1).trans rfl
      have zBK6_2 : w13.cell? ⟨g6, 2, none⟩ = some (.slice X2 L2.length x2) := (blk_cell BK6.out.blk 2).trans rfl
      go_wp2_with fail
      have KP : Aside0 (∀ w', Below w13.heap.size w13 w' → (w'.cell? ⟨g3, 0, none⟩ = some (.int .i64 2) ∧ w'.cell? ⟨g3, 1, none⟩ = some (.int .i64 n) ∧ w'.cell? ⟨g5, 0, none⟩ = some (.int .i64 i) ∧ w'.cell? ⟨g5, 1, none⟩ = some (.int .i64 q) ∧ w'.cell? ⟨g5, 2, none⟩ = some (.int .i64 m) ∧ w'.cell? ⟨g5, 3, none⟩ = some (.int .i64 e))) := Aside0.mk (fun w' hb => ⟨(blk_cell (BK3.out.below hb).blk 0).trans rfl, (blk_cell (BK3.out.below hb).blk 1).trans rfl, (blk_cell (BK5.out.below hb).blk 0).trans rfl, (blk_cell (BK5.out.below hb).blk 1).trans rfl, (blk_cell (BK5.out.below hb).blk 2).trans rfl, (blk_cell (BK5.out.below hb).blk 3).trans rfl⟩)
      clear zBK2_0 zBK2_1 zBK2_2 zBK2_3 zBK3_0 zBK3_1 zBK5_0 zBK5_1 zBK5_2 zBK5_3 zBK6_0 zBK6_1 zBK6_2
      refine Evt.ow_start (w0 := w13) (T := (true, [([], []), ([0, 0], [0]), ([1], [1]), ([2, 1], [1, 2]), ([1, 3], [1, 3]), ([4, 1], [4]), ([5], [5]), ([6, 5], [5, 6]), ([5], [5]), ([8, 5], [5, 8]), ([9, 5], [5, 9]), ([10, 5, 5], [5, 10]), ([11], [11]), ([12, 11], [11, 12]), ([13, 11], [11, 13]), ([11, 14, 5], [5, 11, 14]), ([15, 11, 5], [5, 15]), ([16], [16]), ([17, 16], [16, 17]), ([18, 16], [16, 18]), ([16, 19, 5], [5, 16, 19]), ([20, 16, 5], [5, 20]), ([21], [21]), ([22, 21], [21, 22]), ([21], [21]), ([24, 21], [21, 24]), ([21], [21]), ([26, 21], [21, 26]), ([21], [21]), ([28, 21], [21, 28]), ([25, 27, 29, 21], [21, 25, 27, 29]), ([21], [21]), ([31, 21], [21, 31]), ([32, 21], [21, 32]), ([33, 21], [21, 33]), ([30, 34, 21], [21, 30, 34]), ([35, 21], [21, 35]), ([23, 36, 21], [21, 23, 36]), ([21, 37, 5], [5, 21, 37]), ([7, 38, 5], [5, 7, 38]), ([5, 39], [5, 39]), ([40, 21, 0, 1, 2, 3, 4, 5, 6, 7, 8, 9, 10, 11, 12, 13, 14, 15, 16, 17, 18, 19, 20, 21, 22, 23, 24, 25, 26, 27, 28, 29, 30, 31, 32, 33, 34, 35, 36, 37, 38, 39, 40], [40])])) (B := [0, 1, 3, 7, 15, 31, 63, 127, 63, 319, 831, 1855, 3903, 7999, 16191, 32575, 65343, 130879, 261951, 524095, 1048383, 2096959, 4194111, 8388415, 4194111, 20971327, 4194111, 71302975, 4194111, 272629567, 1061158719, 4194111, 2151677759, 6446645055, 15036579647, 34347155263, 68706893631, 137438953279, 274877906751, 549755813887, 1099511627775, 2199023255551]) 42 [(0, some 80), (1, some 81), (2, some 82), (3, some 83), (4, some 84), (5, some 85), (6, some 86), (7, some 87), (8, some 88), (9, some 89), (10, some 90), (11, some 91), (12, some 92), (13, some 93), (14, some 94), (15, some 95), (16, some 96), (17, some 97), (18, some 98), (19, some 99), (20, some 100), (21, some 101), (22, some 102), (24, some 104), (26, some 106), (28, some 108), (31, some 111), (23, some 103), (25, some 105), (27, some 107), (29, some 109), (32, some 112), (33, some 113), (34, some 114), (30, some 110), (35, some 115), (36, some 116), (37, some 117), (38, some 118), (39, some 119), (40, some 120), (41, some 4)] (by kernel_rfl) rfl (by kernel_rfl) (by kernel_rfl) (by kernel_rfl) (by repeat (first | (with_reducible first | exact Below.refl _ _ | apply below_alloc | apply pw_below_drewN | apply below_drew1) | exact Below.refl _ _)) ?_
      intro HT_ HW_ w_ hHeld
      refine Evt.ow_call HT_ hHeld rfl rfl rfl (by kernel_rfl) Try.func17 (by kernel_rfl) rfl #[] (by rfl) (by (try simp only [List.map_toArray, List.map_cons, List.map_nil]); first | done | rfl | (simp only [List.length_drop, List.length_take]; rfl)) ?_
      (with_reducible refine (alive_any _).mono ?_)
      rintro e w_ ⟨rfl, hb⟩
      refine ⟨_, rfl, hb, fun hHeld_ => ?_⟩
      clear hHeld hb
      have hHeld := hHeld_
      clear hHeld_
      refine Evt.ow_norm (a' := ?_) ?_ ?_
      rotate_left
      · simp only [Act.put, List.setIfInBounds_toArray, List.set_cons_zero, List.set_cons_succ, i64_w, i32_w]; rfl
      iterate 33 (first | (refine Evt.ow_off (a' := ?_) HT_ rfl rfl (by rfl) (by kernel_rfl) (fun _ _ _ h => h) ?_ ?_; rotate_left; (· (try simp only [Act.put, List.setIfInBounds_toArray, List.set_cons_zero, List.set_cons_succ, i64_w, i32_w]); rfl)) | (refine Evt.ow_pure (a' := ?_) (v := ?_) HT_ rfl rfl rfl (by rfl) (by kernel_rfl) (fun _ _ _ h => h) ?_ ?_ ?_; rotate_left 2; (· intro w'; go_simp; with_reducible rfl); (· (try simp only [Act.put, List.setIfInBounds_toArray, List.set_cons_zero, List.set_cons_succ, i64_w, i32_w]); rfl)) | (refine Evt.ow_load (a' := ?_) (v := ?_) HT_ HW_ hHeld rfl rfl rfl (by rfl) (by kernel_rfl) (fun _ _ _ h => h) ?_ ?_ ?_; rotate_left 2; (· intro w' hS_; obtain ⟨s0, s1, s2, s3, s4, s5⟩ := KP.out w' hS_.out; go_simp; with_reducible rfl); (· (try simp only [Act.put, List.setIfInBounds_toArray, List.set_cons_zero, List.set_cons_succ, i64_w, i32_w]); rfl)))
      refine Evt.ow_value (a' := ?a22_) (v := ?v22_) (w1 := ?w122_) HT_ hHeld rfl rfl (by rfl) (by kernel_rfl) ?hr22_ ?hb22_ ?ha22_ ?h22_
      case hr22_ => (first | (go_simp; done) | (go_simp; refine ⟨?_, ?_⟩ <;> rfl) | (go_simp; rfl))
      case hb22_ => (repeat (first | (with_reducible first | exact Below.refl _ _ | apply below_alloc) | exact Below.refl _ _))
      case ha22_ => (simp only [Act.put, List.setIfInBounds_toArray, List.set_cons_zero, List.set_cons_succ, i64_w, i32_w]; rfl)
      intro hHeld_
      clear hHeld
      have hHeld := hHeld_
      clear hHeld_
      (first | (refine Evt.ow_off (a' := ?_) HT_ rfl rfl (by rfl) (by kernel_rfl) (fun _ _ _ h => h) ?_ ?_; rotate_left; (· (try simp only [Act.put, List.setIfInBounds_toArray, List.set_cons_zero, List.set_cons_succ, i64_w, i32_w]); rfl)) | (refine Evt.ow_pure (a' := ?_) (v := ?_) HT_ rfl rfl rfl (by rfl) (by kernel_rfl) (fun _ _ _ h => h) ?_ ?_ ?_; rotate_left 2; (· intro w'; go_simp; with_reducible rfl); (· (try simp only [Act.put, List.setIfInBounds_toArray, List.set_cons_zero, List.set_cons_succ, i64_w, i32_w]); rfl)) | (refine Evt.ow_load (a' := ?_) (v := ?_) HT_ HW_ hHeld rfl rfl rfl (by rfl) (by kernel_rfl) (fun _ _ _ h => h) ?_ ?_ ?_; rotate_left 2; (· intro w' hS_; obtain ⟨s0, s1, s2, s3, s4, s5⟩ := KP.out w' hS_.out; go_simp; with_reducible rfl); (· (try simp only [Act.put, List.setIfInBounds_toArray, List.set_cons_zero, List.set_cons_succ, i64_w, i32_w]); rfl)))
      refine Evt.ow_value (a' := ?a23_) (v := ?v23_) (w1 := ?w123_) HT_ hHeld rfl rfl (by rfl) (by kernel_rfl) ?hr23_ ?hb23_ ?ha23_ ?h23_
      case hr23_ => (first | (go_simp; done) | (go_simp; refine ⟨?_, ?_⟩ <;> rfl) | (go_simp; rfl))
      case hb23_ => (repeat (first | (with_reducible first | exact Below.refl _ _ | apply below_alloc) | exact Below.refl _ _))
      case ha23_ => (simp only [Act.put, List.setIfInBounds_toArray, List.set_cons_zero, List.set_cons_succ, i64_w, i32_w]; rfl)
      intro hHeld_
      clear hHeld
      have hHeld := hHeld_
      clear hHeld_
      iterate 5 (first | (refine Evt.ow_off (a' := ?_) HT_ rfl rfl (by rfl) (by kernel_rfl) (fun _ _ _ h => h) ?_ ?_; rotate_left; (· (try simp only [Act.put, List.setIfInBounds_toArray, List.set_cons_zero, List.set_cons_succ, i64_w, i32_w]); rfl)) | (refine Evt.ow_pure (a' := ?_) (v := ?_) HT_ rfl rfl rfl (by rfl) (by kernel_rfl) (fun _ _ _ h => h) ?_ ?_ ?_; rotate_left 2; (· intro w'; go_simp; with_reducible rfl); (· (try simp only [Act.put, List.setIfInBounds_toArray, List.set_cons_zero, List.set_cons_succ, i64_w, i32_w]); rfl)) | (refine Evt.ow_load (a' := ?_) (v := ?_) HT_ HW_ hHeld rfl rfl rfl (by rfl) (by kernel_rfl) (fun _ _ _ h => h) ?_ ?_ ?_; rotate_left 2; (· intro w' hS_; obtain ⟨s0, s1, s2, s3, s4, s5⟩ := KP.out w' hS_.out; go_simp; with_reducible rfl); (· (try simp only [Act.put, List.setIfInBounds_toArray, List.set_cons_zero, List.set_cons_succ, i64_w, i32_w]); rfl)))
      refine Evt.ow_done HT_ (by kernel_rfl) ?_
      refine Evt.gen_any (w0 := w13) hHeld.out ?_
      intro w14 hbx
      clear hHeld HT_ HW_ KP
      have n_BK2 := Aside0.mk (BK2.out.below hbx)
      have n_BK3 := Aside0.mk (BK3.out.below hbx)
      have n_BK5 := Aside0.mk (BK5.out.below hbx)
      have n_SN := Aside0.mk (SN.out.below hbx)
      have n_BK6 := Aside0.mk (BK6.out.below hbx)
      have n_HB := Aside0.mk (below_step HB.out hbx)
      clear HB BK2 BK3 BK5 SN BK6
      have BK2 := n_BK2
      have BK3 := n_BK3
      have BK5 := n_BK5
      have SN := n_SN
      have BK6 := n_BK6
      have HB := n_HB
      clear hbx n_BK2 n_BK3 n_BK5 n_SN n_BK6 n_HB
      have zBK2_0 : w14.cell? ⟨g2, 0, none⟩ = some (.int .u16 n0) := (blk_cell BK2.out.blk 0).trans rfl
      have zBK2_1 : w14.cell? ⟨g2, 1, none⟩ = some (.int .u16 n1) := (blk_cell BK2.out.blk 1).trans rfl
      have zBK2_2 : w14.cell? ⟨g2, 2, none⟩ = some (.int .u16 n2) := (blk_cell BK2.out.blk 2).trans rfl
      have zBK2_3 : w14.cell? ⟨g2, 3, none⟩ = some (.int .u16 n3) := (blk_cell BK2.out.blk 3).trans rfl
      have zBK3_0 : w14.cell? ⟨g3, 0, none⟩ = some (.int .i64 2) := (blk_cell BK3.out.blk 0).trans rfl
      have zBK3_1 : w14.cell? ⟨g3, 1, none⟩ = some (.int .i64 n) := (blk_cell BK3.out.blk 1).trans rfl
      have zBK5_0 : w14.cell? ⟨g5, 0, none⟩ = some (.int .i64 i) := (blk_cell BK5.out.blk 0).trans rfl
      have zBK5_1 : w14.cell? ⟨g5, 1, none⟩ = some (.int .i64 q) := (blk_cell BK5.out.blk 1).trans rfl
      have zBK5_2 : w14.cell? ⟨g5, 2, none⟩ = some (.int .i64 m) := (blk_cell BK5.out.blk 2).trans rfl
      have zBK5_3 : w14.cell? ⟨g5, 3, none⟩ = some (.int .i64 e) := (blk_cell BK5.out.blk 3).trans rfl
      have zBK6_0 : w14.cell? ⟨g6, 0, none⟩ = some (.slice X0 L0.length x0) := (blk_cell BK6.out.blk 0).trans rfl
      have zBK6_1 : w14.cell? ⟨g6, 1, none⟩ = some (.slice X1 L1.length x1) := (blk_cell BK6.out.blk 1).trans rfl
      have zBK6_2 : w14.cell? ⟨g6, 2, none⟩ = some (.slice X2 L2.length x2) := (blk_cell BK6.out.blk 2).trans rfl
      go_wp2
      go_ret
      exact ⟨rfl, HB.out⟩
      skip
theorem nf_walk (w : World) (k0 : List Value) (y0 : Int × Int × Int × Int) (h0 : K4.K w y0 k0) (b0 : U16 y0.1 ∧ U16 y0.2.1 ∧ U16 y0.2.2.1 ∧ U16 y0.2.2.2) (k1 : List Value) (y1 : Int × Int) (h1 : KAddr.K w y1 k1) (_ : I64 y1.1 ∧ I64 y1.2) :
    Calls Try.prog 5 #[.agg k0.toArray, .agg k1.toArray] w fun x w' => x = .returned (.bool true) ∧ Below w.heap.size w w' := by
  obtain rfl := four_form h0
  obtain rfl := addr_form h1
  have u16 : ∀ {n : Int}, U16 n → 0 ≤ n ∧ n < 65536 := by
    intro n h
    have e0 : IntKind.u16.min = 0 := by decide
    have e1 : IntKind.u16.max = 65535 := by decide
    simp only [U16, Lit.wf, e0, e1, Bool.and_eq_true, decide_eq_true_eq] at h
    omega
  exact nf_core w _ _ _ _ _ _ (u16 b0.1) (u16 b0.2.1) (u16 b0.2.2.1) (u16 b0.2.2.2)
end
end Go.Proofs.Ytjohdkbciafpfaa.St03
