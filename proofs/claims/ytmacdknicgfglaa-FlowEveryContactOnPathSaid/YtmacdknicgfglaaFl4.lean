/- FlowEveryContactOnPath, walked. -/
import Derived.Test.YtmacdknicgfglaaAl3
import Derived.Test.YtmacdknicgfglaaEc
import Derived.Test.YtmacdknicgfglaaOr5
namespace Go.Proofs.Ytmacdknicgfglaa.Gw
open Go.RowKit Go.Shelf Go.Proofs.YtmacdknicgfglaaW.PrintWords Go.Proofs.YtmacdknicgfglaaW.PrintMore Go.Proofs.YtmacdknicgfglaaW.PrintLast Go.Proofs.Ytmacdknicgfglaa.Chg Go.Proofs.Ytmacdknicgfglaa.Evt Go.Proofs.Ytmacdknicgfglaa.Impl Go.Proofs.Ytmacdknicgfglaa.Gp Go.Proofs.Ytmacdknicgfglaa.Mp Go.Proofs.Ytmacdknicgfglaa.Open
open Go.Proofs.Ytmacdknicgfglaa.Pe (tl)
set_option linter.unusedVariables false
set_option linter.unusedSimpArgs false
set_option maxRecDepth 100000
section
variable {A1 A2 : Option Addr} {c1 c2 : Nat} {l1 : List S41} {l2 : List S101} {a0 a3 s : ByteArray} {n : Int}
theorem C_of_blk1 {w : World} {g : Nat} {x : S41} (h : Bk w g 41 #[.int .i64 x.f0, .int .i64 x.f1.f0, .int .i64 x.f1.f1, .string x.f2, .string x.f3]) : Kd.C k41 w (some ⟨g, 0, none⟩) 1 [x] := by
  refine ⟨rfl, by simp, fun _ => ⟨_, rfl, fun j p hj => ?_⟩⟩
  cases j with
  | zero =>
    obtain rfl : x = p := by simpa using hj
    refine ⟨_, rfl, k41_mk w x, fun i u hu => ?_⟩
    rw [Addr.add_lit]
    exact h.blk.cell _ (by simpa using hu)
  | succ j => simp at hj
theorem C_takeK {w : World} {ad : Addr} {l : List S41} {m : Nat} (h : Kd.C k41 w (some ad) l.length l) (hm : m ≤ l.length) : Kd.C k41 w (some ad) m (l.take m) := by
  have := Kd.C_take h hm
  rw [List.length_take, Nat.min_eq_left hm] at this
  exact this
theorem C_dropK {w : World} {ad : Addr} {c : Nat} {l : List S41} {m : Nat} (h : Kd.C k41 w (some ad) l.length l) (hm : m ≤ l.length) (hc : l.length ≤ c) : Kd.C k41 w (if c = m then some ad else some (ad.add (m * 5))) (l.length - m) (l.drop m) := by
  have := Kd.C_drop h hm hc
  rw [List.length_drop] at this
  exact this
theorem okG_sub {l m : List Ed} (h : okG l = true) (hs : ∀ c ∈ m, c ∈ l) (hn : m.length ≤ 1000) : okG m = true := by
  unfold okG
  rw [Bool.and_eq_true]
  refine ⟨decide_eq_true hn, List.all_eq_true.2 fun c hc => ?_⟩
  rw [Bool.and_eq_true]
  exact ⟨decide_eq_true (okG_f2 h (hs c hc)), decide_eq_true (okG_f3 h (hs c hc))⟩
theorem count_q {AQ : Option Addr} {cQ : Nat} {lq : List S41} (w : World) (h : Rg w AQ cQ lq none 0 []) (hok : okG (es lq) = true) {x y : Int} (hc : countL (es lq) = (x, y)) :
    Calls Try.prog 37 #[.agg #[.string ⟨#[]⟩, .slice AQ lq.length cQ, .slice none 0 0, .string ⟨#[]⟩]] w fun e w' => e = .returned (.tuple #[.int .i64 x, .int .i64 y]) ∧ Below w.heap.size w w' := count_any (A1 := AQ) (c1 := cQ) (l1 := lq) (A2 := none) (c2 := 0) (l2 := []) w h hok hc
theorem rg_of' {w0 w w' : World} {AQ : Option Addr} {cQ : Nat} {lq : List S41} (h : Kd.R k41 41 w w0.heap.size (fun _ => True) (.slice AQ lq.length cQ) lq) (hb : Below w.heap.size w w') : Rg w' AQ cQ lq none 0 [] := by
  obtain ⟨h1, h2, h3⟩ := Kd.R_reads' h
  exact Rg.below ⟨h3, h2, Kd.C_nil _ _, Nat.le_refl _⟩ hb
set_option maxHeartbeats 4000000 in
theorem fec_big (w : World) (h : Rg w A1 c1 l1 A2 c2 l2) (hz : SzR l1) (hb : ¬ tl (es l1) ≤ 0) : Calls Try.prog 12 #[.agg #[.string a0, .slice A1 l1.length c1, .slice A2 l2.length c2, .string a3], .int .u8 n] w fun x w' => x = .returned (.bool true) ∧ Below w.heap.size w w' := by
  have SZ := Aside0.mk hz
  have TL := Aside0.mk (tl_1 hb)
  have HB := Aside0.mk (Below.refl w.heap.size w)
  have R := Aside0.mk (h)
  clear h hz hb
  go_enter Try.func12, Try.ntmps12
  go_wp2_with (first | ((with_reducible refine gate_dst (N := 2) rfl ?_); refine box_event ?hg (N := 2) ?hd (cs := #[.string a0, .slice A1 l1.length c1, .slice A2 l2.length c2, .string a3]) (t := 25) ?hr ?_; (case hd => rfl); (case hg => rfl); (case hr => first | (go_simp; done) | (go_simp; rfl)); intro g2 hg w1 hbox hb; have hbx : Below w.heap.size w w1 := below_step (by repeat (first | (with_reducible first | exact Below.refl _ _ | apply below_alloc | apply pw_below_drewN | apply below_drew1) | exact Below.refl _ _)) hb; have n_R := Aside0.mk (R.out.below hbx); have n_HB := Aside0.mk (below_step HB.out hbx); clear HB R; have R := n_R; have HB := n_HB; clear hbx n_R n_HB; have BK2 := Aside0.mk (Bk.mk (hbox : Blk w1 g2 25 #[.string a0, .slice A1 l1.length c1, .slice A2 l2.length c2, .string a3])); clear hbox hg hb; have zBK2_0 : w1.cell? ⟨g2, 0, none⟩ = some (.string a0) := (blk_cell BK2.out.blk 0).trans rfl; have zBK2_1 : w1.cell? ⟨g2, 1, none⟩ = some (.slice A1 l1.length c1) := (blk_cell BK2.out.blk 1).trans rfl; have zBK2_2 : w1.cell? ⟨g2, 2, none⟩ = some (.slice A2 l2.length c2) := (blk_cell BK2.out.blk 2).trans rfl; have zBK2_3 : w1.cell? ⟨g2, 3, none⟩ = some (.string a3) := (blk_cell BK2.out.blk 3).trans rfl) | ((with_reducible refine gate_callee (f := 15) rfl ?_); refine goesL_ (some 15) rfl rfl Try.func15 (by kernel_rfl) rfl #[.agg #[.string a0, .slice A1 l1.length c1, .slice A2 l2.length c2, .string a3]] rfl (by (try simp only [List.map_toArray, List.map_cons, List.map_nil]); first | done | rfl | (simp only [List.length_drop, List.length_take]; rfl)) ?_; (with_reducible refine (Pe.tl_any _ (R.out.below (by repeat (first | (with_reducible first | exact Below.refl _ _ | apply below_alloc | apply pw_below_drewN | apply below_drew1) | exact Below.refl _ _))) SZ.out TL.out).mono ?_); rintro e w2 ⟨rfl, hb⟩; have hbx : Below w1.heap.size w1 w2 := below_step (by repeat (first | (with_reducible first | exact Below.refl _ _ | apply below_alloc | apply pw_below_drewN | apply below_drew1) | exact Below.refl _ _)) hb; clear zBK2_0 zBK2_1 zBK2_2 zBK2_3; have n_R := Aside0.mk (R.out.below hbx); have n_BK2 := Aside0.mk (BK2.out.below hbx); have n_HB := Aside0.mk (below_step HB.out hbx); clear HB R BK2; have R := n_R; have BK2 := n_BK2; have HB := n_HB; clear hbx n_R n_BK2 n_HB; clear hb; have zBK2_0 : w2.cell? ⟨g2, 0, none⟩ = some (.string a0) := (blk_cell BK2.out.blk 0).trans rfl; have zBK2_1 : w2.cell? ⟨g2, 1, none⟩ = some (.slice A1 l1.length c1) := (blk_cell BK2.out.blk 1).trans rfl; have zBK2_2 : w2.cell? ⟨g2, 2, none⟩ = some (.slice A2 l2.length c2) := (blk_cell BK2.out.blk 2).trans rfl; have zBK2_3 : w2.cell? ⟨g2, 3, none⟩ = some (.string a3) := (blk_cell BK2.out.blk 3).trans rfl; refine ⟨_, rfl, ?_⟩) | ((with_reducible refine gate_callee (f := 32) rfl ?_); refine goesL_ (some 34) rfl rfl Try.func32 (by kernel_rfl) rfl #[] rfl (by (try simp only [List.map_toArray, List.map_cons, List.map_nil]); first | done | rfl | (simp only [List.length_drop, List.length_take]; rfl)) ?_; (with_reducible refine (alive13_any _).mono ?_); rintro e w3 ⟨rfl, hb⟩; have hbx : Below w2.heap.size w2 w3 := below_step (by repeat (first | (with_reducible first | exact Below.refl _ _ | apply below_alloc | apply pw_below_drewN | apply below_drew1) | exact Below.refl _ _)) hb; clear zBK2_0 zBK2_1 zBK2_2 zBK2_3; have n_R := Aside0.mk (R.out.below hbx); have n_BK2 := Aside0.mk (BK2.out.below hbx); have n_HB := Aside0.mk (below_step HB.out hbx); clear HB R BK2; have R := n_R; have BK2 := n_BK2; have HB := n_HB; clear hbx n_R n_BK2 n_HB; clear hb; have zBK2_0 : w3.cell? ⟨g2, 0, none⟩ = some (.string a0) := (blk_cell BK2.out.blk 0).trans rfl; have zBK2_1 : w3.cell? ⟨g2, 1, none⟩ = some (.slice A1 l1.length c1) := (blk_cell BK2.out.blk 1).trans rfl; have zBK2_2 : w3.cell? ⟨g2, 2, none⟩ = some (.slice A2 l2.length c2) := (blk_cell BK2.out.blk 2).trans rfl; have zBK2_3 : w3.cell? ⟨g2, 3, none⟩ = some (.string a3) := (blk_cell BK2.out.blk 3).trans rfl; refine ⟨_, rfl, ?_⟩))
  go_ret
  exact ⟨rfl, HB.out⟩
set_option maxHeartbeats 4000000 in
theorem fec_long (w : World) (h : Rg w A1 c1 l1 A2 c2 l2) (hz : SzR l1) (hb : tl (es l1) ≤ 0) (hl : ¬ l1.length ≤ 20) : Calls Try.prog 12 #[.agg #[.string a0, .slice A1 l1.length c1, .slice A2 l2.length c2, .string a3], .int .u8 n] w fun x w' => x = .returned (.bool true) ∧ Below w.heap.size w w' := by
  have SZ := Aside0.mk hz
  have TL := Aside0.mk (tl_0 hb)
  have n0 : decide (l1.length > 20) = true := decide_eq_true (by omega)
  have n1 : decide ((l1.length : Int) > 20) = true := decide_eq_true (by omega)
  have n2 : decide (20 < l1.length) = true := decide_eq_true (by omega)
  have n3 : decide (20 < (l1.length : Int)) = true := decide_eq_true (by omega)
  have HB := Aside0.mk (Below.refl w.heap.size w)
  have R := Aside0.mk (h)
  clear h hz hb hl
  go_enter Try.func12, Try.ntmps12
  go_wp2_with (first | ((with_reducible refine gate_dst (N := 2) rfl ?_); refine box_event ?hg (N := 2) ?hd (cs := #[.string a0, .slice A1 l1.length c1, .slice A2 l2.length c2, .string a3]) (t := 25) ?hr ?_; (case hd => rfl); (case hg => rfl); (case hr => first | (go_simp; done) | (go_simp; rfl)); intro g2 hg w1 hbox hb; have hbx : Below w.heap.size w w1 := below_step (by repeat (first | (with_reducible first | exact Below.refl _ _ | apply below_alloc | apply pw_below_drewN | apply below_drew1) | exact Below.refl _ _)) hb; have n_R := Aside0.mk (R.out.below hbx); have n_HB := Aside0.mk (below_step HB.out hbx); clear HB R; have R := n_R; have HB := n_HB; clear hbx n_R n_HB; have BK2 := Aside0.mk (Bk.mk (hbox : Blk w1 g2 25 #[.string a0, .slice A1 l1.length c1, .slice A2 l2.length c2, .string a3])); clear hbox hg hb; have zBK2_0 : w1.cell? ⟨g2, 0, none⟩ = some (.string a0) := (blk_cell BK2.out.blk 0).trans rfl; have zBK2_1 : w1.cell? ⟨g2, 1, none⟩ = some (.slice A1 l1.length c1) := (blk_cell BK2.out.blk 1).trans rfl; have zBK2_2 : w1.cell? ⟨g2, 2, none⟩ = some (.slice A2 l2.length c2) := (blk_cell BK2.out.blk 2).trans rfl; have zBK2_3 : w1.cell? ⟨g2, 3, none⟩ = some (.string a3) := (blk_cell BK2.out.blk 3).trans rfl) | ((with_reducible refine gate_callee (f := 15) rfl ?_); refine goesL_ (some 15) rfl rfl Try.func15 (by kernel_rfl) rfl #[.agg #[.string a0, .slice A1 l1.length c1, .slice A2 l2.length c2, .string a3]] rfl (by (try simp only [List.map_toArray, List.map_cons, List.map_nil]); first | done | rfl | (simp only [List.length_drop, List.length_take]; rfl)) ?_; (with_reducible refine (Pe.tl_any _ (R.out.below (by repeat (first | (with_reducible first | exact Below.refl _ _ | apply below_alloc | apply pw_below_drewN | apply below_drew1) | exact Below.refl _ _))) SZ.out TL.out).mono ?_); rintro e w2 ⟨rfl, hb⟩; have hbx : Below w1.heap.size w1 w2 := below_step (by repeat (first | (with_reducible first | exact Below.refl _ _ | apply below_alloc | apply pw_below_drewN | apply below_drew1) | exact Below.refl _ _)) hb; clear zBK2_0 zBK2_1 zBK2_2 zBK2_3; have n_R := Aside0.mk (R.out.below hbx); have n_BK2 := Aside0.mk (BK2.out.below hbx); have n_HB := Aside0.mk (below_step HB.out hbx); clear HB R BK2; have R := n_R; have BK2 := n_BK2; have HB := n_HB; clear hbx n_R n_BK2 n_HB; clear hb; have zBK2_0 : w2.cell? ⟨g2, 0, none⟩ = some (.string a0) := (blk_cell BK2.out.blk 0).trans rfl; have zBK2_1 : w2.cell? ⟨g2, 1, none⟩ = some (.slice A1 l1.length c1) := (blk_cell BK2.out.blk 1).trans rfl; have zBK2_2 : w2.cell? ⟨g2, 2, none⟩ = some (.slice A2 l2.length c2) := (blk_cell BK2.out.blk 2).trans rfl; have zBK2_3 : w2.cell? ⟨g2, 3, none⟩ = some (.string a3) := (blk_cell BK2.out.blk 3).trans rfl; refine ⟨_, rfl, ?_⟩) | ((with_reducible refine gate_callee (f := 32) rfl ?_); refine goesL_ (some 34) rfl rfl Try.func32 (by kernel_rfl) rfl #[] rfl (by (try simp only [List.map_toArray, List.map_cons, List.map_nil]); first | done | rfl | (simp only [List.length_drop, List.length_take]; rfl)) ?_; (with_reducible refine (alive13_any _).mono ?_); rintro e w3 ⟨rfl, hb⟩; have hbx : Below w2.heap.size w2 w3 := below_step (by repeat (first | (with_reducible first | exact Below.refl _ _ | apply below_alloc | apply pw_below_drewN | apply below_drew1) | exact Below.refl _ _)) hb; clear zBK2_0 zBK2_1 zBK2_2 zBK2_3; have n_R := Aside0.mk (R.out.below hbx); have n_BK2 := Aside0.mk (BK2.out.below hbx); have n_HB := Aside0.mk (below_step HB.out hbx); clear HB R BK2; have R := n_R; have BK2 := n_BK2; have HB := n_HB; clear hbx n_R n_BK2 n_HB; clear hb; have zBK2_0 : w3.cell? ⟨g2, 0, none⟩ = some (.string a0) := (blk_cell BK2.out.blk 0).trans rfl; have zBK2_1 : w3.cell? ⟨g2, 1, none⟩ = some (.slice A1 l1.length c1) := (blk_cell BK2.out.blk 1).trans rfl; have zBK2_2 : w3.cell? ⟨g2, 2, none⟩ = some (.slice A2 l2.length c2) := (blk_cell BK2.out.blk 2).trans rfl; have zBK2_3 : w3.cell? ⟨g2, 3, none⟩ = some (.string a3) := (blk_cell BK2.out.blk 3).trans rfl; refine ⟨_, rfl, ?_⟩))
  go_ret
  exact ⟨rfl, HB.out⟩
set_option maxHeartbeats 4000000 in
theorem fec_bad (w : World) (h : Rg w A1 c1 l1 A2 c2 l2) (hz : SzR l1) (hb : tl (es l1) ≤ 0) (hl : l1.length ≤ 20) (hc : checkL (es l1) ≠ 0) : Calls Try.prog 12 #[.agg #[.string a0, .slice A1 l1.length c1, .slice A2 l2.length c2, .string a3], .int .u8 n] w fun x w' => x = .returned (.bool true) ∧ Below w.heap.size w w' := by
  have SZ := Aside0.mk hz
  have O12 := Aside0.mk (Ok12.of hb)
  have TL := Aside0.mk (tl_0 hb)
  have n0 : decide (l1.length > 20) = false := decide_eq_false (by omega)
  have n1 : decide ((l1.length : Int) > 20) = false := decide_eq_false (by omega)
  have n2 : decide (20 < l1.length) = false := decide_eq_false (by omega)
  have n3 : decide (20 < (l1.length : Int)) = false := decide_eq_false (by omega)
  obtain ⟨x, CK⟩ : ∃ x, Aside0 (checkL (es l1) = x) := ⟨_, ⟨rfl⟩⟩
  rw [CK.out] at hc
  have m0 : decide (x = 0) = false := decide_eq_false hc
  have m1 : (x == 0) = false := beq_eq_false_iff_ne.mpr hc
  have m2 : (x != 0) = true := bne_iff_ne.mpr hc
  have HB := Aside0.mk (Below.refl w.heap.size w)
  have R := Aside0.mk (h)
  clear h hz hb hl hc
  go_enter Try.func12, Try.ntmps12
  go_wp2_with (first | ((with_reducible refine gate_dst (N := 2) rfl ?_); refine box_event ?hg (N := 2) ?hd (cs := #[.string a0, .slice A1 l1.length c1, .slice A2 l2.length c2, .string a3]) (t := 25) ?hr ?_; (case hd => rfl); (case hg => rfl); (case hr => first | (go_simp; done) | (go_simp; rfl)); intro g2 hg w1 hbox hb; have hbx : Below w.heap.size w w1 := below_step (by repeat (first | (with_reducible first | exact Below.refl _ _ | apply below_alloc | apply pw_below_drewN | apply below_drew1) | exact Below.refl _ _)) hb; have n_R := Aside0.mk (R.out.below hbx); have n_HB := Aside0.mk (below_step HB.out hbx); clear HB R; have R := n_R; have HB := n_HB; clear hbx n_R n_HB; have BK2 := Aside0.mk (Bk.mk (hbox : Blk w1 g2 25 #[.string a0, .slice A1 l1.length c1, .slice A2 l2.length c2, .string a3])); clear hbox hg hb; have zBK2_0 : w1.cell? ⟨g2, 0, none⟩ = some (.string a0) := (blk_cell BK2.out.blk 0).trans rfl; have zBK2_1 : w1.cell? ⟨g2, 1, none⟩ = some (.slice A1 l1.length c1) := (blk_cell BK2.out.blk 1).trans rfl; have zBK2_2 : w1.cell? ⟨g2, 2, none⟩ = some (.slice A2 l2.length c2) := (blk_cell BK2.out.blk 2).trans rfl; have zBK2_3 : w1.cell? ⟨g2, 3, none⟩ = some (.string a3) := (blk_cell BK2.out.blk 3).trans rfl) | ((with_reducible refine gate_callee (f := 15) rfl ?_); refine goesL_ (some 15) rfl rfl Try.func15 (by kernel_rfl) rfl #[.agg #[.string a0, .slice A1 l1.length c1, .slice A2 l2.length c2, .string a3]] rfl (by (try simp only [List.map_toArray, List.map_cons, List.map_nil]); first | done | rfl | (simp only [List.length_drop, List.length_take]; rfl)) ?_; (with_reducible refine (Pe.tl_any _ (R.out.below (by repeat (first | (with_reducible first | exact Below.refl _ _ | apply below_alloc | apply pw_below_drewN | apply below_drew1) | exact Below.refl _ _))) SZ.out TL.out).mono ?_); rintro e w2 ⟨rfl, hb⟩; have hbx : Below w1.heap.size w1 w2 := below_step (by repeat (first | (with_reducible first | exact Below.refl _ _ | apply below_alloc | apply pw_below_drewN | apply below_drew1) | exact Below.refl _ _)) hb; clear zBK2_0 zBK2_1 zBK2_2 zBK2_3; have n_R := Aside0.mk (R.out.below hbx); have n_BK2 := Aside0.mk (BK2.out.below hbx); have n_HB := Aside0.mk (below_step HB.out hbx); clear HB R BK2; have R := n_R; have BK2 := n_BK2; have HB := n_HB; clear hbx n_R n_BK2 n_HB; clear hb; have zBK2_0 : w2.cell? ⟨g2, 0, none⟩ = some (.string a0) := (blk_cell BK2.out.blk 0).trans rfl; have zBK2_1 : w2.cell? ⟨g2, 1, none⟩ = some (.slice A1 l1.length c1) := (blk_cell BK2.out.blk 1).trans rfl; have zBK2_2 : w2.cell? ⟨g2, 2, none⟩ = some (.slice A2 l2.length c2) := (blk_cell BK2.out.blk 2).trans rfl; have zBK2_3 : w2.cell? ⟨g2, 3, none⟩ = some (.string a3) := (blk_cell BK2.out.blk 3).trans rfl; refine ⟨_, rfl, ?_⟩) | (go_at_call 33; (with_reducible refine (check_any _ (R.out.below (by repeat (first | (with_reducible first | exact Below.refl _ _ | apply below_alloc | apply pw_below_drewN | apply below_drew1) | exact Below.refl _ _))) O12.out.ok CK.out).mono ?_); rintro e w3 ⟨rfl, hb⟩; have hbx : Below w2.heap.size w2 w3 := below_step (by repeat (first | (with_reducible first | exact Below.refl _ _ | apply below_alloc | apply pw_below_drewN | apply below_drew1) | exact Below.refl _ _)) hb; clear zBK2_0 zBK2_1 zBK2_2 zBK2_3; have n_R := Aside0.mk (R.out.below hbx); have n_BK2 := Aside0.mk (BK2.out.below hbx); have n_HB := Aside0.mk (below_step HB.out hbx); clear HB R BK2; have R := n_R; have BK2 := n_BK2; have HB := n_HB; clear hbx n_R n_BK2 n_HB; clear hb; have zBK2_0 : w3.cell? ⟨g2, 0, none⟩ = some (.string a0) := (blk_cell BK2.out.blk 0).trans rfl; have zBK2_1 : w3.cell? ⟨g2, 1, none⟩ = some (.slice A1 l1.length c1) := (blk_cell BK2.out.blk 1).trans rfl; have zBK2_2 : w3.cell? ⟨g2, 2, none⟩ = some (.slice A2 l2.length c2) := (blk_cell BK2.out.blk 2).trans rfl; have zBK2_3 : w3.cell? ⟨g2, 3, none⟩ = some (.string a3) := (blk_cell BK2.out.blk 3).trans rfl) | ((with_reducible refine gate_callee (f := 32) rfl ?_); refine goesL_ (some 34) rfl rfl Try.func32 (by kernel_rfl) rfl #[] rfl (by (try simp only [List.map_toArray, List.map_cons, List.map_nil]); first | done | rfl | (simp only [List.length_drop, List.length_take]; rfl)) ?_; (with_reducible refine (alive13_any _).mono ?_); rintro e w4 ⟨rfl, hb⟩; have hbx : Below w3.heap.size w3 w4 := below_step (by repeat (first | (with_reducible first | exact Below.refl _ _ | apply below_alloc | apply pw_below_drewN | apply below_drew1) | exact Below.refl _ _)) hb; clear zBK2_0 zBK2_1 zBK2_2 zBK2_3; have n_R := Aside0.mk (R.out.below hbx); have n_BK2 := Aside0.mk (BK2.out.below hbx); have n_HB := Aside0.mk (below_step HB.out hbx); clear HB R BK2; have R := n_R; have BK2 := n_BK2; have HB := n_HB; clear hbx n_R n_BK2 n_HB; clear hb; have zBK2_0 : w4.cell? ⟨g2, 0, none⟩ = some (.string a0) := (blk_cell BK2.out.blk 0).trans rfl; have zBK2_1 : w4.cell? ⟨g2, 1, none⟩ = some (.slice A1 l1.length c1) := (blk_cell BK2.out.blk 1).trans rfl; have zBK2_2 : w4.cell? ⟨g2, 2, none⟩ = some (.slice A2 l2.length c2) := (blk_cell BK2.out.blk 2).trans rfl; have zBK2_3 : w4.cell? ⟨g2, 3, none⟩ = some (.string a3) := (blk_cell BK2.out.blk 3).trans rfl; refine ⟨_, rfl, ?_⟩))
  go_ret
  exact ⟨rfl, HB.out⟩
set_option maxHeartbeats 16000000 in
theorem fec_small (w : World) (h : Rg w A1 c1 l1 A2 c2 l2) (hz : SzR l1) (hb : tl (es l1) ≤ 0) (hl : l1.length ≤ 20) (hc : checkL (es l1) = 0) (h0 : 0 ≤ n) (h1 : n ≤ 255) : Calls Try.prog 12 #[.agg #[.string a0, .slice A1 l1.length c1, .slice A2 l2.length c2, .string a3], .int .u8 n] w fun x w' => x = .returned (.bool true) ∧ Below w.heap.size w w' := by
  have SZ := Aside0.mk hz
  have O12 := Aside0.mk (Ok12.of hb)
  have TL := Aside0.mk (tl_0 hb)
  have n0 : decide (l1.length > 20) = false := decide_eq_false (by omega)
  have n1 : decide ((l1.length : Int) > 20) = false := decide_eq_false (by omega)
  have n2 : decide (20 < l1.length) = false := decide_eq_false (by omega)
  have n3 : decide (20 < (l1.length : Int)) = false := decide_eq_false (by omega)
  have CK := Aside0.mk hc
  have NZ : l1.length ≠ 0 := by have := (check_zero hc).1; rw [es_len] at this; exact this
  have z0 : decide (l1.length = 0) = false := decide_eq_false NZ
  have z1 : decide ((l1.length : Int) = 0) = false := decide_eq_false (by omega)
  have z2 : ((l1.length : Int) == 0) = false := beq_eq_false_iff_ne.mpr (by omega)
  obtain ⟨i, hi, hil⟩ : ∃ i : Nat, n % (l1.length : Int) = (i : Int) ∧ i < l1.length := ⟨(n % (l1.length : Int)).toNat, by have := Int.emod_nonneg n (show (l1.length : Int) ≠ 0 by omega); omega, by have := Int.emod_lt_of_pos n (show (0 : Int) < (l1.length : Int) by omega); omega⟩
  have i0 : decide (i < l1.length) = true := decide_eq_true hil
  have i1 : decide ((i : Int) < (l1.length : Int)) = true := decide_eq_true (by omega)
  have LEN : 0 < (l1.length : Int) := by omega
  obtain ⟨ad, rfl, x0_⟩ := h.at hil
  clear x0_
  have SPL : es l1 = es (l1.take i) ++ (l1[i].f2, l1[i].f3) :: es (l1.drop (i + 1)) := by
    have q : l1 = l1.take i ++ l1[i] :: l1.drop (i + 1) := by rw [← List.drop_eq_getElem_cons hil, List.take_append_drop]
    exact (congrArg es q).trans (by unfold es; rw [List.map_append, List.map_cons])
  obtain ⟨nA, nW, nT, cA, cW, cT, hlt, hsum, hA⟩ := every (a := es (l1.take i)) (b := es (l1.drop (i + 1))) (e := (l1[i].f2, l1[i].f3)) (by rw [← SPL]; exact hc) (by rw [← SPL, es_len]; exact hl)
  rw [← SPL] at cA cT
  have CA := Aside0.mk cA
  have CW := Aside0.mk cW
  have CT := Aside0.mk cT
  have NB := Aside0.mk (And.intro hlt (And.intro hsum hA))
  have R0 := Aside0.mk h
  have HB := Aside0.mk (Below.refl w.heap.size w)
  have R := Aside0.mk (h)
  clear h hz hb hl hc SPL cA cW cT hlt hsum hA
  go_enter Try.func12, Try.ntmps12
  go_wp2_with (first | ((with_reducible refine gate_dst (N := 2) rfl ?_); refine box_event ?hg (N := 2) ?hd (cs := #[.string a0, .slice (some ad) l1.length c1, .slice A2 l2.length c2, .string a3]) (t := 25) ?hr ?_; (case hd => rfl); (case hg => rfl); (case hr => first | (go_simp; done) | (go_simp; rfl)); intro g2 hg w1 hbox hb; have hbx : Below w.heap.size w w1 := below_step (by repeat (first | (with_reducible first | exact Below.refl _ _ | apply below_alloc | apply pw_below_drewN | apply below_drew1) | exact Below.refl _ _)) hb; have n_R := Aside0.mk (R.out.below hbx); have n_HB := Aside0.mk (below_step HB.out hbx); clear HB R; have R := n_R; have HB := n_HB; clear hbx n_R n_HB; have BK2 := Aside0.mk (Bk.mk (hbox : Blk w1 g2 25 #[.string a0, .slice (some ad) l1.length c1, .slice A2 l2.length c2, .string a3])); clear hbox hg hb; have zBK2_0 : w1.cell? ⟨g2, 0, none⟩ = some (.string a0) := (blk_cell BK2.out.blk 0).trans rfl; have zBK2_1 : w1.cell? ⟨g2, 1, none⟩ = some (.slice (some ad) l1.length c1) := (blk_cell BK2.out.blk 1).trans rfl; have zBK2_2 : w1.cell? ⟨g2, 2, none⟩ = some (.slice A2 l2.length c2) := (blk_cell BK2.out.blk 2).trans rfl; have zBK2_3 : w1.cell? ⟨g2, 3, none⟩ = some (.string a3) := (blk_cell BK2.out.blk 3).trans rfl) | ((with_reducible refine gate_callee (f := 15) rfl ?_); refine goesL_ (some 15) rfl rfl Try.func15 (by kernel_rfl) rfl #[.agg #[.string a0, .slice (some ad) l1.length c1, .slice A2 l2.length c2, .string a3]] rfl (by (try simp only [List.map_toArray, List.map_cons, List.map_nil]); first | done | rfl | (simp only [List.length_drop, List.length_take]; rfl)) ?_; (with_reducible refine (Pe.tl_any _ (R.out.below (by repeat (first | (with_reducible first | exact Below.refl _ _ | apply below_alloc | apply pw_below_drewN | apply below_drew1) | exact Below.refl _ _))) SZ.out TL.out).mono ?_); rintro e w2 ⟨rfl, hb⟩; have hbx : Below w1.heap.size w1 w2 := below_step (by repeat (first | (with_reducible first | exact Below.refl _ _ | apply below_alloc | apply pw_below_drewN | apply below_drew1) | exact Below.refl _ _)) hb; clear zBK2_0 zBK2_1 zBK2_2 zBK2_3; have n_R := Aside0.mk (R.out.below hbx); have n_BK2 := Aside0.mk (BK2.out.below hbx); have n_HB := Aside0.mk (below_step HB.out hbx); clear HB R BK2; have R := n_R; have BK2 := n_BK2; have HB := n_HB; clear hbx n_R n_BK2 n_HB; clear hb; have zBK2_0 : w2.cell? ⟨g2, 0, none⟩ = some (.string a0) := (blk_cell BK2.out.blk 0).trans rfl; have zBK2_1 : w2.cell? ⟨g2, 1, none⟩ = some (.slice (some ad) l1.length c1) := (blk_cell BK2.out.blk 1).trans rfl; have zBK2_2 : w2.cell? ⟨g2, 2, none⟩ = some (.slice A2 l2.length c2) := (blk_cell BK2.out.blk 2).trans rfl; have zBK2_3 : w2.cell? ⟨g2, 3, none⟩ = some (.string a3) := (blk_cell BK2.out.blk 3).trans rfl; refine ⟨_, rfl, ?_⟩) | (go_at_call 33; (with_reducible refine (check_any _ (R.out.below (by repeat (first | (with_reducible first | exact Below.refl _ _ | apply below_alloc | apply pw_below_drewN | apply below_drew1) | exact Below.refl _ _))) O12.out.ok CK.out).mono ?_); rintro e w3 ⟨rfl, hb⟩; have hbx : Below w2.heap.size w2 w3 := below_step (by repeat (first | (with_reducible first | exact Below.refl _ _ | apply below_alloc | apply pw_below_drewN | apply below_drew1) | exact Below.refl _ _)) hb; clear zBK2_0 zBK2_1 zBK2_2 zBK2_3; have n_R := Aside0.mk (R.out.below hbx); have n_BK2 := Aside0.mk (BK2.out.below hbx); have n_HB := Aside0.mk (below_step HB.out hbx); clear HB R BK2; have R := n_R; have BK2 := n_BK2; have HB := n_HB; clear hbx n_R n_BK2 n_HB; clear hb; have zBK2_0 : w3.cell? ⟨g2, 0, none⟩ = some (.string a0) := (blk_cell BK2.out.blk 0).trans rfl; have zBK2_1 : w3.cell? ⟨g2, 1, none⟩ = some (.slice (some ad) l1.length c1) := (blk_cell BK2.out.blk 1).trans rfl; have zBK2_2 : w3.cell? ⟨g2, 2, none⟩ = some (.slice A2 l2.length c2) := (blk_cell BK2.out.blk 2).trans rfl; have zBK2_3 : w3.cell? ⟨g2, 3, none⟩ = some (.string a3) := (blk_cell BK2.out.blk 3).trans rfl) | ((with_reducible refine gate_callee (f := 37) rfl ?_); refine goesL_ (some 43) rfl rfl Try.func37 (by kernel_rfl) rfl #[.agg #[.string a0, .slice (some ad) l1.length c1, .slice A2 l2.length c2, .string a3]] rfl (by (try simp only [List.map_toArray, List.map_cons, List.map_nil]); first | done | rfl | (simp only [List.length_drop, List.length_take]; rfl)) ?_; (with_reducible refine (count_any _ (R.out.below (by repeat (first | (with_reducible first | exact Below.refl _ _ | apply below_alloc | apply pw_below_drewN | apply below_drew1) | exact Below.refl _ _))) O12.out.ok CA.out).mono ?_); rintro e w4 ⟨rfl, hb⟩; have hbx : Below w3.heap.size w3 w4 := below_step (by repeat (first | (with_reducible first | exact Below.refl _ _ | apply below_alloc | apply pw_below_drewN | apply below_drew1) | exact Below.refl _ _)) hb; clear zBK2_0 zBK2_1 zBK2_2 zBK2_3; have n_R := Aside0.mk (R.out.below hbx); have n_BK2 := Aside0.mk (BK2.out.below hbx); have n_HB := Aside0.mk (below_step HB.out hbx); clear HB R BK2; have R := n_R; have BK2 := n_BK2; have HB := n_HB; clear hbx n_R n_BK2 n_HB; clear hb; have zBK2_0 : w4.cell? ⟨g2, 0, none⟩ = some (.string a0) := (blk_cell BK2.out.blk 0).trans rfl; have zBK2_1 : w4.cell? ⟨g2, 1, none⟩ = some (.slice (some ad) l1.length c1) := (blk_cell BK2.out.blk 1).trans rfl; have zBK2_2 : w4.cell? ⟨g2, 2, none⟩ = some (.slice A2 l2.length c2) := (blk_cell BK2.out.blk 2).trans rfl; have zBK2_3 : w4.cell? ⟨g2, 3, none⟩ = some (.string a3) := (blk_cell BK2.out.blk 3).trans rfl; refine ⟨_, rfl, ?_⟩))
  have HC1 : l1.length ≤ c1 := R0.out.h1
  have ci1 : i ≤ l1.length := by omega
  have ci2 : i + 1 ≤ l1.length := by omega
  have ci3 : i ≤ c1 := by omega
  have ci4 : i + 1 ≤ c1 := by omega
  have ci5 : 0 ≤ (i : Int) + 1 := by omega
  have ci6 : (i : Int) + 1 ≤ (l1.length : Int) := by omega
  obtain ⟨lq, LQ⟩ : ∃ lq, Aside0 (([] ++ l1.take i) ++ l1.drop (i + 1) = lq) := ⟨_, ⟨rfl⟩⟩
  have wi : wrap64 ((i : Int) + 1) = (i : Int) + 1 := by unfold wrap64; have := O12.out.ln; omega
  have KP : Aside0 (∀ w', Below w4.heap.size w4 w' → (w'.cell? ⟨g2, 0, none⟩ = some (.string a0) ∧ w'.cell? ⟨g2, 1, none⟩ = some (.slice (some ad) l1.length c1) ∧ w'.cell? ⟨g2, 2, none⟩ = some (.slice A2 l2.length c2) ∧ w'.cell? ⟨g2, 3, none⟩ = some (.string a3))) := Aside0.mk (fun w' hb => ⟨(blk_cell (BK2.out.below hb).blk 0).trans rfl, (blk_cell (BK2.out.below hb).blk 1).trans rfl, (blk_cell (BK2.out.below hb).blk 2).trans rfl, (blk_cell (BK2.out.below hb).blk 3).trans rfl⟩)
  clear zBK2_0 zBK2_1 zBK2_2 zBK2_3
  refine Evt.ol_start (ds := []) (w0 := w4) (T := (true, [([], []), ([], []), ([1], [1]), ([], []), ([2, 3], [2, 3]), ([0, 4], [0, 4]), ([], []), ([6], [6]), ([], []), ([8], [8]), ([7, 9], [7, 9]), ([5, 10, 5], [5, 10]), ([11], [11]), ([], []), ([13, 12, 11, 0, 1, 2, 3, 4, 5, 6, 7, 8, 9, 10, 11, 12, 13], [12, 13])])) (B := [0, 0, 2, 0, 14, 31, 0, 64, 0, 256, 960, 2047, 4095, 0, 16383]) 15 [(1, some 47), (2, some 48), (3, some 49), (4, some 50), (6, some 52), (7, some 53), (8, some 54), (9, some 55), (10, some 56), (0, some 46), (5, some 51), (11, some 57), (12, some 58), (13, some 8), (14, none)] (by kernel_rfl) rfl (by kernel_rfl) (by kernel_rfl) (by kernel_rfl) (by repeat (first | (with_reducible first | exact Below.refl _ _ | apply below_alloc | apply pw_below_drewN | apply below_drew1) | exact Below.refl _ _)) ?_
  intro HT_ HW_ w_ hHeld
  iterate 9 (first | (refine Evt.ol_off (a' := ?_) HT_ rfl rfl (by rfl) (by kernel_rfl) (fun _ _ _ h => h) ?_ ?_; rotate_left; (· (try simp only [Act.put, List.setIfInBounds_toArray, List.set_cons_zero, List.set_cons_succ, i64_w, i32_w]); rfl)) | (refine Evt.ol_pure (a' := ?_) (v := ?_) HT_ rfl rfl rfl (by rfl) (by kernel_rfl) (fun _ _ _ h => h) ?_ ?_ ?_; rotate_left 2; (· intro w'; go_simp; with_reducible rfl); (· (try simp only [Act.put, List.setIfInBounds_toArray, List.set_cons_zero, List.set_cons_succ, i64_w, i32_w]); rfl)) | (refine Evt.ol_load (a' := ?_) (v := ?_) HT_ HW_ hHeld rfl rfl rfl (by rfl) (by kernel_rfl) (fun _ _ _ h => h) ?_ ?_ ?_; rotate_left 2; (· intro w' hS_; obtain ⟨s0, s1, s2, s3⟩ := KP.out w' hS_.out; go_simp; with_reducible rfl); (· (try simp only [Act.put, List.setIfInBounds_toArray, List.set_cons_zero, List.set_cons_succ, i64_w, i32_w]); rfl)))
  refine Evt.ol_join (σ := (Value) × (Value) × (Option Addr) × (Nat) × (Nat)) 1 [(14, none)] (fun s => match s with | (vR0, vR5, AR11, cR11, gT13) => [(46, vR0), (51, vR5), (57, .slice AR11 (lq).length cR11), (58, .agg #[.string ⟨#[]⟩, .slice AR11 (lq).length cR11, .slice none 0 0, .string ⟨#[]⟩]), (8, .pointer (some ⟨gT13, 0, none⟩))]) (fun s W_ => match s with | (vR0, vR5, AR11, cR11, gT13) => (Evt.Ro k41 41 w4 W_ (.slice AR11 (lq).length cR11) (lq)) ∧ (Bk W_ gT13 25 #[.string ⟨#[]⟩, .slice none 0 0, .slice none 0 0, .string ⟨#[]⟩]) ∧ (w4.heap.size ≤ gT13)) ?_ ?_
  · intro JN
    refine Evt.ol_two (i := 0) (j := 13) [(5, some 51), (11, some 57), (12, some 58), (13, some 8), (14, none)] [(0, some 46), (5, some 51), (11, some 57), (12, some 58), (14, none)] HT_ rfl rfl rfl rfl (by kernel_rfl) (fun K_ hK_ => ?_) (fun K_ hK_ => ?_)
    · refine Evt.k_row0 hK_ hHeld rfl rfl ?_ ?_
      · first | (go_simp; done) | (go_simp; rfl) | (go_simp; refine ⟨?_, ?_⟩ <;> rfl)
      intro vR0 w_ hR_ hO_ hb_ hH_
      clear hO_
      have F0 := Aside0.mk hR_
      clear hHeld hb_ hR_
      have hHeld := hH_
      clear hH_ hK_
      refine Evt.ol_norm (a' := ?_) ?_ ?_
      rotate_left
      · simp only [Act.put, List.setIfInBounds_toArray, List.set_cons_zero, List.set_cons_succ, i64_w, i32_w]; rfl
      refine Evt.ol_two (i := 5) (j := 13) [(11, some 57), (12, some 58), (13, some 8), (14, none)] [(5, some 51), (11, some 57), (12, some 58), (14, none)] HT_ rfl rfl rfl rfl (by kernel_rfl) (fun K_ hK_ => ?_) (fun K_ hK_ => ?_)
      · refine Evt.k_appc hK_ hHeld rfl rfl (.tmp 46) (.tmp 50) rfl vR0 ([]) (l1.take i) (some ad) i c1 rfl rfl F0.out (C_takeK (R.out.below hHeld.out).r1 ci1) (by have := O12.out.ln; simp; omega) ?_
        intro vR5 w_ hR_ hg_ hat_ hH_
        clear F0
        have F5 := Aside0.mk hR_
        clear hHeld hR_ hg_ hat_
        have hHeld := hH_
        clear hH_ hK_
        refine Evt.ol_norm (a' := ?_) ?_ ?_
        rotate_left
        · simp only [Act.put, List.setIfInBounds_toArray, List.set_cons_zero, List.set_cons_succ, i64_w, i32_w]; rfl
        refine Evt.ol_two (i := 11) (j := 13) [(12, some 58), (13, some 8), (14, none)] [(11, some 57), (12, some 58), (14, none)] HT_ rfl rfl rfl rfl (by kernel_rfl) (fun K_ hK_ => ?_) (fun K_ hK_ => ?_)
        · refine Evt.k_appc hK_ hHeld rfl rfl (.tmp 51) (.tmp 56) rfl vR5 ([] ++ l1.take i) (l1.drop (i + 1)) (if c1 = i + 1 then some ad else some (ad.add ((i + 1) * 5))) (l1.length - (i + 1)) (c1 - (i + 1)) rfl rfl F5.out (C_dropK (R.out.below hHeld.out).r1 ci2 HC1) (by have := O12.out.ln; simp; omega) ?_
          intro vR11 w_ hR_ hg_ hat_ hH_
          rw [LQ.out] at hR_
          obtain ⟨AR11, cR11, rfl⟩ := Kd.R_slice hR_.row
          clear F5
          have F11 := Aside0.mk hR_
          clear hHeld hR_ hg_ hat_
          have hHeld := hH_
          clear hH_ hK_
          refine Evt.ol_norm (a' := ?_) ?_ ?_
          rotate_left
          · simp only [Act.put, List.setIfInBounds_toArray, List.set_cons_zero, List.set_cons_succ, i64_w, i32_w]; rfl
          (first | (refine Evt.ol_off (a' := ?_) HT_ rfl rfl (by rfl) (by kernel_rfl) (fun _ _ _ h => h) ?_ ?_; rotate_left; (· (try simp only [Act.put, List.setIfInBounds_toArray, List.set_cons_zero, List.set_cons_succ, i64_w, i32_w]); rfl)) | (refine Evt.ol_pure (a' := ?_) (v := ?_) HT_ rfl rfl rfl (by rfl) (by kernel_rfl) (fun _ _ _ h => h) ?_ ?_ ?_; rotate_left 2; (· intro w'; go_simp; with_reducible rfl); (· (try simp only [Act.put, List.setIfInBounds_toArray, List.set_cons_zero, List.set_cons_succ, i64_w, i32_w]); rfl)) | (refine Evt.ol_load (a' := ?_) (v := ?_) HT_ HW_ hHeld rfl rfl rfl (by rfl) (by kernel_rfl) (fun _ _ _ h => h) ?_ ?_ ?_; rotate_left 2; (· intro w' hS_; obtain ⟨s0, s1, s2, s3⟩ := KP.out w' hS_.out; go_simp; with_reducible rfl); (· (try simp only [Act.put, List.setIfInBounds_toArray, List.set_cons_zero, List.set_cons_succ, i64_w, i32_w]); rfl)))
          refine Evt.ol_one (i := 13) [(14, none)] HT_ rfl rfl (by kernel_rfl) (fun K_ hK_ => ?_)
          · refine Evt.k_alloc hK_ hHeld rfl rfl (cs := #[.string ⟨#[]⟩, .slice none 0 0, .slice none 0 0, .string ⟨#[]⟩]) (t := 25) ?_ ?_
            · first | (go_simp; done) | (go_simp; rfl) | (go_simp; refine ⟨?_, ?_⟩ <;> rfl)
            intro gT13 w_ hg_ hB_ hb_ hH_
            have GE13 := Aside0.mk (show w4.heap.size ≤ gT13 from (by rw [hg_]; exact hHeld.out.size))
            clear hg_
            have n_F11 := Aside0.mk (F11.out.below hb_)
            clear F11
            have F11 := n_F11
            clear n_F11
            have F13 := Aside0.mk hB_
            clear hHeld hb_ hB_
            have hHeld := hH_
            clear hH_ hK_
            refine Evt.ol_norm (a' := ?_) ?_ ?_
            rotate_left
            · simp only [Act.put, List.setIfInBounds_toArray, List.set_cons_zero, List.set_cons_succ, i64_w, i32_w]; rfl
            exact Evt.ol_norm (by simp only [putAll, Act.put, List.setIfInBounds_toArray, List.set_cons_zero, List.set_cons_succ, i64_w, i32_w]; rfl) (JN (vR0, vR5, AR11, cR11, gT13) _ hHeld ⟨F11.out, F13.out, GE13.out⟩)
        · refine Evt.k_alloc hK_ hHeld rfl rfl (cs := #[.string ⟨#[]⟩, .slice none 0 0, .slice none 0 0, .string ⟨#[]⟩]) (t := 25) ?_ ?_
          · first | (go_simp; done) | (go_simp; rfl) | (go_simp; refine ⟨?_, ?_⟩ <;> rfl)
          intro gT13 w_ hg_ hB_ hb_ hH_
          have GE13 := Aside0.mk (show w4.heap.size ≤ gT13 from (by rw [hg_]; exact hHeld.out.size))
          clear hg_
          have n_F5 := Aside0.mk (F5.out.below hb_)
          clear F5
          have F5 := n_F5
          clear n_F5
          have F13 := Aside0.mk hB_
          clear hHeld hb_ hB_
          have hHeld := hH_
          clear hH_ hK_
          refine Evt.ol_norm (a' := ?_) ?_ ?_
          rotate_left
          · simp only [Act.put, List.setIfInBounds_toArray, List.set_cons_zero, List.set_cons_succ, i64_w, i32_w]; rfl
          refine Evt.ol_one (i := 11) [(12, some 58), (14, none)] HT_ rfl rfl (by kernel_rfl) (fun K_ hK_ => ?_)
          · refine Evt.k_appc hK_ hHeld rfl rfl (.tmp 51) (.tmp 56) rfl vR5 ([] ++ l1.take i) (l1.drop (i + 1)) (if c1 = i + 1 then some ad else some (ad.add ((i + 1) * 5))) (l1.length - (i + 1)) (c1 - (i + 1)) rfl rfl F5.out (C_dropK (R.out.below hHeld.out).r1 ci2 HC1) (by have := O12.out.ln; simp; omega) ?_
            intro vR11 w_ hR_ hg_ hat_ hH_
            have n_F13 := Aside0.mk (F13.out.grown hg_ (row_ne F5.out.row F13.out.blk (by decide)))
            clear F13
            have F13 := n_F13
            clear n_F13
            rw [LQ.out] at hR_
            obtain ⟨AR11, cR11, rfl⟩ := Kd.R_slice hR_.row
            clear F5
            have F11 := Aside0.mk hR_
            clear hHeld hR_ hg_ hat_
            have hHeld := hH_
            clear hH_ hK_
            refine Evt.ol_norm (a' := ?_) ?_ ?_
            rotate_left
            · simp only [Act.put, List.setIfInBounds_toArray, List.set_cons_zero, List.set_cons_succ, i64_w, i32_w]; rfl
            (first | (refine Evt.ol_off (a' := ?_) HT_ rfl rfl (by rfl) (by kernel_rfl) (fun _ _ _ h => h) ?_ ?_; rotate_left; (· (try simp only [Act.put, List.setIfInBounds_toArray, List.set_cons_zero, List.set_cons_succ, i64_w, i32_w]); rfl)) | (refine Evt.ol_pure (a' := ?_) (v := ?_) HT_ rfl rfl rfl (by rfl) (by kernel_rfl) (fun _ _ _ h => h) ?_ ?_ ?_; rotate_left 2; (· intro w'; go_simp; with_reducible rfl); (· (try simp only [Act.put, List.setIfInBounds_toArray, List.set_cons_zero, List.set_cons_succ, i64_w, i32_w]); rfl)) | (refine Evt.ol_load (a' := ?_) (v := ?_) HT_ HW_ hHeld rfl rfl rfl (by rfl) (by kernel_rfl) (fun _ _ _ h => h) ?_ ?_ ?_; rotate_left 2; (· intro w' hS_; obtain ⟨s0, s1, s2, s3⟩ := KP.out w' hS_.out; go_simp; with_reducible rfl); (· (try simp only [Act.put, List.setIfInBounds_toArray, List.set_cons_zero, List.set_cons_succ, i64_w, i32_w]); rfl)))
            exact Evt.ol_norm (by simp only [putAll, Act.put, List.setIfInBounds_toArray, List.set_cons_zero, List.set_cons_succ, i64_w, i32_w]; rfl) (JN (vR0, vR5, AR11, cR11, gT13) _ hHeld ⟨F11.out, F13.out, GE13.out⟩)
      · refine Evt.k_alloc hK_ hHeld rfl rfl (cs := #[.string ⟨#[]⟩, .slice none 0 0, .slice none 0 0, .string ⟨#[]⟩]) (t := 25) ?_ ?_
        · first | (go_simp; done) | (go_simp; rfl) | (go_simp; refine ⟨?_, ?_⟩ <;> rfl)
        intro gT13 w_ hg_ hB_ hb_ hH_
        have GE13 := Aside0.mk (show w4.heap.size ≤ gT13 from (by rw [hg_]; exact hHeld.out.size))
        clear hg_
        have n_F0 := Aside0.mk (F0.out.below hb_)
        clear F0
        have F0 := n_F0
        clear n_F0
        have F13 := Aside0.mk hB_
        clear hHeld hb_ hB_
        have hHeld := hH_
        clear hH_ hK_
        refine Evt.ol_norm (a' := ?_) ?_ ?_
        rotate_left
        · simp only [Act.put, List.setIfInBounds_toArray, List.set_cons_zero, List.set_cons_succ, i64_w, i32_w]; rfl
        refine Evt.ol_one (i := 5) [(11, some 57), (12, some 58), (14, none)] HT_ rfl rfl (by kernel_rfl) (fun K_ hK_ => ?_)
        · refine Evt.k_appc hK_ hHeld rfl rfl (.tmp 46) (.tmp 50) rfl vR0 ([]) (l1.take i) (some ad) i c1 rfl rfl F0.out (C_takeK (R.out.below hHeld.out).r1 ci1) (by have := O12.out.ln; simp; omega) ?_
          intro vR5 w_ hR_ hg_ hat_ hH_
          have n_F13 := Aside0.mk (F13.out.grown hg_ (row_ne F0.out.row F13.out.blk (by decide)))
          clear F13
          have F13 := n_F13
          clear n_F13
          clear F0
          have F5 := Aside0.mk hR_
          clear hHeld hR_ hg_ hat_
          have hHeld := hH_
          clear hH_ hK_
          refine Evt.ol_norm (a' := ?_) ?_ ?_
          rotate_left
          · simp only [Act.put, List.setIfInBounds_toArray, List.set_cons_zero, List.set_cons_succ, i64_w, i32_w]; rfl
          refine Evt.ol_one (i := 11) [(12, some 58), (14, none)] HT_ rfl rfl (by kernel_rfl) (fun K_ hK_ => ?_)
          · refine Evt.k_appc hK_ hHeld rfl rfl (.tmp 51) (.tmp 56) rfl vR5 ([] ++ l1.take i) (l1.drop (i + 1)) (if c1 = i + 1 then some ad else some (ad.add ((i + 1) * 5))) (l1.length - (i + 1)) (c1 - (i + 1)) rfl rfl F5.out (C_dropK (R.out.below hHeld.out).r1 ci2 HC1) (by have := O12.out.ln; simp; omega) ?_
            intro vR11 w_ hR_ hg_ hat_ hH_
            have n_F13 := Aside0.mk (F13.out.grown hg_ (row_ne F5.out.row F13.out.blk (by decide)))
            clear F13
            have F13 := n_F13
            clear n_F13
            rw [LQ.out] at hR_
            obtain ⟨AR11, cR11, rfl⟩ := Kd.R_slice hR_.row
            clear F5
            have F11 := Aside0.mk hR_
            clear hHeld hR_ hg_ hat_
            have hHeld := hH_
            clear hH_ hK_
            refine Evt.ol_norm (a' := ?_) ?_ ?_
            rotate_left
            · simp only [Act.put, List.setIfInBounds_toArray, List.set_cons_zero, List.set_cons_succ, i64_w, i32_w]; rfl
            (first | (refine Evt.ol_off (a' := ?_) HT_ rfl rfl (by rfl) (by kernel_rfl) (fun _ _ _ h => h) ?_ ?_; rotate_left; (· (try simp only [Act.put, List.setIfInBounds_toArray, List.set_cons_zero, List.set_cons_succ, i64_w, i32_w]); rfl)) | (refine Evt.ol_pure (a' := ?_) (v := ?_) HT_ rfl rfl rfl (by rfl) (by kernel_rfl) (fun _ _ _ h => h) ?_ ?_ ?_; rotate_left 2; (· intro w'; go_simp; with_reducible rfl); (· (try simp only [Act.put, List.setIfInBounds_toArray, List.set_cons_zero, List.set_cons_succ, i64_w, i32_w]); rfl)) | (refine Evt.ol_load (a' := ?_) (v := ?_) HT_ HW_ hHeld rfl rfl rfl (by rfl) (by kernel_rfl) (fun _ _ _ h => h) ?_ ?_ ?_; rotate_left 2; (· intro w' hS_; obtain ⟨s0, s1, s2, s3⟩ := KP.out w' hS_.out; go_simp; with_reducible rfl); (· (try simp only [Act.put, List.setIfInBounds_toArray, List.set_cons_zero, List.set_cons_succ, i64_w, i32_w]); rfl)))
            exact Evt.ol_norm (by simp only [putAll, Act.put, List.setIfInBounds_toArray, List.set_cons_zero, List.set_cons_succ, i64_w, i32_w]; rfl) (JN (vR0, vR5, AR11, cR11, gT13) _ hHeld ⟨F11.out, F13.out, GE13.out⟩)
    · refine Evt.k_alloc hK_ hHeld rfl rfl (cs := #[.string ⟨#[]⟩, .slice none 0 0, .slice none 0 0, .string ⟨#[]⟩]) (t := 25) ?_ ?_
      · first | (go_simp; done) | (go_simp; rfl) | (go_simp; refine ⟨?_, ?_⟩ <;> rfl)
      intro gT13 w_ hg_ hB_ hb_ hH_
      have GE13 := Aside0.mk (show w4.heap.size ≤ gT13 from (by rw [hg_]; exact hHeld.out.size))
      clear hg_
      have F13 := Aside0.mk hB_
      clear hHeld hb_ hB_
      have hHeld := hH_
      clear hH_ hK_
      refine Evt.ol_norm (a' := ?_) ?_ ?_
      rotate_left
      · simp only [Act.put, List.setIfInBounds_toArray, List.set_cons_zero, List.set_cons_succ, i64_w, i32_w]; rfl
      refine Evt.ol_one (i := 0) [(5, some 51), (11, some 57), (12, some 58), (14, none)] HT_ rfl rfl (by kernel_rfl) (fun K_ hK_ => ?_)
      · refine Evt.k_row0 hK_ hHeld rfl rfl ?_ ?_
        · first | (go_simp; done) | (go_simp; rfl) | (go_simp; refine ⟨?_, ?_⟩ <;> rfl)
        intro vR0 w_ hR_ hO_ hb_ hH_
        clear hO_
        have n_F13 := Aside0.mk (F13.out.below hb_)
        clear F13
        have F13 := n_F13
        clear n_F13
        have F0 := Aside0.mk hR_
        clear hHeld hb_ hR_
        have hHeld := hH_
        clear hH_ hK_
        refine Evt.ol_norm (a' := ?_) ?_ ?_
        rotate_left
        · simp only [Act.put, List.setIfInBounds_toArray, List.set_cons_zero, List.set_cons_succ, i64_w, i32_w]; rfl
        refine Evt.ol_one (i := 5) [(11, some 57), (12, some 58), (14, none)] HT_ rfl rfl (by kernel_rfl) (fun K_ hK_ => ?_)
        · refine Evt.k_appc hK_ hHeld rfl rfl (.tmp 46) (.tmp 50) rfl vR0 ([]) (l1.take i) (some ad) i c1 rfl rfl F0.out (C_takeK (R.out.below hHeld.out).r1 ci1) (by have := O12.out.ln; simp; omega) ?_
          intro vR5 w_ hR_ hg_ hat_ hH_
          have n_F13 := Aside0.mk (F13.out.grown hg_ (row_ne F0.out.row F13.out.blk (by decide)))
          clear F13
          have F13 := n_F13
          clear n_F13
          clear F0
          have F5 := Aside0.mk hR_
          clear hHeld hR_ hg_ hat_
          have hHeld := hH_
          clear hH_ hK_
          refine Evt.ol_norm (a' := ?_) ?_ ?_
          rotate_left
          · simp only [Act.put, List.setIfInBounds_toArray, List.set_cons_zero, List.set_cons_succ, i64_w, i32_w]; rfl
          refine Evt.ol_one (i := 11) [(12, some 58), (14, none)] HT_ rfl rfl (by kernel_rfl) (fun K_ hK_ => ?_)
          · refine Evt.k_appc hK_ hHeld rfl rfl (.tmp 51) (.tmp 56) rfl vR5 ([] ++ l1.take i) (l1.drop (i + 1)) (if c1 = i + 1 then some ad else some (ad.add ((i + 1) * 5))) (l1.length - (i + 1)) (c1 - (i + 1)) rfl rfl F5.out (C_dropK (R.out.below hHeld.out).r1 ci2 HC1) (by have := O12.out.ln; simp; omega) ?_
            intro vR11 w_ hR_ hg_ hat_ hH_
            have n_F13 := Aside0.mk (F13.out.grown hg_ (row_ne F5.out.row F13.out.blk (by decide)))
            clear F13
            have F13 := n_F13
            clear n_F13
            rw [LQ.out] at hR_
            obtain ⟨AR11, cR11, rfl⟩ := Kd.R_slice hR_.row
            clear F5
            have F11 := Aside0.mk hR_
            clear hHeld hR_ hg_ hat_
            have hHeld := hH_
            clear hH_ hK_
            refine Evt.ol_norm (a' := ?_) ?_ ?_
            rotate_left
            · simp only [Act.put, List.setIfInBounds_toArray, List.set_cons_zero, List.set_cons_succ, i64_w, i32_w]; rfl
            (first | (refine Evt.ol_off (a' := ?_) HT_ rfl rfl (by rfl) (by kernel_rfl) (fun _ _ _ h => h) ?_ ?_; rotate_left; (· (try simp only [Act.put, List.setIfInBounds_toArray, List.set_cons_zero, List.set_cons_succ, i64_w, i32_w]); rfl)) | (refine Evt.ol_pure (a' := ?_) (v := ?_) HT_ rfl rfl rfl (by rfl) (by kernel_rfl) (fun _ _ _ h => h) ?_ ?_ ?_; rotate_left 2; (· intro w'; go_simp; with_reducible rfl); (· (try simp only [Act.put, List.setIfInBounds_toArray, List.set_cons_zero, List.set_cons_succ, i64_w, i32_w]); rfl)) | (refine Evt.ol_load (a' := ?_) (v := ?_) HT_ HW_ hHeld rfl rfl rfl (by rfl) (by kernel_rfl) (fun _ _ _ h => h) ?_ ?_ ?_; rotate_left 2; (· intro w' hS_; obtain ⟨s0, s1, s2, s3⟩ := KP.out w' hS_.out; go_simp; with_reducible rfl); (· (try simp only [Act.put, List.setIfInBounds_toArray, List.set_cons_zero, List.set_cons_succ, i64_w, i32_w]); rfl)))
            exact Evt.ol_norm (by simp only [putAll, Act.put, List.setIfInBounds_toArray, List.set_cons_zero, List.set_cons_succ, i64_w, i32_w]; rfl) (JN (vR0, vR5, AR11, cR11, gT13) _ hHeld ⟨F11.out, F13.out, GE13.out⟩)
  rintro ⟨vR0, vR5, AR11, cR11, gT13⟩ w_ hHeld ⟨f_F11, f_F13, f_GE13⟩
  have F11 := Aside0.mk f_F11
  have F13 := Aside0.mk f_F13
  have GE13 := Aside0.mk f_GE13
  clear f_F11 f_F13 f_GE13
  refine Evt.ol_norm (a' := ?_) ?_ ?_
  rotate_left
  · simp only [putAll, Act.put, List.setIfInBounds_toArray, List.set_cons_zero, List.set_cons_succ, i64_w, i32_w]; rfl
  refine Evt.ol_setrow (i := 14) [] HT_ hHeld rfl rfl (by kernel_rfl) (by rfl) F13.out GE13.out 25 (.tmp 8) (.tmp 58) rfl rfl rfl (by kernel_rfl) rfl (by simp [Value.oneCell']) ?_
  intro wa B_ hg_ hH_
  have FQ := Aside0.mk (row41_other F11.out.row hg_ (row_ne F11.out.row F13.out.blk (by decide)))
  have BQ_ := Aside0.mk B_
  clear F11 F13 GE13 hHeld B_ hg_
  refine Evt.ol_done HT_ (by kernel_rfl) ?_
  have R2 := Aside0.mk (R.out.below hH_.out)
  have B2 := Aside0.mk (BK2.out.below hH_.out)
  have HW := Aside0.mk (below_step HB.out hH_.out)
  clear R BK2 HB HT_ HW_ KP hH_
  have RQ0 : Aside0 (Rg wa AR11 cR11 lq none 0 []) := ⟨rg_of' FQ.out (Below.refl _ _)⟩
  clear FQ
  have ESq : Aside0 (es lq = es (l1.take i) ++ es (l1.drop (i + 1))) := Aside0.mk (by rw [← LQ.out]; simp [es])
  have OKq : Aside0 (okG (es lq) = true) := Aside0.mk (okG_sub O12.out.ok (fun c hc => by
    rw [ESq.out, List.mem_append] at hc
    rcases hc with hc | hc
    · unfold es at hc ⊢; rw [List.map_take] at hc; exact List.mem_of_mem_take hc
    · unfold es at hc ⊢; rw [List.map_drop] at hc; exact List.mem_of_mem_drop hc) (by rw [ESq.out]; have := O12.out.ln; simp [es]; omega))
  have CWq : Aside0 (countL (es lq) = ((nW : Int), 0)) := ⟨by rw [ESq.out]; exact CW.out⟩
  obtain ⟨lr, LR⟩ : ∃ lr, Aside0 (([] ++ l1) ++ [l1[i]] = lr) := ⟨_, ⟨rfl⟩⟩
  have ESr : Aside0 (es lr = es l1 ++ [(l1[i].f2, l1[i].f3)]) := Aside0.mk (by rw [← LR.out]; simp [es])
  have OKr : Aside0 (okG (es lr) = true) := Aside0.mk (okG_sub O12.out.ok (fun c hc => by
    rw [ESr.out, List.mem_append] at hc
    rcases hc with hc | hc
    · exact hc
    · rw [List.mem_singleton.1 hc, ← es_get hil]; exact List.getElem_mem _) (by rw [ESr.out]; have := O12.out.ln; rw [List.length_append, es_len]; simp; omega))
  have CTr : Aside0 (countL (es lr) = ((nT : Int), 0)) := ⟨by rw [ESr.out]; exact CT.out⟩
  obtain ⟨xi, XI⟩ : ∃ xi, Aside0 (l1[i] = xi) := ⟨_, ⟨rfl⟩⟩
  have CELL : Aside0 (∀ W, Rg W (some ad) c1 l1 A2 c2 l2 → W.cell? (ad.add (i * 5)) = some (.int .i64 xi.f0) ∧ W.cell? ⟨(ad.add (i * 5)).block, (ad.add (i * 5)).off + 1, none⟩ = some (.int .i64 xi.f1.f0) ∧ W.cell? ⟨(ad.add (i * 5)).block, (ad.add (i * 5)).off + 2, none⟩ = some (.int .i64 xi.f1.f1) ∧ W.cell? ⟨(ad.add (i * 5)).block, (ad.add (i * 5)).off + 3, none⟩ = some (.string xi.f2) ∧ W.cell? ⟨(ad.add (i * 5)).block, (ad.add (i * 5)).off + 4, none⟩ = some (.string xi.f3)) := ⟨fun W hW => by
    obtain ⟨ad', e, h0, h1, h2, h3, h4⟩ := hW.at hil
    injection e with e
    subst e
    rw [XI.out] at h0 h1 h2 h3 h4
    exact ⟨h0, h1, h2, h3, h4⟩⟩
  rw [XI.out] at LR
  generalize (if c1 = i + 1 then some ad else some (ad.add ((i + 1) * 5))) = aD
  clear LQ ci1 ci3 ci4 ci5 ci6 wi
  have HB := Aside0.mk (Below.refl wa.heap.size wa)
  have R := Aside0.mk (R2.out)
  have BQ : Aside0 (Bk wa gT13 25 #[.string ⟨#[]⟩, .slice AR11 lq.length cR11, .slice none 0 0, .string ⟨#[]⟩]) := Aside0.mk (BQ_.out)
  have BK2 : Aside0 (Bk wa g2 25 #[.string a0, .slice (some ad) l1.length c1, .slice A2 l2.length c2, .string a3]) := Aside0.mk (B2.out)
  have RQ := Aside0.mk (RQ0.out)
  clear R2 BQ_ B2 RQ0
  have zBQ_0 : wa.cell? ⟨gT13, 0, none⟩ = some (.string ⟨#[]⟩) := (blk_cell BQ.out.blk 0).trans rfl
  have zBQ_1 : wa.cell? ⟨gT13, 1, none⟩ = some (.slice AR11 lq.length cR11) := (blk_cell BQ.out.blk 1).trans rfl
  have zBQ_2 : wa.cell? ⟨gT13, 2, none⟩ = some (.slice none 0 0) := (blk_cell BQ.out.blk 2).trans rfl
  have zBQ_3 : wa.cell? ⟨gT13, 3, none⟩ = some (.string ⟨#[]⟩) := (blk_cell BQ.out.blk 3).trans rfl
  have zBK2_0 : wa.cell? ⟨g2, 0, none⟩ = some (.string a0) := (blk_cell BK2.out.blk 0).trans rfl
  have zBK2_1 : wa.cell? ⟨g2, 1, none⟩ = some (.slice (some ad) l1.length c1) := (blk_cell BK2.out.blk 1).trans rfl
  have zBK2_2 : wa.cell? ⟨g2, 2, none⟩ = some (.slice A2 l2.length c2) := (blk_cell BK2.out.blk 2).trans rfl
  have zBK2_3 : wa.cell? ⟨g2, 3, none⟩ = some (.string a3) := (blk_cell BK2.out.blk 3).trans rfl
  go_wp2_with (((with_reducible refine gate_callee (f := 37) rfl ?_); refine goesL_ (some 61) rfl rfl Try.func37 (by kernel_rfl) rfl #[.agg #[.string ⟨#[]⟩, .slice AR11 lq.length cR11, .slice none 0 0, .string ⟨#[]⟩]] rfl (by (try simp only [List.map_toArray, List.map_cons, List.map_nil]); first | done | rfl | (simp only [List.length_drop, List.length_take]; rfl)) ?_; (with_reducible refine (count_q _ (RQ.out.below (by repeat (first | (with_reducible first | exact Below.refl _ _ | apply below_alloc | apply pw_below_drewN | apply below_drew1) | exact Below.refl _ _))) OKq.out CWq.out).mono ?_); rintro e w1 ⟨rfl, hb⟩; have hbx : Below wa.heap.size wa w1 := below_step (by repeat (first | (with_reducible first | exact Below.refl _ _ | apply below_alloc | apply pw_below_drewN | apply below_drew1) | exact Below.refl _ _)) hb; clear zBQ_0 zBQ_1 zBQ_2 zBQ_3 zBK2_0 zBK2_1 zBK2_2 zBK2_3; have n_R := Aside0.mk (R.out.below hbx); have n_BQ := Aside0.mk (BQ.out.below hbx); have n_BK2 := Aside0.mk (BK2.out.below hbx); have n_RQ := Aside0.mk (RQ.out.below hbx); have n_HB := Aside0.mk (below_step HB.out hbx); clear HB R BQ BK2 RQ; have R := n_R; have BQ := n_BQ; have BK2 := n_BK2; have RQ := n_RQ; have HB := n_HB; clear hbx n_R n_BQ n_BK2 n_RQ n_HB; clear hb; have zBQ_0 : w1.cell? ⟨gT13, 0, none⟩ = some (.string ⟨#[]⟩) := (blk_cell BQ.out.blk 0).trans rfl; have zBQ_1 : w1.cell? ⟨gT13, 1, none⟩ = some (.slice AR11 lq.length cR11) := (blk_cell BQ.out.blk 1).trans rfl; have zBQ_2 : w1.cell? ⟨gT13, 2, none⟩ = some (.slice none 0 0) := (blk_cell BQ.out.blk 2).trans rfl; have zBQ_3 : w1.cell? ⟨gT13, 3, none⟩ = some (.string ⟨#[]⟩) := (blk_cell BQ.out.blk 3).trans rfl; have zBK2_0 : w1.cell? ⟨g2, 0, none⟩ = some (.string a0) := (blk_cell BK2.out.blk 0).trans rfl; have zBK2_1 : w1.cell? ⟨g2, 1, none⟩ = some (.slice (some ad) l1.length c1) := (blk_cell BK2.out.blk 1).trans rfl; have zBK2_2 : w1.cell? ⟨g2, 2, none⟩ = some (.slice A2 l2.length c2) := (blk_cell BK2.out.blk 2).trans rfl; have zBK2_3 : w1.cell? ⟨g2, 3, none⟩ = some (.string a3) := (blk_cell BK2.out.blk 3).trans rfl; refine ⟨_, rfl, ?_⟩))
  have KP : Aside0 (∀ w', Below w1.heap.size w1 w' → (w'.cell? ⟨g2, 0, none⟩ = some (.string a0) ∧ w'.cell? ⟨g2, 1, none⟩ = some (.slice (some ad) l1.length c1) ∧ w'.cell? ⟨g2, 2, none⟩ = some (.slice A2 l2.length c2) ∧ w'.cell? ⟨g2, 3, none⟩ = some (.string a3))) := Aside0.mk (fun w' hb => ⟨(blk_cell (BK2.out.below hb).blk 0).trans rfl, (blk_cell (BK2.out.below hb).blk 1).trans rfl, (blk_cell (BK2.out.below hb).blk 2).trans rfl, (blk_cell (BK2.out.below hb).blk 3).trans rfl⟩)
  clear zBQ_0 zBQ_1 zBQ_2 zBQ_3 zBK2_0 zBK2_1 zBK2_2 zBK2_3
  refine Evt.ol_start (ds := []) (w0 := w1) (T := (true, [([], []), ([], []), ([1], [1]), ([0, 2], [0, 2]), ([], []), ([4], [4]), ([], []), ([5, 6], [5, 6]), ([7], [7]), ([8], [8]), ([3, 9, 3], [3, 9]), ([10], [10]), ([], []), ([12, 11, 10, 0, 1, 2, 3, 4, 5, 6, 7, 8, 9, 10, 11, 12], [11, 12])])) (B := [0, 0, 2, 7, 0, 16, 0, 112, 240, 496, 1023, 2047, 0, 8191]) 14 [(1, some 65), (2, some 66), (4, some 68), (5, some 69), (6, some 70), (7, some 71), (8, some 72), (0, some 64), (3, some 67), (9, some 73), (10, some 74), (11, some 75), (12, some 11), (13, none)] (by kernel_rfl) rfl (by kernel_rfl) (by kernel_rfl) (by kernel_rfl) (by repeat (first | (with_reducible first | exact Below.refl _ _ | apply below_alloc | apply pw_below_drewN | apply below_drew1) | exact Below.refl _ _)) ?_
  intro HT_ HW_ w_ hHeld
  iterate 7 (first | (refine Evt.ol_off (a' := ?_) HT_ rfl rfl (by rfl) (by kernel_rfl) (fun _ _ _ h => h) ?_ ?_; rotate_left; (· (try simp only [Act.put, List.setIfInBounds_toArray, List.set_cons_zero, List.set_cons_succ, i64_w, i32_w]); rfl)) | (refine Evt.ol_pure (a' := ?_) (v := ?_) HT_ rfl rfl rfl (by rfl) (by kernel_rfl) (fun _ _ _ h => h) ?_ ?_ ?_; rotate_left 2; (· intro w'; go_simp; with_reducible rfl); (· (try simp only [Act.put, List.setIfInBounds_toArray, List.set_cons_zero, List.set_cons_succ, i64_w, i32_w]); rfl)) | (refine Evt.ol_load (a' := ?_) (v := ?_) HT_ HW_ hHeld rfl rfl rfl (by rfl) (by kernel_rfl) (fun _ _ _ h => h) ?_ ?_ ?_; rotate_left 2; (· intro w' hS_; obtain ⟨s0, s1, s2, s3⟩ := KP.out w' hS_.out; have ⟨y0, y1, y2, y3, y4⟩ := CELL.out w' (R.out.below hS_.out); go_simp; with_reducible rfl); (· (try simp only [Act.put, List.setIfInBounds_toArray, List.set_cons_zero, List.set_cons_succ, i64_w, i32_w]); rfl)))
  refine Evt.ol_join (σ := (Value) × (Value) × (Nat) × (Option Addr) × (Nat) × (Nat)) 1 [(13, none)] (fun s => match s with | (vR0, vR3, gT9, AR10, cR10, gT12) => [(64, vR0), (67, vR3), (73, .slice (some ⟨gT9, 0, none⟩) 1 1), (74, .slice AR10 (lr).length cR10), (75, .agg #[.string ⟨#[]⟩, .slice AR10 (lr).length cR10, .slice none 0 0, .string ⟨#[]⟩]), (11, .pointer (some ⟨gT12, 0, none⟩))]) (fun s W_ => match s with | (vR0, vR3, gT9, AR10, cR10, gT12) => (Evt.Ro k41 41 w1 W_ (.slice AR10 (lr).length cR10) (lr)) ∧ (Bk W_ gT12 25 #[.string ⟨#[]⟩, .slice none 0 0, .slice none 0 0, .string ⟨#[]⟩]) ∧ (w1.heap.size ≤ gT12)) ?_ ?_
  · intro JN
    refine Evt.ol_three (i := 0) (j := 9) (k := 12) [(3, some 67), (9, some 73), (10, some 74), (11, some 75), (12, some 11), (13, none)] [(0, some 64), (3, some 67), (10, some 74), (11, some 75), (12, some 11), (13, none)] [(0, some 64), (3, some 67), (9, some 73), (10, some 74), (11, some 75), (13, none)] HT_ rfl rfl rfl rfl rfl rfl (by kernel_rfl) (fun K_ hK_ => ?_) (fun K_ hK_ => ?_) (fun K_ hK_ => ?_)
    · refine Evt.k_row0 hK_ hHeld rfl rfl ?_ ?_
      · first | (go_simp; done) | (go_simp; rfl) | (go_simp; refine ⟨?_, ?_⟩ <;> rfl)
      intro vR0 w_ hR_ hO_ hb_ hH_
      clear hO_
      have F0 := Aside0.mk hR_
      clear hHeld hb_ hR_
      have hHeld := hH_
      clear hH_ hK_
      refine Evt.ol_norm (a' := ?_) ?_ ?_
      rotate_left
      · simp only [Act.put, List.setIfInBounds_toArray, List.set_cons_zero, List.set_cons_succ, i64_w, i32_w]; rfl
      refine Evt.ol_three (i := 3) (j := 9) (k := 12) [(9, some 73), (10, some 74), (11, some 75), (12, some 11), (13, none)] [(3, some 67), (10, some 74), (11, some 75), (12, some 11), (13, none)] [(3, some 67), (9, some 73), (10, some 74), (11, some 75), (13, none)] HT_ rfl rfl rfl rfl rfl rfl (by kernel_rfl) (fun K_ hK_ => ?_) (fun K_ hK_ => ?_) (fun K_ hK_ => ?_)
      · refine Evt.k_appc hK_ hHeld rfl rfl (.tmp 64) (.tmp 66) rfl vR0 ([]) (l1) (some ad) l1.length c1 rfl rfl F0.out (R.out.below hHeld.out).r1 (by have := O12.out.ln; simp; omega) ?_
        intro vR3 w_ hR_ hg_ hat_ hH_
        clear F0
        have F3 := Aside0.mk hR_
        clear hHeld hR_ hg_ hat_
        have hHeld := hH_
        clear hH_ hK_
        refine Evt.ol_norm (a' := ?_) ?_ ?_
        rotate_left
        · simp only [Act.put, List.setIfInBounds_toArray, List.set_cons_zero, List.set_cons_succ, i64_w, i32_w]; rfl
        refine Evt.ol_two (i := 9) (j := 12) [(10, some 74), (11, some 75), (12, some 11), (13, none)] [(9, some 73), (10, some 74), (11, some 75), (13, none)] HT_ rfl rfl rfl rfl (by kernel_rfl) (fun K_ hK_ => ?_) (fun K_ hK_ => ?_)
        · refine Evt.k_slice hK_ hHeld rfl rfl (cs := #[.int .i64 xi.f0, .int .i64 xi.f1.f0, .int .i64 xi.f1.f1, .string xi.f2, .string xi.f3]) (t := 41) (ln := 1) ?_ ?_
          · first | (go_simp; done) | (go_simp; rfl) | (go_simp; refine ⟨?_, ?_⟩ <;> rfl)
          intro gT9 w_ hg_ hB_ hb_ hH_
          have GE9 := Aside0.mk (show w1.heap.size ≤ gT9 from (by rw [hg_]; exact hHeld.out.size))
          have NR9 := Aside0.mk (show some gT9 ≠ vR3.ownBlock from (by rw [hg_]; intro e_; have h_ := Kd.R_lt F3.out.row _ e_.symm; omega))
          clear hg_
          have n_F3 := Aside0.mk (F3.out.below hb_)
          clear F3
          have F3 := n_F3
          clear n_F3
          have F9 := Aside0.mk hB_
          clear hHeld hb_ hB_
          have hHeld := hH_
          clear hH_ hK_
          refine Evt.ol_norm (a' := ?_) ?_ ?_
          rotate_left
          · simp only [Act.put, List.setIfInBounds_toArray, List.set_cons_zero, List.set_cons_succ, i64_w, i32_w]; rfl
          refine Evt.ol_two (i := 10) (j := 12) [(11, some 75), (12, some 11), (13, none)] [(10, some 74), (11, some 75), (13, none)] HT_ rfl rfl rfl rfl (by kernel_rfl) (fun K_ hK_ => ?_) (fun K_ hK_ => ?_)
          · refine Evt.k_appc hK_ hHeld rfl rfl (.tmp 67) (.tmp 73) rfl vR3 ([] ++ l1) ([xi]) (some ⟨gT9, 0, none⟩) 1 1 rfl rfl F3.out (C_of_blk1 F9.out) (by have := O12.out.ln; simp; omega) ?_
            intro vR10 w_ hR_ hg_ hat_ hH_
            have n_NR := Aside0.mk (show some gT9 ≠ vR10.ownBlock from (by rcases hat_ with e_ | ⟨k_, e_, hk_⟩; (rw [e_]; exact NR9.out); (rw [e_]; intro e2_; injection e2_ with e2_; have h_ := F9.out.blk.lt; omega)))
            have n_F9 := Aside0.mk (F9.out.grown hg_ NR9.out)
            clear F9 NR9
            have F9 := n_F9
            have NR9 := n_NR
            clear n_F9 n_NR
            rw [LR.out] at hR_
            obtain ⟨AR10, cR10, rfl⟩ := Kd.R_slice hR_.row
            clear F3
            have F10 := Aside0.mk hR_
            clear hHeld hR_ hg_ hat_
            have hHeld := hH_
            clear hH_ hK_
            refine Evt.ol_norm (a' := ?_) ?_ ?_
            rotate_left
            · simp only [Act.put, List.setIfInBounds_toArray, List.set_cons_zero, List.set_cons_succ, i64_w, i32_w]; rfl
            (first | (refine Evt.ol_off (a' := ?_) HT_ rfl rfl (by rfl) (by kernel_rfl) (fun _ _ _ h => h) ?_ ?_; rotate_left; (· (try simp only [Act.put, List.setIfInBounds_toArray, List.set_cons_zero, List.set_cons_succ, i64_w, i32_w]); rfl)) | (refine Evt.ol_pure (a' := ?_) (v := ?_) HT_ rfl rfl rfl (by rfl) (by kernel_rfl) (fun _ _ _ h => h) ?_ ?_ ?_; rotate_left 2; (· intro w'; go_simp; with_reducible rfl); (· (try simp only [Act.put, List.setIfInBounds_toArray, List.set_cons_zero, List.set_cons_succ, i64_w, i32_w]); rfl)) | (refine Evt.ol_load (a' := ?_) (v := ?_) HT_ HW_ hHeld rfl rfl rfl (by rfl) (by kernel_rfl) (fun _ _ _ h => h) ?_ ?_ ?_; rotate_left 2; (· intro w' hS_; obtain ⟨s0, s1, s2, s3⟩ := KP.out w' hS_.out; have ⟨y0, y1, y2, y3, y4⟩ := CELL.out w' (R.out.below hS_.out); go_simp; with_reducible rfl); (· (try simp only [Act.put, List.setIfInBounds_toArray, List.set_cons_zero, List.set_cons_succ, i64_w, i32_w]); rfl)))
            refine Evt.ol_one (i := 12) [(13, none)] HT_ rfl rfl (by kernel_rfl) (fun K_ hK_ => ?_)
            · refine Evt.k_alloc hK_ hHeld rfl rfl (cs := #[.string ⟨#[]⟩, .slice none 0 0, .slice none 0 0, .string ⟨#[]⟩]) (t := 25) ?_ ?_
              · first | (go_simp; done) | (go_simp; rfl) | (go_simp; refine ⟨?_, ?_⟩ <;> rfl)
              intro gT12 w_ hg_ hB_ hb_ hH_
              have GE12 := Aside0.mk (show w1.heap.size ≤ gT12 from (by rw [hg_]; exact hHeld.out.size))
              have NE_9_12 := Aside0.mk (show gT9 ≠ gT12 from (by have h_ := F9.out.blk.lt; omega))
              clear hg_
              have n_F9 := Aside0.mk (F9.out.below hb_)
              have n_F10 := Aside0.mk (F10.out.below hb_)
              clear F9 F10
              have F9 := n_F9
              have F10 := n_F10
              clear n_F9 n_F10
              have F12 := Aside0.mk hB_
              clear hHeld hb_ hB_
              have hHeld := hH_
              clear hH_ hK_
              refine Evt.ol_norm (a' := ?_) ?_ ?_
              rotate_left
              · simp only [Act.put, List.setIfInBounds_toArray, List.set_cons_zero, List.set_cons_succ, i64_w, i32_w]; rfl
              exact Evt.ol_norm (by simp only [putAll, Act.put, List.setIfInBounds_toArray, List.set_cons_zero, List.set_cons_succ, i64_w, i32_w]; rfl) (JN (vR0, vR3, gT9, AR10, cR10, gT12) _ hHeld ⟨F10.out, F12.out, GE12.out⟩)
          · refine Evt.k_alloc hK_ hHeld rfl rfl (cs := #[.string ⟨#[]⟩, .slice none 0 0, .slice none 0 0, .string ⟨#[]⟩]) (t := 25) ?_ ?_
            · first | (go_simp; done) | (go_simp; rfl) | (go_simp; refine ⟨?_, ?_⟩ <;> rfl)
            intro gT12 w_ hg_ hB_ hb_ hH_
            have GE12 := Aside0.mk (show w1.heap.size ≤ gT12 from (by rw [hg_]; exact hHeld.out.size))
            have NE_9_12 := Aside0.mk (show gT9 ≠ gT12 from (by have h_ := F9.out.blk.lt; omega))
            clear hg_
            have n_F3 := Aside0.mk (F3.out.below hb_)
            have n_F9 := Aside0.mk (F9.out.below hb_)
            clear F3 F9
            have F3 := n_F3
            have F9 := n_F9
            clear n_F3 n_F9
            have F12 := Aside0.mk hB_
            clear hHeld hb_ hB_
            have hHeld := hH_
            clear hH_ hK_
            refine Evt.ol_norm (a' := ?_) ?_ ?_
            rotate_left
            · simp only [Act.put, List.setIfInBounds_toArray, List.set_cons_zero, List.set_cons_succ, i64_w, i32_w]; rfl
            refine Evt.ol_one (i := 10) [(11, some 75), (13, none)] HT_ rfl rfl (by kernel_rfl) (fun K_ hK_ => ?_)
            · refine Evt.k_appc hK_ hHeld rfl rfl (.tmp 67) (.tmp 73) rfl vR3 ([] ++ l1) ([xi]) (some ⟨gT9, 0, none⟩) 1 1 rfl rfl F3.out (C_of_blk1 F9.out) (by have := O12.out.ln; simp; omega) ?_
              intro vR10 w_ hR_ hg_ hat_ hH_
              have n_NR := Aside0.mk (show some gT9 ≠ vR10.ownBlock from (by rcases hat_ with e_ | ⟨k_, e_, hk_⟩; (rw [e_]; exact NR9.out); (rw [e_]; intro e2_; injection e2_ with e2_; have h_ := F9.out.blk.lt; omega)))
              have n_F9 := Aside0.mk (F9.out.grown hg_ NR9.out)
              clear F9 NR9
              have F9 := n_F9
              have NR9 := n_NR
              clear n_F9 n_NR
              have n_F12 := Aside0.mk (F12.out.grown hg_ (row_ne F3.out.row F12.out.blk (by decide)))
              clear F12
              have F12 := n_F12
              clear n_F12
              rw [LR.out] at hR_
              obtain ⟨AR10, cR10, rfl⟩ := Kd.R_slice hR_.row
              clear F3
              have F10 := Aside0.mk hR_
              clear hHeld hR_ hg_ hat_
              have hHeld := hH_
              clear hH_ hK_
              refine Evt.ol_norm (a' := ?_) ?_ ?_
              rotate_left
              · simp only [Act.put, List.setIfInBounds_toArray, List.set_cons_zero, List.set_cons_succ, i64_w, i32_w]; rfl
              (first | (refine Evt.ol_off (a' := ?_) HT_ rfl rfl (by rfl) (by kernel_rfl) (fun _ _ _ h => h) ?_ ?_; rotate_left; (· (try simp only [Act.put, List.setIfInBounds_toArray, List.set_cons_zero, List.set_cons_succ, i64_w, i32_w]); rfl)) | (refine Evt.ol_pure (a' := ?_) (v := ?_) HT_ rfl rfl rfl (by rfl) (by kernel_rfl) (fun _ _ _ h => h) ?_ ?_ ?_; rotate_left 2; (· intro w'; go_simp; with_reducible rfl); (· (try simp only [Act.put, List.setIfInBounds_toArray, List.set_cons_zero, List.set_cons_succ, i64_w, i32_w]); rfl)) | (refine Evt.ol_load (a' := ?_) (v := ?_) HT_ HW_ hHeld rfl rfl rfl (by rfl) (by kernel_rfl) (fun _ _ _ h => h) ?_ ?_ ?_; rotate_left 2; (· intro w' hS_; obtain ⟨s0, s1, s2, s3⟩ := KP.out w' hS_.out; have ⟨y0, y1, y2, y3, y4⟩ := CELL.out w' (R.out.below hS_.out); go_simp; with_reducible rfl); (· (try simp only [Act.put, List.setIfInBounds_toArray, List.set_cons_zero, List.set_cons_succ, i64_w, i32_w]); rfl)))
              exact Evt.ol_norm (by simp only [putAll, Act.put, List.setIfInBounds_toArray, List.set_cons_zero, List.set_cons_succ, i64_w, i32_w]; rfl) (JN (vR0, vR3, gT9, AR10, cR10, gT12) _ hHeld ⟨F10.out, F12.out, GE12.out⟩)
        · refine Evt.k_alloc hK_ hHeld rfl rfl (cs := #[.string ⟨#[]⟩, .slice none 0 0, .slice none 0 0, .string ⟨#[]⟩]) (t := 25) ?_ ?_
          · first | (go_simp; done) | (go_simp; rfl) | (go_simp; refine ⟨?_, ?_⟩ <;> rfl)
          intro gT12 w_ hg_ hB_ hb_ hH_
          have GE12 := Aside0.mk (show w1.heap.size ≤ gT12 from (by rw [hg_]; exact hHeld.out.size))
          clear hg_
          have n_F3 := Aside0.mk (F3.out.below hb_)
          clear F3
          have F3 := n_F3
          clear n_F3
          have F12 := Aside0.mk hB_
          clear hHeld hb_ hB_
          have hHeld := hH_
          clear hH_ hK_
          refine Evt.ol_norm (a' := ?_) ?_ ?_
          rotate_left
          · simp only [Act.put, List.setIfInBounds_toArray, List.set_cons_zero, List.set_cons_succ, i64_w, i32_w]; rfl
          refine Evt.ol_one (i := 9) [(10, some 74), (11, some 75), (13, none)] HT_ rfl rfl (by kernel_rfl) (fun K_ hK_ => ?_)
          · refine Evt.k_slice hK_ hHeld rfl rfl (cs := #[.int .i64 xi.f0, .int .i64 xi.f1.f0, .int .i64 xi.f1.f1, .string xi.f2, .string xi.f3]) (t := 41) (ln := 1) ?_ ?_
            · first | (go_simp; done) | (go_simp; rfl) | (go_simp; refine ⟨?_, ?_⟩ <;> rfl)
            intro gT9 w_ hg_ hB_ hb_ hH_
            have GE9 := Aside0.mk (show w1.heap.size ≤ gT9 from (by rw [hg_]; exact hHeld.out.size))
            have NE_9_12 := Aside0.mk (show gT9 ≠ gT12 from (by have h_ := F12.out.blk.lt; omega))
            have NR9 := Aside0.mk (show some gT9 ≠ vR3.ownBlock from (by rw [hg_]; intro e_; have h_ := Kd.R_lt F3.out.row _ e_.symm; omega))
            clear hg_
            have n_F3 := Aside0.mk (F3.out.below hb_)
            have n_F12 := Aside0.mk (F12.out.below hb_)
            clear F3 F12
            have F3 := n_F3
            have F12 := n_F12
            clear n_F3 n_F12
            have F9 := Aside0.mk hB_
            clear hHeld hb_ hB_
            have hHeld := hH_
            clear hH_ hK_
            refine Evt.ol_norm (a' := ?_) ?_ ?_
            rotate_left
            · simp only [Act.put, List.setIfInBounds_toArray, List.set_cons_zero, List.set_cons_succ, i64_w, i32_w]; rfl
            refine Evt.ol_one (i := 10) [(11, some 75), (13, none)] HT_ rfl rfl (by kernel_rfl) (fun K_ hK_ => ?_)
            · refine Evt.k_appc hK_ hHeld rfl rfl (.tmp 67) (.tmp 73) rfl vR3 ([] ++ l1) ([xi]) (some ⟨gT9, 0, none⟩) 1 1 rfl rfl F3.out (C_of_blk1 F9.out) (by have := O12.out.ln; simp; omega) ?_
              intro vR10 w_ hR_ hg_ hat_ hH_
              have n_NR := Aside0.mk (show some gT9 ≠ vR10.ownBlock from (by rcases hat_ with e_ | ⟨k_, e_, hk_⟩; (rw [e_]; exact NR9.out); (rw [e_]; intro e2_; injection e2_ with e2_; have h_ := F9.out.blk.lt; omega)))
              have n_F9 := Aside0.mk (F9.out.grown hg_ NR9.out)
              clear F9 NR9
              have F9 := n_F9
              have NR9 := n_NR
              clear n_F9 n_NR
              have n_F12 := Aside0.mk (F12.out.grown hg_ (row_ne F3.out.row F12.out.blk (by decide)))
              clear F12
              have F12 := n_F12
              clear n_F12
              rw [LR.out] at hR_
              obtain ⟨AR10, cR10, rfl⟩ := Kd.R_slice hR_.row
              clear F3
              have F10 := Aside0.mk hR_
              clear hHeld hR_ hg_ hat_
              have hHeld := hH_
              clear hH_ hK_
              refine Evt.ol_norm (a' := ?_) ?_ ?_
              rotate_left
              · simp only [Act.put, List.setIfInBounds_toArray, List.set_cons_zero, List.set_cons_succ, i64_w, i32_w]; rfl
              (first | (refine Evt.ol_off (a' := ?_) HT_ rfl rfl (by rfl) (by kernel_rfl) (fun _ _ _ h => h) ?_ ?_; rotate_left; (· (try simp only [Act.put, List.setIfInBounds_toArray, List.set_cons_zero, List.set_cons_succ, i64_w, i32_w]); rfl)) | (refine Evt.ol_pure (a' := ?_) (v := ?_) HT_ rfl rfl rfl (by rfl) (by kernel_rfl) (fun _ _ _ h => h) ?_ ?_ ?_; rotate_left 2; (· intro w'; go_simp; with_reducible rfl); (· (try simp only [Act.put, List.setIfInBounds_toArray, List.set_cons_zero, List.set_cons_succ, i64_w, i32_w]); rfl)) | (refine Evt.ol_load (a' := ?_) (v := ?_) HT_ HW_ hHeld rfl rfl rfl (by rfl) (by kernel_rfl) (fun _ _ _ h => h) ?_ ?_ ?_; rotate_left 2; (· intro w' hS_; obtain ⟨s0, s1, s2, s3⟩ := KP.out w' hS_.out; have ⟨y0, y1, y2, y3, y4⟩ := CELL.out w' (R.out.below hS_.out); go_simp; with_reducible rfl); (· (try simp only [Act.put, List.setIfInBounds_toArray, List.set_cons_zero, List.set_cons_succ, i64_w, i32_w]); rfl)))
              exact Evt.ol_norm (by simp only [putAll, Act.put, List.setIfInBounds_toArray, List.set_cons_zero, List.set_cons_succ, i64_w, i32_w]; rfl) (JN (vR0, vR3, gT9, AR10, cR10, gT12) _ hHeld ⟨F10.out, F12.out, GE12.out⟩)
      · refine Evt.k_slice hK_ hHeld rfl rfl (cs := #[.int .i64 xi.f0, .int .i64 xi.f1.f0, .int .i64 xi.f1.f1, .string xi.f2, .string xi.f3]) (t := 41) (ln := 1) ?_ ?_
        · first | (go_simp; done) | (go_simp; rfl) | (go_simp; refine ⟨?_, ?_⟩ <;> rfl)
        intro gT9 w_ hg_ hB_ hb_ hH_
        have GE9 := Aside0.mk (show w1.heap.size ≤ gT9 from (by rw [hg_]; exact hHeld.out.size))
        have NR9 := Aside0.mk (show some gT9 ≠ vR0.ownBlock from (by rw [hg_]; intro e_; have h_ := Kd.R_lt F0.out.row _ e_.symm; omega))
        clear hg_
        have n_F0 := Aside0.mk (F0.out.below hb_)
        clear F0
        have F0 := n_F0
        clear n_F0
        have F9 := Aside0.mk hB_
        clear hHeld hb_ hB_
        have hHeld := hH_
        clear hH_ hK_
        refine Evt.ol_norm (a' := ?_) ?_ ?_
        rotate_left
        · simp only [Act.put, List.setIfInBounds_toArray, List.set_cons_zero, List.set_cons_succ, i64_w, i32_w]; rfl
        refine Evt.ol_two (i := 3) (j := 12) [(10, some 74), (11, some 75), (12, some 11), (13, none)] [(3, some 67), (10, some 74), (11, some 75), (13, none)] HT_ rfl rfl rfl rfl (by kernel_rfl) (fun K_ hK_ => ?_) (fun K_ hK_ => ?_)
        · refine Evt.k_appc hK_ hHeld rfl rfl (.tmp 64) (.tmp 66) rfl vR0 ([]) (l1) (some ad) l1.length c1 rfl rfl F0.out (R.out.below hHeld.out).r1 (by have := O12.out.ln; simp; omega) ?_
          intro vR3 w_ hR_ hg_ hat_ hH_
          have n_NR := Aside0.mk (show some gT9 ≠ vR3.ownBlock from (by rcases hat_ with e_ | ⟨k_, e_, hk_⟩; (rw [e_]; exact NR9.out); (rw [e_]; intro e2_; injection e2_ with e2_; have h_ := F9.out.blk.lt; omega)))
          have n_F9 := Aside0.mk (F9.out.grown hg_ NR9.out)
          clear F9 NR9
          have F9 := n_F9
          have NR9 := n_NR
          clear n_F9 n_NR
          clear F0
          have F3 := Aside0.mk hR_
          clear hHeld hR_ hg_ hat_
          have hHeld := hH_
          clear hH_ hK_
          refine Evt.ol_norm (a' := ?_) ?_ ?_
          rotate_left
          · simp only [Act.put, List.setIfInBounds_toArray, List.set_cons_zero, List.set_cons_succ, i64_w, i32_w]; rfl
          refine Evt.ol_two (i := 10) (j := 12) [(11, some 75), (12, some 11), (13, none)] [(10, some 74), (11, some 75), (13, none)] HT_ rfl rfl rfl rfl (by kernel_rfl) (fun K_ hK_ => ?_) (fun K_ hK_ => ?_)
          · refine Evt.k_appc hK_ hHeld rfl rfl (.tmp 67) (.tmp 73) rfl vR3 ([] ++ l1) ([xi]) (some ⟨gT9, 0, none⟩) 1 1 rfl rfl F3.out (C_of_blk1 F9.out) (by have := O12.out.ln; simp; omega) ?_
            intro vR10 w_ hR_ hg_ hat_ hH_
            have n_NR := Aside0.mk (show some gT9 ≠ vR10.ownBlock from (by rcases hat_ with e_ | ⟨k_, e_, hk_⟩; (rw [e_]; exact NR9.out); (rw [e_]; intro e2_; injection e2_ with e2_; have h_ := F9.out.blk.lt; omega)))
            have n_F9 := Aside0.mk (F9.out.grown hg_ NR9.out)
            clear F9 NR9
            have F9 := n_F9
            have NR9 := n_NR
            clear n_F9 n_NR
            rw [LR.out] at hR_
            obtain ⟨AR10, cR10, rfl⟩ := Kd.R_slice hR_.row
            clear F3
            have F10 := Aside0.mk hR_
            clear hHeld hR_ hg_ hat_
            have hHeld := hH_
            clear hH_ hK_
            refine Evt.ol_norm (a' := ?_) ?_ ?_
            rotate_left
            · simp only [Act.put, List.setIfInBounds_toArray, List.set_cons_zero, List.set_cons_succ, i64_w, i32_w]; rfl
            (first | (refine Evt.ol_off (a' := ?_) HT_ rfl rfl (by rfl) (by kernel_rfl) (fun _ _ _ h => h) ?_ ?_; rotate_left; (· (try simp only [Act.put, List.setIfInBounds_toArray, List.set_cons_zero, List.set_cons_succ, i64_w, i32_w]); rfl)) | (refine Evt.ol_pure (a' := ?_) (v := ?_) HT_ rfl rfl rfl (by rfl) (by kernel_rfl) (fun _ _ _ h => h) ?_ ?_ ?_; rotate_left 2; (· intro w'; go_simp; with_reducible rfl); (· (try simp only [Act.put, List.setIfInBounds_toArray, List.set_cons_zero, List.set_cons_succ, i64_w, i32_w]); rfl)) | (refine Evt.ol_load (a' := ?_) (v := ?_) HT_ HW_ hHeld rfl rfl rfl (by rfl) (by kernel_rfl) (fun _ _ _ h => h) ?_ ?_ ?_; rotate_left 2; (· intro w' hS_; obtain ⟨s0, s1, s2, s3⟩ := KP.out w' hS_.out; have ⟨y0, y1, y2, y3, y4⟩ := CELL.out w' (R.out.below hS_.out); go_simp; with_reducible rfl); (· (try simp only [Act.put, List.setIfInBounds_toArray, List.set_cons_zero, List.set_cons_succ, i64_w, i32_w]); rfl)))
            refine Evt.ol_one (i := 12) [(13, none)] HT_ rfl rfl (by kernel_rfl) (fun K_ hK_ => ?_)
            · refine Evt.k_alloc hK_ hHeld rfl rfl (cs := #[.string ⟨#[]⟩, .slice none 0 0, .slice none 0 0, .string ⟨#[]⟩]) (t := 25) ?_ ?_
              · first | (go_simp; done) | (go_simp; rfl) | (go_simp; refine ⟨?_, ?_⟩ <;> rfl)
              intro gT12 w_ hg_ hB_ hb_ hH_
              have GE12 := Aside0.mk (show w1.heap.size ≤ gT12 from (by rw [hg_]; exact hHeld.out.size))
              have NE_9_12 := Aside0.mk (show gT9 ≠ gT12 from (by have h_ := F9.out.blk.lt; omega))
              clear hg_
              have n_F9 := Aside0.mk (F9.out.below hb_)
              have n_F10 := Aside0.mk (F10.out.below hb_)
              clear F9 F10
              have F9 := n_F9
              have F10 := n_F10
              clear n_F9 n_F10
              have F12 := Aside0.mk hB_
              clear hHeld hb_ hB_
              have hHeld := hH_
              clear hH_ hK_
              refine Evt.ol_norm (a' := ?_) ?_ ?_
              rotate_left
              · simp only [Act.put, List.setIfInBounds_toArray, List.set_cons_zero, List.set_cons_succ, i64_w, i32_w]; rfl
              exact Evt.ol_norm (by simp only [putAll, Act.put, List.setIfInBounds_toArray, List.set_cons_zero, List.set_cons_succ, i64_w, i32_w]; rfl) (JN (vR0, vR3, gT9, AR10, cR10, gT12) _ hHeld ⟨F10.out, F12.out, GE12.out⟩)
          · refine Evt.k_alloc hK_ hHeld rfl rfl (cs := #[.string ⟨#[]⟩, .slice none 0 0, .slice none 0 0, .string ⟨#[]⟩]) (t := 25) ?_ ?_
            · first | (go_simp; done) | (go_simp; rfl) | (go_simp; refine ⟨?_, ?_⟩ <;> rfl)
            intro gT12 w_ hg_ hB_ hb_ hH_
            have GE12 := Aside0.mk (show w1.heap.size ≤ gT12 from (by rw [hg_]; exact hHeld.out.size))
            have NE_9_12 := Aside0.mk (show gT9 ≠ gT12 from (by have h_ := F9.out.blk.lt; omega))
            clear hg_
            have n_F9 := Aside0.mk (F9.out.below hb_)
            have n_F3 := Aside0.mk (F3.out.below hb_)
            clear F9 F3
            have F9 := n_F9
            have F3 := n_F3
            clear n_F9 n_F3
            have F12 := Aside0.mk hB_
            clear hHeld hb_ hB_
            have hHeld := hH_
            clear hH_ hK_
            refine Evt.ol_norm (a' := ?_) ?_ ?_
            rotate_left
            · simp only [Act.put, List.setIfInBounds_toArray, List.set_cons_zero, List.set_cons_succ, i64_w, i32_w]; rfl
            refine Evt.ol_one (i := 10) [(11, some 75), (13, none)] HT_ rfl rfl (by kernel_rfl) (fun K_ hK_ => ?_)
            · refine Evt.k_appc hK_ hHeld rfl rfl (.tmp 67) (.tmp 73) rfl vR3 ([] ++ l1) ([xi]) (some ⟨gT9, 0, none⟩) 1 1 rfl rfl F3.out (C_of_blk1 F9.out) (by have := O12.out.ln; simp; omega) ?_
              intro vR10 w_ hR_ hg_ hat_ hH_
              have n_NR := Aside0.mk (show some gT9 ≠ vR10.ownBlock from (by rcases hat_ with e_ | ⟨k_, e_, hk_⟩; (rw [e_]; exact NR9.out); (rw [e_]; intro e2_; injection e2_ with e2_; have h_ := F9.out.blk.lt; omega)))
              have n_F9 := Aside0.mk (F9.out.grown hg_ NR9.out)
              clear F9 NR9
              have F9 := n_F9
              have NR9 := n_NR
              clear n_F9 n_NR
              have n_F12 := Aside0.mk (F12.out.grown hg_ (row_ne F3.out.row F12.out.blk (by decide)))
              clear F12
              have F12 := n_F12
              clear n_F12
              rw [LR.out] at hR_
              obtain ⟨AR10, cR10, rfl⟩ := Kd.R_slice hR_.row
              clear F3
              have F10 := Aside0.mk hR_
              clear hHeld hR_ hg_ hat_
              have hHeld := hH_
              clear hH_ hK_
              refine Evt.ol_norm (a' := ?_) ?_ ?_
              rotate_left
              · simp only [Act.put, List.setIfInBounds_toArray, List.set_cons_zero, List.set_cons_succ, i64_w, i32_w]; rfl
              (first | (refine Evt.ol_off (a' := ?_) HT_ rfl rfl (by rfl) (by kernel_rfl) (fun _ _ _ h => h) ?_ ?_; rotate_left; (· (try simp only [Act.put, List.setIfInBounds_toArray, List.set_cons_zero, List.set_cons_succ, i64_w, i32_w]); rfl)) | (refine Evt.ol_pure (a' := ?_) (v := ?_) HT_ rfl rfl rfl (by rfl) (by kernel_rfl) (fun _ _ _ h => h) ?_ ?_ ?_; rotate_left 2; (· intro w'; go_simp; with_reducible rfl); (· (try simp only [Act.put, List.setIfInBounds_toArray, List.set_cons_zero, List.set_cons_succ, i64_w, i32_w]); rfl)) | (refine Evt.ol_load (a' := ?_) (v := ?_) HT_ HW_ hHeld rfl rfl rfl (by rfl) (by kernel_rfl) (fun _ _ _ h => h) ?_ ?_ ?_; rotate_left 2; (· intro w' hS_; obtain ⟨s0, s1, s2, s3⟩ := KP.out w' hS_.out; have ⟨y0, y1, y2, y3, y4⟩ := CELL.out w' (R.out.below hS_.out); go_simp; with_reducible rfl); (· (try simp only [Act.put, List.setIfInBounds_toArray, List.set_cons_zero, List.set_cons_succ, i64_w, i32_w]); rfl)))
              exact Evt.ol_norm (by simp only [putAll, Act.put, List.setIfInBounds_toArray, List.set_cons_zero, List.set_cons_succ, i64_w, i32_w]; rfl) (JN (vR0, vR3, gT9, AR10, cR10, gT12) _ hHeld ⟨F10.out, F12.out, GE12.out⟩)
        · refine Evt.k_alloc hK_ hHeld rfl rfl (cs := #[.string ⟨#[]⟩, .slice none 0 0, .slice none 0 0, .string ⟨#[]⟩]) (t := 25) ?_ ?_
          · first | (go_simp; done) | (go_simp; rfl) | (go_simp; refine ⟨?_, ?_⟩ <;> rfl)
          intro gT12 w_ hg_ hB_ hb_ hH_
          have GE12 := Aside0.mk (show w1.heap.size ≤ gT12 from (by rw [hg_]; exact hHeld.out.size))
          have NE_9_12 := Aside0.mk (show gT9 ≠ gT12 from (by have h_ := F9.out.blk.lt; omega))
          clear hg_
          have n_F0 := Aside0.mk (F0.out.below hb_)
          have n_F9 := Aside0.mk (F9.out.below hb_)
          clear F0 F9
          have F0 := n_F0
          have F9 := n_F9
          clear n_F0 n_F9
          have F12 := Aside0.mk hB_
          clear hHeld hb_ hB_
          have hHeld := hH_
          clear hH_ hK_
          refine Evt.ol_norm (a' := ?_) ?_ ?_
          rotate_left
          · simp only [Act.put, List.setIfInBounds_toArray, List.set_cons_zero, List.set_cons_succ, i64_w, i32_w]; rfl
          refine Evt.ol_one (i := 3) [(10, some 74), (11, some 75), (13, none)] HT_ rfl rfl (by kernel_rfl) (fun K_ hK_ => ?_)
          · refine Evt.k_appc hK_ hHeld rfl rfl (.tmp 64) (.tmp 66) rfl vR0 ([]) (l1) (some ad) l1.length c1 rfl rfl F0.out (R.out.below hHeld.out).r1 (by have := O12.out.ln; simp; omega) ?_
            intro vR3 w_ hR_ hg_ hat_ hH_
            have n_NR := Aside0.mk (show some gT9 ≠ vR3.ownBlock from (by rcases hat_ with e_ | ⟨k_, e_, hk_⟩; (rw [e_]; exact NR9.out); (rw [e_]; intro e2_; injection e2_ with e2_; have h_ := F9.out.blk.lt; omega)))
            have n_F9 := Aside0.mk (F9.out.grown hg_ NR9.out)
            clear F9 NR9
            have F9 := n_F9
            have NR9 := n_NR
            clear n_F9 n_NR
            have n_F12 := Aside0.mk (F12.out.grown hg_ (row_ne F0.out.row F12.out.blk (by decide)))
            clear F12
            have F12 := n_F12
            clear n_F12
            clear F0
            have F3 := Aside0.mk hR_
            clear hHeld hR_ hg_ hat_
            have hHeld := hH_
            clear hH_ hK_
            refine Evt.ol_norm (a' := ?_) ?_ ?_
            rotate_left
            · simp only [Act.put, List.setIfInBounds_toArray, List.set_cons_zero, List.set_cons_succ, i64_w, i32_w]; rfl
            refine Evt.ol_one (i := 10) [(11, some 75), (13, none)] HT_ rfl rfl (by kernel_rfl) (fun K_ hK_ => ?_)
            · refine Evt.k_appc hK_ hHeld rfl rfl (.tmp 67) (.tmp 73) rfl vR3 ([] ++ l1) ([xi]) (some ⟨gT9, 0, none⟩) 1 1 rfl rfl F3.out (C_of_blk1 F9.out) (by have := O12.out.ln; simp; omega) ?_
              intro vR10 w_ hR_ hg_ hat_ hH_
              have n_NR := Aside0.mk (show some gT9 ≠ vR10.ownBlock from (by rcases hat_ with e_ | ⟨k_, e_, hk_⟩; (rw [e_]; exact NR9.out); (rw [e_]; intro e2_; injection e2_ with e2_; have h_ := F9.out.blk.lt; omega)))
              have n_F9 := Aside0.mk (F9.out.grown hg_ NR9.out)
              clear F9 NR9
              have F9 := n_F9
              have NR9 := n_NR
              clear n_F9 n_NR
              have n_F12 := Aside0.mk (F12.out.grown hg_ (row_ne F3.out.row F12.out.blk (by decide)))
              clear F12
              have F12 := n_F12
              clear n_F12
              rw [LR.out] at hR_
              obtain ⟨AR10, cR10, rfl⟩ := Kd.R_slice hR_.row
              clear F3
              have F10 := Aside0.mk hR_
              clear hHeld hR_ hg_ hat_
              have hHeld := hH_
              clear hH_ hK_
              refine Evt.ol_norm (a' := ?_) ?_ ?_
              rotate_left
              · simp only [Act.put, List.setIfInBounds_toArray, List.set_cons_zero, List.set_cons_succ, i64_w, i32_w]; rfl
              (first | (refine Evt.ol_off (a' := ?_) HT_ rfl rfl (by rfl) (by kernel_rfl) (fun _ _ _ h => h) ?_ ?_; rotate_left; (· (try simp only [Act.put, List.setIfInBounds_toArray, List.set_cons_zero, List.set_cons_succ, i64_w, i32_w]); rfl)) | (refine Evt.ol_pure (a' := ?_) (v := ?_) HT_ rfl rfl rfl (by rfl) (by kernel_rfl) (fun _ _ _ h => h) ?_ ?_ ?_; rotate_left 2; (· intro w'; go_simp; with_reducible rfl); (· (try simp only [Act.put, List.setIfInBounds_toArray, List.set_cons_zero, List.set_cons_succ, i64_w, i32_w]); rfl)) | (refine Evt.ol_load (a' := ?_) (v := ?_) HT_ HW_ hHeld rfl rfl rfl (by rfl) (by kernel_rfl) (fun _ _ _ h => h) ?_ ?_ ?_; rotate_left 2; (· intro w' hS_; obtain ⟨s0, s1, s2, s3⟩ := KP.out w' hS_.out; have ⟨y0, y1, y2, y3, y4⟩ := CELL.out w' (R.out.below hS_.out); go_simp; with_reducible rfl); (· (try simp only [Act.put, List.setIfInBounds_toArray, List.set_cons_zero, List.set_cons_succ, i64_w, i32_w]); rfl)))
              exact Evt.ol_norm (by simp only [putAll, Act.put, List.setIfInBounds_toArray, List.set_cons_zero, List.set_cons_succ, i64_w, i32_w]; rfl) (JN (vR0, vR3, gT9, AR10, cR10, gT12) _ hHeld ⟨F10.out, F12.out, GE12.out⟩)
      · refine Evt.k_alloc hK_ hHeld rfl rfl (cs := #[.string ⟨#[]⟩, .slice none 0 0, .slice none 0 0, .string ⟨#[]⟩]) (t := 25) ?_ ?_
        · first | (go_simp; done) | (go_simp; rfl) | (go_simp; refine ⟨?_, ?_⟩ <;> rfl)
        intro gT12 w_ hg_ hB_ hb_ hH_
        have GE12 := Aside0.mk (show w1.heap.size ≤ gT12 from (by rw [hg_]; exact hHeld.out.size))
        clear hg_
        have n_F0 := Aside0.mk (F0.out.below hb_)
        clear F0
        have F0 := n_F0
        clear n_F0
        have F12 := Aside0.mk hB_
        clear hHeld hb_ hB_
        have hHeld := hH_
        clear hH_ hK_
        refine Evt.ol_norm (a' := ?_) ?_ ?_
        rotate_left
        · simp only [Act.put, List.setIfInBounds_toArray, List.set_cons_zero, List.set_cons_succ, i64_w, i32_w]; rfl
        refine Evt.ol_two (i := 3) (j := 9) [(9, some 73), (10, some 74), (11, some 75), (13, none)] [(3, some 67), (10, some 74), (11, some 75), (13, none)] HT_ rfl rfl rfl rfl (by kernel_rfl) (fun K_ hK_ => ?_) (fun K_ hK_ => ?_)
        · refine Evt.k_appc hK_ hHeld rfl rfl (.tmp 64) (.tmp 66) rfl vR0 ([]) (l1) (some ad) l1.length c1 rfl rfl F0.out (R.out.below hHeld.out).r1 (by have := O12.out.ln; simp; omega) ?_
          intro vR3 w_ hR_ hg_ hat_ hH_
          have n_F12 := Aside0.mk (F12.out.grown hg_ (row_ne F0.out.row F12.out.blk (by decide)))
          clear F12
          have F12 := n_F12
          clear n_F12
          clear F0
          have F3 := Aside0.mk hR_
          clear hHeld hR_ hg_ hat_
          have hHeld := hH_
          clear hH_ hK_
          refine Evt.ol_norm (a' := ?_) ?_ ?_
          rotate_left
          · simp only [Act.put, List.setIfInBounds_toArray, List.set_cons_zero, List.set_cons_succ, i64_w, i32_w]; rfl
          refine Evt.ol_one (i := 9) [(10, some 74), (11, some 75), (13, none)] HT_ rfl rfl (by kernel_rfl) (fun K_ hK_ => ?_)
          · refine Evt.k_slice hK_ hHeld rfl rfl (cs := #[.int .i64 xi.f0, .int .i64 xi.f1.f0, .int .i64 xi.f1.f1, .string xi.f2, .string xi.f3]) (t := 41) (ln := 1) ?_ ?_
            · first | (go_simp; done) | (go_simp; rfl) | (go_simp; refine ⟨?_, ?_⟩ <;> rfl)
            intro gT9 w_ hg_ hB_ hb_ hH_
            have GE9 := Aside0.mk (show w1.heap.size ≤ gT9 from (by rw [hg_]; exact hHeld.out.size))
            have NE_9_12 := Aside0.mk (show gT9 ≠ gT12 from (by have h_ := F12.out.blk.lt; omega))
            have NR9 := Aside0.mk (show some gT9 ≠ vR3.ownBlock from (by rw [hg_]; intro e_; have h_ := Kd.R_lt F3.out.row _ e_.symm; omega))
            clear hg_
            have n_F12 := Aside0.mk (F12.out.below hb_)
            have n_F3 := Aside0.mk (F3.out.below hb_)
            clear F12 F3
            have F12 := n_F12
            have F3 := n_F3
            clear n_F12 n_F3
            have F9 := Aside0.mk hB_
            clear hHeld hb_ hB_
            have hHeld := hH_
            clear hH_ hK_
            refine Evt.ol_norm (a' := ?_) ?_ ?_
            rotate_left
            · simp only [Act.put, List.setIfInBounds_toArray, List.set_cons_zero, List.set_cons_succ, i64_w, i32_w]; rfl
            refine Evt.ol_one (i := 10) [(11, some 75), (13, none)] HT_ rfl rfl (by kernel_rfl) (fun K_ hK_ => ?_)
            · refine Evt.k_appc hK_ hHeld rfl rfl (.tmp 67) (.tmp 73) rfl vR3 ([] ++ l1) ([xi]) (some ⟨gT9, 0, none⟩) 1 1 rfl rfl F3.out (C_of_blk1 F9.out) (by have := O12.out.ln; simp; omega) ?_
              intro vR10 w_ hR_ hg_ hat_ hH_
              have n_NR := Aside0.mk (show some gT9 ≠ vR10.ownBlock from (by rcases hat_ with e_ | ⟨k_, e_, hk_⟩; (rw [e_]; exact NR9.out); (rw [e_]; intro e2_; injection e2_ with e2_; have h_ := F9.out.blk.lt; omega)))
              have n_F9 := Aside0.mk (F9.out.grown hg_ NR9.out)
              clear F9 NR9
              have F9 := n_F9
              have NR9 := n_NR
              clear n_F9 n_NR
              have n_F12 := Aside0.mk (F12.out.grown hg_ (row_ne F3.out.row F12.out.blk (by decide)))
              clear F12
              have F12 := n_F12
              clear n_F12
              rw [LR.out] at hR_
              obtain ⟨AR10, cR10, rfl⟩ := Kd.R_slice hR_.row
              clear F3
              have F10 := Aside0.mk hR_
              clear hHeld hR_ hg_ hat_
              have hHeld := hH_
              clear hH_ hK_
              refine Evt.ol_norm (a' := ?_) ?_ ?_
              rotate_left
              · simp only [Act.put, List.setIfInBounds_toArray, List.set_cons_zero, List.set_cons_succ, i64_w, i32_w]; rfl
              (first | (refine Evt.ol_off (a' := ?_) HT_ rfl rfl (by rfl) (by kernel_rfl) (fun _ _ _ h => h) ?_ ?_; rotate_left; (· (try simp only [Act.put, List.setIfInBounds_toArray, List.set_cons_zero, List.set_cons_succ, i64_w, i32_w]); rfl)) | (refine Evt.ol_pure (a' := ?_) (v := ?_) HT_ rfl rfl rfl (by rfl) (by kernel_rfl) (fun _ _ _ h => h) ?_ ?_ ?_; rotate_left 2; (· intro w'; go_simp; with_reducible rfl); (· (try simp only [Act.put, List.setIfInBounds_toArray, List.set_cons_zero, List.set_cons_succ, i64_w, i32_w]); rfl)) | (refine Evt.ol_load (a' := ?_) (v := ?_) HT_ HW_ hHeld rfl rfl rfl (by rfl) (by kernel_rfl) (fun _ _ _ h => h) ?_ ?_ ?_; rotate_left 2; (· intro w' hS_; obtain ⟨s0, s1, s2, s3⟩ := KP.out w' hS_.out; have ⟨y0, y1, y2, y3, y4⟩ := CELL.out w' (R.out.below hS_.out); go_simp; with_reducible rfl); (· (try simp only [Act.put, List.setIfInBounds_toArray, List.set_cons_zero, List.set_cons_succ, i64_w, i32_w]); rfl)))
              exact Evt.ol_norm (by simp only [putAll, Act.put, List.setIfInBounds_toArray, List.set_cons_zero, List.set_cons_succ, i64_w, i32_w]; rfl) (JN (vR0, vR3, gT9, AR10, cR10, gT12) _ hHeld ⟨F10.out, F12.out, GE12.out⟩)
        · refine Evt.k_slice hK_ hHeld rfl rfl (cs := #[.int .i64 xi.f0, .int .i64 xi.f1.f0, .int .i64 xi.f1.f1, .string xi.f2, .string xi.f3]) (t := 41) (ln := 1) ?_ ?_
          · first | (go_simp; done) | (go_simp; rfl) | (go_simp; refine ⟨?_, ?_⟩ <;> rfl)
          intro gT9 w_ hg_ hB_ hb_ hH_
          have GE9 := Aside0.mk (show w1.heap.size ≤ gT9 from (by rw [hg_]; exact hHeld.out.size))
          have NE_9_12 := Aside0.mk (show gT9 ≠ gT12 from (by have h_ := F12.out.blk.lt; omega))
          have NR9 := Aside0.mk (show some gT9 ≠ vR0.ownBlock from (by rw [hg_]; intro e_; have h_ := Kd.R_lt F0.out.row _ e_.symm; omega))
          clear hg_
          have n_F0 := Aside0.mk (F0.out.below hb_)
          have n_F12 := Aside0.mk (F12.out.below hb_)
          clear F0 F12
          have F0 := n_F0
          have F12 := n_F12
          clear n_F0 n_F12
          have F9 := Aside0.mk hB_
          clear hHeld hb_ hB_
          have hHeld := hH_
          clear hH_ hK_
          refine Evt.ol_norm (a' := ?_) ?_ ?_
          rotate_left
          · simp only [Act.put, List.setIfInBounds_toArray, List.set_cons_zero, List.set_cons_succ, i64_w, i32_w]; rfl
          refine Evt.ol_one (i := 3) [(10, some 74), (11, some 75), (13, none)] HT_ rfl rfl (by kernel_rfl) (fun K_ hK_ => ?_)
          · refine Evt.k_appc hK_ hHeld rfl rfl (.tmp 64) (.tmp 66) rfl vR0 ([]) (l1) (some ad) l1.length c1 rfl rfl F0.out (R.out.below hHeld.out).r1 (by have := O12.out.ln; simp; omega) ?_
            intro vR3 w_ hR_ hg_ hat_ hH_
            have n_NR := Aside0.mk (show some gT9 ≠ vR3.ownBlock from (by rcases hat_ with e_ | ⟨k_, e_, hk_⟩; (rw [e_]; exact NR9.out); (rw [e_]; intro e2_; injection e2_ with e2_; have h_ := F9.out.blk.lt; omega)))
            have n_F9 := Aside0.mk (F9.out.grown hg_ NR9.out)
            clear F9 NR9
            have F9 := n_F9
            have NR9 := n_NR
            clear n_F9 n_NR
            have n_F12 := Aside0.mk (F12.out.grown hg_ (row_ne F0.out.row F12.out.blk (by decide)))
            clear F12
            have F12 := n_F12
            clear n_F12
            clear F0
            have F3 := Aside0.mk hR_
            clear hHeld hR_ hg_ hat_
            have hHeld := hH_
            clear hH_ hK_
            refine Evt.ol_norm (a' := ?_) ?_ ?_
            rotate_left
            · simp only [Act.put, List.setIfInBounds_toArray, List.set_cons_zero, List.set_cons_succ, i64_w, i32_w]; rfl
            refine Evt.ol_one (i := 10) [(11, some 75), (13, none)] HT_ rfl rfl (by kernel_rfl) (fun K_ hK_ => ?_)
            · refine Evt.k_appc hK_ hHeld rfl rfl (.tmp 67) (.tmp 73) rfl vR3 ([] ++ l1) ([xi]) (some ⟨gT9, 0, none⟩) 1 1 rfl rfl F3.out (C_of_blk1 F9.out) (by have := O12.out.ln; simp; omega) ?_
              intro vR10 w_ hR_ hg_ hat_ hH_
              have n_NR := Aside0.mk (show some gT9 ≠ vR10.ownBlock from (by rcases hat_ with e_ | ⟨k_, e_, hk_⟩; (rw [e_]; exact NR9.out); (rw [e_]; intro e2_; injection e2_ with e2_; have h_ := F9.out.blk.lt; omega)))
              have n_F9 := Aside0.mk (F9.out.grown hg_ NR9.out)
              clear F9 NR9
              have F9 := n_F9
              have NR9 := n_NR
              clear n_F9 n_NR
              have n_F12 := Aside0.mk (F12.out.grown hg_ (row_ne F3.out.row F12.out.blk (by decide)))
              clear F12
              have F12 := n_F12
              clear n_F12
              rw [LR.out] at hR_
              obtain ⟨AR10, cR10, rfl⟩ := Kd.R_slice hR_.row
              clear F3
              have F10 := Aside0.mk hR_
              clear hHeld hR_ hg_ hat_
              have hHeld := hH_
              clear hH_ hK_
              refine Evt.ol_norm (a' := ?_) ?_ ?_
              rotate_left
              · simp only [Act.put, List.setIfInBounds_toArray, List.set_cons_zero, List.set_cons_succ, i64_w, i32_w]; rfl
              (first | (refine Evt.ol_off (a' := ?_) HT_ rfl rfl (by rfl) (by kernel_rfl) (fun _ _ _ h => h) ?_ ?_; rotate_left; (· (try simp only [Act.put, List.setIfInBounds_toArray, List.set_cons_zero, List.set_cons_succ, i64_w, i32_w]); rfl)) | (refine Evt.ol_pure (a' := ?_) (v := ?_) HT_ rfl rfl rfl (by rfl) (by kernel_rfl) (fun _ _ _ h => h) ?_ ?_ ?_; rotate_left 2; (· intro w'; go_simp; with_reducible rfl); (· (try simp only [Act.put, List.setIfInBounds_toArray, List.set_cons_zero, List.set_cons_succ, i64_w, i32_w]); rfl)) | (refine Evt.ol_load (a' := ?_) (v := ?_) HT_ HW_ hHeld rfl rfl rfl (by rfl) (by kernel_rfl) (fun _ _ _ h => h) ?_ ?_ ?_; rotate_left 2; (· intro w' hS_; obtain ⟨s0, s1, s2, s3⟩ := KP.out w' hS_.out; have ⟨y0, y1, y2, y3, y4⟩ := CELL.out w' (R.out.below hS_.out); go_simp; with_reducible rfl); (· (try simp only [Act.put, List.setIfInBounds_toArray, List.set_cons_zero, List.set_cons_succ, i64_w, i32_w]); rfl)))
              exact Evt.ol_norm (by simp only [putAll, Act.put, List.setIfInBounds_toArray, List.set_cons_zero, List.set_cons_succ, i64_w, i32_w]; rfl) (JN (vR0, vR3, gT9, AR10, cR10, gT12) _ hHeld ⟨F10.out, F12.out, GE12.out⟩)
    · refine Evt.k_slice hK_ hHeld rfl rfl (cs := #[.int .i64 xi.f0, .int .i64 xi.f1.f0, .int .i64 xi.f1.f1, .string xi.f2, .string xi.f3]) (t := 41) (ln := 1) ?_ ?_
      · first | (go_simp; done) | (go_simp; rfl) | (go_simp; refine ⟨?_, ?_⟩ <;> rfl)
      intro gT9 w_ hg_ hB_ hb_ hH_
      have GE9 := Aside0.mk (show w1.heap.size ≤ gT9 from (by rw [hg_]; exact hHeld.out.size))
      clear hg_
      have F9 := Aside0.mk hB_
      clear hHeld hb_ hB_
      have hHeld := hH_
      clear hH_ hK_
      refine Evt.ol_norm (a' := ?_) ?_ ?_
      rotate_left
      · simp only [Act.put, List.setIfInBounds_toArray, List.set_cons_zero, List.set_cons_succ, i64_w, i32_w]; rfl
      refine Evt.ol_two (i := 0) (j := 12) [(3, some 67), (10, some 74), (11, some 75), (12, some 11), (13, none)] [(0, some 64), (3, some 67), (10, some 74), (11, some 75), (13, none)] HT_ rfl rfl rfl rfl (by kernel_rfl) (fun K_ hK_ => ?_) (fun K_ hK_ => ?_)
      · refine Evt.k_row0 hK_ hHeld rfl rfl ?_ ?_
        · first | (go_simp; done) | (go_simp; rfl) | (go_simp; refine ⟨?_, ?_⟩ <;> rfl)
        intro vR0 w_ hR_ hO_ hb_ hH_
        have NR9 := Aside0.mk (show some gT9 ≠ vR0.ownBlock from (by rw [hO_]; have h_ := F9.out.blk.lt; intro e_; injection e_ with e_; omega))
        clear hO_
        have n_F9 := Aside0.mk (F9.out.below hb_)
        clear F9
        have F9 := n_F9
        clear n_F9
        have F0 := Aside0.mk hR_
        clear hHeld hb_ hR_
        have hHeld := hH_
        clear hH_ hK_
        refine Evt.ol_norm (a' := ?_) ?_ ?_
        rotate_left
        · simp only [Act.put, List.setIfInBounds_toArray, List.set_cons_zero, List.set_cons_succ, i64_w, i32_w]; rfl
        refine Evt.ol_two (i := 3) (j := 12) [(10, some 74), (11, some 75), (12, some 11), (13, none)] [(3, some 67), (10, some 74), (11, some 75), (13, none)] HT_ rfl rfl rfl rfl (by kernel_rfl) (fun K_ hK_ => ?_) (fun K_ hK_ => ?_)
        · refine Evt.k_appc hK_ hHeld rfl rfl (.tmp 64) (.tmp 66) rfl vR0 ([]) (l1) (some ad) l1.length c1 rfl rfl F0.out (R.out.below hHeld.out).r1 (by have := O12.out.ln; simp; omega) ?_
          intro vR3 w_ hR_ hg_ hat_ hH_
          have n_NR := Aside0.mk (show some gT9 ≠ vR3.ownBlock from (by rcases hat_ with e_ | ⟨k_, e_, hk_⟩; (rw [e_]; exact NR9.out); (rw [e_]; intro e2_; injection e2_ with e2_; have h_ := F9.out.blk.lt; omega)))
          have n_F9 := Aside0.mk (F9.out.grown hg_ NR9.out)
          clear F9 NR9
          have F9 := n_F9
          have NR9 := n_NR
          clear n_F9 n_NR
          clear F0
          have F3 := Aside0.mk hR_
          clear hHeld hR_ hg_ hat_
          have hHeld := hH_
          clear hH_ hK_
          refine Evt.ol_norm (a' := ?_) ?_ ?_
          rotate_left
          · simp only [Act.put, List.setIfInBounds_toArray, List.set_cons_zero, List.set_cons_succ, i64_w, i32_w]; rfl
          refine Evt.ol_two (i := 10) (j := 12) [(11, some 75), (12, some 11), (13, none)] [(10, some 74), (11, some 75), (13, none)] HT_ rfl rfl rfl rfl (by kernel_rfl) (fun K_ hK_ => ?_) (fun K_ hK_ => ?_)
          · refine Evt.k_appc hK_ hHeld rfl rfl (.tmp 67) (.tmp 73) rfl vR3 ([] ++ l1) ([xi]) (some ⟨gT9, 0, none⟩) 1 1 rfl rfl F3.out (C_of_blk1 F9.out) (by have := O12.out.ln; simp; omega) ?_
            intro vR10 w_ hR_ hg_ hat_ hH_
            have n_NR := Aside0.mk (show some gT9 ≠ vR10.ownBlock from (by rcases hat_ with e_ | ⟨k_, e_, hk_⟩; (rw [e_]; exact NR9.out); (rw [e_]; intro e2_; injection e2_ with e2_; have h_ := F9.out.blk.lt; omega)))
            have n_F9 := Aside0.mk (F9.out.grown hg_ NR9.out)
            clear F9 NR9
            have F9 := n_F9
            have NR9 := n_NR
            clear n_F9 n_NR
            rw [LR.out] at hR_
            obtain ⟨AR10, cR10, rfl⟩ := Kd.R_slice hR_.row
            clear F3
            have F10 := Aside0.mk hR_
            clear hHeld hR_ hg_ hat_
            have hHeld := hH_
            clear hH_ hK_
            refine Evt.ol_norm (a' := ?_) ?_ ?_
            rotate_left
            · simp only [Act.put, List.setIfInBounds_toArray, List.set_cons_zero, List.set_cons_succ, i64_w, i32_w]; rfl
            (first | (refine Evt.ol_off (a' := ?_) HT_ rfl rfl (by rfl) (by kernel_rfl) (fun _ _ _ h => h) ?_ ?_; rotate_left; (· (try simp only [Act.put, List.setIfInBounds_toArray, List.set_cons_zero, List.set_cons_succ, i64_w, i32_w]); rfl)) | (refine Evt.ol_pure (a' := ?_) (v := ?_) HT_ rfl rfl rfl (by rfl) (by kernel_rfl) (fun _ _ _ h => h) ?_ ?_ ?_; rotate_left 2; (· intro w'; go_simp; with_reducible rfl); (· (try simp only [Act.put, List.setIfInBounds_toArray, List.set_cons_zero, List.set_cons_succ, i64_w, i32_w]); rfl)) | (refine Evt.ol_load (a' := ?_) (v := ?_) HT_ HW_ hHeld rfl rfl rfl (by rfl) (by kernel_rfl) (fun _ _ _ h => h) ?_ ?_ ?_; rotate_left 2; (· intro w' hS_; obtain ⟨s0, s1, s2, s3⟩ := KP.out w' hS_.out; have ⟨y0, y1, y2, y3, y4⟩ := CELL.out w' (R.out.below hS_.out); go_simp; with_reducible rfl); (· (try simp only [Act.put, List.setIfInBounds_toArray, List.set_cons_zero, List.set_cons_succ, i64_w, i32_w]); rfl)))
            refine Evt.ol_one (i := 12) [(13, none)] HT_ rfl rfl (by kernel_rfl) (fun K_ hK_ => ?_)
            · refine Evt.k_alloc hK_ hHeld rfl rfl (cs := #[.string ⟨#[]⟩, .slice none 0 0, .slice none 0 0, .string ⟨#[]⟩]) (t := 25) ?_ ?_
              · first | (go_simp; done) | (go_simp; rfl) | (go_simp; refine ⟨?_, ?_⟩ <;> rfl)
              intro gT12 w_ hg_ hB_ hb_ hH_
              have GE12 := Aside0.mk (show w1.heap.size ≤ gT12 from (by rw [hg_]; exact hHeld.out.size))
              have NE_9_12 := Aside0.mk (show gT9 ≠ gT12 from (by have h_ := F9.out.blk.lt; omega))
              clear hg_
              have n_F9 := Aside0.mk (F9.out.below hb_)
              have n_F10 := Aside0.mk (F10.out.below hb_)
              clear F9 F10
              have F9 := n_F9
              have F10 := n_F10
              clear n_F9 n_F10
              have F12 := Aside0.mk hB_
              clear hHeld hb_ hB_
              have hHeld := hH_
              clear hH_ hK_
              refine Evt.ol_norm (a' := ?_) ?_ ?_
              rotate_left
              · simp only [Act.put, List.setIfInBounds_toArray, List.set_cons_zero, List.set_cons_succ, i64_w, i32_w]; rfl
              exact Evt.ol_norm (by simp only [putAll, Act.put, List.setIfInBounds_toArray, List.set_cons_zero, List.set_cons_succ, i64_w, i32_w]; rfl) (JN (vR0, vR3, gT9, AR10, cR10, gT12) _ hHeld ⟨F10.out, F12.out, GE12.out⟩)
          · refine Evt.k_alloc hK_ hHeld rfl rfl (cs := #[.string ⟨#[]⟩, .slice none 0 0, .slice none 0 0, .string ⟨#[]⟩]) (t := 25) ?_ ?_
            · first | (go_simp; done) | (go_simp; rfl) | (go_simp; refine ⟨?_, ?_⟩ <;> rfl)
            intro gT12 w_ hg_ hB_ hb_ hH_
            have GE12 := Aside0.mk (show w1.heap.size ≤ gT12 from (by rw [hg_]; exact hHeld.out.size))
            have NE_9_12 := Aside0.mk (show gT9 ≠ gT12 from (by have h_ := F9.out.blk.lt; omega))
            clear hg_
            have n_F9 := Aside0.mk (F9.out.below hb_)
            have n_F3 := Aside0.mk (F3.out.below hb_)
            clear F9 F3
            have F9 := n_F9
            have F3 := n_F3
            clear n_F9 n_F3
            have F12 := Aside0.mk hB_
            clear hHeld hb_ hB_
            have hHeld := hH_
            clear hH_ hK_
            refine Evt.ol_norm (a' := ?_) ?_ ?_
            rotate_left
            · simp only [Act.put, List.setIfInBounds_toArray, List.set_cons_zero, List.set_cons_succ, i64_w, i32_w]; rfl
            refine Evt.ol_one (i := 10) [(11, some 75), (13, none)] HT_ rfl rfl (by kernel_rfl) (fun K_ hK_ => ?_)
            · refine Evt.k_appc hK_ hHeld rfl rfl (.tmp 67) (.tmp 73) rfl vR3 ([] ++ l1) ([xi]) (some ⟨gT9, 0, none⟩) 1 1 rfl rfl F3.out (C_of_blk1 F9.out) (by have := O12.out.ln; simp; omega) ?_
              intro vR10 w_ hR_ hg_ hat_ hH_
              have n_NR := Aside0.mk (show some gT9 ≠ vR10.ownBlock from (by rcases hat_ with e_ | ⟨k_, e_, hk_⟩; (rw [e_]; exact NR9.out); (rw [e_]; intro e2_; injection e2_ with e2_; have h_ := F9.out.blk.lt; omega)))
              have n_F9 := Aside0.mk (F9.out.grown hg_ NR9.out)
              clear F9 NR9
              have F9 := n_F9
              have NR9 := n_NR
              clear n_F9 n_NR
              have n_F12 := Aside0.mk (F12.out.grown hg_ (row_ne F3.out.row F12.out.blk (by decide)))
              clear F12
              have F12 := n_F12
              clear n_F12
              rw [LR.out] at hR_
              obtain ⟨AR10, cR10, rfl⟩ := Kd.R_slice hR_.row
              clear F3
              have F10 := Aside0.mk hR_
              clear hHeld hR_ hg_ hat_
              have hHeld := hH_
              clear hH_ hK_
              refine Evt.ol_norm (a' := ?_) ?_ ?_
              rotate_left
              · simp only [Act.put, List.setIfInBounds_toArray, List.set_cons_zero, List.set_cons_succ, i64_w, i32_w]; rfl
              (first | (refine Evt.ol_off (a' := ?_) HT_ rfl rfl (by rfl) (by kernel_rfl) (fun _ _ _ h => h) ?_ ?_; rotate_left; (· (try simp only [Act.put, List.setIfInBounds_toArray, List.set_cons_zero, List.set_cons_succ, i64_w, i32_w]); rfl)) | (refine Evt.ol_pure (a' := ?_) (v := ?_) HT_ rfl rfl rfl (by rfl) (by kernel_rfl) (fun _ _ _ h => h) ?_ ?_ ?_; rotate_left 2; (· intro w'; go_simp; with_reducible rfl); (· (try simp only [Act.put, List.setIfInBounds_toArray, List.set_cons_zero, List.set_cons_succ, i64_w, i32_w]); rfl)) | (refine Evt.ol_load (a' := ?_) (v := ?_) HT_ HW_ hHeld rfl rfl rfl (by rfl) (by kernel_rfl) (fun _ _ _ h => h) ?_ ?_ ?_; rotate_left 2; (· intro w' hS_; obtain ⟨s0, s1, s2, s3⟩ := KP.out w' hS_.out; have ⟨y0, y1, y2, y3, y4⟩ := CELL.out w' (R.out.below hS_.out); go_simp; with_reducible rfl); (· (try simp only [Act.put, List.setIfInBounds_toArray, List.set_cons_zero, List.set_cons_succ, i64_w, i32_w]); rfl)))
              exact Evt.ol_norm (by simp only [putAll, Act.put, List.setIfInBounds_toArray, List.set_cons_zero, List.set_cons_succ, i64_w, i32_w]; rfl) (JN (vR0, vR3, gT9, AR10, cR10, gT12) _ hHeld ⟨F10.out, F12.out, GE12.out⟩)
        · refine Evt.k_alloc hK_ hHeld rfl rfl (cs := #[.string ⟨#[]⟩, .slice none 0 0, .slice none 0 0, .string ⟨#[]⟩]) (t := 25) ?_ ?_
          · first | (go_simp; done) | (go_simp; rfl) | (go_simp; refine ⟨?_, ?_⟩ <;> rfl)
          intro gT12 w_ hg_ hB_ hb_ hH_
          have GE12 := Aside0.mk (show w1.heap.size ≤ gT12 from (by rw [hg_]; exact hHeld.out.size))
          have NE_9_12 := Aside0.mk (show gT9 ≠ gT12 from (by have h_ := F9.out.blk.lt; omega))
          clear hg_
          have n_F9 := Aside0.mk (F9.out.below hb_)
          have n_F0 := Aside0.mk (F0.out.below hb_)
          clear F9 F0
          have F9 := n_F9
          have F0 := n_F0
          clear n_F9 n_F0
          have F12 := Aside0.mk hB_
          clear hHeld hb_ hB_
          have hHeld := hH_
          clear hH_ hK_
          refine Evt.ol_norm (a' := ?_) ?_ ?_
          rotate_left
          · simp only [Act.put, List.setIfInBounds_toArray, List.set_cons_zero, List.set_cons_succ, i64_w, i32_w]; rfl
          refine Evt.ol_one (i := 3) [(10, some 74), (11, some 75), (13, none)] HT_ rfl rfl (by kernel_rfl) (fun K_ hK_ => ?_)
          · refine Evt.k_appc hK_ hHeld rfl rfl (.tmp 64) (.tmp 66) rfl vR0 ([]) (l1) (some ad) l1.length c1 rfl rfl F0.out (R.out.below hHeld.out).r1 (by have := O12.out.ln; simp; omega) ?_
            intro vR3 w_ hR_ hg_ hat_ hH_
            have n_NR := Aside0.mk (show some gT9 ≠ vR3.ownBlock from (by rcases hat_ with e_ | ⟨k_, e_, hk_⟩; (rw [e_]; exact NR9.out); (rw [e_]; intro e2_; injection e2_ with e2_; have h_ := F9.out.blk.lt; omega)))
            have n_F9 := Aside0.mk (F9.out.grown hg_ NR9.out)
            clear F9 NR9
            have F9 := n_F9
            have NR9 := n_NR
            clear n_F9 n_NR
            have n_F12 := Aside0.mk (F12.out.grown hg_ (row_ne F0.out.row F12.out.blk (by decide)))
            clear F12
            have F12 := n_F12
            clear n_F12
            clear F0
            have F3 := Aside0.mk hR_
            clear hHeld hR_ hg_ hat_
            have hHeld := hH_
            clear hH_ hK_
            refine Evt.ol_norm (a' := ?_) ?_ ?_
            rotate_left
            · simp only [Act.put, List.setIfInBounds_toArray, List.set_cons_zero, List.set_cons_succ, i64_w, i32_w]; rfl
            refine Evt.ol_one (i := 10) [(11, some 75), (13, none)] HT_ rfl rfl (by kernel_rfl) (fun K_ hK_ => ?_)
            · refine Evt.k_appc hK_ hHeld rfl rfl (.tmp 67) (.tmp 73) rfl vR3 ([] ++ l1) ([xi]) (some ⟨gT9, 0, none⟩) 1 1 rfl rfl F3.out (C_of_blk1 F9.out) (by have := O12.out.ln; simp; omega) ?_
              intro vR10 w_ hR_ hg_ hat_ hH_
              have n_NR := Aside0.mk (show some gT9 ≠ vR10.ownBlock from (by rcases hat_ with e_ | ⟨k_, e_, hk_⟩; (rw [e_]; exact NR9.out); (rw [e_]; intro e2_; injection e2_ with e2_; have h_ := F9.out.blk.lt; omega)))
              have n_F9 := Aside0.mk (F9.out.grown hg_ NR9.out)
              clear F9 NR9
              have F9 := n_F9
              have NR9 := n_NR
              clear n_F9 n_NR
              have n_F12 := Aside0.mk (F12.out.grown hg_ (row_ne F3.out.row F12.out.blk (by decide)))
              clear F12
              have F12 := n_F12
              clear n_F12
              rw [LR.out] at hR_
              obtain ⟨AR10, cR10, rfl⟩ := Kd.R_slice hR_.row
              clear F3
              have F10 := Aside0.mk hR_
              clear hHeld hR_ hg_ hat_
              have hHeld := hH_
              clear hH_ hK_
              refine Evt.ol_norm (a' := ?_) ?_ ?_
              rotate_left
              · simp only [Act.put, List.setIfInBounds_toArray, List.set_cons_zero, List.set_cons_succ, i64_w, i32_w]; rfl
              (first | (refine Evt.ol_off (a' := ?_) HT_ rfl rfl (by rfl) (by kernel_rfl) (fun _ _ _ h => h) ?_ ?_; rotate_left; (· (try simp only [Act.put, List.setIfInBounds_toArray, List.set_cons_zero, List.set_cons_succ, i64_w, i32_w]); rfl)) | (refine Evt.ol_pure (a' := ?_) (v := ?_) HT_ rfl rfl rfl (by rfl) (by kernel_rfl) (fun _ _ _ h => h) ?_ ?_ ?_; rotate_left 2; (· intro w'; go_simp; with_reducible rfl); (· (try simp only [Act.put, List.setIfInBounds_toArray, List.set_cons_zero, List.set_cons_succ, i64_w, i32_w]); rfl)) | (refine Evt.ol_load (a' := ?_) (v := ?_) HT_ HW_ hHeld rfl rfl rfl (by rfl) (by kernel_rfl) (fun _ _ _ h => h) ?_ ?_ ?_; rotate_left 2; (· intro w' hS_; obtain ⟨s0, s1, s2, s3⟩ := KP.out w' hS_.out; have ⟨y0, y1, y2, y3, y4⟩ := CELL.out w' (R.out.below hS_.out); go_simp; with_reducible rfl); (· (try simp only [Act.put, List.setIfInBounds_toArray, List.set_cons_zero, List.set_cons_succ, i64_w, i32_w]); rfl)))
              exact Evt.ol_norm (by simp only [putAll, Act.put, List.setIfInBounds_toArray, List.set_cons_zero, List.set_cons_succ, i64_w, i32_w]; rfl) (JN (vR0, vR3, gT9, AR10, cR10, gT12) _ hHeld ⟨F10.out, F12.out, GE12.out⟩)
      · refine Evt.k_alloc hK_ hHeld rfl rfl (cs := #[.string ⟨#[]⟩, .slice none 0 0, .slice none 0 0, .string ⟨#[]⟩]) (t := 25) ?_ ?_
        · first | (go_simp; done) | (go_simp; rfl) | (go_simp; refine ⟨?_, ?_⟩ <;> rfl)
        intro gT12 w_ hg_ hB_ hb_ hH_
        have GE12 := Aside0.mk (show w1.heap.size ≤ gT12 from (by rw [hg_]; exact hHeld.out.size))
        have NE_9_12 := Aside0.mk (show gT9 ≠ gT12 from (by have h_ := F9.out.blk.lt; omega))
        clear hg_
        have n_F9 := Aside0.mk (F9.out.below hb_)
        clear F9
        have F9 := n_F9
        clear n_F9
        have F12 := Aside0.mk hB_
        clear hHeld hb_ hB_
        have hHeld := hH_
        clear hH_ hK_
        refine Evt.ol_norm (a' := ?_) ?_ ?_
        rotate_left
        · simp only [Act.put, List.setIfInBounds_toArray, List.set_cons_zero, List.set_cons_succ, i64_w, i32_w]; rfl
        refine Evt.ol_one (i := 0) [(3, some 67), (10, some 74), (11, some 75), (13, none)] HT_ rfl rfl (by kernel_rfl) (fun K_ hK_ => ?_)
        · refine Evt.k_row0 hK_ hHeld rfl rfl ?_ ?_
          · first | (go_simp; done) | (go_simp; rfl) | (go_simp; refine ⟨?_, ?_⟩ <;> rfl)
          intro vR0 w_ hR_ hO_ hb_ hH_
          have NR9 := Aside0.mk (show some gT9 ≠ vR0.ownBlock from (by rw [hO_]; have h_ := F9.out.blk.lt; intro e_; injection e_ with e_; omega))
          clear hO_
          have n_F9 := Aside0.mk (F9.out.below hb_)
          have n_F12 := Aside0.mk (F12.out.below hb_)
          clear F9 F12
          have F9 := n_F9
          have F12 := n_F12
          clear n_F9 n_F12
          have F0 := Aside0.mk hR_
          clear hHeld hb_ hR_
          have hHeld := hH_
          clear hH_ hK_
          refine Evt.ol_norm (a' := ?_) ?_ ?_
          rotate_left
          · simp only [Act.put, List.setIfInBounds_toArray, List.set_cons_zero, List.set_cons_succ, i64_w, i32_w]; rfl
          refine Evt.ol_one (i := 3) [(10, some 74), (11, some 75), (13, none)] HT_ rfl rfl (by kernel_rfl) (fun K_ hK_ => ?_)
          · refine Evt.k_appc hK_ hHeld rfl rfl (.tmp 64) (.tmp 66) rfl vR0 ([]) (l1) (some ad) l1.length c1 rfl rfl F0.out (R.out.below hHeld.out).r1 (by have := O12.out.ln; simp; omega) ?_
            intro vR3 w_ hR_ hg_ hat_ hH_
            have n_NR := Aside0.mk (show some gT9 ≠ vR3.ownBlock from (by rcases hat_ with e_ | ⟨k_, e_, hk_⟩; (rw [e_]; exact NR9.out); (rw [e_]; intro e2_; injection e2_ with e2_; have h_ := F9.out.blk.lt; omega)))
            have n_F9 := Aside0.mk (F9.out.grown hg_ NR9.out)
            clear F9 NR9
            have F9 := n_F9
            have NR9 := n_NR
            clear n_F9 n_NR
            have n_F12 := Aside0.mk (F12.out.grown hg_ (row_ne F0.out.row F12.out.blk (by decide)))
            clear F12
            have F12 := n_F12
            clear n_F12
            clear F0
            have F3 := Aside0.mk hR_
            clear hHeld hR_ hg_ hat_
            have hHeld := hH_
            clear hH_ hK_
            refine Evt.ol_norm (a' := ?_) ?_ ?_
            rotate_left
            · simp only [Act.put, List.setIfInBounds_toArray, List.set_cons_zero, List.set_cons_succ, i64_w, i32_w]; rfl
            refine Evt.ol_one (i := 10) [(11, some 75), (13, none)] HT_ rfl rfl (by kernel_rfl) (fun K_ hK_ => ?_)
            · refine Evt.k_appc hK_ hHeld rfl rfl (.tmp 67) (.tmp 73) rfl vR3 ([] ++ l1) ([xi]) (some ⟨gT9, 0, none⟩) 1 1 rfl rfl F3.out (C_of_blk1 F9.out) (by have := O12.out.ln; simp; omega) ?_
              intro vR10 w_ hR_ hg_ hat_ hH_
              have n_NR := Aside0.mk (show some gT9 ≠ vR10.ownBlock from (by rcases hat_ with e_ | ⟨k_, e_, hk_⟩; (rw [e_]; exact NR9.out); (rw [e_]; intro e2_; injection e2_ with e2_; have h_ := F9.out.blk.lt; omega)))
              have n_F9 := Aside0.mk (F9.out.grown hg_ NR9.out)
              clear F9 NR9
              have F9 := n_F9
              have NR9 := n_NR
              clear n_F9 n_NR
              have n_F12 := Aside0.mk (F12.out.grown hg_ (row_ne F3.out.row F12.out.blk (by decide)))
              clear F12
              have F12 := n_F12
              clear n_F12
              rw [LR.out] at hR_
              obtain ⟨AR10, cR10, rfl⟩ := Kd.R_slice hR_.row
              clear F3
              have F10 := Aside0.mk hR_
              clear hHeld hR_ hg_ hat_
              have hHeld := hH_
              clear hH_ hK_
              refine Evt.ol_norm (a' := ?_) ?_ ?_
              rotate_left
              · simp only [Act.put, List.setIfInBounds_toArray, List.set_cons_zero, List.set_cons_succ, i64_w, i32_w]; rfl
              (first | (refine Evt.ol_off (a' := ?_) HT_ rfl rfl (by rfl) (by kernel_rfl) (fun _ _ _ h => h) ?_ ?_; rotate_left; (· (try simp only [Act.put, List.setIfInBounds_toArray, List.set_cons_zero, List.set_cons_succ, i64_w, i32_w]); rfl)) | (refine Evt.ol_pure (a' := ?_) (v := ?_) HT_ rfl rfl rfl (by rfl) (by kernel_rfl) (fun _ _ _ h => h) ?_ ?_ ?_; rotate_left 2; (· intro w'; go_simp; with_reducible rfl); (· (try simp only [Act.put, List.setIfInBounds_toArray, List.set_cons_zero, List.set_cons_succ, i64_w, i32_w]); rfl)) | (refine Evt.ol_load (a' := ?_) (v := ?_) HT_ HW_ hHeld rfl rfl rfl (by rfl) (by kernel_rfl) (fun _ _ _ h => h) ?_ ?_ ?_; rotate_left 2; (· intro w' hS_; obtain ⟨s0, s1, s2, s3⟩ := KP.out w' hS_.out; have ⟨y0, y1, y2, y3, y4⟩ := CELL.out w' (R.out.below hS_.out); go_simp; with_reducible rfl); (· (try simp only [Act.put, List.setIfInBounds_toArray, List.set_cons_zero, List.set_cons_succ, i64_w, i32_w]); rfl)))
              exact Evt.ol_norm (by simp only [putAll, Act.put, List.setIfInBounds_toArray, List.set_cons_zero, List.set_cons_succ, i64_w, i32_w]; rfl) (JN (vR0, vR3, gT9, AR10, cR10, gT12) _ hHeld ⟨F10.out, F12.out, GE12.out⟩)
    · refine Evt.k_alloc hK_ hHeld rfl rfl (cs := #[.string ⟨#[]⟩, .slice none 0 0, .slice none 0 0, .string ⟨#[]⟩]) (t := 25) ?_ ?_
      · first | (go_simp; done) | (go_simp; rfl) | (go_simp; refine ⟨?_, ?_⟩ <;> rfl)
      intro gT12 w_ hg_ hB_ hb_ hH_
      have GE12 := Aside0.mk (show w1.heap.size ≤ gT12 from (by rw [hg_]; exact hHeld.out.size))
      clear hg_
      have F12 := Aside0.mk hB_
      clear hHeld hb_ hB_
      have hHeld := hH_
      clear hH_ hK_
      refine Evt.ol_norm (a' := ?_) ?_ ?_
      rotate_left
      · simp only [Act.put, List.setIfInBounds_toArray, List.set_cons_zero, List.set_cons_succ, i64_w, i32_w]; rfl
      refine Evt.ol_two (i := 0) (j := 9) [(3, some 67), (9, some 73), (10, some 74), (11, some 75), (13, none)] [(0, some 64), (3, some 67), (10, some 74), (11, some 75), (13, none)] HT_ rfl rfl rfl rfl (by kernel_rfl) (fun K_ hK_ => ?_) (fun K_ hK_ => ?_)
      · refine Evt.k_row0 hK_ hHeld rfl rfl ?_ ?_
        · first | (go_simp; done) | (go_simp; rfl) | (go_simp; refine ⟨?_, ?_⟩ <;> rfl)
        intro vR0 w_ hR_ hO_ hb_ hH_
        clear hO_
        have n_F12 := Aside0.mk (F12.out.below hb_)
        clear F12
        have F12 := n_F12
        clear n_F12
        have F0 := Aside0.mk hR_
        clear hHeld hb_ hR_
        have hHeld := hH_
        clear hH_ hK_
        refine Evt.ol_norm (a' := ?_) ?_ ?_
        rotate_left
        · simp only [Act.put, List.setIfInBounds_toArray, List.set_cons_zero, List.set_cons_succ, i64_w, i32_w]; rfl
        refine Evt.ol_two (i := 3) (j := 9) [(9, some 73), (10, some 74), (11, some 75), (13, none)] [(3, some 67), (10, some 74), (11, some 75), (13, none)] HT_ rfl rfl rfl rfl (by kernel_rfl) (fun K_ hK_ => ?_) (fun K_ hK_ => ?_)
        · refine Evt.k_appc hK_ hHeld rfl rfl (.tmp 64) (.tmp 66) rfl vR0 ([]) (l1) (some ad) l1.length c1 rfl rfl F0.out (R.out.below hHeld.out).r1 (by have := O12.out.ln; simp; omega) ?_
          intro vR3 w_ hR_ hg_ hat_ hH_
          have n_F12 := Aside0.mk (F12.out.grown hg_ (row_ne F0.out.row F12.out.blk (by decide)))
          clear F12
          have F12 := n_F12
          clear n_F12
          clear F0
          have F3 := Aside0.mk hR_
          clear hHeld hR_ hg_ hat_
          have hHeld := hH_
          clear hH_ hK_
          refine Evt.ol_norm (a' := ?_) ?_ ?_
          rotate_left
          · simp only [Act.put, List.setIfInBounds_toArray, List.set_cons_zero, List.set_cons_succ, i64_w, i32_w]; rfl
          refine Evt.ol_one (i := 9) [(10, some 74), (11, some 75), (13, none)] HT_ rfl rfl (by kernel_rfl) (fun K_ hK_ => ?_)
          · refine Evt.k_slice hK_ hHeld rfl rfl (cs := #[.int .i64 xi.f0, .int .i64 xi.f1.f0, .int .i64 xi.f1.f1, .string xi.f2, .string xi.f3]) (t := 41) (ln := 1) ?_ ?_
            · first | (go_simp; done) | (go_simp; rfl) | (go_simp; refine ⟨?_, ?_⟩ <;> rfl)
            intro gT9 w_ hg_ hB_ hb_ hH_
            have GE9 := Aside0.mk (show w1.heap.size ≤ gT9 from (by rw [hg_]; exact hHeld.out.size))
            have NE_9_12 := Aside0.mk (show gT9 ≠ gT12 from (by have h_ := F12.out.blk.lt; omega))
            have NR9 := Aside0.mk (show some gT9 ≠ vR3.ownBlock from (by rw [hg_]; intro e_; have h_ := Kd.R_lt F3.out.row _ e_.symm; omega))
            clear hg_
            have n_F12 := Aside0.mk (F12.out.below hb_)
            have n_F3 := Aside0.mk (F3.out.below hb_)
            clear F12 F3
            have F12 := n_F12
            have F3 := n_F3
            clear n_F12 n_F3
            have F9 := Aside0.mk hB_
            clear hHeld hb_ hB_
            have hHeld := hH_
            clear hH_ hK_
            refine Evt.ol_norm (a' := ?_) ?_ ?_
            rotate_left
            · simp only [Act.put, List.setIfInBounds_toArray, List.set_cons_zero, List.set_cons_succ, i64_w, i32_w]; rfl
            refine Evt.ol_one (i := 10) [(11, some 75), (13, none)] HT_ rfl rfl (by kernel_rfl) (fun K_ hK_ => ?_)
            · refine Evt.k_appc hK_ hHeld rfl rfl (.tmp 67) (.tmp 73) rfl vR3 ([] ++ l1) ([xi]) (some ⟨gT9, 0, none⟩) 1 1 rfl rfl F3.out (C_of_blk1 F9.out) (by have := O12.out.ln; simp; omega) ?_
              intro vR10 w_ hR_ hg_ hat_ hH_
              have n_NR := Aside0.mk (show some gT9 ≠ vR10.ownBlock from (by rcases hat_ with e_ | ⟨k_, e_, hk_⟩; (rw [e_]; exact NR9.out); (rw [e_]; intro e2_; injection e2_ with e2_; have h_ := F9.out.blk.lt; omega)))
              have n_F9 := Aside0.mk (F9.out.grown hg_ NR9.out)
              clear F9 NR9
              have F9 := n_F9
              have NR9 := n_NR
              clear n_F9 n_NR
              have n_F12 := Aside0.mk (F12.out.grown hg_ (row_ne F3.out.row F12.out.blk (by decide)))
              clear F12
              have F12 := n_F12
              clear n_F12
              rw [LR.out] at hR_
              obtain ⟨AR10, cR10, rfl⟩ := Kd.R_slice hR_.row
              clear F3
              have F10 := Aside0.mk hR_
              clear hHeld hR_ hg_ hat_
              have hHeld := hH_
              clear hH_ hK_
              refine Evt.ol_norm (a' := ?_) ?_ ?_
              rotate_left
              · simp only [Act.put, List.setIfInBounds_toArray, List.set_cons_zero, List.set_cons_succ, i64_w, i32_w]; rfl
              (first | (refine Evt.ol_off (a' := ?_) HT_ rfl rfl (by rfl) (by kernel_rfl) (fun _ _ _ h => h) ?_ ?_; rotate_left; (· (try simp only [Act.put, List.setIfInBounds_toArray, List.set_cons_zero, List.set_cons_succ, i64_w, i32_w]); rfl)) | (refine Evt.ol_pure (a' := ?_) (v := ?_) HT_ rfl rfl rfl (by rfl) (by kernel_rfl) (fun _ _ _ h => h) ?_ ?_ ?_; rotate_left 2; (· intro w'; go_simp; with_reducible rfl); (· (try simp only [Act.put, List.setIfInBounds_toArray, List.set_cons_zero, List.set_cons_succ, i64_w, i32_w]); rfl)) | (refine Evt.ol_load (a' := ?_) (v := ?_) HT_ HW_ hHeld rfl rfl rfl (by rfl) (by kernel_rfl) (fun _ _ _ h => h) ?_ ?_ ?_; rotate_left 2; (· intro w' hS_; obtain ⟨s0, s1, s2, s3⟩ := KP.out w' hS_.out; have ⟨y0, y1, y2, y3, y4⟩ := CELL.out w' (R.out.below hS_.out); go_simp; with_reducible rfl); (· (try simp only [Act.put, List.setIfInBounds_toArray, List.set_cons_zero, List.set_cons_succ, i64_w, i32_w]); rfl)))
              exact Evt.ol_norm (by simp only [putAll, Act.put, List.setIfInBounds_toArray, List.set_cons_zero, List.set_cons_succ, i64_w, i32_w]; rfl) (JN (vR0, vR3, gT9, AR10, cR10, gT12) _ hHeld ⟨F10.out, F12.out, GE12.out⟩)
        · refine Evt.k_slice hK_ hHeld rfl rfl (cs := #[.int .i64 xi.f0, .int .i64 xi.f1.f0, .int .i64 xi.f1.f1, .string xi.f2, .string xi.f3]) (t := 41) (ln := 1) ?_ ?_
          · first | (go_simp; done) | (go_simp; rfl) | (go_simp; refine ⟨?_, ?_⟩ <;> rfl)
          intro gT9 w_ hg_ hB_ hb_ hH_
          have GE9 := Aside0.mk (show w1.heap.size ≤ gT9 from (by rw [hg_]; exact hHeld.out.size))
          have NE_9_12 := Aside0.mk (show gT9 ≠ gT12 from (by have h_ := F12.out.blk.lt; omega))
          have NR9 := Aside0.mk (show some gT9 ≠ vR0.ownBlock from (by rw [hg_]; intro e_; have h_ := Kd.R_lt F0.out.row _ e_.symm; omega))
          clear hg_
          have n_F12 := Aside0.mk (F12.out.below hb_)
          have n_F0 := Aside0.mk (F0.out.below hb_)
          clear F12 F0
          have F12 := n_F12
          have F0 := n_F0
          clear n_F12 n_F0
          have F9 := Aside0.mk hB_
          clear hHeld hb_ hB_
          have hHeld := hH_
          clear hH_ hK_
          refine Evt.ol_norm (a' := ?_) ?_ ?_
          rotate_left
          · simp only [Act.put, List.setIfInBounds_toArray, List.set_cons_zero, List.set_cons_succ, i64_w, i32_w]; rfl
          refine Evt.ol_one (i := 3) [(10, some 74), (11, some 75), (13, none)] HT_ rfl rfl (by kernel_rfl) (fun K_ hK_ => ?_)
          · refine Evt.k_appc hK_ hHeld rfl rfl (.tmp 64) (.tmp 66) rfl vR0 ([]) (l1) (some ad) l1.length c1 rfl rfl F0.out (R.out.below hHeld.out).r1 (by have := O12.out.ln; simp; omega) ?_
            intro vR3 w_ hR_ hg_ hat_ hH_
            have n_NR := Aside0.mk (show some gT9 ≠ vR3.ownBlock from (by rcases hat_ with e_ | ⟨k_, e_, hk_⟩; (rw [e_]; exact NR9.out); (rw [e_]; intro e2_; injection e2_ with e2_; have h_ := F9.out.blk.lt; omega)))
            have n_F9 := Aside0.mk (F9.out.grown hg_ NR9.out)
            clear F9 NR9
            have F9 := n_F9
            have NR9 := n_NR
            clear n_F9 n_NR
            have n_F12 := Aside0.mk (F12.out.grown hg_ (row_ne F0.out.row F12.out.blk (by decide)))
            clear F12
            have F12 := n_F12
            clear n_F12
            clear F0
            have F3 := Aside0.mk hR_
            clear hHeld hR_ hg_ hat_
            have hHeld := hH_
            clear hH_ hK_
            refine Evt.ol_norm (a' := ?_) ?_ ?_
            rotate_left
            · simp only [Act.put, List.setIfInBounds_toArray, List.set_cons_zero, List.set_cons_succ, i64_w, i32_w]; rfl
            refine Evt.ol_one (i := 10) [(11, some 75), (13, none)] HT_ rfl rfl (by kernel_rfl) (fun K_ hK_ => ?_)
            · refine Evt.k_appc hK_ hHeld rfl rfl (.tmp 67) (.tmp 73) rfl vR3 ([] ++ l1) ([xi]) (some ⟨gT9, 0, none⟩) 1 1 rfl rfl F3.out (C_of_blk1 F9.out) (by have := O12.out.ln; simp; omega) ?_
              intro vR10 w_ hR_ hg_ hat_ hH_
              have n_NR := Aside0.mk (show some gT9 ≠ vR10.ownBlock from (by rcases hat_ with e_ | ⟨k_, e_, hk_⟩; (rw [e_]; exact NR9.out); (rw [e_]; intro e2_; injection e2_ with e2_; have h_ := F9.out.blk.lt; omega)))
              have n_F9 := Aside0.mk (F9.out.grown hg_ NR9.out)
              clear F9 NR9
              have F9 := n_F9
              have NR9 := n_NR
              clear n_F9 n_NR
              have n_F12 := Aside0.mk (F12.out.grown hg_ (row_ne F3.out.row F12.out.blk (by decide)))
              clear F12
              have F12 := n_F12
              clear n_F12
              rw [LR.out] at hR_
              obtain ⟨AR10, cR10, rfl⟩ := Kd.R_slice hR_.row
              clear F3
              have F10 := Aside0.mk hR_
              clear hHeld hR_ hg_ hat_
              have hHeld := hH_
              clear hH_ hK_
              refine Evt.ol_norm (a' := ?_) ?_ ?_
              rotate_left
              · simp only [Act.put, List.setIfInBounds_toArray, List.set_cons_zero, List.set_cons_succ, i64_w, i32_w]; rfl
              (first | (refine Evt.ol_off (a' := ?_) HT_ rfl rfl (by rfl) (by kernel_rfl) (fun _ _ _ h => h) ?_ ?_; rotate_left; (· (try simp only [Act.put, List.setIfInBounds_toArray, List.set_cons_zero, List.set_cons_succ, i64_w, i32_w]); rfl)) | (refine Evt.ol_pure (a' := ?_) (v := ?_) HT_ rfl rfl rfl (by rfl) (by kernel_rfl) (fun _ _ _ h => h) ?_ ?_ ?_; rotate_left 2; (· intro w'; go_simp; with_reducible rfl); (· (try simp only [Act.put, List.setIfInBounds_toArray, List.set_cons_zero, List.set_cons_succ, i64_w, i32_w]); rfl)) | (refine Evt.ol_load (a' := ?_) (v := ?_) HT_ HW_ hHeld rfl rfl rfl (by rfl) (by kernel_rfl) (fun _ _ _ h => h) ?_ ?_ ?_; rotate_left 2; (· intro w' hS_; obtain ⟨s0, s1, s2, s3⟩ := KP.out w' hS_.out; have ⟨y0, y1, y2, y3, y4⟩ := CELL.out w' (R.out.below hS_.out); go_simp; with_reducible rfl); (· (try simp only [Act.put, List.setIfInBounds_toArray, List.set_cons_zero, List.set_cons_succ, i64_w, i32_w]); rfl)))
              exact Evt.ol_norm (by simp only [putAll, Act.put, List.setIfInBounds_toArray, List.set_cons_zero, List.set_cons_succ, i64_w, i32_w]; rfl) (JN (vR0, vR3, gT9, AR10, cR10, gT12) _ hHeld ⟨F10.out, F12.out, GE12.out⟩)
      · refine Evt.k_slice hK_ hHeld rfl rfl (cs := #[.int .i64 xi.f0, .int .i64 xi.f1.f0, .int .i64 xi.f1.f1, .string xi.f2, .string xi.f3]) (t := 41) (ln := 1) ?_ ?_
        · first | (go_simp; done) | (go_simp; rfl) | (go_simp; refine ⟨?_, ?_⟩ <;> rfl)
        intro gT9 w_ hg_ hB_ hb_ hH_
        have GE9 := Aside0.mk (show w1.heap.size ≤ gT9 from (by rw [hg_]; exact hHeld.out.size))
        have NE_9_12 := Aside0.mk (show gT9 ≠ gT12 from (by have h_ := F12.out.blk.lt; omega))
        clear hg_
        have n_F12 := Aside0.mk (F12.out.below hb_)
        clear F12
        have F12 := n_F12
        clear n_F12
        have F9 := Aside0.mk hB_
        clear hHeld hb_ hB_
        have hHeld := hH_
        clear hH_ hK_
        refine Evt.ol_norm (a' := ?_) ?_ ?_
        rotate_left
        · simp only [Act.put, List.setIfInBounds_toArray, List.set_cons_zero, List.set_cons_succ, i64_w, i32_w]; rfl
        refine Evt.ol_one (i := 0) [(3, some 67), (10, some 74), (11, some 75), (13, none)] HT_ rfl rfl (by kernel_rfl) (fun K_ hK_ => ?_)
        · refine Evt.k_row0 hK_ hHeld rfl rfl ?_ ?_
          · first | (go_simp; done) | (go_simp; rfl) | (go_simp; refine ⟨?_, ?_⟩ <;> rfl)
          intro vR0 w_ hR_ hO_ hb_ hH_
          have NR9 := Aside0.mk (show some gT9 ≠ vR0.ownBlock from (by rw [hO_]; have h_ := F9.out.blk.lt; intro e_; injection e_ with e_; omega))
          clear hO_
          have n_F12 := Aside0.mk (F12.out.below hb_)
          have n_F9 := Aside0.mk (F9.out.below hb_)
          clear F12 F9
          have F12 := n_F12
          have F9 := n_F9
          clear n_F12 n_F9
          have F0 := Aside0.mk hR_
          clear hHeld hb_ hR_
          have hHeld := hH_
          clear hH_ hK_
          refine Evt.ol_norm (a' := ?_) ?_ ?_
          rotate_left
          · simp only [Act.put, List.setIfInBounds_toArray, List.set_cons_zero, List.set_cons_succ, i64_w, i32_w]; rfl
          refine Evt.ol_one (i := 3) [(10, some 74), (11, some 75), (13, none)] HT_ rfl rfl (by kernel_rfl) (fun K_ hK_ => ?_)
          · refine Evt.k_appc hK_ hHeld rfl rfl (.tmp 64) (.tmp 66) rfl vR0 ([]) (l1) (some ad) l1.length c1 rfl rfl F0.out (R.out.below hHeld.out).r1 (by have := O12.out.ln; simp; omega) ?_
            intro vR3 w_ hR_ hg_ hat_ hH_
            have n_NR := Aside0.mk (show some gT9 ≠ vR3.ownBlock from (by rcases hat_ with e_ | ⟨k_, e_, hk_⟩; (rw [e_]; exact NR9.out); (rw [e_]; intro e2_; injection e2_ with e2_; have h_ := F9.out.blk.lt; omega)))
            have n_F9 := Aside0.mk (F9.out.grown hg_ NR9.out)
            clear F9 NR9
            have F9 := n_F9
            have NR9 := n_NR
            clear n_F9 n_NR
            have n_F12 := Aside0.mk (F12.out.grown hg_ (row_ne F0.out.row F12.out.blk (by decide)))
            clear F12
            have F12 := n_F12
            clear n_F12
            clear F0
            have F3 := Aside0.mk hR_
            clear hHeld hR_ hg_ hat_
            have hHeld := hH_
            clear hH_ hK_
            refine Evt.ol_norm (a' := ?_) ?_ ?_
            rotate_left
            · simp only [Act.put, List.setIfInBounds_toArray, List.set_cons_zero, List.set_cons_succ, i64_w, i32_w]; rfl
            refine Evt.ol_one (i := 10) [(11, some 75), (13, none)] HT_ rfl rfl (by kernel_rfl) (fun K_ hK_ => ?_)
            · refine Evt.k_appc hK_ hHeld rfl rfl (.tmp 67) (.tmp 73) rfl vR3 ([] ++ l1) ([xi]) (some ⟨gT9, 0, none⟩) 1 1 rfl rfl F3.out (C_of_blk1 F9.out) (by have := O12.out.ln; simp; omega) ?_
              intro vR10 w_ hR_ hg_ hat_ hH_
              have n_NR := Aside0.mk (show some gT9 ≠ vR10.ownBlock from (by rcases hat_ with e_ | ⟨k_, e_, hk_⟩; (rw [e_]; exact NR9.out); (rw [e_]; intro e2_; injection e2_ with e2_; have h_ := F9.out.blk.lt; omega)))
              have n_F9 := Aside0.mk (F9.out.grown hg_ NR9.out)
              clear F9 NR9
              have F9 := n_F9
              have NR9 := n_NR
              clear n_F9 n_NR
              have n_F12 := Aside0.mk (F12.out.grown hg_ (row_ne F3.out.row F12.out.blk (by decide)))
              clear F12
              have F12 := n_F12
              clear n_F12
              rw [LR.out] at hR_
              obtain ⟨AR10, cR10, rfl⟩ := Kd.R_slice hR_.row
              clear F3
              have F10 := Aside0.mk hR_
              clear hHeld hR_ hg_ hat_
              have hHeld := hH_
              clear hH_ hK_
              refine Evt.ol_norm (a' := ?_) ?_ ?_
              rotate_left
              · simp only [Act.put, List.setIfInBounds_toArray, List.set_cons_zero, List.set_cons_succ, i64_w, i32_w]; rfl
              (first | (refine Evt.ol_off (a' := ?_) HT_ rfl rfl (by rfl) (by kernel_rfl) (fun _ _ _ h => h) ?_ ?_; rotate_left; (· (try simp only [Act.put, List.setIfInBounds_toArray, List.set_cons_zero, List.set_cons_succ, i64_w, i32_w]); rfl)) | (refine Evt.ol_pure (a' := ?_) (v := ?_) HT_ rfl rfl rfl (by rfl) (by kernel_rfl) (fun _ _ _ h => h) ?_ ?_ ?_; rotate_left 2; (· intro w'; go_simp; with_reducible rfl); (· (try simp only [Act.put, List.setIfInBounds_toArray, List.set_cons_zero, List.set_cons_succ, i64_w, i32_w]); rfl)) | (refine Evt.ol_load (a' := ?_) (v := ?_) HT_ HW_ hHeld rfl rfl rfl (by rfl) (by kernel_rfl) (fun _ _ _ h => h) ?_ ?_ ?_; rotate_left 2; (· intro w' hS_; obtain ⟨s0, s1, s2, s3⟩ := KP.out w' hS_.out; have ⟨y0, y1, y2, y3, y4⟩ := CELL.out w' (R.out.below hS_.out); go_simp; with_reducible rfl); (· (try simp only [Act.put, List.setIfInBounds_toArray, List.set_cons_zero, List.set_cons_succ, i64_w, i32_w]); rfl)))
              exact Evt.ol_norm (by simp only [putAll, Act.put, List.setIfInBounds_toArray, List.set_cons_zero, List.set_cons_succ, i64_w, i32_w]; rfl) (JN (vR0, vR3, gT9, AR10, cR10, gT12) _ hHeld ⟨F10.out, F12.out, GE12.out⟩)
  rintro ⟨vR0, vR3, gT9, AR10, cR10, gT12⟩ w_ hHeld ⟨f_F10, f_F12, f_GE12⟩
  have F10 := Aside0.mk f_F10
  have F12 := Aside0.mk f_F12
  have GE12 := Aside0.mk f_GE12
  clear f_F10 f_F12 f_GE12
  refine Evt.ol_norm (a' := ?_) ?_ ?_
  rotate_left
  · simp only [putAll, Act.put, List.setIfInBounds_toArray, List.set_cons_zero, List.set_cons_succ, i64_w, i32_w]; rfl
  refine Evt.ol_setrow (i := 13) [] HT_ hHeld rfl rfl (by kernel_rfl) (by rfl) F12.out GE12.out 25 (.tmp 11) (.tmp 75) rfl rfl rfl (by kernel_rfl) rfl (by simp [Value.oneCell']) ?_
  intro wc B_ hg_ hH_
  have FQ := Aside0.mk (row41_other F10.out.row hg_ (row_ne F10.out.row F12.out.blk (by decide)))
  have BQ_ := Aside0.mk B_
  clear F10 F12 GE12 hHeld B_ hg_
  refine Evt.ol_done HT_ (by kernel_rfl) ?_
  have RR0 : Aside0 (Rg wc AR10 cR10 lr none 0 []) := ⟨rg_of' FQ.out (Below.refl _ _)⟩
  have HW2 := Aside0.mk (below_step (below_step HW.out HB.out) hH_.out)
  clear R BK2 BQ RQ HB HT_ HW_ KP hH_ FQ HW
  obtain ⟨hlt, hsum, hA⟩ := NB.out
  have k0 : decide ((nW : Int) ≥ 0) = true := decide_eq_true (by omega)
  have k1 : decide ((nW : Int) < (nA : Int)) = true := decide_eq_true (by omega)
  have k2 : decide (nW < nA) = true := decide_eq_true hlt
  have kw1 : wrap64 ((nA : Int) - (nW : Int)) = (nA : Int) - (nW : Int) := by unfold wrap64; omega
  have kw2 : wrap64 ((nA : Int) + ((nA : Int) - (nW : Int))) = (nT : Int) := by unfold wrap64; omega
  have kw3 : (nA : Int) + ((nA : Int) - (nW : Int)) = (nT : Int) := by omega
  have kw4 : wrap64 (nT : Int) = (nT : Int) := by unfold wrap64; omega
  have kw5 : ((nT : Int) == (nT : Int)) = true := beq_self_eq_true _
  clear hlt hsum hA NB
  have HB := Aside0.mk (Below.refl wc.heap.size wc)
  have RR := Aside0.mk (RR0.out)
  have BQ : Aside0 (Bk wc gT12 25 #[.string ⟨#[]⟩, .slice AR10 lr.length cR10, .slice none 0 0, .string ⟨#[]⟩]) := Aside0.mk (BQ_.out)
  clear RR0 BQ_
  have zBQ_0 : wc.cell? ⟨gT12, 0, none⟩ = some (.string ⟨#[]⟩) := (blk_cell BQ.out.blk 0).trans rfl
  have zBQ_1 : wc.cell? ⟨gT12, 1, none⟩ = some (.slice AR10 lr.length cR10) := (blk_cell BQ.out.blk 1).trans rfl
  have zBQ_2 : wc.cell? ⟨gT12, 2, none⟩ = some (.slice none 0 0) := (blk_cell BQ.out.blk 2).trans rfl
  have zBQ_3 : wc.cell? ⟨gT12, 3, none⟩ = some (.string ⟨#[]⟩) := (blk_cell BQ.out.blk 3).trans rfl
  go_wp2_with (first | ((with_reducible refine gate_callee (f := 37) rfl ?_); refine goesL_ (some 78) rfl rfl Try.func37 (by kernel_rfl) rfl #[.agg #[.string ⟨#[]⟩, .slice AR10 lr.length cR10, .slice none 0 0, .string ⟨#[]⟩]] rfl (by (try simp only [List.map_toArray, List.map_cons, List.map_nil]); first | done | rfl | (simp only [List.length_drop, List.length_take]; rfl)) ?_; (with_reducible refine (count_q _ (RR.out.below (by repeat (first | (with_reducible first | exact Below.refl _ _ | apply below_alloc | apply pw_below_drewN | apply below_drew1) | exact Below.refl _ _))) OKr.out CTr.out).mono ?_); rintro e w1 ⟨rfl, hb⟩; have hbx : Below wc.heap.size wc w1 := below_step (by repeat (first | (with_reducible first | exact Below.refl _ _ | apply below_alloc | apply pw_below_drewN | apply below_drew1) | exact Below.refl _ _)) hb; clear zBQ_0 zBQ_1 zBQ_2 zBQ_3; have n_RR := Aside0.mk (RR.out.below hbx); have n_BQ := Aside0.mk (BQ.out.below hbx); have n_HB := Aside0.mk (below_step HB.out hbx); clear HB RR BQ; have RR := n_RR; have BQ := n_BQ; have HB := n_HB; clear hbx n_RR n_BQ n_HB; clear hb; have zBQ_0 : w1.cell? ⟨gT12, 0, none⟩ = some (.string ⟨#[]⟩) := (blk_cell BQ.out.blk 0).trans rfl; have zBQ_1 : w1.cell? ⟨gT12, 1, none⟩ = some (.slice AR10 lr.length cR10) := (blk_cell BQ.out.blk 1).trans rfl; have zBQ_2 : w1.cell? ⟨gT12, 2, none⟩ = some (.slice none 0 0) := (blk_cell BQ.out.blk 2).trans rfl; have zBQ_3 : w1.cell? ⟨gT12, 3, none⟩ = some (.string ⟨#[]⟩) := (blk_cell BQ.out.blk 3).trans rfl; refine ⟨_, rfl, ?_⟩) | ((with_reducible refine gate_callee (f := 32) rfl ?_); refine goesL_ (some 81) rfl rfl Try.func32 (by kernel_rfl) rfl #[] rfl (by (try simp only [List.map_toArray, List.map_cons, List.map_nil]); first | done | rfl | (simp only [List.length_drop, List.length_take]; rfl)) ?_; (with_reducible refine (alive13_any _).mono ?_); rintro e w2 ⟨rfl, hb⟩; have hbx : Below w1.heap.size w1 w2 := below_step (by repeat (first | (with_reducible first | exact Below.refl _ _ | apply below_alloc | apply pw_below_drewN | apply below_drew1) | exact Below.refl _ _)) hb; clear zBQ_0 zBQ_1 zBQ_2 zBQ_3; have n_RR := Aside0.mk (RR.out.below hbx); have n_BQ := Aside0.mk (BQ.out.below hbx); have n_HB := Aside0.mk (below_step HB.out hbx); clear HB RR BQ; have RR := n_RR; have BQ := n_BQ; have HB := n_HB; clear hbx n_RR n_BQ n_HB; clear hb; have zBQ_0 : w2.cell? ⟨gT12, 0, none⟩ = some (.string ⟨#[]⟩) := (blk_cell BQ.out.blk 0).trans rfl; have zBQ_1 : w2.cell? ⟨gT12, 1, none⟩ = some (.slice AR10 lr.length cR10) := (blk_cell BQ.out.blk 1).trans rfl; have zBQ_2 : w2.cell? ⟨gT12, 2, none⟩ = some (.slice none 0 0) := (blk_cell BQ.out.blk 2).trans rfl; have zBQ_3 : w2.cell? ⟨gT12, 3, none⟩ = some (.string ⟨#[]⟩) := (blk_cell BQ.out.blk 3).trans rfl; refine ⟨_, rfl, ?_⟩))
  go_ret
  exact ⟨rfl, below_step HW2.out HB.out⟩
theorem fec_walk (w : World) (k1 : List Value) (y1 : ByteArray × List S41 × List S101 × ByteArray) (h1 : KRung.K w y1 k1) (hq : QRung y1) (n : Int) (hw : (Lit.int .u8 n).wf = true) :
    Calls Try.prog 12 #[.agg k1.toArray, .int .u8 n] w fun x w' => x = .returned (.bool true) ∧ Below w.heap.size w w' := by
  obtain ⟨A1, c1, A2, c2, rfl, r1, hz⟩ := rung_form h1 hq
  have hn : 0 ≤ n ∧ n ≤ 255 := by
    simp [Lit.wf, IntKind.min, IntKind.max, IntKind.signed, IntKind.bits] at hw
    omega
  by_cases hb : tl (es y1.2.1) ≤ 0
  · by_cases hl : y1.2.1.length ≤ 20
    · by_cases hc : checkL (es y1.2.1) = 0
      · exact fec_small w r1 hz hb hl hc hn.1 hn.2
      · exact fec_bad w r1 hz hb hl hc
    · exact fec_long w r1 hz hb hl
  · exact fec_big w r1 hz hb
end
end Go.Proofs.Ytmacdknicgfglaa.Gw
