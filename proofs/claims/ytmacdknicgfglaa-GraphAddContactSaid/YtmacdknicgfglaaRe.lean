/- graph.Reachable, graph.Ancestors, walked. -/
import Derived.Test.YtmacdknicgfglaaGa
namespace Go.Proofs.Ytmacdknicgfglaa.Gw
open Go.RowKit Go.Shelf Go.Proofs.YtmacdknicgfglaaW.PrintWords Go.Proofs.YtmacdknicgfglaaW.PrintMore Go.Proofs.YtmacdknicgfglaaW.PrintLast Go.Proofs.Ytmacdknicgfglaa.Chg Go.Proofs.Ytmacdknicgfglaa.Evt Go.Proofs.Ytmacdknicgfglaa.Impl Go.Proofs.Ytmacdknicgfglaa.Gp Go.Proofs.Ytmacdknicgfglaa.Mp
set_option linter.unusedVariables false
set_option linter.unusedSimpArgs false
set_option maxRecDepth 100000
theorem suc_in {l : List Ed} {n m : ByteArray} (h : m ∈ sucL l n) : m ∈ nodesL l := by
  unfold sucL at h
  obtain ⟨i, hi, rfl⟩ := List.mem_map.1 h
  obtain ⟨j, rfl, hj, _⟩ := outL_mem.1 hi
  unfold toE
  rw [Int.toNat_natCast, List.getD_eq_getElem?_getD, List.getElem?_eq_getElem hj]
  exact nodesL_mem.2 (.inr (.inr ⟨_, List.getElem_mem hj, .inr rfl⟩))
theorem pre_in {l : List Ed} {n m : ByteArray} (h : m ∈ preL l n) : m ∈ nodesL l := by
  unfold preL at h
  obtain ⟨i, hi, rfl⟩ := List.mem_map.1 h
  obtain ⟨j, rfl, hj, _⟩ := inL_mem.1 hi
  unfold fromE
  rw [Int.toNat_natCast, List.getD_eq_getElem?_getD, List.getElem?_eq_getElem hj]
  exact nodesL_mem.2 (.inr (.inr ⟨_, List.getElem_mem hj, .inl rfl⟩))
theorem suc_len {l : List Ed} (h : l.length ≤ 1000) (n : ByteArray) : (sucL l n).length ≤ 1000 := by
  unfold sucL outL
  rw [List.length_map]
  exact Nat.le_trans (idxs_len _ l) h
theorem pre_len {l : List Ed} (h : l.length ≤ 1000) (n : ByteArray) : (preL l n).length ≤ 1000 := by
  unfold preL inL
  rw [List.length_map]
  exact Nat.le_trans (idxs_len _ l) h
theorem eg_s : ∀ args w, (callFunc 53 args).run Try.prog w = .ok (.enter 53 args) w := enters_of Try.func53 (by kernel_rfl) rfl
theorem eg_p : ∀ args w, (callFunc 55 args).run Try.prog w = .ok (.enter 55 args) w := enters_of Try.func55 (by kernel_rfl) rfl
theorem StepsV.mono {k : Nat} {lb : Array Value} {q : ByteArray → List ByteArray} {O O' : World → Prop} (h : StepsV k lb q O) (ho : ∀ W, O' W → O W) : StepsV k lb q O' := ⟨fun W x hO => h.out W x (ho W hO)⟩
section
variable {w w' : World} {A1 A2 : Option Addr} {c1 c2 g : Nat} {l1 : List S41} {l2 : List S101} {a0 a3 : ByteArray}
theorem suc_at (hok : okG (es l1) = true) (hb : Bk w g 25 #[.string a0, .slice A1 l1.length c1, .slice A2 l2.length c2, .string a3]) (h : Rg w A1 c1 l1 A2 c2 l2) : StepsV 53 #[.pointer (some ⟨g, 0, none⟩)] (sucL (es l1)) (fun W => Below w.heap.size w W) :=
  (suc_any (w0 := w) (gr := g) (a0 := a0) (A1 := A1) (c1 := c1) (A2 := A2) (c2 := c2) (l2 := l2) (a3 := a3) hok).mono (fun W hW => ⟨hb.below hW, hW, h⟩)
theorem pre_at (hok : okG (es l1) = true) (hb : Bk w g 25 #[.string a0, .slice A1 l1.length c1, .slice A2 l2.length c2, .string a3]) (h : Rg w A1 c1 l1 A2 c2 l2) : StepsV 55 #[.pointer (some ⟨g, 0, none⟩)] (preL (es l1)) (fun W => Below w.heap.size w W) :=
  (pre_any (w0 := w) (gr := g) (a0 := a0) (A1 := A1) (c1 := c1) (A2 := A2) (c2 := c2) (l2 := l2) (a3 := a3) hok).mono (fun W hW => ⟨hb.below hW, hW, h⟩)
set_option maxHeartbeats 2000000 in
theorem reach_any (w : World) (h : Rg w A1 c1 l1 A2 c2 l2) (hok : okG (es l1) = true) (n : ByteArray) :
    Calls Try.prog 27 #[.agg #[.string a0, .slice A1 l1.length c1, .slice A2 l2.length c2, .string a3], .string n] w fun e w' => ∃ v, e = .returned v ∧ Ro Kd.string 9 w w' v (reachL (es l1) n) ∧ Below w.heap.size w w' := by
  have hmf : ∀ (fn : Fn) (first cap : Array Value) (w : World), (Instr.makeFunc fn first cap).run Try.prog w = .ok (.func fn first cap) w := fun _ _ _ _ => rfl
  have LN : (es l1).length ≤ 1000 := okG_len hok
  have OK := Aside0.mk hok
  have HB := Aside0.mk (Below.refl w.heap.size w)
  have R := Aside0.mk (h)
  clear h hok
  go_enter Try.func27, Try.ntmps27
  go_wp2_with (first | ((with_reducible refine gate_dst (N := 2) rfl ?_); refine box_event ?hg (N := 2) ?hd (cs := #[.string a0, .slice A1 l1.length c1, .slice A2 l2.length c2, .string a3]) (t := 25) ?hr ?_; (case hd => rfl); (case hg => rfl); (case hr => first | (go_simp; done) | (go_simp; rfl)); intro g2 hg w1 hbox hb; have hbx : Below w.heap.size w w1 := below_step (by repeat (first | (with_reducible first | exact Below.refl _ _ | apply below_alloc | apply pw_below_drewN | apply below_drew1) | exact Below.refl _ _)) hb; have n_R := Aside0.mk (R.out.below hbx); have n_HB := Aside0.mk (below_step HB.out hbx); clear HB R; have R := n_R; have HB := n_HB; clear hbx n_R n_HB; have BK2 := Aside0.mk (Bk.mk (hbox : Blk w1 g2 25 #[.string a0, .slice A1 l1.length c1, .slice A2 l2.length c2, .string a3])); clear hbox hg hb; have zBK2_0 : w1.cell? ⟨g2, 0, none⟩ = some (.string a0) := (blk_cell BK2.out.blk 0).trans rfl; have zBK2_1 : w1.cell? ⟨g2, 1, none⟩ = some (.slice A1 l1.length c1) := (blk_cell BK2.out.blk 1).trans rfl; have zBK2_2 : w1.cell? ⟨g2, 2, none⟩ = some (.slice A2 l2.length c2) := (blk_cell BK2.out.blk 2).trans rfl; have zBK2_3 : w1.cell? ⟨g2, 3, none⟩ = some (.string a3) := (blk_cell BK2.out.blk 3).trans rfl) | ((with_reducible refine gate_callee (f := 52) rfl ?_); refine goesL_ (some 8) rfl rfl Try.func52 (by kernel_rfl) rfl #[.agg #[.string a0, .slice A1 l1.length c1, .slice A2 l2.length c2, .string a3], .string n, .func (.func 53) #[] #[.pointer (some ⟨g2, 0, none⟩)]] rfl (by (try simp only [List.map_toArray, List.map_cons, List.map_nil]); first | done | rfl | (simp only [List.length_drop, List.length_take]; rfl)) ?_; (with_reducible refine (gather_any _ (R.out.below (by repeat (first | (with_reducible first | exact Below.refl _ _ | apply below_alloc | apply pw_below_drewN | apply below_drew1) | exact Below.refl _ _))) OK.out (suc_at OK.out (BK2.out.below (by repeat (first | (with_reducible first | exact Below.refl _ _ | apply below_alloc | apply pw_below_drewN | apply below_drew1) | exact Below.refl _ _))) (R.out.below (by repeat (first | (with_reducible first | exact Below.refl _ _ | apply below_alloc | apply pw_below_drewN | apply below_drew1) | exact Below.refl _ _)))) eg_s (fun n hn m hm => suc_in hm) (fun n => suc_len LN n) n).mono ?_); rintro e w2 ⟨v, rfl, ho, hb⟩; have hbx : Below w1.heap.size w1 w2 := below_step (by repeat (first | (with_reducible first | exact Below.refl _ _ | apply below_alloc | apply pw_below_drewN | apply below_drew1) | exact Below.refl _ _)) hb; have ho_ := Ro.lower ho (below_size (below_step HB.out (by repeat (first | (with_reducible first | exact Below.refl _ _ | apply below_alloc | apply pw_below_drewN | apply below_drew1) | exact Below.refl _ _)))); clear zBK2_0 zBK2_1 zBK2_2 zBK2_3; have n_R := Aside0.mk (R.out.below hbx); have n_BK2 := Aside0.mk (BK2.out.below hbx); have n_HB := Aside0.mk (below_step HB.out hbx); clear HB R BK2; have R := n_R; have BK2 := n_BK2; have HB := n_HB; clear hbx n_R n_BK2 n_HB; have RV := Aside0.mk (ho_); clear hb; clear ho ho_; have zBK2_0 : w2.cell? ⟨g2, 0, none⟩ = some (.string a0) := (blk_cell BK2.out.blk 0).trans rfl; have zBK2_1 : w2.cell? ⟨g2, 1, none⟩ = some (.slice A1 l1.length c1) := (blk_cell BK2.out.blk 1).trans rfl; have zBK2_2 : w2.cell? ⟨g2, 2, none⟩ = some (.slice A2 l2.length c2) := (blk_cell BK2.out.blk 2).trans rfl; have zBK2_3 : w2.cell? ⟨g2, 3, none⟩ = some (.string a3) := (blk_cell BK2.out.blk 3).trans rfl; refine ⟨_, rfl, ?_⟩))
  go_ret
  exact ⟨_, rfl, RV.out, HB.out⟩
set_option maxHeartbeats 2000000 in
theorem anc_any (w : World) (h : Rg w A1 c1 l1 A2 c2 l2) (hok : okG (es l1) = true) (n : ByteArray) :
    Calls Try.prog 30 #[.agg #[.string a0, .slice A1 l1.length c1, .slice A2 l2.length c2, .string a3], .string n] w fun e w' => ∃ v, e = .returned v ∧ Ro Kd.string 9 w w' v (ancL (es l1) n) ∧ Below w.heap.size w w' := by
  have hmf : ∀ (fn : Fn) (first cap : Array Value) (w : World), (Instr.makeFunc fn first cap).run Try.prog w = .ok (.func fn first cap) w := fun _ _ _ _ => rfl
  have LN : (es l1).length ≤ 1000 := okG_len hok
  have OK := Aside0.mk hok
  have HB := Aside0.mk (Below.refl w.heap.size w)
  have R := Aside0.mk (h)
  clear h hok
  go_enter Try.func30, Try.ntmps30
  go_wp2_with (first | ((with_reducible refine gate_dst (N := 2) rfl ?_); refine box_event ?hg (N := 2) ?hd (cs := #[.string a0, .slice A1 l1.length c1, .slice A2 l2.length c2, .string a3]) (t := 25) ?hr ?_; (case hd => rfl); (case hg => rfl); (case hr => first | (go_simp; done) | (go_simp; rfl)); intro g2 hg w1 hbox hb; have hbx : Below w.heap.size w w1 := below_step (by repeat (first | (with_reducible first | exact Below.refl _ _ | apply below_alloc | apply pw_below_drewN | apply below_drew1) | exact Below.refl _ _)) hb; have n_R := Aside0.mk (R.out.below hbx); have n_HB := Aside0.mk (below_step HB.out hbx); clear HB R; have R := n_R; have HB := n_HB; clear hbx n_R n_HB; have BK2 := Aside0.mk (Bk.mk (hbox : Blk w1 g2 25 #[.string a0, .slice A1 l1.length c1, .slice A2 l2.length c2, .string a3])); clear hbox hg hb; have zBK2_0 : w1.cell? ⟨g2, 0, none⟩ = some (.string a0) := (blk_cell BK2.out.blk 0).trans rfl; have zBK2_1 : w1.cell? ⟨g2, 1, none⟩ = some (.slice A1 l1.length c1) := (blk_cell BK2.out.blk 1).trans rfl; have zBK2_2 : w1.cell? ⟨g2, 2, none⟩ = some (.slice A2 l2.length c2) := (blk_cell BK2.out.blk 2).trans rfl; have zBK2_3 : w1.cell? ⟨g2, 3, none⟩ = some (.string a3) := (blk_cell BK2.out.blk 3).trans rfl) | ((with_reducible refine gate_callee (f := 52) rfl ?_); refine goesL_ (some 8) rfl rfl Try.func52 (by kernel_rfl) rfl #[.agg #[.string a0, .slice A1 l1.length c1, .slice A2 l2.length c2, .string a3], .string n, .func (.func 55) #[] #[.pointer (some ⟨g2, 0, none⟩)]] rfl (by (try simp only [List.map_toArray, List.map_cons, List.map_nil]); first | done | rfl | (simp only [List.length_drop, List.length_take]; rfl)) ?_; (with_reducible refine (gather_any _ (R.out.below (by repeat (first | (with_reducible first | exact Below.refl _ _ | apply below_alloc | apply pw_below_drewN | apply below_drew1) | exact Below.refl _ _))) OK.out (pre_at OK.out (BK2.out.below (by repeat (first | (with_reducible first | exact Below.refl _ _ | apply below_alloc | apply pw_below_drewN | apply below_drew1) | exact Below.refl _ _))) (R.out.below (by repeat (first | (with_reducible first | exact Below.refl _ _ | apply below_alloc | apply pw_below_drewN | apply below_drew1) | exact Below.refl _ _)))) eg_p (fun n hn m hm => pre_in hm) (fun n => pre_len LN n) n).mono ?_); rintro e w2 ⟨v, rfl, ho, hb⟩; have hbx : Below w1.heap.size w1 w2 := below_step (by repeat (first | (with_reducible first | exact Below.refl _ _ | apply below_alloc | apply pw_below_drewN | apply below_drew1) | exact Below.refl _ _)) hb; have ho_ := Ro.lower ho (below_size (below_step HB.out (by repeat (first | (with_reducible first | exact Below.refl _ _ | apply below_alloc | apply pw_below_drewN | apply below_drew1) | exact Below.refl _ _)))); clear zBK2_0 zBK2_1 zBK2_2 zBK2_3; have n_R := Aside0.mk (R.out.below hbx); have n_BK2 := Aside0.mk (BK2.out.below hbx); have n_HB := Aside0.mk (below_step HB.out hbx); clear HB R BK2; have R := n_R; have BK2 := n_BK2; have HB := n_HB; clear hbx n_R n_BK2 n_HB; have RV := Aside0.mk (ho_); clear hb; clear ho ho_; have zBK2_0 : w2.cell? ⟨g2, 0, none⟩ = some (.string a0) := (blk_cell BK2.out.blk 0).trans rfl; have zBK2_1 : w2.cell? ⟨g2, 1, none⟩ = some (.slice A1 l1.length c1) := (blk_cell BK2.out.blk 1).trans rfl; have zBK2_2 : w2.cell? ⟨g2, 2, none⟩ = some (.slice A2 l2.length c2) := (blk_cell BK2.out.blk 2).trans rfl; have zBK2_3 : w2.cell? ⟨g2, 3, none⟩ = some (.string a3) := (blk_cell BK2.out.blk 3).trans rfl; refine ⟨_, rfl, ?_⟩))
  go_ret
  exact ⟨_, rfl, RV.out, HB.out⟩
end
end Go.Proofs.Ytmacdknicgfglaa.Gw
