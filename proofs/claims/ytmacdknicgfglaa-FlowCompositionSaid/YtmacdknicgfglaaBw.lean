/- slices.Backward: its iterator, for every loop body that keeps what lay below a bound. -/
import Derived.Test.YtmacdknicgfglaaBr
import Derived.Test.YtmacdknicgfglaaRq
import Derived.Test.YtmacdknicgfglaaCp
import Derived.Test.YtmacdknicgfglaaLw0
namespace Go.Proofs.Ytmacdknicgfglaa.Gw
open Go.RowKit Go.Shelf Go.Proofs.YtmacdknicgfglaaW.PrintWords Go.Proofs.YtmacdknicgfglaaW.PrintMore Go.Proofs.YtmacdknicgfglaaW.PrintLast Go.Proofs.Ytmacdknicgfglaa.Chg Go.Proofs.Ytmacdknicgfglaa.Evt
set_option linter.unusedVariables false
set_option linter.unusedSimpArgs false
attribute [local go_sem] Oper.semAt_some
/-- A place and the name there. -/
abbrev PN := { x : Int × ByteArray // x.2.size ≤ 100000 }
def encPN (x : PN) : Array Value := #[.int .i64 x.1.1, .string x.1.2]
/-- What has come when k rounds are over. -/
def bk (r : List PN) (k : Nat) : List PN := (r.reverse).take k
/-- The names with their places. -/
def withN (r : List ByteArray) (hr : ∀ x ∈ r, x.size ≤ 100000) : List PN := (List.range r.length).attach.map fun i => ⟨((i.1 : Int), r[i.1]'(List.mem_range.1 i.2)), hr _ (List.getElem_mem _)⟩
theorem withN_len (r : List ByteArray) (hr : ∀ x ∈ r, x.size ≤ 100000) : (withN r hr).length = r.length := by simp [withN]
theorem withN_get (r : List ByteArray) (hr : ∀ x ∈ r, x.size ≤ 100000) {i : Nat} (hi : i < r.length) : (withN r hr)[i]'(by rw [withN_len]; exact hi) = ⟨((i : Int), r[i]), hr _ (List.getElem_mem _)⟩ := by simp [withN]
theorem withN_names (r : List ByteArray) (hr : ∀ x ∈ r, x.size ≤ 100000) : ((withN r hr).reverse.map fun x => x.1.2) = r.reverse := by
  rw [List.map_reverse]
  congr 1
  apply List.ext_getElem
  · simp [withN_len]
  · intro i h1 h2
    rw [List.getElem_map, withN_get r hr h2]
theorem bk_succ {r : List PN} {k : Nat} (h : k < r.length) : bk r (k + 1) = bk r k ++ [r[r.length - 1 - k]'(by omega)] := by
  unfold bk
  rw [List.take_succ_eq_append_getElem (by rw [List.length_reverse]; exact h), List.getElem_reverse]
/-- What a round keeps: all below a bound, and block g. -/
structure Kq (n₀ g : Nat) (W W' : World) : Prop where
  bel : Below n₀ W W'
  at_ : g < W.heap.size → W'.heap[g]? = W.heap[g]?
theorem Kq.refl (n₀ g : Nat) (W : World) : Kq n₀ g W W := ⟨Below.refl _ _, fun _ => rfl⟩
theorem Kq.trans {n₀ g : Nat} {A B C : World} (h : Kq n₀ g A B) (k : Kq n₀ g B C) : Kq n₀ g A C := ⟨h.bel.trans k.bel, fun hg => (k.at_ (Nat.lt_of_lt_of_le hg h.bel.size)).trans (h.at_ hg)⟩
theorem Kq.put {n₀ g : Nat} {w : World} (hn : n₀ ≤ w.heap.size) (hg : g < w.heap.size) (W : World) (l : Nat) (o o' : Obj) (hl : w.heap.size ≤ l) (h : W.heap[l]? = some o) (h1 : o.isCells = false) (h2 : o.isWalk = false) : Kq n₀ g W (W.putObj l o') := ⟨belowK_b hn W l o o' hl h h1 h2, fun _ => World.putObj_heap_other (by omega)⟩
set_option maxRecDepth 100000 in
set_option maxHeartbeats 2000000 in
theorem bw1_in (n : Nat) (hn : 1 ≤ n) (l Bs n₀ : Nat) (A : Option Addr) (c : Nat) (r : List ByteArray) (hr : ∀ x ∈ r, x.size ≤ 100000) (hlen : r.length ≤ 1000000) (J Jx : List PN → World → Prop)
    (hY : ∀ pre x W, J pre W → pre.length < r.length → YieldAt Fence.wide (n - 1) Try.prog l (encPN x) W fun e W' =>
      (e = .returned (.bool true) ∧ J (pre ++ [x]) W' ∧ Kq n₀ Bs W W') ∨ (e = .returned (.bool false) ∧ Jx (pre ++ [x]) W'))
    (W : World) (hBs : Bk W Bs 29 #[.slice A r.length c]) (hc : ∀ W', Kq n₀ Bs W W' → Rw Kd.string W' A c r) (h0 : J [] W) :
    CallsIn Fence.wide n Try.prog 65 #[.func (.yield l) #[] #[], .pointer (some ⟨Bs, 0, none⟩)] W fun e W' => (∃ v, e = .returned v) ∧
      ((∃ ys, ys = (withN r hr).reverse ∧ J ys W') ∨ (∃ pre, pre <+: (withN r hr).reverse ∧ Jx pre W')) := by
  have HC := Aside0.mk hc
  have HR := Aside0.mk hr
  have HL := Aside0.mk (withN_len r hr)
  have HG := Aside0.mk (fun (i : Nat) (hi : i < r.length) => withN_get r hr hi)
  have B0 := Aside0.mk hBs
  obtain ⟨rn, hrn⟩ : ∃ rn, Aside0 (withN r hr = rn) := ⟨_, ⟨rfl⟩⟩
  have HG' : Aside0 (∀ (i : Nat) (hi : i < r.length), ∃ hz : (r[i]).size ≤ 100000, rn[i]? = some ⟨((i : Int), r[i]), hz⟩) := ⟨fun i hi => ⟨hr _ (List.getElem_mem _), by rw [← hrn.out, List.getElem?_eq_getElem (by rw [withN_len]; exact hi), withN_get r hr hi]⟩⟩
  rw [hrn.out] at HL ⊢
  clear hc hr hBs HG hrn HR
  have J0 : J (bk rn 0) W := h0
  refine callsIn_of_wp Try.func65 rfl trivial ?_ rfl
  simp only [Try.ntmps65, List.size_toArray, List.length_cons, List.length_nil, Nat.reduceAdd, Nat.reduceSub, Array.replicate_succ, Array.replicate_zero, List.push_toArray, List.append_toArray, List.nil_append, List.cons_append]
  have hBs := B0.out.blk.cell 0 rfl
  gi_wp2
  clear hBs
  gi_loopw [3] (fun i wr => ∃ k : Nat, k ≤ r.length ∧ i = .int .i64 ((r.length : Int) - 1 - k) ∧ J (bk rn k) wr ∧ Kq n₀ Bs W wr)
    (fun i _ => (intOf i + 1).toNat)
  case atStart => exact ⟨0, Nat.zero_le _, by simp, J0, Kq.refl _ _ _⟩
  case round =>
    obtain ⟨k, hk, rfl, hJs, hnx⟩ := hrel
    by_cases hlt : k < r.length
    · obtain ⟨j, hj⟩ : ∃ j : Nat, r.length = j + 1 + k := ⟨r.length - 1 - k, by omega⟩
      have hjl : j < r.length := by omega
      have e1 : (r.length : Int) - 1 - k = (j : Int) := by omega
      have E2 : Aside0 ((j : Int) - 1 = (r.length : Int) - 1 - ((k + 1 : Nat) : Int)) := ⟨by omega⟩
      have HJ := Aside0.mk hj
      rw [e1]
      clear e1 hj
      have HW := Aside0.mk (HC.out wr hnx)
      obtain ⟨ad, rfl⟩ := Rw.someS HW.out (by omega)
      have x0 := Rw.atS HW.out hjl
      have hBw : wr.cell? ⟨Bs, 0, none⟩ = some (.slice (some ad) r.length c) := Blk.cell ((hnx.at_ B0.out.blk.lt).trans B0.out.blk) 0 rfl
      obtain ⟨hz, hgj⟩ := HG'.out j hjl
      have hyy := hY (bk rn k) ⟨((j : Int), r[j]), hz⟩ wr hJs (by unfold bk; rw [List.length_take, List.length_reverse, HL.out]; omega)
      have hbs : bk rn k ++ [⟨((j : Int), r[j]), hz⟩] = bk rn (k + 1) := by
        rw [bk_succ (by rw [HL.out]; exact hlt)]
        congr 2
        rw [List.getElem?_eq_some_iff] at hgj
        obtain ⟨_, q⟩ := hgj
        rw [← q]
        congr 1
        have := HL.out; have := HJ.out; omega
      have HBS := Aside0.mk hbs
      clear hbs hgj
      obtain ⟨fn, tmps, assign, body, hy, hR⟩ := hyy
      dsimp only [encPN] at hy
      obtain ⟨x, hx⟩ : ∃ x, Aside0 (r[j] = x) := ⟨_, ⟨rfl⟩⟩
      rw [hx.out] at x0 hy
      gi_wp2
      refine hR.mono ?_
      rintro e W3 (⟨rfl, hJ3, hk3⟩ | ⟨rfl, hJx3⟩)
      · rw [HBS.out] at hJ3
        gi_wp2
        go_roundw
        case rel => exact ⟨k + 1, by omega, by rw [← E2.out], hJ3, hnx.trans hk3⟩
        case measure => (simp [intOf]; try omega)
      · rw [HBS.out] at hJx3
        gi_wp2
        refine bodyPost_ret (results_none rfl _ _ _) rfl ?_
        exact ⟨⟨_, rfl⟩, .inr ⟨_, List.take_prefix _ _, hJx3⟩⟩
    · have e1 : (r.length : Int) - 1 - k = -1 := by omega
      have HJ : Aside0 (bk rn k = rn.reverse) := ⟨by unfold bk; rw [List.take_of_length_le]; rw [List.length_reverse, HL.out]; omega⟩
      rw [e1]
      rw [HJ.out] at hJs
      gi_wp2
      go_end0
      exact ⟨⟨_, rfl⟩, .inl ⟨_, rfl, hJs⟩⟩
end Go.Proofs.Ytmacdknicgfglaa.Gw
/- flow.CountPaths, walked. -/
namespace Go.Proofs.Ytmacdknicgfglaa.Gw
open Go.RowKit Go.Shelf Go.Proofs.YtmacdknicgfglaaW.PrintWords Go.Proofs.YtmacdknicgfglaaW.PrintMore Go.Proofs.YtmacdknicgfglaaW.PrintLast Go.Proofs.Ytmacdknicgfglaa.Chg Go.Proofs.Ytmacdknicgfglaa.Evt Go.Proofs.Ytmacdknicgfglaa.Impl Go.Proofs.Ytmacdknicgfglaa.Gp Go.Proofs.Ytmacdknicgfglaa.Mp
set_option linter.unusedVariables false
set_option linter.unusedSimpArgs false
set_option maxRecDepth 100000
attribute [local go_sem] Oper.semAt_some
attribute [local go_sem] max2_int min2_int max_two min_two
set_option maxHeartbeats 1000000 in
theorem bwd_any (A : Option Addr) (n c : Nat) (w : World) : Calls Try.prog 59 #[.slice A n c] w fun e w' => ∃ g, e = .returned (.func (.func 65) #[] #[.pointer (some ⟨g, 0, none⟩)]) ∧ Bk w' g 29 #[.slice A n c] ∧ Below w.heap.size w w' := by
  have hmf : ∀ (fn : Fn) (first cap : Array Value) (w : World), (Instr.makeFunc fn first cap).run Try.prog w = .ok (.func fn first cap) w := fun _ _ _ _ => rfl
  have HB := Aside0.mk (Below.refl w.heap.size w)
  go_enter Try.func59, Try.ntmps59
  go_wp2_with (((with_reducible refine gate_dst (N := 1) rfl ?_); refine box_event ?hg (N := 1) ?hd (cs := #[.slice A n c]) (t := 29) ?hr ?_; (case hd => rfl); (case hg => rfl); (case hr => first | (go_simp; done) | (go_simp; rfl)); intro g1 hg w1 hbox hb; have hbx : Below w.heap.size w w1 := below_step (by repeat (first | (with_reducible first | exact Below.refl _ _ | apply below_alloc | apply pw_below_drewN | apply below_drew1) | exact Below.refl _ _)) hb; have n_HB := Aside0.mk (below_step HB.out hbx); clear HB ; have HB := n_HB; clear hbx n_HB; have BK1 := Aside0.mk (Bk.mk (hbox : Blk w1 g1 29 #[.slice A n c])); clear hbox hg hb; have zBK1_0 : w1.cell? ⟨g1, 0, none⟩ = some (.slice A n c) := (blk_cell BK1.out.blk 0).trans rfl))
  go_ret
  exact ⟨_, rfl, BK1.out, HB.out⟩
/-- The table while it is being filled. -/
structure Ci (w2 : World) (g6 b k : Nat) (q : ByteArray → Option Int) (W : World) : Prop where
  bel : Below w2.heap.size w2 W
  bx : Bk W g6 44 #[.map (some b)]
  m : MI W b k q
theorem Ci.below {w2 W W' : World} {g6 b k : Nat} {q : ByteArray → Option Int} (h : Ci w2 g6 b k q W) (hb : Below W.heap.size W W') : Ci w2 g6 b k q W' := ⟨below_step h.bel hb, h.bx.below hb, h.m.below hb⟩
theorem Ci.put {w2 W W' : World} {g6 b k k' : Nat} {q q' : ByteArray → Option Int} (h : Ci w2 g6 b k q W) (hge : w2.heap.size ≤ b) (hm : MI W' b k' q') (hg : W.grownBy W' (some b)) : Ci w2 g6 b k' q' W' :=
  ⟨h.bel.grown hg h.bel.size (fun j e => by cases e; exact hge), h.bx.grown hg (fun e => h.m.ne h.bx.blk (by injection e)), hm⟩
theorem keeps_of_below {B : Nat} {W W' : World} (h : Below W.heap.size W W') : KeepsFrom B W W' := ⟨below_size h, fun k o _ hk _ => (h.block k (Array.getElem?_eq_some_iff.1 hk).1).trans hk⟩
/-- What holds between two rounds of the outer loop. -/
def Cj (w2 : World) (g6 b : Nat) (l : List Ed) (pre : List PN) (W : World) : Prop := ∃ k, k ≤ 1 + 1000 * pre.length ∧ Ci w2 g6 b k (ntab l (pre.map fun x => x.1.2)) W
theorem Cj.own {w2 : World} {g6 b : Nat} {l : List Ed} {B : Nat} (h6 : g6 < B) (hb : b < B) (h2 : w2.heap.size ≤ B) : OwnFrom B (Cj w2 g6 b l) := by
  intro s A C row hs hg hr
  obtain ⟨k, hk, h⟩ := hs
  exact ⟨k, hk, h.bel.grown hg h.bel.size (fun j e => Nat.le_trans h2 (hr j e).1), h.bx.grown hg (fun e => by have := (hr _ e.symm).1; omega), h.m.grown hg (fun e => by have := (hr _ e.symm).1; omega)⟩
theorem Kq.of_below {n₀ g : Nat} {W W' : World} (h : Below W.heap.size W W') (hn : n₀ ≤ W.heap.size) : Kq n₀ g W W' := ⟨h.mono hn, fun hg => h.block g hg⟩
theorem Kq.of_grown {n₀ g b : Nat} {W W' : World} (h : W.grownBy W' (some b)) (hn : n₀ ≤ W.heap.size) (hb : n₀ ≤ b) (hne : g ≠ b) : Kq n₀ g W W' := ⟨(Below.refl n₀ W).grown h hn (fun k e => by cases e; exact hb), fun hg => h.block g hg (fun e => hne (by injection e))⟩
/-- What holds between two rounds of the inner loop. -/
structure Di (w2 w6 W : World) (g g6 b kk : Nat) (ts : List ByteArray) (x : ByteArray) (q0 : ByteArray → Option Int) (wr : World) : Prop where
  c : ∃ k, k ≤ kk + ts.length ∧ Ci w2 g6 b k (ts.foldl (updT x) q0) wr
  kf : KeepsFrom w6.heap.size W wr
  kq : Kq w2.heap.size g W wr
theorem ntab_snoc (l : List Ed) (xs : List ByteArray) (x : ByteArray) : ntab l (xs ++ [x]) = (sucL l x).foldl (updT x) (ntab l xs) := by unfold ntab; rw [List.foldl_append]; rfl
section
variable {w w' : World} {A1 A2 : Option Addr} {c1 c2 : Nat} {l1 : List S41} {l2 : List S101} {a0 a3 : ByteArray}
set_option maxHeartbeats 2000000 in
theorem count_none (w : World) (h : Rg w A1 c1 l1 A2 c2 l2) (hok : okG (es l1) = true) (ht : topo (es l1) = none) :
    Calls Try.prog 37 #[.agg #[.string a0, .slice A1 l1.length c1, .slice A2 l2.length c2, .string a3]] w fun e w' => e = .returned (.tuple #[.int .i64 (countL (es l1)).1, .int .i64 (countL (es l1)).2]) ∧ Below w.heap.size w w' := by
  have OK := Aside0.mk hok
  have EE : errT (topo (es l1)) = 12 := by rw [ht]; rfl
  have CC : countL (es l1) = (0, 12) := by unfold countL; rw [if_neg (by rw [EE]; omega), EE]
  rw [CC]
  have E12 := Aside0.mk EE
  clear ht EE CC
  have HB := Aside0.mk (Below.refl w.heap.size w)
  have R := Aside0.mk (h)
  clear h hok
  go_enter Try.func37, Try.ntmps37
  go_wp2_with (first | ((with_reducible refine gate_dst (N := 1) rfl ?_); refine box_event ?hg (N := 1) ?hd (cs := #[.string a0, .slice A1 l1.length c1, .slice A2 l2.length c2, .string a3]) (t := 25) ?hr ?_; (case hd => rfl); (case hg => rfl); (case hr => first | (go_simp; done) | (go_simp; rfl)); intro g1 hg w1 hbox hb; have hbx : Below w.heap.size w w1 := below_step (by repeat (first | (with_reducible first | exact Below.refl _ _ | apply below_alloc | apply pw_below_drewN | apply below_drew1) | exact Below.refl _ _)) hb; have n_R := Aside0.mk (R.out.below hbx); have n_HB := Aside0.mk (below_step HB.out hbx); clear HB R; have R := n_R; have HB := n_HB; clear hbx n_R n_HB; have BK1 := Aside0.mk (Bk.mk (hbox : Blk w1 g1 25 #[.string a0, .slice A1 l1.length c1, .slice A2 l2.length c2, .string a3])); clear hbox hg hb; have zBK1_0 : w1.cell? ⟨g1, 0, none⟩ = some (.string a0) := (blk_cell BK1.out.blk 0).trans rfl; have zBK1_1 : w1.cell? ⟨g1, 1, none⟩ = some (.slice A1 l1.length c1) := (blk_cell BK1.out.blk 1).trans rfl; have zBK1_2 : w1.cell? ⟨g1, 2, none⟩ = some (.slice A2 l2.length c2) := (blk_cell BK1.out.blk 2).trans rfl; have zBK1_3 : w1.cell? ⟨g1, 3, none⟩ = some (.string a3) := (blk_cell BK1.out.blk 3).trans rfl) | ((with_reducible refine gate_callee (f := 25) rfl ?_); refine goesL_ (some 13) rfl rfl Try.func25 (by kernel_rfl) rfl #[.agg #[.string a0, .slice A1 l1.length c1, .slice A2 l2.length c2, .string a3]] rfl (by (try simp only [List.map_toArray, List.map_cons, List.map_nil]); first | done | rfl | (simp only [List.length_drop, List.length_take]; rfl)) ?_; (with_reducible refine ((topo_any _ (R.out.below (by repeat (first | (with_reducible first | exact Below.refl _ _ | apply below_alloc | apply pw_below_drewN | apply below_drew1) | exact Below.refl _ _))) OK.out)).mono ?_); rintro e w2 ⟨v, rfl, ho, hb⟩; have hbx : Below w1.heap.size w1 w2 := below_step (by repeat (first | (with_reducible first | exact Below.refl _ _ | apply below_alloc | apply pw_below_drewN | apply below_drew1) | exact Below.refl _ _)) hb; rw [E12.out]; clear zBK1_0 zBK1_1 zBK1_2 zBK1_3; have n_R := Aside0.mk (R.out.below hbx); have n_BK1 := Aside0.mk (BK1.out.below hbx); have n_HB := Aside0.mk (below_step HB.out hbx); clear HB R BK1; have R := n_R; have BK1 := n_BK1; have HB := n_HB; clear hbx n_R n_BK1 n_HB; clear hb; have zBK1_0 : w2.cell? ⟨g1, 0, none⟩ = some (.string a0) := (blk_cell BK1.out.blk 0).trans rfl; have zBK1_1 : w2.cell? ⟨g1, 1, none⟩ = some (.slice A1 l1.length c1) := (blk_cell BK1.out.blk 1).trans rfl; have zBK1_2 : w2.cell? ⟨g1, 2, none⟩ = some (.slice A2 l2.length c2) := (blk_cell BK1.out.blk 2).trans rfl; have zBK1_3 : w2.cell? ⟨g1, 3, none⟩ = some (.string a3) := (blk_cell BK1.out.blk 3).trans rfl; refine ⟨_, rfl, ?_⟩))
  go_ret2
  exact ⟨rfl, HB.out⟩
set_option maxHeartbeats 4000000 in
theorem count_some (w : World) (h : Rg w A1 c1 l1 A2 c2 l2) (hok : okG (es l1) = true) {r : List ByteArray} (ht : topo (es l1) = some r) :
    Calls Try.prog 37 #[.agg #[.string a0, .slice A1 l1.length c1, .slice A2 l2.length c2, .string a3]] w fun e w' => e = .returned (.tuple #[.int .i64 (countL (es l1)).1, .int .i64 (countL (es l1)).2]) ∧ Below w.heap.size w w' := by
  have OK := Aside0.mk hok
  have EE : errT (topo (es l1)) = 0 := by rw [ht]; rfl
  have CC : countL (es l1) = (capN (Bw (es l1) sR sL), 0) := by unfold countL; rw [if_pos EE]
  have NT := Aside0.mk (ntab_all ht)
  have SZr : ∀ x ∈ r, x.size ≤ 100000 := fun x hx => nodesL_size OK.out ((topo_ord ht).1.sub x hx)
  have LNr : r.length ≤ 1000000 := by have := topoE_len ht; have := okG_len OK.out; omega
  have TT : (topo (es l1)).getD [] = r := by rw [ht]; rfl
  rw [CC]
  have E0 := Aside0.mk (And.intro EE TT)
  clear ht EE CC TT
  have HB := Aside0.mk (Below.refl w.heap.size w)
  have R := Aside0.mk (h)
  have R0 := Aside0.mk h
  clear h hok
  refine (callsIn_wide (n := 5)).1 ?_
  refine callsIn_of_wp_marks Try.func37 rfl trivial ?_ rfl
  simp only [Try.ntmps37, List.size_toArray, List.length_cons, List.length_nil, Nat.reduceAdd, Nat.reduceSub, Array.replicate_succ, Array.replicate_zero, List.push_toArray, List.append_toArray, List.nil_append, List.cons_append]
  refine wpIn_wide.2 ?_
  go_wp2_with (first | ((with_reducible refine gate_dst (N := 1) rfl ?_); refine box_event ?hg (N := 1) ?hd (cs := #[.string a0, .slice A1 l1.length c1, .slice A2 l2.length c2, .string a3]) (t := 25) ?hr ?_; (case hd => rfl); (case hg => rfl); (case hr => first | (go_simp; done) | (go_simp; rfl)); intro g1 hg w1 hbox hb; have hbx : Below w.heap.size w w1 := below_step (by repeat (first | (with_reducible first | exact Below.refl _ _ | apply below_alloc | apply pw_below_drewN | apply below_drew1) | exact Below.refl _ _)) hb; have n_R := Aside0.mk (R.out.below hbx); have n_HB := Aside0.mk (below_step HB.out hbx); clear HB R; have R := n_R; have HB := n_HB; clear hbx n_R n_HB; have BK1 := Aside0.mk (Bk.mk (hbox : Blk w1 g1 25 #[.string a0, .slice A1 l1.length c1, .slice A2 l2.length c2, .string a3])); clear hbox hg hb; have zBK1_0 : w1.cell? ⟨g1, 0, none⟩ = some (.string a0) := (blk_cell BK1.out.blk 0).trans rfl; have zBK1_1 : w1.cell? ⟨g1, 1, none⟩ = some (.slice A1 l1.length c1) := (blk_cell BK1.out.blk 1).trans rfl; have zBK1_2 : w1.cell? ⟨g1, 2, none⟩ = some (.slice A2 l2.length c2) := (blk_cell BK1.out.blk 2).trans rfl; have zBK1_3 : w1.cell? ⟨g1, 3, none⟩ = some (.string a3) := (blk_cell BK1.out.blk 3).trans rfl) | ((with_reducible refine gate_callee (f := 25) rfl ?_); refine goesL_ (some 13) rfl rfl Try.func25 (by kernel_rfl) rfl #[.agg #[.string a0, .slice A1 l1.length c1, .slice A2 l2.length c2, .string a3]] rfl (by (try simp only [List.map_toArray, List.map_cons, List.map_nil]); first | done | rfl | (simp only [List.length_drop, List.length_take]; rfl)) ?_; (with_reducible refine ((topo_any _ (R.out.below (by repeat (first | (with_reducible first | exact Below.refl _ _ | apply below_alloc | apply pw_below_drewN | apply below_drew1) | exact Below.refl _ _))) OK.out)).mono ?_); rintro e w2 ⟨v, rfl, ho, hb⟩; have hbx : Below w1.heap.size w1 w2 := below_step (by repeat (first | (with_reducible first | exact Below.refl _ _ | apply below_alloc | apply pw_below_drewN | apply below_drew1) | exact Below.refl _ _)) hb; rw [E0.out.1]; rw [E0.out.2] at ho; have hbR := hbx; obtain ⟨Y1, y1, rfl, hw_⟩ := Ro.sliceS ho; clear zBK1_0 zBK1_1 zBK1_2 zBK1_3; have n_BK1 := Aside0.mk (BK1.out.below hbx); have n_HB := Aside0.mk (below_step HB.out hbx); clear HB BK1; have BK1 := n_BK1; have HB := n_HB; clear hbx n_BK1 n_HB; clear hb; have R2 := Aside0.mk (R.out.below hbR); clear R; have RW := hw_; have HB0 := HB; clear HB; have HB := Aside0.mk (Below.refl w2.heap.size w2); have G1 := Aside0.mk BK1.out.blk.lt; have B12 := BK1; clear ho hw_ hbR; have zBK1_0 : w2.cell? ⟨g1, 0, none⟩ = some (.string a0) := (blk_cell BK1.out.blk 0).trans rfl; have zBK1_1 : w2.cell? ⟨g1, 1, none⟩ = some (.slice A1 l1.length c1) := (blk_cell BK1.out.blk 1).trans rfl; have zBK1_2 : w2.cell? ⟨g1, 2, none⟩ = some (.slice A2 l2.length c2) := (blk_cell BK1.out.blk 2).trans rfl; have zBK1_3 : w2.cell? ⟨g1, 3, none⟩ = some (.string a3) := (blk_cell BK1.out.blk 3).trans rfl; refine ⟨_, rfl, ?_⟩) | ((with_reducible refine gate_dst (N := 19) rfl ?_); refine Mp.mkI_ev rfl (N := 19) rfl rfl ?_; intro b19 hg w3 hmap hb; have hbx : Below w2.heap.size w2 w3 := below_step (by repeat (first | (with_reducible first | exact Below.refl _ _ | apply below_alloc | apply pw_below_drewN | apply below_drew1) | exact Below.refl _ _)) hb; have hge_ : w2.heap.size ≤ b19 := (by rw [hg]; exact below_size (below_step HB.out (by repeat (first | (with_reducible first | exact Below.refl _ _ | apply below_alloc | apply pw_below_drewN | apply below_drew1) | exact Below.refl _ _)))); clear zBK1_0 zBK1_1 zBK1_2 zBK1_3; have n_BK1 := Aside0.mk (BK1.out.below hbx); have n_HB := Aside0.mk (below_step HB.out hbx); clear HB BK1; have BK1 := n_BK1; have HB := n_HB; clear hbx n_BK1 n_HB; have M19 := Aside0.mk hmap; have GE19 := Aside0.mk hge_; clear hmap hg hb hge_; have zBK1_0 : w3.cell? ⟨g1, 0, none⟩ = some (.string a0) := (blk_cell BK1.out.blk 0).trans rfl; have zBK1_1 : w3.cell? ⟨g1, 1, none⟩ = some (.slice A1 l1.length c1) := (blk_cell BK1.out.blk 1).trans rfl; have zBK1_2 : w3.cell? ⟨g1, 2, none⟩ = some (.slice A2 l2.length c2) := (blk_cell BK1.out.blk 2).trans rfl; have zBK1_3 : w3.cell? ⟨g1, 3, none⟩ = some (.string a3) := (blk_cell BK1.out.blk 3).trans rfl) | (refine Mp.putI_ev rfl (.inr rfl) (s := ⟨#[82]⟩) (v := 1) rfl rfl rfl (WalkArith.wf_i64 (by omega)) (by decide) (by unfold maxLen; omega) (M19.out.below (by repeat (first | (with_reducible first | exact Below.refl _ _ | apply below_alloc | apply pw_below_drewN | apply below_drew1) | exact Below.refl _ _))) ?_; intro w4 hM hg_; clear zBK1_0 zBK1_1 zBK1_2 zBK1_3; have n_BK1 := Aside0.mk ((BK1.out.below (by repeat (first | (with_reducible first | exact Below.refl _ _ | apply below_alloc | apply pw_below_drewN | apply below_drew1) | exact Below.refl _ _))).mputI (M19.out.below (by repeat (first | (with_reducible first | exact Below.refl _ _ | apply below_alloc | apply pw_below_drewN | apply below_drew1) | exact Below.refl _ _))) hg_); have n_HB := Aside0.mk ((below_step HB.out (by repeat (first | (with_reducible first | exact Below.refl _ _ | apply below_alloc | apply pw_below_drewN | apply below_drew1) | exact Below.refl _ _))).grown hg_ (below_size (below_step HB.out (by repeat (first | (with_reducible first | exact Below.refl _ _ | apply below_alloc | apply pw_below_drewN | apply below_drew1) | exact Below.refl _ _)))) (fun k hk => (by cases hk; exact GE19.out))); clear HB BK1 M19; have BK1 := n_BK1; have HB := n_HB; have M19 := Aside0.mk hM; clear hM hg_ n_BK1 n_HB; have zBK1_0 : w4.cell? ⟨g1, 0, none⟩ = some (.string a0) := (blk_cell BK1.out.blk 0).trans rfl; have zBK1_1 : w4.cell? ⟨g1, 1, none⟩ = some (.slice A1 l1.length c1) := (blk_cell BK1.out.blk 1).trans rfl; have zBK1_2 : w4.cell? ⟨g1, 2, none⟩ = some (.slice A2 l2.length c2) := (blk_cell BK1.out.blk 2).trans rfl; have zBK1_3 : w4.cell? ⟨g1, 3, none⟩ = some (.string a3) := (blk_cell BK1.out.blk 3).trans rfl) | ((with_reducible refine gate_dst (N := 6) rfl ?_); refine Evt.box1 ?hg1_ (N := 6) ?hd1_ (z := .map none) (v := .map (some b19)) (T := 44) ?hr1_ ?hg21_ ?hd21_ ?hr21_ ?_; (case hd1_ => rfl); (case hg1_ => rfl); (case hr1_ => first | (go_simp; done) | (go_simp; rfl)); (case hg21_ => rfl); (case hd21_ => rfl); (case hr21_ => first | (go_simp; done) | (go_simp; rfl)); intro g6 hg w5 hbox hb; have hbx : Below w4.heap.size w4 w5 := below_step (by repeat (first | (with_reducible first | exact Below.refl _ _ | apply below_alloc | apply pw_below_drewN | apply below_drew1) | exact Below.refl _ _)) hb; have GG6 := Aside0.mk (show w2.heap.size ≤ g6 from (by rw [hg]; exact below_size (below_step HB.out (by repeat (first | (with_reducible first | exact Below.refl _ _ | apply below_alloc | apply pw_below_drewN | apply below_drew1) | exact Below.refl _ _))))); clear zBK1_0 zBK1_1 zBK1_2 zBK1_3; have n_BK1 := Aside0.mk (BK1.out.below hbx); have n_M19 := Aside0.mk (M19.out.below hbx); have n_HB := Aside0.mk (below_step HB.out hbx); clear HB BK1 M19; have BK1 := n_BK1; have M19 := n_M19; have HB := n_HB; clear hbx n_BK1 n_M19 n_HB; have BK6 := Aside0.mk (Bk.mk (hbox : Blk w5 g6 44 #[.map (some b19)])); clear hbox hg hb; have zBK1_0 : w5.cell? ⟨g1, 0, none⟩ = some (.string a0) := (blk_cell BK1.out.blk 0).trans rfl; have zBK1_1 : w5.cell? ⟨g1, 1, none⟩ = some (.slice A1 l1.length c1) := (blk_cell BK1.out.blk 1).trans rfl; have zBK1_2 : w5.cell? ⟨g1, 2, none⟩ = some (.slice A2 l2.length c2) := (blk_cell BK1.out.blk 2).trans rfl; have zBK1_3 : w5.cell? ⟨g1, 3, none⟩ = some (.string a3) := (blk_cell BK1.out.blk 3).trans rfl; have zBK6_0 : w5.cell? ⟨g6, 0, none⟩ = some (.map (some b19)) := (blk_cell BK6.out.blk 0).trans rfl) | ((with_reducible refine gate_callee (f := 59) rfl ?_); refine goesL_ (some 22) rfl rfl Try.func59 (by kernel_rfl) rfl #[.slice Y1 r.length y1] rfl (by (try simp only [List.map_toArray, List.map_cons, List.map_nil]); first | done | rfl | (simp only [List.length_drop, List.length_take]; rfl)) ?_; (with_reducible refine (bwd_any Y1 r.length y1 _).mono ?_); rintro e w6 ⟨g, rfl, hbk, hb⟩; have hbx : Below w5.heap.size w5 w6 := below_step (by repeat (first | (with_reducible first | exact Below.refl _ _ | apply below_alloc | apply pw_below_drewN | apply below_drew1) | exact Below.refl _ _)) hb; clear zBK1_0 zBK1_1 zBK1_2 zBK1_3 zBK6_0; have n_BK1 := Aside0.mk (BK1.out.below hbx); have n_M19 := Aside0.mk (M19.out.below hbx); have n_BK6 := Aside0.mk (BK6.out.below hbx); have n_HB := Aside0.mk (below_step HB.out hbx); clear HB BK1 M19 BK6; have BK1 := n_BK1; have M19 := n_M19; have BK6 := n_BK6; have HB := n_HB; clear hbx n_BK1 n_M19 n_BK6 n_HB; have BV := Aside0.mk (hbk); clear hb; clear hbk; have zBK1_0 : w6.cell? ⟨g1, 0, none⟩ = some (.string a0) := (blk_cell BK1.out.blk 0).trans rfl; have zBK1_1 : w6.cell? ⟨g1, 1, none⟩ = some (.slice A1 l1.length c1) := (blk_cell BK1.out.blk 1).trans rfl; have zBK1_2 : w6.cell? ⟨g1, 2, none⟩ = some (.slice A2 l2.length c2) := (blk_cell BK1.out.blk 2).trans rfl; have zBK1_3 : w6.cell? ⟨g1, 3, none⟩ = some (.string a3) := (blk_cell BK1.out.blk 3).trans rfl; have zBK6_0 : w6.cell? ⟨g6, 0, none⟩ = some (.map (some b19)) := (blk_cell BK6.out.blk 0).trans rfl; refine ⟨_, rfl, ?_⟩))
  have BN : g1 < w2.heap.size := G1.out
  have HB6 := Aside0.mk HB.out
  have S6 : w2.heap.size ≤ w6.heap.size := below_size HB.out
  have I0 : Cj w2 g6 b19 (es l1) [] w6 := ⟨1, by simp, HB.out, BK6.out, M19.out⟩
  have CE : encPN = fun x : PN => #[.int .i64 x.1.1, .string x.1.2] := rfl
  rw [← wpIn_wide (n := 5)]
  refine wpIn_rangeFunc_ownG (α := PN) (encs := encPN) (Kp := Kq w2.heap.size g) (S := fun ys => ys = (withN r SZr).reverse) (Sp := fun pre => pre <+: (withN r SZr).reverse) (N := r.length) (w0 := w6) rfl (by omega) (gf := 65) (lb := #[.pointer (some ⟨g, 0, none⟩)]) rfl trivial (enters_of Try.func65 (by kernel_rfl) rfl)
    (fun l J Jx W hW _ _ hY h0 => bw1_in 4 (by omega) l g w2.heap.size Y1 y1 r SZr LNr J Jx hY W (BV.out.below hW) (fun W' hb' => RW.out.below ((below_step HB.out hW).trans hb'.bel)) h0)
    Kq.trans (Kq.put S6 BV.out.blk.lt) (Below.refl _ _) (fun _ => rfl) (Cj w2 g6 b19 (es l1)) (fun _ _ _ => False) (Cj.own BK6.out.blk.lt M19.out.lt S6) (fun _ _ _ _ _ hs _ _ => hs) I0
    (fun x => { tmps := #[.agg #[.string a0, .slice A1 l1.length c1, .slice A2 l2.length c2, .string a3], .pointer (some ⟨g1, 0, none⟩), .int .i64 0, .int .i64 0, .slice Y1 r.length y1, .int .i64 0, .pointer (some ⟨g6, 0, none⟩), undef, .string x.1.2, undef, undef, .tuple #[.slice Y1 r.length y1, .int .i64 0], .agg #[.string a0, .slice A1 l1.length c1, .slice A2 l2.length c2, .string a3], .tuple #[.slice Y1 r.length y1, .int .i64 0], .slice Y1 r.length y1, .int .i64 0, .int .i64 0, .bool false, undef, .map (some b19), .map (some b19), .slice Y1 r.length y1, .func (.func 65) #[] #[.pointer (some ⟨g, 0, none⟩)], .int .i64 x.1.1, .string x.1.2, undef, undef, undef, undef, undef, undef, undef, undef, undef, undef, undef, undef, undef, undef, undef, undef, undef, undef, undef, undef, undef, undef, undef, undef, undef, undef, undef, undef], defers := [] }) ?assign ?body ?done ?stop
  case assign =>
    intro l x W K hK
    gi_wp2
    exact hK
  case stop =>
    rintro D c pre W _ _ h _
    exact h.elim
  case done =>
    rintro D ys W hD rfl ⟨kk, hkk, hC⟩ hK
    have e1 : (((withN r SZr).reverse.map fun x => x.1.2)) = r.reverse := withN_names r SZr
    rw [e1] at hC
    have HC := Aside0.mk hC
    have y6 := hC.bx.blk.cell 0 rfl
    clear hC e1
    have sL_ := Mp.MI.look HC.out.m (s := ⟨#[76]⟩) (by decide)
    have NT' : (ntab (es l1) r.reverse ⟨#[76]⟩).getD 0 = capN (Bw (es l1) sR sL) := NT.out
    rw [NT'] at sL_
    clear NT'
    go_wp2
    refine ⟨by simp, .inl ⟨_, _, rfl, run_takeDeferred hK, ?_⟩⟩
    refine ⟨_, results_tmp2 rfl _ _ _, rfl, ?_⟩
    refine below_step HB0.out (HC.out.bel.trans ?_)
    exact belowK_b (w := w2) (Nat.le_refl _) W D _ _ (Nat.le_trans S6 hD) hK rfl rfl
  case body =>
    rintro l pre x W ⟨kk, hkk, hC⟩ hlt
    obtain ⟨⟨ix, x⟩, hxs⟩ := x
    have hxz : x.size ≤ 100000 := hxs
    have XZ := Aside0.mk hxz
    have XM : Aside0 (x.size ≤ maxLen) := ⟨by unfold maxLen; omega⟩
    have PL : pre.length ≤ 1000000 := by omega
    have HCW := Aside0.mk hC
    have LN : l1.length ≤ 1000 := by have := okG_len OK.out; rw [es_len] at this; exact this
    have NN : Aside0 ((outL (es l1) x).length ≤ 1000) := Aside0.mk (by have := idxs_len (fun c => decide (c.1 = x)) (es l1); rw [es_len] at this; unfold outL; omega)
    have TB := Aside0.mk (ntab_bd (es l1) (pre.map fun x => x.1.2))
    have HK0 := Aside0.mk hkk
    have E2 : Aside0 ((pre ++ [(⟨(ix, x), hxs⟩ : PN)]).map (fun x : PN => x.1.2) = pre.map (fun x : PN => x.1.2) ++ [x]) := ⟨by simp⟩
    generalize hq : ntab (es l1) (pre.map fun x => x.1.2) = q0 at HCW TB hC
    have HQ := Aside0.mk hq
    have HB := Aside0.mk (Below.refl W.heap.size W)
    have CC := Aside0.mk (hC)
    have RG := Aside0.mk (R2.out.below hC.bel)
    have KR : Aside0 (Bk W g1 25 #[.string a0, .slice A1 l1.length c1, .slice A2 l2.length c2, .string a3]) := Aside0.mk (B12.out.below hC.bel)
    clear hC
    clear zBK1_0 zBK1_1 zBK1_2 zBK1_3 zBK6_0 hq hkk hlt
    have zKR_0 : W.cell? ⟨g1, 0, none⟩ = some (.string a0) := (blk_cell KR.out.blk 0).trans rfl
    have zKR_1 : W.cell? ⟨g1, 1, none⟩ = some (.slice A1 l1.length c1) := (blk_cell KR.out.blk 1).trans rfl
    have zKR_2 : W.cell? ⟨g1, 2, none⟩ = some (.slice A2 l2.length c2) := (blk_cell KR.out.blk 2).trans rfl
    have zKR_3 : W.cell? ⟨g1, 3, none⟩ = some (.string a3) := (blk_cell KR.out.blk 3).trans rfl
    gi_wp2_with ((refine ⟨trivial, ?_⟩; gi_at_call 21; (with_reducible refine (CallsIn.inRound l (callsIn_wide.2 (outgoing_any _ (RG.out.below (by repeat (first | (with_reducible first | exact Below.refl _ _ | apply below_alloc | apply pw_below_drewN | apply below_drew1) | exact Below.refl _ _))) LN x))).mono ?_); rintro e w1 ⟨v, rfl, ho, hb⟩; have hbx : Below W.heap.size W w1 := below_step (by repeat (first | (with_reducible first | exact Below.refl _ _ | apply below_alloc | apply pw_below_drewN | apply below_drew1) | exact Below.refl _ _)) hb; have hb0_ := hbx; obtain ⟨A_, c_, rfl, _⟩ := Ro.sliceI ho; have ho_ := Ro.lower ho (below_size (below_step HB.out (by repeat (first | (with_reducible first | exact Below.refl _ _ | apply below_alloc | apply pw_below_drewN | apply below_drew1) | exact Below.refl _ _)))); clear zKR_0 zKR_1 zKR_2 zKR_3; have n_CC := Aside0.mk (CC.out.below hbx); have n_RG := Aside0.mk (RG.out.below hbx); have n_KR := Aside0.mk (KR.out.below hbx); have n_HB := Aside0.mk (below_step HB.out hbx); clear HB CC RG KR; have CC := n_CC; have RG := n_RG; have KR := n_KR; have HB := n_HB; clear hbx n_CC n_RG n_KR n_HB; have IW := Aside0.mk (ho_); clear hb; have HB1 := Aside0.mk hb0_; clear ho ho_ hb0_; have zKR_0 : w1.cell? ⟨g1, 0, none⟩ = some (.string a0) := (blk_cell KR.out.blk 0).trans rfl; have zKR_1 : w1.cell? ⟨g1, 1, none⟩ = some (.slice A1 l1.length c1) := (blk_cell KR.out.blk 1).trans rfl; have zKR_2 : w1.cell? ⟨g1, 2, none⟩ = some (.slice A2 l2.length c2) := (blk_cell KR.out.blk 2).trans rfl; have zKR_3 : w1.cell? ⟨g1, 3, none⟩ = some (.string a3) := (blk_cell KR.out.blk 3).trans rfl))
    have GB : g ≠ b19 := M19.out.ne BV.out.blk
    have MB_ : b19 < w6.heap.size := M19.out.lt
    have D0 : Aside0 (Di w2 w6 W g g6 b19 kk ((sucL (es l1) x).take 0) x q0 w1) := Aside0.mk ⟨⟨kk, by simp, CC.out⟩, keeps_of_below HB1.out, Kq.of_below HB1.out HCW.out.bel.size⟩
    have IW0 := IW
    clear CC HB HB1 KR IW zKR_0 zKR_1 zKR_2 zKR_3 RG
    gi_loopg [29] (outL (es l1) x).length (fun kq v29 wr => ∃ j : Nat, v29 = .int .i64 j ∧ Aside0 (j + kq = (outL (es l1) x).length) ∧ Aside0 (Di w2 w6 W g g6 b19 kk ((sucL (es l1) x).take j) x q0 wr ∧ Ro (Kd.int .i64) 3 W wr (.slice A_ (outL (es l1) x).length c_) (outL (es l1) x)))
    case atStart => exact ⟨0, rfl, ⟨by omega⟩, ⟨D0.out, IW0.out⟩⟩
    case round =>
      clear D0 IW0
      obtain ⟨j, rfl, hj, HD⟩ := hrel
      cases gk with
      | zero =>
        have e0 : j = (outL (es l1) x).length := by have := hj.out; omega
        have q0_ : decide (j < (outL (es l1) x).length) = false := decide_eq_false (by omega)
        have q1_ : decide ((j : Int) < ((outL (es l1) x).length : Int)) = false := decide_eq_false (by omega)
        have TE : (sucL (es l1) x).take j = sucL (es l1) x := List.take_of_length_le (by unfold sucL; rw [List.length_map]; omega)
        have TE' := Aside0.mk TE
        clear e0 TE
        gi_wp2
        obtain ⟨⟨⟨k9, hk9, hC9⟩, hkf, hkq⟩, _⟩ := HD.out
        rw [TE'.out] at hC9 hk9
        refine ⟨hkf, hkq, k9, ?_, ?_⟩
        · have h1 := HK0.out
          have h2 : (sucL (es l1) x).length ≤ 1000 := by unfold sucL; rw [List.length_map]; exact NN.out
          simp only [List.length_append, List.length_singleton]
          omega
        · rw [E2.out, ntab_snoc, HQ.out]; exact hC9
      | succ k1 =>
        have hjl : j < (outL (es l1) x).length := by have := hj.out; omega
        have q0_ : decide (j < (outL (es l1) x).length) = true := decide_eq_true (by omega)
        have q1_ : decide ((j : Int) < ((outL (es l1) x).length : Int)) = true := decide_eq_true (by omega)
        obtain ⟨m, hm, hml⟩ : ∃ m : Nat, (outL (es l1) x)[j] = (m : Int) ∧ m < l1.length := by
          obtain ⟨m, hm, hl, _⟩ := outL_mem.1 (List.getElem_mem hjl)
          exact ⟨m, hm, by rw [es_len] at hl; exact hl⟩
        have p0 : decide (m < l1.length) = true := decide_eq_true hml
        have p1 : decide ((m : Int) < (l1.length : Int)) = true := decide_eq_true (by omega)
        obtain ⟨ad, rfl, x0⟩ := at_int0 (Rw.of_R HD.out.2.row).row (j : Int) (by omega) (by omega)
        rw [Int.toNat_natCast, show rd (outL (es l1) x) (j : Int) = (m : Int) by rw [← hm]; simp [rd, List.getD_eq_getElem?_getD, List.getElem?_eq_getElem hjl]] at x0
        have ST := Aside0.mk (show (sucL (es l1) x).take (j + 1) = (sucL (es l1) x).take j ++ [l1[m].f3] by unfold sucL; rw [List.take_succ_eq_append_getElem (by rw [List.length_map]; exact hjl), List.getElem_map, hm, to_at hml])
        have SL : Aside0 (((sucL (es l1) x).take j).length ≤ 1000) := ⟨by rw [List.length_take]; have := NN.out; have h9 : (sucL (es l1) x).length = (outL (es l1) x).length := (by unfold sucL; rw [List.length_map]); omega⟩
        have C3 := Aside0.mk (okG_f3 OK.out (c := (l1[m].f2, l1[m].f3)) (by rw [← es_get hml]; exact List.getElem_mem _))
        clear hm
        generalize hts : (sucL (es l1) x).take j = ts at ST SL HD
        clear hts
        obtain ⟨ad2, rfl, _⟩ := R2.out.at hml
        have NN9 : (outL (es l1) x).length ≤ 1000 := NN.out
        by_cases hx : x = ⟨#[82]⟩
        · subst hx
          gi_wp2
          gi_roundg k1
          case measure => omega
          case rel =>
            obtain ⟨⟨⟨k9, hk9, hC9⟩, hkf, hkq⟩, hio⟩ := HD.out
            have e9 : (ts ++ [l1[m].f3]).foldl (updT ⟨#[82]⟩) q0 = ts.foldl (updT ⟨#[82]⟩) q0 := (foldR _ _).trans (foldR _ _).symm
            exact ⟨j + 1, by go_num, ⟨by have := hj.out; omega⟩, ⟨by rw [ST.out]; exact ⟨⟨k9, by simp; omega, by rw [e9]; exact hC9⟩, hkf, hkq⟩, hio⟩⟩
        · have hx1 : (x.toList == ([82] : List UInt8)) = false := beq_eq_false_iff_ne.mpr (fun e => hx (str_eq.1 (e.trans (by decide +kernel))))
          have hx2 : (x.toList != ([82] : List UInt8)) = true := by rw [bne, hx1]; rfl
          have HX := Aside0.mk hx
          clear hx
          gi_wp2
          clear hx1 hx2
          obtain ⟨⟨⟨k9, hk9, hC9⟩, hkf, hkq⟩, hio⟩ := HD.out
          have TB9 := Aside0.mk (foldT_bd (x := x) ts q0 TB.out)
          have FX : Aside0 ((fun y => if y = x then some (min 1073741824 ((ts.foldl (updT x) q0 x).getD 0 + (ts.foldl (updT x) q0 l1[m].f3).getD 0)) else ts.foldl (updT x) q0 y) = (ts ++ [l1[m].f3]).foldl (updT x) q0) := ⟨by rw [List.foldl_append, List.foldl_cons, List.foldl_nil]; exact (if_neg HX.out).symm⟩
          generalize hqn : ts.foldl (updT x) q0 = qn at hC9 TB9 FX
          clear hqn
          obtain ⟨v1, hv1⟩ : ∃ v1, Aside0 ((qn x).getD 0 = v1) := ⟨_, ⟨rfl⟩⟩
          obtain ⟨v2, hv2⟩ : ∃ v2, Aside0 ((qn l1[m].f3).getD 0 = v2) := ⟨_, ⟨rfl⟩⟩
          have b1 := TB9.out x
          have b2 := TB9.out l1[m].f3
          rw [hv1.out] at b1
          rw [hv2.out] at b2
          rw [hv1.out, hv2.out] at FX
          obtain ⟨b1l, b1u⟩ := b1
          obtain ⟨b2l, b2u⟩ := b2
          have hw : wrap64 (v1 + v2) = v1 + v2 := by unfold wrap64; omega
          have eM : min 1073741824 (v1 + v2) = if v1 + v2 < 1073741824 then v1 + v2 else 1073741824 := by split <;> omega
          rw [eM] at FX
          have WF9 : Aside0 ((Lit.int .i64 (if v1 + v2 < 1073741824 then v1 + v2 else 1073741824)).wf = true) := ⟨WalkArith.wf_i64 (by split <;> omega)⟩
          clear eM
          have KK9 : Aside0 (k9 < maxLen) := ⟨by have := HK0.out; have := SL.out; unfold maxLen; omega⟩
          have hk9' := Aside0.mk hk9
          have WS9 := Aside0.mk hC9.bel.size
          have KF9 := Aside0.mk (And.intro hkf (And.intro hkq hio))
          clear hk9 hkf hkq hio HD
          have HB := Aside0.mk (Below.refl wr.heap.size wr)
          have CC := Aside0.mk (hC9)
          have MR := Aside0.mk (hC9.m)
          have RG := Aside0.mk (R2.out.below hC9.bel)
          have KS : Aside0 (Bk wr g1 25 #[.string a0, .slice (some ad2) l1.length c1, .slice A2 l2.length c2, .string a3]) := Aside0.mk (B12.out.below hC9.bel)
          have K6 : Aside0 (Bk wr g6 44 #[.map (some b19)]) := Aside0.mk (hC9.bx)
          clear hC9
          have zKS_0 : wr.cell? ⟨g1, 0, none⟩ = some (.string a0) := (blk_cell KS.out.blk 0).trans rfl
          have zKS_1 : wr.cell? ⟨g1, 1, none⟩ = some (.slice (some ad2) l1.length c1) := (blk_cell KS.out.blk 1).trans rfl
          have zKS_2 : wr.cell? ⟨g1, 2, none⟩ = some (.slice A2 l2.length c2) := (blk_cell KS.out.blk 2).trans rfl
          have zKS_3 : wr.cell? ⟨g1, 3, none⟩ = some (.string a3) := (blk_cell KS.out.blk 3).trans rfl
          have zK6_0 : wr.cell? ⟨g6, 0, none⟩ = some (.map (some b19)) := (blk_cell K6.out.blk 0).trans rfl
          have KP : Aside0 (∀ w', Below wr.heap.size wr w' → (w'.cell? ⟨g1, 0, none⟩ = some (.string a0) ∧ w'.cell? ⟨g1, 1, none⟩ = some (.slice (some ad2) l1.length c1) ∧ w'.cell? ⟨g1, 2, none⟩ = some (.slice A2 l2.length c2) ∧ w'.cell? ⟨g1, 3, none⟩ = some (.string a3) ∧ w'.cell? ⟨g6, 0, none⟩ = some (.map (some b19)))) := Aside0.mk (fun w' hb => ⟨(blk_cell (KS.out.below hb).blk 0).trans rfl, (blk_cell (KS.out.below hb).blk 1).trans rfl, (blk_cell (KS.out.below hb).blk 2).trans rfl, (blk_cell (KS.out.below hb).blk 3).trans rfl, (blk_cell (K6.out.below hb).blk 0).trans rfl⟩)
          clear zKS_0 zKS_1 zKS_2 zKS_3 zK6_0
          refine Evt.ol_startIn (by kernel_rfl) (by rintro ⟨a_, w_, h_⟩; exact (show False from h_)) (ds := [15]) (w0 := wr) (T := (true, [([], []), ([], []), ([], []), ([], []), ([2, 3], [2, 3]), ([], []), ([], []), ([6], [6]), ([], []), ([7, 8], [7, 8]), ([9], [9]), ([10], [10]), ([5, 11], [5, 11]), ([4, 12], [4, 12]), ([13], [13]), ([0, 1, 14, 0, 1, 2, 3, 4, 5, 6, 7, 8, 9, 10, 11, 12, 13, 14], [0, 1, 14])])) (B := [0, 0, 0, 0, 12, 0, 0, 64, 0, 448, 960, 1984, 4064, 8188, 16380, 32767]) 16 [(1, some 36), (3, some 38), (6, some 41), (8, some 43), (0, some 35), (2, some 37), (4, some 39), (5, some 40), (7, some 42), (9, some 44), (10, some 45), (11, some 46), (12, some 47), (13, some 48), (14, some 49), (15, none)] (by kernel_rfl) rfl (by kernel_rfl) (by kernel_rfl) (by kernel_rfl) (by repeat (first | (with_reducible first | exact Below.refl _ _ | apply below_alloc | apply pw_below_drewN | apply below_drew1) | exact Below.refl _ _)) ?_
          intro HT_ HW_ w_ hHeld
          iterate 6 (first | (refine Evt.ol_off (a' := ?_) HT_ rfl rfl (by rfl) (by kernel_rfl) (fun _ _ _ h => h) ?_ ?_; rotate_left; (· (try simp only [Act.put, List.setIfInBounds_toArray, List.set_cons_zero, List.set_cons_succ, i64_w, i32_w]); rfl)) | (refine Evt.ol_pure (a' := ?_) (v := ?_) HT_ rfl rfl rfl (by rfl) (by kernel_rfl) (fun _ _ _ h => h) ?_ ?_ ?_; rotate_left 2; (· intro w'; go_simp; with_reducible rfl); (· (try simp only [Act.put, List.setIfInBounds_toArray, List.set_cons_zero, List.set_cons_succ, i64_w, i32_w]); rfl)) | (refine Evt.ol_load (a' := ?_) (v := ?_) HT_ HW_ hHeld rfl rfl rfl (by rfl) (by kernel_rfl) (fun _ _ _ h => h) ?_ ?_ ?_; rotate_left 2; (· intro w' hS_; obtain ⟨s0, s1, s2, s3, s4⟩ := KP.out w' hS_.out; have y4 := (RG.out.below hS_.out).c4 hml; go_simp; with_reducible rfl); (· (try simp only [Act.put, List.setIfInBounds_toArray, List.set_cons_zero, List.set_cons_succ, i64_w, i32_w]); rfl)))
          refine Evt.ol_lookI (a' := ?a2_) HT_ HW_ hHeld rfl rfl rfl (by rfl) (by kernel_rfl) (fun _ _ _ _ h => h) (s := x) (v := v1) (fun w_' hS_ => MR.out.below hS_.out) XM.out hv1.out rfl rfl ?ha2_ ?h2_
          case ha2_ => (simp only [Act.put, List.setIfInBounds_toArray, List.set_cons_zero, List.set_cons_succ, i64_w, i32_w]; rfl)
          iterate 5 (first | (refine Evt.ol_off (a' := ?_) HT_ rfl rfl (by rfl) (by kernel_rfl) (fun _ _ _ h => h) ?_ ?_; rotate_left; (· (try simp only [Act.put, List.setIfInBounds_toArray, List.set_cons_zero, List.set_cons_succ, i64_w, i32_w]); rfl)) | (refine Evt.ol_pure (a' := ?_) (v := ?_) HT_ rfl rfl rfl (by rfl) (by kernel_rfl) (fun _ _ _ h => h) ?_ ?_ ?_; rotate_left 2; (· intro w'; go_simp; with_reducible rfl); (· (try simp only [Act.put, List.setIfInBounds_toArray, List.set_cons_zero, List.set_cons_succ, i64_w, i32_w]); rfl)) | (refine Evt.ol_load (a' := ?_) (v := ?_) HT_ HW_ hHeld rfl rfl rfl (by rfl) (by kernel_rfl) (fun _ _ _ h => h) ?_ ?_ ?_; rotate_left 2; (· intro w' hS_; obtain ⟨s0, s1, s2, s3, s4⟩ := KP.out w' hS_.out; have y4 := (RG.out.below hS_.out).c4 hml; go_simp; with_reducible rfl); (· (try simp only [Act.put, List.setIfInBounds_toArray, List.set_cons_zero, List.set_cons_succ, i64_w, i32_w]); rfl)))
          refine Evt.ol_lookI (a' := ?a3_) HT_ HW_ hHeld rfl rfl rfl (by rfl) (by kernel_rfl) (fun _ _ _ _ h => h) (s := l1[m].f3) (v := v2) (fun w_' hS_ => MR.out.below hS_.out) (by have := C3.out; unfold maxLen; show l1[m].f3.size ≤ _; omega) hv2.out rfl rfl ?ha3_ ?h3_
          case ha3_ => (simp only [Act.put, List.setIfInBounds_toArray, List.set_cons_zero, List.set_cons_succ, i64_w, i32_w]; rfl)
          iterate 2 (first | (refine Evt.ol_off (a' := ?_) HT_ rfl rfl (by rfl) (by kernel_rfl) (fun _ _ _ h => h) ?_ ?_; rotate_left; (· (try simp only [Act.put, List.setIfInBounds_toArray, List.set_cons_zero, List.set_cons_succ, i64_w, i32_w]); rfl)) | (refine Evt.ol_pure (a' := ?_) (v := ?_) HT_ rfl rfl rfl (by rfl) (by kernel_rfl) (fun _ _ _ h => h) ?_ ?_ ?_; rotate_left 2; (· intro w'; go_simp; with_reducible rfl); (· (try simp only [Act.put, List.setIfInBounds_toArray, List.set_cons_zero, List.set_cons_succ, i64_w, i32_w]); rfl)) | (refine Evt.ol_load (a' := ?_) (v := ?_) HT_ HW_ hHeld rfl rfl rfl (by rfl) (by kernel_rfl) (fun _ _ _ h => h) ?_ ?_ ?_; rotate_left 2; (· intro w' hS_; obtain ⟨s0, s1, s2, s3, s4⟩ := KP.out w' hS_.out; have y4 := (RG.out.below hS_.out).c4 hml; go_simp; with_reducible rfl); (· (try simp only [Act.put, List.setIfInBounds_toArray, List.set_cons_zero, List.set_cons_succ, i64_w, i32_w]); rfl)))
          refine Evt.ol_putI HT_ rfl rfl (by simp) (by kernel_rfl) (by rfl) rfl (s := x) (v := (if v1 + v2 < 1073741824 then v1 + v2 else 1073741824)) rfl rfl rfl WF9.out XM.out KK9.out (MR.out.below hHeld.out) ?_
          intro w1 hM_ hg_
          refine Evt.ol_done HT_ (by kernel_rfl) ?_
          have CP := Aside0.mk (CC.out.below hHeld.out)
          have RP := Aside0.mk (KF9.out.2.2.below hHeld.out)
          have HH := Aside0.mk hHeld.out
          clear hHeld CC MR RG KS K6
          clear HT_ HW_ KP
          rw [FX.out] at hM_
          have RI := Aside0.mk (RP.out.mputI CP.out.m hg_)
          have CP2 := Aside0.mk (CP.out.put GE19.out hM_ hg_)
          have KF2 := Aside0.mk (KF9.out.1.trans ((keeps_of_below HH.out).trans (KeepsFrom.of_grownBy hg_ (fun j e => by cases e; exact MB_))))
          have KQ2 := Aside0.mk (KF9.out.2.1.trans ((Kq.of_below HH.out WS9.out).trans (Kq.of_grown hg_ (Nat.le_trans WS9.out HH.out.size) GE19.out GB)))
          clear hM_ hg_ CP RP HH HB FX KF9 hv1 hv2 TB9 b1l b1u b2l b2u hw WF9
          generalize (if v1 + v2 < 1073741824 then v1 + v2 else 1073741824) = v3
          gi_wp2
          gi_roundg k1
          case measure => omega
          case rel => exact ⟨j + 1, by go_num, ⟨by have := hj.out; omega⟩, ⟨by rw [ST.out]; exact ⟨⟨k9 + 1, by have := hk9'.out; simp; omega, CP2.out⟩, KF2.out, KQ2.out⟩, RI.out⟩⟩
/-- What CountPaths answers. -/
theorem count_any (w : World) (h : Rg w A1 c1 l1 A2 c2 l2) (hok : okG (es l1) = true) {x y : Int} (hc : countL (es l1) = (x, y)) :
    Calls Try.prog 37 #[.agg #[.string a0, .slice A1 l1.length c1, .slice A2 l2.length c2, .string a3]] w fun e w' => e = .returned (.tuple #[.int .i64 x, .int .i64 y]) ∧ Below w.heap.size w w' := by
  have e1 : x = (countL (es l1)).1 := by rw [hc]
  have e2 : y = (countL (es l1)).2 := by rw [hc]
  rw [e1, e2]
  cases ht : topo (es l1) with
  | none => exact count_none w h hok ht
  | some r => exact count_some w h hok ht
end
end Go.Proofs.Ytmacdknicgfglaa.Gw
