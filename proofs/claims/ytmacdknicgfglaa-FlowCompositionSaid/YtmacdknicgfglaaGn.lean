/- graph.Nodes, walked. -/
import Derived.Test.YtmacdknicgfglaaGp
import Derived.Test.YtmacdknicgfglaaMp
import Derived.Test.YtmacdknicgfglaaEv2
import Derived.Test.YtmacdknicgfglaaRo
import Derived.Test.YtmacdknicgfglaaIm0
namespace Go.Proofs.Ytmacdknicgfglaa.Gw
open Go.RowKit Go.Proofs.YtmacdknicgfglaaW.PrintWords Go.Proofs.YtmacdknicgfglaaW.PrintMore Go.Proofs.YtmacdknicgfglaaW.PrintLast Go.Proofs.Ytmacdknicgfglaa.Chg Go.Proofs.Ytmacdknicgfglaa.Evt Go.Proofs.Ytmacdknicgfglaa.Impl Go.Proofs.Ytmacdknicgfglaa.Gp Go.Proofs.Ytmacdknicgfglaa.Mp
set_option linter.unusedVariables false
set_option linter.unusedSimpArgs false
set_option maxRecDepth 100000
/-- A rung's contacts, as edges. -/
def es (l : List S41) : List Ed := l.map fun c => (c.f2, c.f3)
/-- A rung at hand. -/
structure Rg (w : World) (A1 : Option Addr) (c1 : Nat) (l1 : List S41) (A2 : Option Addr) (c2 : Nat) (l2 : List S101) : Prop where
  r1 : Kd.C k41 w A1 l1.length l1
  h1 : l1.length ≤ c1
  r2 : Kd.C k101 w A2 l2.length l2
  h2 : l2.length ≤ c2
section
variable {w w' : World} {A1 A2 : Option Addr} {c1 c2 b n : Nat} {l1 : List S41} {l2 : List S101} {a0 a3 : ByteArray}
theorem Rg.below (h : Rg w A1 c1 l1 A2 c2 l2) (hb : Below w.heap.size w w') : Rg w' A1 c1 l1 A2 c2 l2 := ⟨Kd.C_below h.r1 hb, h.h1, Kd.C_below h.r2 hb, h.h2⟩
/-- A contact's cells. -/
theorem Rg.at (h : Rg w A1 c1 l1 A2 c2 l2) {j : Nat} (hj : j < l1.length) : ∃ ad, A1 = some ad ∧ w.cell? (ad.add (j * 5)) = some (.int .i64 l1[j].f0) ∧ w.cell? ⟨(ad.add (j * 5)).block, (ad.add (j * 5)).off + 1, none⟩ = some (.int .i64 l1[j].f1.f0) ∧ w.cell? ⟨(ad.add (j * 5)).block, (ad.add (j * 5)).off + 2, none⟩ = some (.int .i64 l1[j].f1.f1) ∧ w.cell? ⟨(ad.add (j * 5)).block, (ad.add (j * 5)).off + 3, none⟩ = some (.string l1[j].f2) ∧ w.cell? ⟨(ad.add (j * 5)).block, (ad.add (j * 5)).off + 4, none⟩ = some (.string l1[j].f3) := by
  obtain ⟨ad, e, h0, h1, h2, h3, h4⟩ := at_T41 h.r1 (j : Int) (by omega) (by omega)
  have e1 : rd_T41 l1 (j : Int) = l1[j] := by simp [rd_T41, List.getD_eq_getElem?_getD, List.getElem?_eq_getElem hj]
  rw [e1, Int.toNat_natCast] at h0 h1 h2 h3 h4
  exact ⟨ad, e, h0, h1, h2, h3, h4⟩
theorem es_len (l : List S41) : (es l).length = l.length := by simp [es]
theorem es_get {l : List S41} {j : Nat} (h : j < l.length) : (es l)[j]'(by rw [es_len]; exact h) = (l[j].f2, l[j].f3) := by simp [es]
theorem es_take (l : List S41) (j : Nat) : es (l.take j) = (es l).take j := by simp [es, List.map_take]
/-- The names so far: their row, and the map that tells which they are. -/
structure Nd (w0 w : World) (v : Value) (b : Nat) (acc : List ByteArray) : Prop where
  row : Kd.R Kd.string 9 w w0.heap.size (fun _ => True) v acc
  map : MB w b acc.length (fun s => decide (s ∈ acc))
  bel : Below w0.heap.size w0 w
  hb : w0.heap.size ≤ b
theorem Nd.below {w0 : World} {v : Value} {acc : List ByteArray} (h : Nd w0 w v b acc) (hb : Below w.heap.size w w') : Nd w0 w' v b acc := ⟨Kd.R_below h.row hb, h.map.below hb, below_step h.bel hb, h.hb⟩
/-- The same beside a pair of names in block g, whose first i have been looked at. -/
structure Ni (w0 w : World) (v : Value) (b : Nat) (acc : List ByteArray) (g : Nat) (x y : ByteArray) : Prop where
  nd : Nd w0 w v b acc
  bk : Bk w g 9 #[.string x, .string y]
  ne : some g ≠ v.ownBlock
/-- The map knows s, the row does not yet. -/
structure Nj (w0 w : World) (v : Value) (b : Nat) (acc : List ByteArray) (s : ByteArray) (g : Nat) (x y : ByteArray) : Prop where
  row : Kd.R Kd.string 9 w w0.heap.size (fun _ => True) v acc
  map : MB w b (acc ++ [s]).length (fun z => decide (z ∈ acc ++ [s]))
  bel : Below w0.heap.size w0 w
  hb : w0.heap.size ≤ b
  bk : Bk w g 9 #[.string x, .string y]
  ne : some g ≠ v.ownBlock
theorem Ni.below {w0 : World} {v : Value} {acc : List ByteArray} {g : Nat} {x y : ByteArray} (h : Ni w0 w v b acc g x y) (hb : Below w.heap.size w w') : Ni w0 w' v b acc g x y := ⟨h.nd.below hb, h.bk.below hb, h.ne⟩
theorem Nj.below {w0 : World} {v : Value} {acc : List ByteArray} {s : ByteArray} {g : Nat} {x y : ByteArray} (h : Nj w0 w v b acc s g x y) (hb : Below w.heap.size w w') : Nj w0 w' v b acc s g x y := ⟨Kd.R_below h.row hb, h.map.below hb, below_step h.bel hb, h.hb, h.bk.below hb, h.ne⟩
theorem Nd.lt {w0 : World} {v : Value} {acc : List ByteArray} (h : Nd w0 w v b acc) {g : Nat} (hg : w.heap.size ≤ g) : some g ≠ v.ownBlock := fun e => by have := Kd.R_lt h.row g e.symm; omega
def adds (acc : List ByteArray) (l : List ByteArray) : List ByteArray := l.foldl addN acc
theorem Ni.at {w0 : World} {v : Value} {acc : List ByteArray} {g : Nat} {x y : ByteArray} {i : Nat} (h : Ni w0 w v b (adds acc ([x, y].take i)) g x y) (hi : i < 2) (hx : x.size ≤ 100000) (hy : y.size ≤ 100000) : ∃ s, w.cell? ⟨g, i, none⟩ = some (.string s) ∧ s.size ≤ maxLen ∧ adds acc ([x, y].take (i + 1)) = addN (adds acc ([x, y].take i)) s := by
  match i, hi with
  | 0, _ => exact ⟨x, h.bk.blk.cell 0 rfl, by unfold maxLen; omega, rfl⟩
  | 1, _ => exact ⟨y, h.bk.blk.cell 1 rfl, by unfold maxLen; omega, rfl⟩
theorem adds_len (acc : List ByteArray) : ∀ l : List ByteArray, (adds acc l).length ≤ acc.length + l.length := by
  intro l
  induction l generalizing acc with
  | nil => simp [adds]
  | cons s l ih =>
    have h1 := ih (addN acc s)
    have h2 := addN_len acc s
    simp only [adds, List.foldl_cons, List.length_cons] at h1 ⊢
    omega
theorem Ni.put {w0 w1 : World} {v : Value} {acc : List ByteArray} {s : ByteArray} {g : Nat} {x y : ByteArray} (h : Ni w0 w v b acc g x y) (hm : MB w1 b (acc.length + 1) (fun z => if z = s then true else decide (z ∈ acc))) (hg : w.grownBy w1 (some b)) : Nj w0 w1 v b acc s g x y := by
  refine ⟨R_other h.nd.row hg (.inl (h.nd.map.row h.nd.row)), ?_, h.nd.bel.grown hg h.nd.bel.size (fun k hk => by cases hk; exact h.nd.hb), h.nd.hb, h.bk.grown hg (fun e => h.nd.map.ne h.bk.blk (by injection e)), h.ne⟩
  rw [List.length_append, List.length_singleton]
  refine hm.congr (fun z => ?_)
  by_cases e : z = s
  · subst e; simp
  · simp [e]
theorem Nj.app {w0 w1 : World} {v v1 : Value} {acc : List ByteArray} {s : ByteArray} {g : Nat} {x y : ByteArray} (h : Nj w0 w v b acc s g x y) (hr : Kd.R Kd.string 9 w1 w0.heap.size (fun _ => True) v1 (acc ++ [s])) (hb : Below w0.heap.size w0 w1) (hg : w.grownBy w1 v.ownBlock) (hat : v1.ownBlock = v.ownBlock ∨ ∃ k, v1.ownBlock = some k ∧ w.heap.size ≤ k) : Ni w0 w1 v1 b (acc ++ [s]) g x y := by
  refine ⟨⟨hr, h.map.grown hg (h.map.row h.row), hb, h.hb⟩, h.bk.grown hg h.ne, ?_⟩
  rcases hat with e | ⟨k, e, hk⟩
  · rw [e]; exact h.ne
  · rw [e]
    intro e2
    injection e2 with e2
    have := h.bk.blk.lt
    omega
theorem adds_len2 (acc : List ByteArray) (x y : ByteArray) (i : Nat) : (adds acc ([x, y].take i)).length ≤ acc.length + 2 := by
  have h1 := adds_len acc ([x, y].take i)
  have h2 : ([x, y].take i).length ≤ 2 := by rw [List.length_take]; simp; omega
  omega
set_option maxHeartbeats 4000000 in
theorem nodes_any (w : World) (h : Rg w A1 c1 l1 A2 c2 l2) (hok : okG (es l1) = true) :
    Calls Try.prog 18 #[.agg #[.string a0, .slice A1 l1.length c1, .slice A2 l2.length c2, .string a3]] w fun e w' => ∃ v, e = .returned v ∧ Ro Kd.string 9 w w' v (nodesL (es l1)) ∧ Below w.heap.size w w' := by
  have HB := Aside0.mk (Below.refl w.heap.size w)
  have R := Aside0.mk h
  have OK := Aside0.mk hok
  have LN : l1.length ≤ 1000 := by have := okG_len hok; rw [es_len] at this; exact this
  clear h hok
  go_enter Try.func18, Try.ntmps18
  go_wp2_with (first | ((with_reducible refine gate_dst (N := 1) rfl ?_); refine box_event ?hg (N := 1) ?hd (cs := #[.string a0, .slice A1 l1.length c1, .slice A2 l2.length c2, .string a3]) (t := 25) ?hr ?_; (case hd => rfl); (case hg => rfl); (case hr => first | (go_simp; done) | (go_simp; rfl)); intro g1 hg w1 hbox hb; have hbx : Below w.heap.size w w1 := below_step (by repeat (first | (with_reducible first | exact Below.refl _ _ | apply below_alloc | apply pw_below_drewN | apply below_drew1) | exact Below.refl _ _)) hb; have n_HB := Aside0.mk (below_step HB.out hbx); clear HB ; have HB := n_HB; clear hbx n_HB; have BK1 := Aside0.mk (Bk.mk (hbox : Blk w1 g1 25 #[.string a0, .slice A1 l1.length c1, .slice A2 l2.length c2, .string a3])); clear hbox hg hb; have zBK1_0 : w1.cell? ⟨g1, 0, none⟩ = some (.string a0) := (blk_cell BK1.out.blk 0).trans rfl; have zBK1_1 : w1.cell? ⟨g1, 1, none⟩ = some (.slice A1 l1.length c1) := (blk_cell BK1.out.blk 1).trans rfl; have zBK1_2 : w1.cell? ⟨g1, 2, none⟩ = some (.slice A2 l2.length c2) := (blk_cell BK1.out.blk 2).trans rfl; have zBK1_3 : w1.cell? ⟨g1, 3, none⟩ = some (.string a3) := (blk_cell BK1.out.blk 3).trans rfl) | ((with_reducible refine gate_dst (N := 9) rfl ?_); refine Evt.ro_lit (w0 := w) Value.string (fun _ => rfl) 9 ?hg1_ (N := 9) ?hd1_ (xs := [sL, sR]) ?hr1_ (below_step HB.out (by repeat (first | (with_reducible first | exact Below.refl _ _ | apply below_alloc | apply pw_below_drewN | apply below_drew1) | exact Below.refl _ _))) (by decide) ?_; (case hd1_ => rfl); (case hg1_ => rfl); (case hr1_ => first | (go_simp; done) | (go_simp; rfl)); intro v9 w2 ho hb hnew; have hbx : Below w1.heap.size w1 w2 := below_step (by repeat (first | (with_reducible first | exact Below.refl _ _ | apply below_alloc | apply pw_below_drewN | apply below_drew1) | exact Below.refl _ _)) hb; clear zBK1_0 zBK1_1 zBK1_2 zBK1_3; have n_BK1 := Aside0.mk (BK1.out.below hbx); have n_HB := Aside0.mk (below_step HB.out hbx); clear HB BK1; have BK1 := n_BK1; have HB := n_HB; clear hbx n_BK1 n_HB; have RO9 := Aside0.mk ho; clear ho hb hnew; have zBK1_0 : w2.cell? ⟨g1, 0, none⟩ = some (.string a0) := (blk_cell BK1.out.blk 0).trans rfl; have zBK1_1 : w2.cell? ⟨g1, 1, none⟩ = some (.slice A1 l1.length c1) := (blk_cell BK1.out.blk 1).trans rfl; have zBK1_2 : w2.cell? ⟨g1, 2, none⟩ = some (.slice A2 l2.length c2) := (blk_cell BK1.out.blk 2).trans rfl; have zBK1_3 : w2.cell? ⟨g1, 3, none⟩ = some (.string a3) := (blk_cell BK1.out.blk 3).trans rfl) | ((with_reducible refine gate_dst (N := 10) rfl ?_); refine Mp.mkB_ev rfl (N := 10) rfl rfl ?_; intro b10 hg w3 hmap hb; have hbx : Below w2.heap.size w2 w3 := below_step (by repeat (first | (with_reducible first | exact Below.refl _ _ | apply below_alloc | apply pw_below_drewN | apply below_drew1) | exact Below.refl _ _)) hb; have hge_ : w.heap.size ≤ b10 := (by rw [hg]; exact below_size (below_step HB.out (by repeat (first | (with_reducible first | exact Below.refl _ _ | apply below_alloc | apply pw_below_drewN | apply below_drew1) | exact Below.refl _ _)))); clear zBK1_0 zBK1_1 zBK1_2 zBK1_3; have n_BK1 := Aside0.mk (BK1.out.below hbx); have n_RO9 := Aside0.mk (RO9.out.below hbx); have n_HB := Aside0.mk (below_step HB.out hbx); clear HB BK1 RO9; have BK1 := n_BK1; have RO9 := n_RO9; have HB := n_HB; clear hbx n_BK1 n_RO9 n_HB; have M10 := Aside0.mk hmap; have GE10 := Aside0.mk hge_; clear hmap hg hb hge_; have zBK1_0 : w3.cell? ⟨g1, 0, none⟩ = some (.string a0) := (blk_cell BK1.out.blk 0).trans rfl; have zBK1_1 : w3.cell? ⟨g1, 1, none⟩ = some (.slice A1 l1.length c1) := (blk_cell BK1.out.blk 1).trans rfl; have zBK1_2 : w3.cell? ⟨g1, 2, none⟩ = some (.slice A2 l2.length c2) := (blk_cell BK1.out.blk 2).trans rfl; have zBK1_3 : w3.cell? ⟨g1, 3, none⟩ = some (.string a3) := (blk_cell BK1.out.blk 3).trans rfl) | (refine Mp.putB_ev rfl (.inr rfl) (s := sL) (v := true) rfl rfl rfl (by decide) (by decide) (M10.out.below (by repeat (first | (with_reducible first | exact Below.refl _ _ | apply below_alloc | apply pw_below_drewN | apply below_drew1) | exact Below.refl _ _))) ?_; intro w4 hM hg_; clear zBK1_0 zBK1_1 zBK1_2 zBK1_3; have n_BK1 := Aside0.mk ((BK1.out.below (by repeat (first | (with_reducible first | exact Below.refl _ _ | apply below_alloc | apply pw_below_drewN | apply below_drew1) | exact Below.refl _ _))).mput (M10.out.below (by repeat (first | (with_reducible first | exact Below.refl _ _ | apply below_alloc | apply pw_below_drewN | apply below_drew1) | exact Below.refl _ _))) hg_); have n_RO9 := Aside0.mk ((RO9.out.below (by repeat (first | (with_reducible first | exact Below.refl _ _ | apply below_alloc | apply pw_below_drewN | apply below_drew1) | exact Below.refl _ _))).mput (M10.out.below (by repeat (first | (with_reducible first | exact Below.refl _ _ | apply below_alloc | apply pw_below_drewN | apply below_drew1) | exact Below.refl _ _))) hg_); have n_HB := Aside0.mk ((below_step HB.out (by repeat (first | (with_reducible first | exact Below.refl _ _ | apply below_alloc | apply pw_below_drewN | apply below_drew1) | exact Below.refl _ _))).grown hg_ (below_size (below_step HB.out (by repeat (first | (with_reducible first | exact Below.refl _ _ | apply below_alloc | apply pw_below_drewN | apply below_drew1) | exact Below.refl _ _)))) (fun k hk => (by cases hk; exact GE10.out))); clear HB BK1 RO9 M10; have BK1 := n_BK1; have RO9 := n_RO9; have HB := n_HB; have M10 := Aside0.mk hM; clear hM hg_ n_BK1 n_RO9 n_HB; have zBK1_0 : w4.cell? ⟨g1, 0, none⟩ = some (.string a0) := (blk_cell BK1.out.blk 0).trans rfl; have zBK1_1 : w4.cell? ⟨g1, 1, none⟩ = some (.slice A1 l1.length c1) := (blk_cell BK1.out.blk 1).trans rfl; have zBK1_2 : w4.cell? ⟨g1, 2, none⟩ = some (.slice A2 l2.length c2) := (blk_cell BK1.out.blk 2).trans rfl; have zBK1_3 : w4.cell? ⟨g1, 3, none⟩ = some (.string a3) := (blk_cell BK1.out.blk 3).trans rfl) | (refine Mp.putB_ev rfl (.inr rfl) (s := sR) (v := true) rfl rfl rfl (by decide) (by decide) (M10.out.below (by repeat (first | (with_reducible first | exact Below.refl _ _ | apply below_alloc | apply pw_below_drewN | apply below_drew1) | exact Below.refl _ _))) ?_; intro w5 hM hg_; clear zBK1_0 zBK1_1 zBK1_2 zBK1_3; have n_BK1 := Aside0.mk ((BK1.out.below (by repeat (first | (with_reducible first | exact Below.refl _ _ | apply below_alloc | apply pw_below_drewN | apply below_drew1) | exact Below.refl _ _))).mput (M10.out.below (by repeat (first | (with_reducible first | exact Below.refl _ _ | apply below_alloc | apply pw_below_drewN | apply below_drew1) | exact Below.refl _ _))) hg_); have n_RO9 := Aside0.mk ((RO9.out.below (by repeat (first | (with_reducible first | exact Below.refl _ _ | apply below_alloc | apply pw_below_drewN | apply below_drew1) | exact Below.refl _ _))).mput (M10.out.below (by repeat (first | (with_reducible first | exact Below.refl _ _ | apply below_alloc | apply pw_below_drewN | apply below_drew1) | exact Below.refl _ _))) hg_); have n_HB := Aside0.mk ((below_step HB.out (by repeat (first | (with_reducible first | exact Below.refl _ _ | apply below_alloc | apply pw_below_drewN | apply below_drew1) | exact Below.refl _ _))).grown hg_ (below_size (below_step HB.out (by repeat (first | (with_reducible first | exact Below.refl _ _ | apply below_alloc | apply pw_below_drewN | apply below_drew1) | exact Below.refl _ _)))) (fun k hk => (by cases hk; exact GE10.out))); clear HB BK1 RO9 M10; have BK1 := n_BK1; have RO9 := n_RO9; have HB := n_HB; have M10 := Aside0.mk hM; clear hM hg_ n_BK1 n_RO9 n_HB; have zBK1_0 : w5.cell? ⟨g1, 0, none⟩ = some (.string a0) := (blk_cell BK1.out.blk 0).trans rfl; have zBK1_1 : w5.cell? ⟨g1, 1, none⟩ = some (.slice A1 l1.length c1) := (blk_cell BK1.out.blk 1).trans rfl; have zBK1_2 : w5.cell? ⟨g1, 2, none⟩ = some (.slice A2 l2.length c2) := (blk_cell BK1.out.blk 2).trans rfl; have zBK1_3 : w5.cell? ⟨g1, 3, none⟩ = some (.string a3) := (blk_cell BK1.out.blk 3).trans rfl))
  have ND : Aside0 (Nd w w5 v9 b10 (nodesL ((es l1).take 0))) := Aside0.mk ⟨RO9.out.row, M10.out.congr (fun z => by by_cases e1 : z = sR <;> by_cases e2 : z = sL <;> simp [nodesL, e1, e2]), HB.out, GE10.out⟩
  clear RO9 M10 HB BK1 zBK1_0 zBK1_1 zBK1_2 zBK1_3 GE10
  go_loopg [3, 15] l1.length (fun kq v3 v15 wr => ∃ j : Nat, v15 = .int .i64 j ∧ Aside0 (j + kq = l1.length) ∧ Aside0 (Nd w wr v3 b10 (nodesL ((es l1).take j))))
  case atStart => exact ⟨0, rfl, ⟨by omega⟩, ND⟩
  case round =>
    clear ND
    obtain ⟨j, rfl, hj, ND⟩ := hrel
    cases gk with
    | zero =>
      have e0 : j = l1.length := by have := hj.out; omega
      have q0 : decide (j < l1.length) = false := decide_eq_false (by omega)
      have q1 : decide ((j : Int) < (l1.length : Int)) = false := decide_eq_false (by omega)
      have NE := Aside0.mk e0
      clear e0 hj
      go_wp2
      go_ret
      refine ⟨_, rfl, ⟨?_⟩, ND.out.bel⟩
      have := ND.out.row
      rw [List.take_of_length_le (by rw [es_len, NE.out]; exact Nat.le_refl _)] at this
      exact this
    | succ k1 =>
      have hjl : j < l1.length := by have := hj.out; omega
      have q0 : decide (j < l1.length) = true := decide_eq_true (by omega)
      have q1 : decide ((j : Int) < (l1.length : Int)) = true := decide_eq_true (by omega)
      obtain ⟨ad, rfl, x0, x1, x2, x3, x4⟩ := (R.out.below ND.out.bel).at hjl
      have S2 := Aside0.mk (okG_f2 OK.out (c := (l1[j].f2, l1[j].f3)) (by rw [← es_get hjl]; exact List.getElem_mem _))
      have S3 := Aside0.mk (okG_f3 OK.out (c := (l1[j].f2, l1[j].f3)) (by rw [← es_get hjl]; exact List.getElem_mem _))
      have FL := Aside0.mk (fun g => ND.out.lt (g := g))
      have HB := Aside0.mk (Below.refl wr.heap.size wr)
      have ND' := Aside0.mk (ND.out)
      clear ND
      go_wp2_with (first | ((with_reducible refine gate_dst (N := 6) rfl ?_); refine Evt.box2 ?hg (N := 6) ?hd (z := #[.int .i64 0, .int .i64 0, .int .i64 0, .string ⟨#[]⟩, .string ⟨#[]⟩]) (cs := #[.int .i64 l1[j].f0, .int .i64 l1[j].f1.f0, .int .i64 l1[j].f1.f1, .string l1[j].f2, .string l1[j].f3]) (T := 41) ?hr ?hg2 (.tmp 18) ?ho2 ?hd2 ?hy ?hx ?hi ?hz ?h1 ?_; (case hd => rfl); (case hg => rfl); (case hr => first | (go_simp; done) | (go_simp; rfl)); (case hg2 => rfl); (case ho2 => rfl); (case hd2 => rfl); (case hy => first | rfl | (go_simp; done)); (case hx => first | rfl | (go_simp; done)); (case hi => kernel_rfl); (case hz => rfl); (case h1 => first | rfl | (simp [Value.oneCell'])); intro g6 hg w1 hbox hb; have hbx : Below wr.heap.size wr w1 := below_step (by repeat (first | (with_reducible first | exact Below.refl _ _ | apply below_alloc | apply pw_below_drewN | apply below_drew1) | exact Below.refl _ _)) hb; have n_ND' := Aside0.mk (ND'.out.below hbx); have n_HB := Aside0.mk (below_step HB.out hbx); clear HB ND'; have ND' := n_ND'; have HB := n_HB; clear hbx n_ND' n_HB; have BK6 := Aside0.mk (Bk.mk (hbox : Blk w1 g6 41 #[.int .i64 l1[j].f0, .int .i64 l1[j].f1.f0, .int .i64 l1[j].f1.f1, .string l1[j].f2, .string l1[j].f3])); clear hbox hg hb; have zBK6_0 : w1.cell? ⟨g6, 0, none⟩ = some (.int .i64 l1[j].f0) := (blk_cell BK6.out.blk 0).trans rfl; have zBK6_1 : w1.cell? ⟨g6, 1, none⟩ = some (.int .i64 l1[j].f1.f0) := (blk_cell BK6.out.blk 1).trans rfl; have zBK6_2 : w1.cell? ⟨g6, 2, none⟩ = some (.int .i64 l1[j].f1.f1) := (blk_cell BK6.out.blk 2).trans rfl; have zBK6_3 : w1.cell? ⟨g6, 3, none⟩ = some (.string l1[j].f2) := (blk_cell BK6.out.blk 3).trans rfl; have zBK6_4 : w1.cell? ⟨g6, 4, none⟩ = some (.string l1[j].f3) := (blk_cell BK6.out.blk 4).trans rfl) | ((with_reducible refine gate_dst (N := 23) rfl ?_); refine Evt.slice_event ?hg (N := 23) ?hd (cs := #[.string l1[j].f2, .string l1[j].f3]) (t := 9) (n := 2) ?hr ?_; (case hd => rfl); (case hg => rfl); (case hr => first | (go_simp; done) | (go_simp; rfl)); intro g23 hg w2 hbox hb; have hbx : Below w1.heap.size w1 w2 := below_step (by repeat (first | (with_reducible first | exact Below.refl _ _ | apply below_alloc | apply pw_below_drewN | apply below_drew1) | exact Below.refl _ _)) hb; have GG23 := Aside0.mk (show wr.heap.size ≤ g23 from (by rw [hg]; exact below_size (below_step HB.out (by repeat (first | (with_reducible first | exact Below.refl _ _ | apply below_alloc | apply pw_below_drewN | apply below_drew1) | exact Below.refl _ _))))); clear zBK6_0 zBK6_1 zBK6_2 zBK6_3 zBK6_4; have n_ND' := Aside0.mk (ND'.out.below hbx); have n_BK6 := Aside0.mk (BK6.out.below hbx); have n_HB := Aside0.mk (below_step HB.out hbx); clear HB ND' BK6; have ND' := n_ND'; have BK6 := n_BK6; have HB := n_HB; clear hbx n_ND' n_BK6 n_HB; have BK23 := Aside0.mk (Bk.mk (hbox : Blk w2 g23 9 #[.string l1[j].f2, .string l1[j].f3])); clear hbox hg hb; have zBK6_0 : w2.cell? ⟨g6, 0, none⟩ = some (.int .i64 l1[j].f0) := (blk_cell BK6.out.blk 0).trans rfl; have zBK6_1 : w2.cell? ⟨g6, 1, none⟩ = some (.int .i64 l1[j].f1.f0) := (blk_cell BK6.out.blk 1).trans rfl; have zBK6_2 : w2.cell? ⟨g6, 2, none⟩ = some (.int .i64 l1[j].f1.f1) := (blk_cell BK6.out.blk 2).trans rfl; have zBK6_3 : w2.cell? ⟨g6, 3, none⟩ = some (.string l1[j].f2) := (blk_cell BK6.out.blk 3).trans rfl; have zBK6_4 : w2.cell? ⟨g6, 4, none⟩ = some (.string l1[j].f3) := (blk_cell BK6.out.blk 4).trans rfl; have zBK23_0 : w2.cell? ⟨g23, 0, none⟩ = some (.string l1[j].f2) := (blk_cell BK23.out.blk 0).trans rfl; have zBK23_1 : w2.cell? ⟨g23, 1, none⟩ = some (.string l1[j].f3) := (blk_cell BK23.out.blk 1).trans rfl))
      have NI : Aside0 (Ni w w2 u3 b10 (adds (nodesL ((es l1).take j)) ([l1[j].f2, l1[j].f3].take 0)) g23 l1[j].f2 l1[j].f3) := Aside0.mk ⟨ND'.out, BK23.out, FL.out g23 GG23.out⟩
      have NL : (nodesL ((es l1).take j)).length ≤ 2002 := by have := nodesL_len ((es l1).take j); rw [List.length_take] at this; omega
      clear zBK6_0 zBK6_1 zBK6_2 zBK6_3 zBK6_4 zBK23_0 zBK23_1 BK6 BK23 GG23 FL x0 x1 x2 x3 x4 HB ND'
      go_loopg [3, 25] 2 (fun kq v3 v25 wr => ∃ i : Nat, v25 = .int .i64 i ∧ Aside0 (i + kq = 2) ∧ Aside0 (Ni w wr v3 b10 (adds (nodesL ((es l1).take j)) ([l1[j].f2, l1[j].f3].take i)) g23 l1[j].f2 l1[j].f3))
      case atStart => exact ⟨0, rfl, ⟨rfl⟩, NI⟩
      case round =>
        clear NI
        obtain ⟨i, rfl, hi, NI⟩ := hrel
        cases gk with
        | zero =>
          obtain rfl : i = 2 := by have := hi.out; omega
          clear hi
          go_wp2
          go_roundg k1
          case measure => omega
          case rel =>
            refine ⟨j + 1, by go_num, ⟨by have := hj.out; omega⟩, ⟨?_⟩⟩
            have e1 := nodesL_take (l := es l1) (j := j) (by rw [es_len]; exact hjl)
            rw [e1, es_get hjl]
            exact NI.out.nd
        | succ i1 =>
          have hil : i < 2 := by have := hi.out; omega
          have p0 : decide ((i : Int) < 2) = true := decide_eq_true (by omega)
          obtain ⟨s, hc, hs, hadd⟩ := NI.out.at hil S2.out S3.out
          have HS := Aside0.mk hs
          have HA := Aside0.mk hadd
          clear hs hadd
          have AL : (adds (nodesL ((es l1).take j)) ([l1[j].f2, l1[j].f3].take i)).length ≤ 2004 := by have := adds_len2 (nodesL ((es l1).take j)) l1[j].f2 l1[j].f3 i; omega
          generalize hacc : (adds (nodesL ((es l1).take j)) ([l1[j].f2, l1[j].f3].take i)) = acc at NI HA AL
          by_cases hm : s ∈ acc
          · have hv : decide (s ∈ acc) = true := decide_eq_true hm
            have HV := Aside0.mk hv
            clear hv
            go_wp2_with (refine Mp.getB_ev rfl rfl (s := s) (v := true) rfl rfl HS.out NI.out.nd.map HV.out ?_)
            go_roundg i1
            case measure => omega
            case rel => exact ⟨i + 1, by go_num, ⟨by have := hi.out; omega⟩, ⟨by rw [HA.out, addN_in hm]; exact NI.out⟩⟩
          · have hv : decide (s ∈ acc) = false := decide_eq_false hm
            have HV := Aside0.mk hv
            clear hv
            have HB := Aside0.mk (Below.refl wr.heap.size wr)
            have NI := Aside0.mk (NI.out)
            go_wp2_with (first | (refine Mp.getB_ev rfl rfl (s := s) (v := false) rfl rfl HS.out NI.out.nd.map HV.out ?_) | (refine Mp.putB_ev rfl (.inl rfl) (s := s) (v := true) rfl rfl rfl HS.out (by unfold maxLen; omega) NI.out.nd.map ?_; intro wj hM hg_; have NJ := Aside0.mk (NI.out.put hM hg_); clear hM hg_ hc NI HB; have HB := Aside0.mk NJ.out.bel; skip) | ((with_reducible refine gate_dst (N := 37) rfl ?_); refine Evt.slice_event ?hg (N := 37) ?hd (cs := #[.string s]) (t := 9) (n := 1) ?hr ?_; (case hd => rfl); (case hg => rfl); (case hr => first | (go_simp; done) | (go_simp; rfl)); intro g37 hg w1 hbox hb; have hbx : Below wj.heap.size wj w1 := below_step (by repeat (first | (with_reducible first | exact Below.refl _ _ | apply below_alloc | apply pw_below_drewN | apply below_drew1) | exact Below.refl _ _)) hb; have n_NJ := Aside0.mk (NJ.out.below hbx); have n_HB := Aside0.mk (below_step HB.out hbx); clear HB NJ; have NJ := n_NJ; have HB := n_HB; clear hbx n_NJ n_HB; have BK37 := Aside0.mk (Bk.mk (hbox : Blk w1 g37 9 #[.string s])); clear hbox hg hb; have zBK37_0 : w1.cell? ⟨g37, 0, none⟩ = some (.string s) := (blk_cell BK37.out.blk 0).trans rfl) | ((with_reducible refine gate_dst (N := 38) rfl ?_); at_builtin; refine Evt.ro_app Value.string (fun _ => rfl) ByteArray.empty rfl (.tmp 35) (.tmp 37) 29 9 (.string ⟨#[]⟩) 16 rfl Try.underlying29 info9 rfl (by decide) u3 acc s g37 rfl rfl ⟨NJ.out.row⟩ BK37.out HB.out (by omega) ?_; intro v38 wa_ ho hb hg hat; have NF := Aside0.mk (NJ.out.app ho.row hb hg hat); clear ho hb hg hat NJ HB BK37 zBK37_0))
            go_roundg i1
            case measure => omega
            case rel => exact ⟨i + 1, by go_num, ⟨by have := hi.out; omega⟩, ⟨by rw [HA.out, addN_out hm]; exact NF.out⟩⟩
end
end Go.Proofs.Ytmacdknicgfglaa.Gw
