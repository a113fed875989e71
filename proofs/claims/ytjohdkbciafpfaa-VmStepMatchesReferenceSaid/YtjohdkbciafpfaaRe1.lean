/- Chapter 06: the reference's Read, Set and Write of states, walked. Written by gen/re1.py. -/
import Derived.Test.YtjohdkbciafpfaaVk
import Derived.Test.YtjohdkbciafpfaaImpl8
namespace Go.Proofs.Ytjohdkbciafpfaa.Vm6
open Go.RowKit Go.Proofs.YtjohdkbciafpfaaW.PrintWords Go.Proofs.YtjohdkbciafpfaaW.PrintMore Go.Proofs.YtjohdkbciafpfaaW.PrintLast Go.Proofs.Ytjohdkbciafpfaa.Chg Go.Proofs.Ytjohdkbciafpfaa.Evt Go.Proofs.Ytjohdkbciafpfaa.Impl
set_option linter.unusedVariables false
set_option linter.unusedSimpArgs false
set_option maxRecDepth 100000
section
variable {ops : Array Oper} {rest : List Oper} {o : Oper} {a : Act} {Q : Exit → Act → World → Prop} {w0 W : World} {α : Type} {d : Kd α} {e t : TypeId}
theorem row0_ev (hgd : o.guard = none) {N : Tmp} (_hd : o.dst = some N) (HB : Below w0.heap.size w0 W) (hrun : (execOp a.eval o).run Try.prog W = .ok (.value (.slice (some ⟨W.heap.size, 0, none⟩) 0 0)) (W.alloc (.cells #[] e (0, 0))))
    (h : ∀ (v : Value) (w1 : World), Ro d e w0 w1 v [] → Below w0.heap.size w0 w1 → wpList Try.prog ops Q rest (a.put o.dst v) w1) : wpList Try.prog ops Q (o :: rest) a W := by
  refine Kd.event_run hgd hrun (h _ _ ⟨?_⟩ (below_step HB (below_alloc (Below.refl _ _) _)))
  refine ⟨fun k hk => trivial, [], ?_, by simp, fun j p hj => by simp at hj⟩
  exact World.ownsRow_lit (base := w0.heap.size) (e := e) (size := d.sz) W #[] 0 HB.size (by simp) (by simp)
theorem rowapp_ev (R : Rk d e t) (hgd : o.guard = none) (s x : Operand) (ho : o.op = .call { callee := .builtin .append, args := #[s, x], argTypes := #[t, t] }) (v : Value) (xs ys : List α) (A : Option Addr) (m c : Nat) (hs : a.eval s = v) (hx : a.eval x = .slice A m c)
    (HO : Ro d e w0 W v xs) (HC : Kd.C d W A m ys) (HB : Below w0.heap.size w0 W) (hl : xs.length + m ≤ 4000000000000)
    (h : ∀ v1 w1, Ro d e w0 w1 v1 (xs ++ ys) → Below w0.heap.size w0 w1 → wpList Try.prog ops Q rest (a.put o.dst v1) w1) : wpList Try.prog ops Q (o :: rest) a W := by
  obtain ⟨z, by_, hi, hz, hs0, hb0, hb1⟩ := R.info
  exact Kd.R_append_rows d (Rr := d.K W) (w0 := w0) w0.heap.size hgd s x t e z by_ ho R.ht hi hz hs0 hb0 v xs ys A m c (fun _ => True) (fun _ => False) hs hx HO.row HC (fun _ _ hk => R.km _ _ _ _ _ hk) (fun _ hk => hk.elim) (fun _ _ => trivial) HB HB.size (Nat.le_trans (Nat.mul_le_mul hl hb1) (by decide)) (fun v1 w1 h1 h2 _ _ => h v1 w1 ⟨h1⟩ h2)
end
section
variable {A A0 A1 A2 : Option Addr} {c c0 c1 c2 : Nat} {l l0 l1 l2 : List Bool}
theorem readP (s n : Int) : busbarref03_Read.f l l0 l1 l2 s n = some (rdv l l0 l1 s n) := by
  unfold busbarref03_Read.f rdv
  have key : ∀ L : List Bool, (if n < 0 then (some (false, (3 : Int))) else (if n ≥ (L.length : Int) then (some (false, 3)) else (if 0 ≤ n then (if n < (L.length : Int) then (some (rdOf false L n, 0)) else (none)) else (none)))) = some (if 0 ≤ n ∧ n < L.length then (rdOf false L n, 0) else (false, 3)) := by
    intro L
    by_cases h1 : n < 0
    · rw [if_pos h1, if_neg (by omega)]
    · rw [if_neg h1]
      by_cases h2 : n ≥ (L.length : Int)
      · rw [if_pos h2, if_neg (by omega)]
      · rw [if_neg h2, if_pos (by omega), if_pos (by omega), if_pos (by omega)]
  rw [key l, key l0, key l1]
  by_cases e0 : s = 0
  · rw [if_pos e0, if_pos e0]
  · rw [if_neg e0, if_neg e0]
    by_cases e1 : s = 1
    · rw [if_pos e1, if_pos e1]
    · rw [if_neg e1, if_neg e1]
      by_cases e2 : s = 2
      · rw [if_pos e2, if_pos e2]
      · rw [if_neg e2, if_neg e2]
theorem readR {w : World} (s n : Int) (h : Rw Kd.bool w A c l) (h' : Sb w A0 c0 A1 c1 A2 c2 l0 l1 l2) {r : Bool} {e : Int} (hr : rdv l l0 l1 s n = (r, e)) : Calls Try.prog 19 #[.slice A l.length c, .agg #[.slice A0 l0.length c0, .slice A1 l1.length c1, .slice A2 l2.length c2], .agg #[.int .i64 s, .int .i64 n]] w fun x w' => x = .returned (.tuple #[.bool r, .int .i64 e]) ∧ Below w.heap.size w w' :=
  busbarref03_Read.calls A c l A0 c0 l0 A1 c1 l1 A2 c2 l2 s n r e w h.row h.cap h'.sr.r0.row h'.sr.r0.cap h'.sr.r1.row h'.sr.r1.cap h'.sr.r2.row h'.sr.r2.cap (by rw [readP, hr])
/-- A bit of a row of one's own. -/
theorem own_at {w : World} {B n c g i : Nat} {ok : Nat → Prop} {L : List Bool} (h : Kd.R Kd.bool 4 w B ok (.slice (some ⟨g, 0, none⟩) n c) L) (hi : i < L.length) : w.cell? ⟨g, i, none⟩ = some (.bool (L.getD i false)) ∧ w.frozen? ⟨g, i, none⟩ = false := by
  have ho := Kd.own_of_R (enc := Value.bool) h
  rcases ho.2 with ⟨e, e0⟩ | ⟨g', cap, cur, e, hg, hh, hn, hcap, hcs, hcur⟩
  · omega
  · injection e with e1 e2 e3
    injection e1 with e1
    injection e1 with e1
    subst e1
    refine ⟨?_, Blk.frozen (g := g) (T := 4) (cs := cur) hh i⟩
    refine Blk.cell (g := g) (T := 4) (cs := cur) hh i ?_
    have h1 : (cur.toList.take (L.length * 1))[i]? = (encs Value.bool L)[i]? := by rw [hcur]
    rw [List.getElem?_take, if_pos (by omega)] at h1
    have h2 : (encs Value.bool L)[i]? = some (.bool (L.getD i false)) := by
      unfold encs
      rw [List.getElem?_map, List.getD_eq_getElem?_getD, List.getElem?_eq_getElem (by omega)]
      rfl
    rw [← Array.getElem?_toList, h1, h2]
theorem own_some {w : World} {B n c : Nat} {ok : Nat → Prop} {X : Option Addr} {L : List Bool} (h : Kd.R Kd.bool 4 w B ok (.slice X n c) L) (hp : 0 < L.length) : ∃ g, X = some ⟨g, 0, none⟩ := by
  obtain ⟨g, c', e, _⟩ := Kd.R_form h hp
  injection e with e
  exact ⟨g, e⟩
theorem own_put {w : World} {B n c g : Nat} {ok : Nat → Prop} {L : List Bool} (h : Kd.R Kd.bool 4 w B ok (.slice (some ⟨g, 0, none⟩) n c) L) (i : Nat) (v : Bool) : Kd.R Kd.bool 4 (w.setCell ⟨g, i, none⟩ (.bool v)) B ok (.slice (some ⟨g, 0, none⟩) n c) (L.set i v) := by
  have := Kd.R_putn (enc := Value.bool) (h1 := fun _ => rfl) h (i : Int) v
  rw [Int.toNat_natCast] at this
  exact this
/-- A bit of the first of three rows is written. -/
theorem Own3.put0 {w : World} {B n c g : Nat} {v1 v2 : Value} (h : Own3 w B (.slice (some ⟨g, 0, none⟩) n c) v1 v2 l0 l1 l2) (i : Nat) (v : Bool) : Own3 (w.setCell ⟨g, i, none⟩ (.bool v)) B (.slice (some ⟨g, 0, none⟩) n c) v1 v2 (l0.set i v) l1 l2 := by
  have hc : Chg (fun k => k = g) w (w.setCell ⟨g, i, none⟩ (.bool v)) := (Chg.refl (fun k => k = g) _).setCell (p := ⟨g, i, none⟩) (.inl rfl) _
  exact ⟨own_put h.q0 i v, turned_chg rfl h.q1 hc (fun k hk e => (h.q1.1 k hk).1 (by rw [e]; rfl)), turned_chg rfl h.q2 hc (fun k hk e => (h.q2.1 k hk).1 (by rw [e]; rfl))⟩
theorem own_ge {w : World} {B n c g : Nat} {ok : Nat → Prop} {L : List Bool} (h : Kd.R Kd.bool 4 w B ok (.slice (some ⟨g, 0, none⟩) n c) L) : B ≤ g := Kd.R_base h g rfl
theorem own_ne {w : World} {B n c g g' : Nat} {ok : Nat → Prop} {L : List Bool} {T : TypeId} {cs : Array Value} (h : Kd.R Kd.bool 4 w B ok (.slice (some ⟨g, 0, none⟩) n c) L) (hb : Bk w g' T cs) (hT : 4 ≠ T := by decide) : g' ≠ g := fun e => Kd.R_ne h hb.blk hT (by rw [e]; rfl)
set_option maxHeartbeats 8000000 in
theorem setR (w : World) (h : Rw Kd.bool w A c l) (hl : l.length ≤ 20000) {i : Nat} (hi : i < l.length) (v : Bool) : Calls Try.prog 75 #[.slice A l.length c, .int .i64 i, .bool v] w fun x w' => ∃ X x0, x = .returned (.slice X l.length x0) ∧ Kd.R Kd.bool 4 w' w.heap.size (fun _ => True) (.slice X l.length x0) (l.set i v) ∧ Below w.heap.size w w' := by
  have HI := Aside0.mk h
  have p1 : decide (i < l.length) = true := decide_eq_true hi
  have p2 : decide ((i : Int) < (l.length : Int)) = true := decide_eq_true (by omega)
  clear h
  have HB := Aside0.mk (Below.refl w.heap.size w)
  go_enter Try.func75, Try.ntmps75
  go_wp2_with (first | ((with_reducible refine gate_dst (N := 8) rfl ?_); refine Vm6.row0_ev (d := Kd.bool) (e := 4) (w0 := w) rfl (N := 8) rfl (by repeat (first | (with_reducible first | exact Below.refl _ _ | apply below_alloc | apply pw_below_drewN | apply below_drew1) | exact Below.refl _ _)) ?hr_ ?_; (case hr_ => first | (go_simp; done) | (go_simp; rfl)); intro v8 wx ho hb; have R0 := Aside0.mk ho; have HX := Aside0.mk hb; clear ho hb) | ((with_reducible refine gate_dst (N := 10) rfl ?_); at_builtin; refine Vm6.rowapp_ev Evt.rkB rfl (.tmp 8) (.tmp 9) rfl v8 [] l A l.length c rfl rfl R0.out (HI.out.below HX.out).row HX.out (by simp; omega) ?_; intro v10 wa ho hb; have RO := Aside0.mk (show Kd.R Kd.bool 4 wa w.heap.size (fun _ => True) v10 l from ho.row); have HA := Aside0.mk hb; clear ho hb R0 HX; obtain ⟨X, x0, rfl⟩ := Kd.R_slice RO.out; obtain ⟨g, rfl⟩ := own_some RO.out (by omega); obtain ⟨z1, z2⟩ := own_at RO.out hi))
  go_ret
  exact ⟨_, _, rfl, own_put RO.out i v, below_set HA.out (own_ge RO.out)⟩
set_option maxHeartbeats 16000000 in
theorem wrR1 {w : World} {i : Nat} (v : Bool) (h : Sb w A0 c0 A1 c1 A2 c2 l0 l1 l2) (hi : i < l0.length) : Calls Try.prog 21 #[.agg #[.slice A0 l0.length c0, .slice A1 l1.length c1, .slice A2 l2.length c2], .agg #[.int .i64 1, .int .i64 (i : Nat)], .bool v] w fun x w' => Gives w x w' (l0.set i v) l1 l2 0 := by
  have b_ := h.b0
  have HS := Aside0.mk h
  clear h
  have p1 : decide (i < l0.length) = true := decide_eq_true hi
  have p2 : decide ((i : Int) < (l0.length : Int)) = true := decide_eq_true (by omega)
  have p3 : decide (l0.length ≤ i) = false := decide_eq_false (by omega)
  have p4 : decide ((l0.length : Int) ≤ (i : Int)) = false := decide_eq_false (by omega)
  have p5 : decide ((i : Int) < 0) = false := decide_eq_false (by omega)
  have HB := Aside0.mk (Below.refl w.heap.size w)
  have SB := Aside0.mk (HS.out)
  go_enter Try.func21, Try.ntmps21
  go_wp2_with (first | ((with_reducible refine gate_dst (N := 3) rfl ?_); refine box_event ?hg (N := 3) ?hd (cs := #[.slice A0 l0.length c0, .slice A1 l1.length c1, .slice A2 l2.length c2]) (t := 24) ?hr ?_; (case hd => rfl); (case hg => rfl); (case hr => first | (go_simp; done) | (go_simp; rfl)); intro g3 hg w1 hbox hb; have hbx : Below w.heap.size w w1 := below_step (by repeat (first | (with_reducible first | exact Below.refl _ _ | apply below_alloc | apply pw_below_drewN | apply below_drew1) | exact Below.refl _ _)) hb; replace SB := Aside0.mk (SB.out.below hbx); replace HB := Aside0.mk (below_step HB.out hbx); clear hbx; have BK3 := Aside0.mk (Bk.mk (hbox : Blk w1 g3 24 #[.slice A0 l0.length c0, .slice A1 l1.length c1, .slice A2 l2.length c2])); clear hbox hg hb; obtain ⟨zBK3_0, zBK3_1, zBK3_2⟩ := BK3.out.c3) | ((with_reducible refine gate_dst (N := 4) rfl ?_); refine box_event ?hg (N := 4) ?hd (cs := #[.int .i64 1, .int .i64 (i : Nat)]) (t := 26) ?hr ?_; (case hd => rfl); (case hg => rfl); (case hr => first | (go_simp; done) | (go_simp; rfl)); intro g4 hg w2 hbox hb; have hbx : Below w1.heap.size w1 w2 := below_step (by repeat (first | (with_reducible first | exact Below.refl _ _ | apply below_alloc | apply pw_below_drewN | apply below_drew1) | exact Below.refl _ _)) hb; clear zBK3_0 zBK3_1 zBK3_2; replace SB := Aside0.mk (SB.out.below hbx); replace BK3 := Aside0.mk (BK3.out.below hbx); replace HB := Aside0.mk (below_step HB.out hbx); clear hbx; have BK4 := Aside0.mk (Bk.mk (hbox : Blk w2 g4 26 #[.int .i64 1, .int .i64 (i : Nat)])); clear hbox hg hb; obtain ⟨zBK3_0, zBK3_1, zBK3_2⟩ := BK3.out.c3; obtain ⟨zBK4_0, zBK4_1⟩ := BK4.out.c2) | ((with_reducible refine gate_dst (N := 6) rfl ?_); refine box_event ?hg (N := 6) ?hd (cs := #[.slice none 0 0, .slice none 0 0, .slice none 0 0]) (t := 24) ?hr ?_; (case hd => rfl); (case hg => rfl); (case hr => first | (go_simp; done) | (go_simp; rfl)); intro g6 hg w3 hbox hb; have hbx : Below w2.heap.size w2 w3 := below_step (by repeat (first | (with_reducible first | exact Below.refl _ _ | apply below_alloc | apply pw_below_drewN | apply below_drew1) | exact Below.refl _ _)) hb; have GG6 := Aside0.mk (show w.heap.size ≤ g6 from (by rw [hg]; exact below_size (below_step HB.out (by repeat (first | (with_reducible first | exact Below.refl _ _ | apply below_alloc | apply pw_below_drewN | apply below_drew1) | exact Below.refl _ _))))); clear zBK3_0 zBK3_1 zBK3_2 zBK4_0 zBK4_1; replace SB := Aside0.mk (SB.out.below hbx); replace BK3 := Aside0.mk (BK3.out.below hbx); replace BK4 := Aside0.mk (BK4.out.below hbx); replace HB := Aside0.mk (below_step HB.out hbx); clear hbx; have BK6 := Aside0.mk (Bk.mk (hbox : Blk w3 g6 24 #[.slice none 0 0, .slice none 0 0, .slice none 0 0])); clear hbox hg hb; obtain ⟨zBK3_0, zBK3_1, zBK3_2⟩ := BK3.out.c3; obtain ⟨zBK4_0, zBK4_1⟩ := BK4.out.c2; obtain ⟨zBK6_0, zBK6_1, zBK6_2⟩ := BK6.out.c3) | ((with_reducible refine gate_callee (f := 23) rfl ?_); refine goesL_ (some 10) rfl rfl Try.func23 (by kernel_rfl) rfl #[.agg #[.slice A0 l0.length c0, .slice A1 l1.length c1, .slice A2 l2.length c2]] rfl (by (try simp only [List.map_toArray, List.map_cons, List.map_nil]); first | done | rfl | (simp only [List.length_drop, List.length_take]; rfl)) ?_; (with_reducible refine (cloneR (SB.out.below (by repeat (first | (with_reducible first | exact Below.refl _ _ | apply below_alloc | apply pw_below_drewN | apply below_drew1) | exact Below.refl _ _)))).mono ?_); rintro e w4 ⟨X0, x0, X1, x1, X2, x2, rfl, ho_, hb⟩; have hbx : Below w3.heap.size w3 w4 := below_step (by repeat (first | (with_reducible first | exact Below.refl _ _ | apply below_alloc | apply pw_below_drewN | apply below_drew1) | exact Below.refl _ _)) hb; obtain ⟨gx, rfl⟩ := own_some ho_.q0 (by omega); have hs_ := ho_.lower (show w.heap.size ≤ _ from (below_step HB.out (by repeat (first | (with_reducible first | exact Below.refl _ _ | apply below_alloc | apply pw_below_drewN | apply below_drew1) | exact Below.refl _ _))).size); clear ho_; clear zBK3_0 zBK3_1 zBK3_2 zBK4_0 zBK4_1 zBK6_0 zBK6_1 zBK6_2; replace SB := Aside0.mk (SB.out.below hbx); replace BK3 := Aside0.mk (BK3.out.below hbx); replace BK4 := Aside0.mk (BK4.out.below hbx); replace BK6 := Aside0.mk (BK6.out.below hbx); replace HB := Aside0.mk (below_step HB.out hbx); clear hbx; have OW := Aside0.mk (hs_); clear hb; clear hs_; obtain ⟨zBK3_0, zBK3_1, zBK3_2⟩ := BK3.out.c3; obtain ⟨zBK4_0, zBK4_1⟩ := BK4.out.c2; obtain ⟨zBK6_0, zBK6_1, zBK6_2⟩ := BK6.out.c3; refine ⟨_, rfl, ?_⟩) | (((with_reducible refine gate_dst (N := 8) rfl ?_); refine Evt.box2 ?hg (N := 8) ?hd (z := #[.slice none 0 0, .slice none 0 0, .slice none 0 0]) (cs := #[.slice (some ⟨gx, 0, none⟩) l0.length x0, .slice X1 l1.length x1, .slice X2 l2.length x2]) (T := 24) ?hr ?hg2 (.tmp 10) ?ho2 ?hd2 ?hy ?hx ?hi ?hz ?h1 ?_; (case hd => rfl); (case hg => rfl); (case hr => first | (go_simp; done) | (go_simp; rfl)); (case hg2 => rfl); (case ho2 => rfl); (case hd2 => rfl); (case hy => first | rfl | (go_simp; done)); (case hx => first | rfl | (go_simp; done)); (case hi => kernel_rfl); (case hz => rfl); (case h1 => first | rfl | (simp [Value.oneCell'])); intro g8 hg w5 hbox hb; have hbx : Below w4.heap.size w4 w5 := below_step (by repeat (first | (with_reducible first | exact Below.refl _ _ | apply below_alloc | apply pw_below_drewN | apply below_drew1) | exact Below.refl _ _)) hb; have GG8 := Aside0.mk (show w.heap.size ≤ g8 from (by rw [hg]; exact below_size (below_step HB.out (by repeat (first | (with_reducible first | exact Below.refl _ _ | apply below_alloc | apply pw_below_drewN | apply below_drew1) | exact Below.refl _ _))))); have NE8_BK6 := Aside0.mk (show g6 ≠ g8 from (by have h_ := BK6.out.blk.lt; have h2_ : w4.heap.size ≤ g8 := (by rw [hg]; exact below_size (show Below w4.heap.size w4 _ from (by repeat (first | (with_reducible first | exact Below.refl _ _ | apply below_alloc | apply pw_below_drewN | apply below_drew1) | exact Below.refl _ _)))); omega)); clear zBK3_0 zBK3_1 zBK3_2 zBK4_0 zBK4_1 zBK6_0 zBK6_1 zBK6_2; replace SB := Aside0.mk (SB.out.below hbx); replace BK3 := Aside0.mk (BK3.out.below hbx); replace BK4 := Aside0.mk (BK4.out.below hbx); replace BK6 := Aside0.mk (BK6.out.below hbx); replace OW := Aside0.mk (OW.out.below hbx); replace HB := Aside0.mk (below_step HB.out hbx); clear hbx; have BK8 := Aside0.mk (Bk.mk (hbox : Blk w5 g8 24 #[.slice (some ⟨gx, 0, none⟩) l0.length x0, .slice X1 l1.length x1, .slice X2 l2.length x2])); clear hbox hg hb; obtain ⟨zBK3_0, zBK3_1, zBK3_2⟩ := BK3.out.c3; obtain ⟨zBK4_0, zBK4_1⟩ := BK4.out.c2; obtain ⟨zBK6_0, zBK6_1, zBK6_2⟩ := BK6.out.c3; obtain ⟨zBK8_0, zBK8_1, zBK8_2⟩ := BK8.out.c3); obtain ⟨zx, fx⟩ := own_at OW.out.q0 hi; have ne8 := own_ne OW.out.q0 BK8.out; have ne8' := Ne.symm ne8) | (refine Evt.setrow_ev rfl (Evt.Bk.oth BK6.out (gset w5 gx i (.bool v)) (own_ne OW.out.q0 BK6.out)) 24 (.tmp 6) (.tmp 54) rfl rfl rfl rfl (by kernel_rfl) rfl (by simp [Value.oneCell']) ?_; intro wz bz_ hg_; have BZ := Aside0.mk bz_; have O4 := Aside0.mk (Own3.chg (OW.out.put0 i v) hg_ (Evt.Bk.oth BK6.out (gset w5 gx i (.bool v)) (own_ne OW.out.q0 BK6.out))); have HBz := Aside0.mk ((HB.out.grown (gset w5 gx i (.bool v)) HB.out.size (fun k hk => by cases hk; exact own_ge OW.out.q0)).grown hg_ (HB.out.grown (gset w5 gx i (.bool v)) HB.out.size (fun k hk => by cases hk; exact own_ge OW.out.q0)).size (fun k hk => by cases hk; exact GG6.out)); clear bz_ hg_))
  refine bodyPost_ret (results_ct rfl _ _ g6 24 _ (0, 0) _ rfl BZ.out.blk Try.underlying24 rfl (by kernel_rfl)) rfl ?_
  exact ⟨(some ⟨gx, 0, none⟩), x0, X1, x1, X2, x2, by rw [List.length_set]; rfl, by rw [List.length_set]; exact O4.out, HBz.out⟩
set_option maxHeartbeats 16000000 in
theorem wrR2 {w : World} {i : Nat} (v : Bool) (h : Sb w A0 c0 A1 c1 A2 c2 l0 l1 l2) (hi : i < l1.length) : Calls Try.prog 21 #[.agg #[.slice A0 l0.length c0, .slice A1 l1.length c1, .slice A2 l2.length c2], .agg #[.int .i64 2, .int .i64 (i : Nat)], .bool v] w fun x w' => Gives w x w' l0 (l1.set i v) l2 0 := by
  have b_ := h.b1
  have HS := Aside0.mk h
  clear h
  have p1 : decide (i < l1.length) = true := decide_eq_true hi
  have p2 : decide ((i : Int) < (l1.length : Int)) = true := decide_eq_true (by omega)
  have p3 : decide (l1.length ≤ i) = false := decide_eq_false (by omega)
  have p4 : decide ((l1.length : Int) ≤ (i : Int)) = false := decide_eq_false (by omega)
  have p5 : decide ((i : Int) < 0) = false := decide_eq_false (by omega)
  have HB := Aside0.mk (Below.refl w.heap.size w)
  have SB := Aside0.mk (HS.out)
  go_enter Try.func21, Try.ntmps21
  go_wp2_with (first | ((with_reducible refine gate_dst (N := 3) rfl ?_); refine box_event ?hg (N := 3) ?hd (cs := #[.slice A0 l0.length c0, .slice A1 l1.length c1, .slice A2 l2.length c2]) (t := 24) ?hr ?_; (case hd => rfl); (case hg => rfl); (case hr => first | (go_simp; done) | (go_simp; rfl)); intro g3 hg w1 hbox hb; have hbx : Below w.heap.size w w1 := below_step (by repeat (first | (with_reducible first | exact Below.refl _ _ | apply below_alloc | apply pw_below_drewN | apply below_drew1) | exact Below.refl _ _)) hb; replace SB := Aside0.mk (SB.out.below hbx); replace HB := Aside0.mk (below_step HB.out hbx); clear hbx; have BK3 := Aside0.mk (Bk.mk (hbox : Blk w1 g3 24 #[.slice A0 l0.length c0, .slice A1 l1.length c1, .slice A2 l2.length c2])); clear hbox hg hb; obtain ⟨zBK3_0, zBK3_1, zBK3_2⟩ := BK3.out.c3) | ((with_reducible refine gate_dst (N := 4) rfl ?_); refine box_event ?hg (N := 4) ?hd (cs := #[.int .i64 2, .int .i64 (i : Nat)]) (t := 26) ?hr ?_; (case hd => rfl); (case hg => rfl); (case hr => first | (go_simp; done) | (go_simp; rfl)); intro g4 hg w2 hbox hb; have hbx : Below w1.heap.size w1 w2 := below_step (by repeat (first | (with_reducible first | exact Below.refl _ _ | apply below_alloc | apply pw_below_drewN | apply below_drew1) | exact Below.refl _ _)) hb; clear zBK3_0 zBK3_1 zBK3_2; replace SB := Aside0.mk (SB.out.below hbx); replace BK3 := Aside0.mk (BK3.out.below hbx); replace HB := Aside0.mk (below_step HB.out hbx); clear hbx; have BK4 := Aside0.mk (Bk.mk (hbox : Blk w2 g4 26 #[.int .i64 2, .int .i64 (i : Nat)])); clear hbox hg hb; obtain ⟨zBK3_0, zBK3_1, zBK3_2⟩ := BK3.out.c3; obtain ⟨zBK4_0, zBK4_1⟩ := BK4.out.c2) | ((with_reducible refine gate_dst (N := 6) rfl ?_); refine box_event ?hg (N := 6) ?hd (cs := #[.slice none 0 0, .slice none 0 0, .slice none 0 0]) (t := 24) ?hr ?_; (case hd => rfl); (case hg => rfl); (case hr => first | (go_simp; done) | (go_simp; rfl)); intro g6 hg w3 hbox hb; have hbx : Below w2.heap.size w2 w3 := below_step (by repeat (first | (with_reducible first | exact Below.refl _ _ | apply below_alloc | apply pw_below_drewN | apply below_drew1) | exact Below.refl _ _)) hb; have GG6 := Aside0.mk (show w.heap.size ≤ g6 from (by rw [hg]; exact below_size (below_step HB.out (by repeat (first | (with_reducible first | exact Below.refl _ _ | apply below_alloc | apply pw_below_drewN | apply below_drew1) | exact Below.refl _ _))))); clear zBK3_0 zBK3_1 zBK3_2 zBK4_0 zBK4_1; replace SB := Aside0.mk (SB.out.below hbx); replace BK3 := Aside0.mk (BK3.out.below hbx); replace BK4 := Aside0.mk (BK4.out.below hbx); replace HB := Aside0.mk (below_step HB.out hbx); clear hbx; have BK6 := Aside0.mk (Bk.mk (hbox : Blk w3 g6 24 #[.slice none 0 0, .slice none 0 0, .slice none 0 0])); clear hbox hg hb; obtain ⟨zBK3_0, zBK3_1, zBK3_2⟩ := BK3.out.c3; obtain ⟨zBK4_0, zBK4_1⟩ := BK4.out.c2; obtain ⟨zBK6_0, zBK6_1, zBK6_2⟩ := BK6.out.c3) | ((with_reducible refine gate_callee (f := 23) rfl ?_); refine goesL_ (some 10) rfl rfl Try.func23 (by kernel_rfl) rfl #[.agg #[.slice A0 l0.length c0, .slice A1 l1.length c1, .slice A2 l2.length c2]] rfl (by (try simp only [List.map_toArray, List.map_cons, List.map_nil]); first | done | rfl | (simp only [List.length_drop, List.length_take]; rfl)) ?_; (with_reducible refine (cloneR (SB.out.below (by repeat (first | (with_reducible first | exact Below.refl _ _ | apply below_alloc | apply pw_below_drewN | apply below_drew1) | exact Below.refl _ _)))).mono ?_); rintro e w4 ⟨X0, x0, X1, x1, X2, x2, rfl, ho_, hb⟩; have hbx : Below w3.heap.size w3 w4 := below_step (by repeat (first | (with_reducible first | exact Below.refl _ _ | apply below_alloc | apply pw_below_drewN | apply below_drew1) | exact Below.refl _ _)) hb; obtain ⟨gx, rfl⟩ := own_some ho_.q1 (by omega); have hs_ := ho_.lower (show w.heap.size ≤ _ from (below_step HB.out (by repeat (first | (with_reducible first | exact Below.refl _ _ | apply below_alloc | apply pw_below_drewN | apply below_drew1) | exact Below.refl _ _))).size); clear ho_; clear zBK3_0 zBK3_1 zBK3_2 zBK4_0 zBK4_1 zBK6_0 zBK6_1 zBK6_2; replace SB := Aside0.mk (SB.out.below hbx); replace BK3 := Aside0.mk (BK3.out.below hbx); replace BK4 := Aside0.mk (BK4.out.below hbx); replace BK6 := Aside0.mk (BK6.out.below hbx); replace HB := Aside0.mk (below_step HB.out hbx); clear hbx; have OW := Aside0.mk (hs_); clear hb; clear hs_; obtain ⟨zBK3_0, zBK3_1, zBK3_2⟩ := BK3.out.c3; obtain ⟨zBK4_0, zBK4_1⟩ := BK4.out.c2; obtain ⟨zBK6_0, zBK6_1, zBK6_2⟩ := BK6.out.c3; refine ⟨_, rfl, ?_⟩) | (((with_reducible refine gate_dst (N := 8) rfl ?_); refine Evt.box2 ?hg (N := 8) ?hd (z := #[.slice none 0 0, .slice none 0 0, .slice none 0 0]) (cs := #[.slice X0 l0.length x0, .slice (some ⟨gx, 0, none⟩) l1.length x1, .slice X2 l2.length x2]) (T := 24) ?hr ?hg2 (.tmp 10) ?ho2 ?hd2 ?hy ?hx ?hi ?hz ?h1 ?_; (case hd => rfl); (case hg => rfl); (case hr => first | (go_simp; done) | (go_simp; rfl)); (case hg2 => rfl); (case ho2 => rfl); (case hd2 => rfl); (case hy => first | rfl | (go_simp; done)); (case hx => first | rfl | (go_simp; done)); (case hi => kernel_rfl); (case hz => rfl); (case h1 => first | rfl | (simp [Value.oneCell'])); intro g8 hg w5 hbox hb; have hbx : Below w4.heap.size w4 w5 := below_step (by repeat (first | (with_reducible first | exact Below.refl _ _ | apply below_alloc | apply pw_below_drewN | apply below_drew1) | exact Below.refl _ _)) hb; have GG8 := Aside0.mk (show w.heap.size ≤ g8 from (by rw [hg]; exact below_size (below_step HB.out (by repeat (first | (with_reducible first | exact Below.refl _ _ | apply below_alloc | apply pw_below_drewN | apply below_drew1) | exact Below.refl _ _))))); have NE8_BK6 := Aside0.mk (show g6 ≠ g8 from (by have h_ := BK6.out.blk.lt; have h2_ : w4.heap.size ≤ g8 := (by rw [hg]; exact below_size (show Below w4.heap.size w4 _ from (by repeat (first | (with_reducible first | exact Below.refl _ _ | apply below_alloc | apply pw_below_drewN | apply below_drew1) | exact Below.refl _ _)))); omega)); clear zBK3_0 zBK3_1 zBK3_2 zBK4_0 zBK4_1 zBK6_0 zBK6_1 zBK6_2; replace SB := Aside0.mk (SB.out.below hbx); replace BK3 := Aside0.mk (BK3.out.below hbx); replace BK4 := Aside0.mk (BK4.out.below hbx); replace BK6 := Aside0.mk (BK6.out.below hbx); replace OW := Aside0.mk (OW.out.below hbx); replace HB := Aside0.mk (below_step HB.out hbx); clear hbx; have BK8 := Aside0.mk (Bk.mk (hbox : Blk w5 g8 24 #[.slice X0 l0.length x0, .slice (some ⟨gx, 0, none⟩) l1.length x1, .slice X2 l2.length x2])); clear hbox hg hb; obtain ⟨zBK3_0, zBK3_1, zBK3_2⟩ := BK3.out.c3; obtain ⟨zBK4_0, zBK4_1⟩ := BK4.out.c2; obtain ⟨zBK6_0, zBK6_1, zBK6_2⟩ := BK6.out.c3; obtain ⟨zBK8_0, zBK8_1, zBK8_2⟩ := BK8.out.c3); obtain ⟨zx, fx⟩ := own_at OW.out.q1 hi; have ne8 := own_ne OW.out.q1 BK8.out; have ne8' := Ne.symm ne8) | (refine Evt.setrow_ev rfl (Evt.Bk.oth BK6.out (gset w5 gx i (.bool v)) (own_ne OW.out.q1 BK6.out)) 24 (.tmp 6) (.tmp 54) rfl rfl rfl rfl (by kernel_rfl) rfl (by simp [Value.oneCell']) ?_; intro wz bz_ hg_; have BZ := Aside0.mk bz_; have O4 := Aside0.mk (Own3.chg ((OW.out.rot.put0 i v).rot.rot) hg_ (Evt.Bk.oth BK6.out (gset w5 gx i (.bool v)) (own_ne OW.out.q1 BK6.out))); have HBz := Aside0.mk ((HB.out.grown (gset w5 gx i (.bool v)) HB.out.size (fun k hk => by cases hk; exact own_ge OW.out.q1)).grown hg_ (HB.out.grown (gset w5 gx i (.bool v)) HB.out.size (fun k hk => by cases hk; exact own_ge OW.out.q1)).size (fun k hk => by cases hk; exact GG6.out)); clear bz_ hg_))
  refine bodyPost_ret (results_ct rfl _ _ g6 24 _ (0, 0) _ rfl BZ.out.blk Try.underlying24 rfl (by kernel_rfl)) rfl ?_
  exact ⟨X0, x0, (some ⟨gx, 0, none⟩), x1, X2, x2, by rw [List.length_set]; rfl, by rw [List.length_set]; exact O4.out, HBz.out⟩
set_option maxHeartbeats 32000000 in
theorem wrRx {w : World} {s n e : Int} (v : Bool) (h : Sb w A0 c0 A1 c1 A2 c2 l0 l1 l2) (hc : (s = 1 ∧ n < 0 ∧ e = 3) ∨ (s = 1 ∧ (l0.length : Int) ≤ n ∧ e = 3) ∨ (s = 2 ∧ n < 0 ∧ e = 3) ∨ (s = 2 ∧ (l1.length : Int) ≤ n ∧ e = 3) ∨ ((¬ s = 1 ∧ ¬ s = 2) ∧ e = 8)) : Calls Try.prog 21 #[.agg #[.slice A0 l0.length c0, .slice A1 l1.length c1, .slice A2 l2.length c2], .agg #[.int .i64 s, .int .i64 n], .bool v] w fun x w' => Gives w x w' [] [] [] e := by
  have HS := Aside0.mk h
  clear h
  rcases hc with ⟨h1, h2, rfl⟩ | ⟨h1, h2, rfl⟩ | ⟨h1, h2, rfl⟩ | ⟨h1, h2, rfl⟩ | ⟨⟨h1, h2⟩, rfl⟩
  have e1 : decide (s = 1) = true := decide_eq_true (by omega)
  have e1' : (s == 1) = true := by simp; omega
  have e2 : decide (s = 2) = false := decide_eq_false (by omega)
  have e2' : (s == 2) = false := by simp; omega
  have e3 : decide (n < 0) = true := decide_eq_true (by omega)
  clear h1 h2
  rotate_left
  have e1 : decide (s = 1) = true := decide_eq_true (by omega)
  have e1' : (s == 1) = true := by simp; omega
  have e2 : decide (s = 2) = false := decide_eq_false (by omega)
  have e2' : (s == 2) = false := by simp; omega
  have e3 : decide (n < 0) = false := decide_eq_false (by omega)
  have e4 : decide ((l0.length : Int) ≤ n) = true := decide_eq_true (by omega)
  clear h1 h2
  rotate_left
  have e1 : decide (s = 1) = false := decide_eq_false (by omega)
  have e1' : (s == 1) = false := by simp; omega
  have e2 : decide (s = 2) = true := decide_eq_true (by omega)
  have e2' : (s == 2) = true := by simp; omega
  have e3 : decide (n < 0) = true := decide_eq_true (by omega)
  clear h1 h2
  rotate_left
  have e1 : decide (s = 1) = false := decide_eq_false (by omega)
  have e1' : (s == 1) = false := by simp; omega
  have e2 : decide (s = 2) = true := decide_eq_true (by omega)
  have e2' : (s == 2) = true := by simp; omega
  have e3 : decide (n < 0) = false := decide_eq_false (by omega)
  have e4 : decide ((l1.length : Int) ≤ n) = true := decide_eq_true (by omega)
  clear h1 h2
  rotate_left
  have e1 : decide (s = 1) = false := decide_eq_false (by omega)
  have e1' : (s == 1) = false := by simp; omega
  have e2 : decide (s = 2) = false := decide_eq_false (by omega)
  have e2' : (s == 2) = false := by simp; omega
  clear h1 h2
  rotate_left
  all_goals
    have HB := Aside0.mk (Below.refl w.heap.size w)
    have SB := Aside0.mk (HS.out)
    go_enter Try.func21, Try.ntmps21
    go_wp2_with (first | ((with_reducible refine gate_dst (N := 3) rfl ?_); refine box_event ?hg (N := 3) ?hd (cs := #[.slice A0 l0.length c0, .slice A1 l1.length c1, .slice A2 l2.length c2]) (t := 24) ?hr ?_; (case hd => rfl); (case hg => rfl); (case hr => first | (go_simp; done) | (go_simp; rfl)); intro g3 hg w1 hbox hb; have hbx : Below w.heap.size w w1 := below_step (by repeat (first | (with_reducible first | exact Below.refl _ _ | apply below_alloc | apply pw_below_drewN | apply below_drew1) | exact Below.refl _ _)) hb; replace SB := Aside0.mk (SB.out.below hbx); replace HB := Aside0.mk (below_step HB.out hbx); clear hbx; have BK3 := Aside0.mk (Bk.mk (hbox : Blk w1 g3 24 #[.slice A0 l0.length c0, .slice A1 l1.length c1, .slice A2 l2.length c2])); clear hbox hg hb; obtain ⟨zBK3_0, zBK3_1, zBK3_2⟩ := BK3.out.c3) | ((with_reducible refine gate_dst (N := 4) rfl ?_); refine box_event ?hg (N := 4) ?hd (cs := #[.int .i64 s, .int .i64 n]) (t := 26) ?hr ?_; (case hd => rfl); (case hg => rfl); (case hr => first | (go_simp; done) | (go_simp; rfl)); intro g4 hg w2 hbox hb; have hbx : Below w1.heap.size w1 w2 := below_step (by repeat (first | (with_reducible first | exact Below.refl _ _ | apply below_alloc | apply pw_below_drewN | apply below_drew1) | exact Below.refl _ _)) hb; clear zBK3_0 zBK3_1 zBK3_2; replace SB := Aside0.mk (SB.out.below hbx); replace BK3 := Aside0.mk (BK3.out.below hbx); replace HB := Aside0.mk (below_step HB.out hbx); clear hbx; have BK4 := Aside0.mk (Bk.mk (hbox : Blk w2 g4 26 #[.int .i64 s, .int .i64 n])); clear hbox hg hb; obtain ⟨zBK3_0, zBK3_1, zBK3_2⟩ := BK3.out.c3; obtain ⟨zBK4_0, zBK4_1⟩ := BK4.out.c2) | ((with_reducible refine gate_dst (N := 6) rfl ?_); refine box_event ?hg (N := 6) ?hd (cs := #[.slice none 0 0, .slice none 0 0, .slice none 0 0]) (t := 24) ?hr ?_; (case hd => rfl); (case hg => rfl); (case hr => first | (go_simp; done) | (go_simp; rfl)); intro g6 hg w3 hbox hb; have hbx : Below w2.heap.size w2 w3 := below_step (by repeat (first | (with_reducible first | exact Below.refl _ _ | apply below_alloc | apply pw_below_drewN | apply below_drew1) | exact Below.refl _ _)) hb; have GG6 := Aside0.mk (show w.heap.size ≤ g6 from (by rw [hg]; exact below_size (below_step HB.out (by repeat (first | (with_reducible first | exact Below.refl _ _ | apply below_alloc | apply pw_below_drewN | apply below_drew1) | exact Below.refl _ _))))); clear zBK3_0 zBK3_1 zBK3_2 zBK4_0 zBK4_1; replace SB := Aside0.mk (SB.out.below hbx); replace BK3 := Aside0.mk (BK3.out.below hbx); replace BK4 := Aside0.mk (BK4.out.below hbx); replace HB := Aside0.mk (below_step HB.out hbx); clear hbx; have BK6 := Aside0.mk (Bk.mk (hbox : Blk w3 g6 24 #[.slice none 0 0, .slice none 0 0, .slice none 0 0])); clear hbox hg hb; obtain ⟨zBK3_0, zBK3_1, zBK3_2⟩ := BK3.out.c3; obtain ⟨zBK4_0, zBK4_1⟩ := BK4.out.c2; obtain ⟨zBK6_0, zBK6_1, zBK6_2⟩ := BK6.out.c3) | ((with_reducible refine gate_callee (f := 23) rfl ?_); refine goesL_ (some 10) rfl rfl Try.func23 (by kernel_rfl) rfl #[.agg #[.slice A0 l0.length c0, .slice A1 l1.length c1, .slice A2 l2.length c2]] rfl (by (try simp only [List.map_toArray, List.map_cons, List.map_nil]); first | done | rfl | (simp only [List.length_drop, List.length_take]; rfl)) ?_; (with_reducible refine (cloneR (SB.out.below (by repeat (first | (with_reducible first | exact Below.refl _ _ | apply below_alloc | apply pw_below_drewN | apply below_drew1) | exact Below.refl _ _)))).mono ?_); rintro e w4 ⟨X0, x0, X1, x1, X2, x2, rfl, ho_, hb⟩; have hbx : Below w3.heap.size w3 w4 := below_step (by repeat (first | (with_reducible first | exact Below.refl _ _ | apply below_alloc | apply pw_below_drewN | apply below_drew1) | exact Below.refl _ _)) hb; have hs_ := ho_.lower (show w.heap.size ≤ _ from (below_step HB.out (by repeat (first | (with_reducible first | exact Below.refl _ _ | apply below_alloc | apply pw_below_drewN | apply below_drew1) | exact Below.refl _ _))).size); clear ho_; clear zBK3_0 zBK3_1 zBK3_2 zBK4_0 zBK4_1 zBK6_0 zBK6_1 zBK6_2; replace SB := Aside0.mk (SB.out.below hbx); replace BK3 := Aside0.mk (BK3.out.below hbx); replace BK4 := Aside0.mk (BK4.out.below hbx); replace BK6 := Aside0.mk (BK6.out.below hbx); replace HB := Aside0.mk (below_step HB.out hbx); clear hbx; have OW := Aside0.mk (hs_); clear hb; clear hs_; obtain ⟨zBK3_0, zBK3_1, zBK3_2⟩ := BK3.out.c3; obtain ⟨zBK4_0, zBK4_1⟩ := BK4.out.c2; obtain ⟨zBK6_0, zBK6_1, zBK6_2⟩ := BK6.out.c3; refine ⟨_, rfl, ?_⟩) | (((with_reducible refine gate_dst (N := 8) rfl ?_); refine Evt.box2 ?hg (N := 8) ?hd (z := #[.slice none 0 0, .slice none 0 0, .slice none 0 0]) (cs := #[.slice X0 l0.length x0, .slice X1 l1.length x1, .slice X2 l2.length x2]) (T := 24) ?hr ?hg2 (.tmp 10) ?ho2 ?hd2 ?hy ?hx ?hi ?hz ?h1 ?_; (case hd => rfl); (case hg => rfl); (case hr => first | (go_simp; done) | (go_simp; rfl)); (case hg2 => rfl); (case ho2 => rfl); (case hd2 => rfl); (case hy => first | rfl | (go_simp; done)); (case hx => first | rfl | (go_simp; done)); (case hi => kernel_rfl); (case hz => rfl); (case h1 => first | rfl | (simp [Value.oneCell'])); intro g8 hg w5 hbox hb; have hbx : Below w4.heap.size w4 w5 := below_step (by repeat (first | (with_reducible first | exact Below.refl _ _ | apply below_alloc | apply pw_below_drewN | apply below_drew1) | exact Below.refl _ _)) hb; have GG8 := Aside0.mk (show w.heap.size ≤ g8 from (by rw [hg]; exact below_size (below_step HB.out (by repeat (first | (with_reducible first | exact Below.refl _ _ | apply below_alloc | apply pw_below_drewN | apply below_drew1) | exact Below.refl _ _))))); have NE8_BK6 := Aside0.mk (show g6 ≠ g8 from (by have h_ := BK6.out.blk.lt; have h2_ : w4.heap.size ≤ g8 := (by rw [hg]; exact below_size (show Below w4.heap.size w4 _ from (by repeat (first | (with_reducible first | exact Below.refl _ _ | apply below_alloc | apply pw_below_drewN | apply below_drew1) | exact Below.refl _ _)))); omega)); clear zBK3_0 zBK3_1 zBK3_2 zBK4_0 zBK4_1 zBK6_0 zBK6_1 zBK6_2; replace SB := Aside0.mk (SB.out.below hbx); replace BK3 := Aside0.mk (BK3.out.below hbx); replace BK4 := Aside0.mk (BK4.out.below hbx); replace BK6 := Aside0.mk (BK6.out.below hbx); replace OW := Aside0.mk (OW.out.below hbx); replace HB := Aside0.mk (below_step HB.out hbx); clear hbx; have BK8 := Aside0.mk (Bk.mk (hbox : Blk w5 g8 24 #[.slice X0 l0.length x0, .slice X1 l1.length x1, .slice X2 l2.length x2])); clear hbox hg hb; obtain ⟨zBK3_0, zBK3_1, zBK3_2⟩ := BK3.out.c3; obtain ⟨zBK4_0, zBK4_1⟩ := BK4.out.c2; obtain ⟨zBK6_0, zBK6_1, zBK6_2⟩ := BK6.out.c3; obtain ⟨zBK8_0, zBK8_1, zBK8_2⟩ := BK8.out.c3)) | (refine Evt.setrow_ev rfl ((BK6.out.below (by repeat (first | (with_reducible first | exact Below.refl _ _ | apply below_alloc | apply pw_below_drewN | apply below_drew1) | exact Below.refl _ _)))) 24 (.tmp 6) (.tmp 27) rfl rfl rfl rfl (by kernel_rfl) rfl (by simp [Value.oneCell']) ?_; intro wz bz_ hg_; have BZ := Aside0.mk bz_; have O4 := Aside0.mk (show Own3 wz w.heap.size (.slice none 0 0) (.slice none 0 0) (.slice none 0 0) [] [] [] from ⟨Kd.R_nil _ _ _ _ _, Kd.R_nil _ _ _ _ _, Kd.R_nil _ _ _ _ _⟩); have HBz := Aside0.mk ((below_step HB.out (by repeat (first | (with_reducible first | exact Below.refl _ _ | apply below_alloc | apply pw_below_drewN | apply below_drew1) | exact Below.refl _ _))).grown hg_ (below_step HB.out (by repeat (first | (with_reducible first | exact Below.refl _ _ | apply below_alloc | apply pw_below_drewN | apply below_drew1) | exact Below.refl _ _))).size (fun k hk => by cases hk; exact GG6.out)); clear bz_ hg_) | (refine Evt.setrow_ev rfl ((BK6.out.below (by repeat (first | (with_reducible first | exact Below.refl _ _ | apply below_alloc | apply pw_below_drewN | apply below_drew1) | exact Below.refl _ _)))) 24 (.tmp 6) (.tmp 47) rfl rfl rfl rfl (by kernel_rfl) rfl (by simp [Value.oneCell']) ?_; intro wz bz_ hg_; have BZ := Aside0.mk bz_; have O4 := Aside0.mk (show Own3 wz w.heap.size (.slice none 0 0) (.slice none 0 0) (.slice none 0 0) [] [] [] from ⟨Kd.R_nil _ _ _ _ _, Kd.R_nil _ _ _ _ _, Kd.R_nil _ _ _ _ _⟩); have HBz := Aside0.mk ((below_step HB.out (by repeat (first | (with_reducible first | exact Below.refl _ _ | apply below_alloc | apply pw_below_drewN | apply below_drew1) | exact Below.refl _ _))).grown hg_ (below_step HB.out (by repeat (first | (with_reducible first | exact Below.refl _ _ | apply below_alloc | apply pw_below_drewN | apply below_drew1) | exact Below.refl _ _))).size (fun k hk => by cases hk; exact GG6.out)); clear bz_ hg_) | (refine Evt.setrow_ev rfl ((BK6.out.below (by repeat (first | (with_reducible first | exact Below.refl _ _ | apply below_alloc | apply pw_below_drewN | apply below_drew1) | exact Below.refl _ _)))) 24 (.tmp 6) (.tmp 13) rfl rfl rfl rfl (by kernel_rfl) rfl (by simp [Value.oneCell']) ?_; intro wz bz_ hg_; have BZ := Aside0.mk bz_; have O4 := Aside0.mk (show Own3 wz w.heap.size (.slice none 0 0) (.slice none 0 0) (.slice none 0 0) [] [] [] from ⟨Kd.R_nil _ _ _ _ _, Kd.R_nil _ _ _ _ _, Kd.R_nil _ _ _ _ _⟩); have HBz := Aside0.mk ((below_step HB.out (by repeat (first | (with_reducible first | exact Below.refl _ _ | apply below_alloc | apply pw_below_drewN | apply below_drew1) | exact Below.refl _ _))).grown hg_ (below_step HB.out (by repeat (first | (with_reducible first | exact Below.refl _ _ | apply below_alloc | apply pw_below_drewN | apply below_drew1) | exact Below.refl _ _))).size (fun k hk => by cases hk; exact GG6.out)); clear bz_ hg_))
    refine bodyPost_ret (results_ct rfl _ _ g6 24 _ (0, 0) _ rfl BZ.out.blk Try.underlying24 rfl (by kernel_rfl)) rfl ?_
    exact ⟨_, _, _, _, _, _, rfl, O4.out, HBz.out⟩
theorem writeR {w : World} (s n : Int) (v : Bool) (h : Sb w A0 c0 A1 c1 A2 c2 l0 l1 l2) {r0 r1 r2 : List Bool} {e : Int} (hr : wrv l0 l1 l2 s n v = (r0, r1, r2, e)) : Calls Try.prog 21 #[.agg #[.slice A0 l0.length c0, .slice A1 l1.length c1, .slice A2 l2.length c2], .agg #[.int .i64 s, .int .i64 n], .bool v] w fun x w' => Gives w x w' r0 r1 r2 e := by
  unfold wrv at hr
  by_cases c1 : s = 1
  · rw [if_pos c1] at hr
    by_cases c : 0 ≤ n ∧ n < l0.length
    · rw [if_pos c] at hr
      injection hr with a1 hr; injection hr with a2 hr; injection hr with a3 a4
      obtain ⟨i, rfl⟩ : ∃ i : Nat, n = i := ⟨n.toNat, by omega⟩
      subst c1 a1 a2 a3 a4
      rw [Int.toNat_natCast]
      exact wrR1 v h (by omega)
    · rw [if_neg c] at hr
      injection hr with a1 hr; injection hr with a2 hr; injection hr with a3 a4
      subst a1 a2 a3 a4
      exact wrRx v h (by omega)
  · rw [if_neg c1] at hr
    by_cases c2 : s = 2
    · rw [if_pos c2] at hr
      by_cases c : 0 ≤ n ∧ n < l1.length
      · rw [if_pos c] at hr
        injection hr with a1 hr; injection hr with a2 hr; injection hr with a3 a4
        obtain ⟨i, rfl⟩ : ∃ i : Nat, n = i := ⟨n.toNat, by omega⟩
        subst c2 a1 a2 a3 a4
        rw [Int.toNat_natCast]
        exact wrR2 v h (by omega)
      · rw [if_neg c] at hr
        injection hr with a1 hr; injection hr with a2 hr; injection hr with a3 a4
        subst a1 a2 a3 a4
        exact wrRx v h (by omega)
    · rw [if_neg c2] at hr
      injection hr with a1 hr; injection hr with a2 hr; injection hr with a3 a4
      subst a1 a2 a3 a4
      exact wrRx v h (by omega)
end
end Go.Proofs.Ytjohdkbciafpfaa.Vm6
