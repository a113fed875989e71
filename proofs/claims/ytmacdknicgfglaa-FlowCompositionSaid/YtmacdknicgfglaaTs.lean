/- graph.TopoSort, walked. -/
import Derived.Test.YtmacdknicgfglaaSh
import Derived.Test.YtmacdknicgfglaaOr3
import Derived.Test.YtmacdknicgfglaaGp
namespace Go.Proofs.Ytmacdknicgfglaa.Gw
open Go.RowKit Go.Shelf Go.Proofs.YtmacdknicgfglaaW.PrintWords Go.Proofs.YtmacdknicgfglaaW.PrintMore Go.Proofs.YtmacdknicgfglaaW.PrintLast Go.Proofs.Ytmacdknicgfglaa.Chg Go.Proofs.Ytmacdknicgfglaa.Evt Go.Proofs.Ytmacdknicgfglaa.Impl Go.Proofs.Ytmacdknicgfglaa.Gp Go.Proofs.Ytmacdknicgfglaa.Mp
set_option linter.unusedVariables false
set_option linter.unusedSimpArgs false
set_option maxRecDepth 100000
theorem PredV.mono {α : Type} {k : Nat} {lb : Array Value} {enc : α → Value} {q : α → Bool} {S S' : α → Prop} {w : World} (h : PredV k lb enc q S w) (hS : ∀ x, S' x → S x) : PredV k lb enc q S' w := ⟨fun W x hx hb => h.out W x (hS x hx) hb⟩
theorem Ro.slice {α : Type} {enc : α → Value} {h1 : ∀ x, (enc x).oneCell' = true} {e : TypeId} {w0 w : World} {v : Value} {xs : List α} (h : Ro (Kd.scalar enc h1) e w0 w v xs) : ∃ A c, v = .slice A xs.length c ∧ Aside0 (Rw (Kd.scalar enc h1) w A c xs) := by
  obtain ⟨A, c, rfl⟩ := Kd.R_slice h.row
  exact ⟨A, c, rfl, ⟨Rw.of_R h.row⟩⟩
theorem Ro.sliceI {e : TypeId} {w0 w : World} {v : Value} {xs : List Int} (h : Ro (Kd.int .i64) e w0 w v xs) : ∃ A c, v = .slice A xs.length c ∧ Aside0 (Rw (Kd.int .i64) w A c xs) := Ro.slice (enc := Value.int .i64) (h1 := fun _ => rfl) h
theorem Ro.sliceS {e : TypeId} {w0 w : World} {v : Value} {xs : List ByteArray} (h : Ro Kd.string e w0 w v xs) : ∃ A c, v = .slice A xs.length c ∧ Aside0 (Rw Kd.string w A c xs) := Ro.slice (enc := Value.string) (h1 := fun _ => rfl) h
section
variable {w w' : World} {A1 A2 : Option Addr} {c1 c2 b n gr gt : Nat} {l1 : List S41} {l2 : List S101} {a0 a3 : ByteArray} {p : ByteArray → Bool}
theorem Rg.c3 {ad : Addr} (h : Rg w (some ad) c1 l1 A2 c2 l2) {j : Nat} (hj : j < l1.length) : w.cell? ⟨(ad.add (j * 5)).block, (ad.add (j * 5)).off + 3, none⟩ = some (.string l1[j].f2) := by
  obtain ⟨ad', e, h0, h1, h2, h3, h4⟩ := h.at hj
  injection e with e
  subst e
  exact h3
theorem Rg.c4 {ad : Addr} (h : Rg w (some ad) c1 l1 A2 c2 l2) {j : Nat} (hj : j < l1.length) : w.cell? ⟨(ad.add (j * 5)).block, (ad.add (j * 5)).off + 4, none⟩ = some (.string l1[j].f3) := by
  obtain ⟨ad', e, h0, h1, h2, h3, h4⟩ := h.at hj
  injection e with e
  subst e
  exact h4
/-- The rung in block gr, a map of what is told behind block gt. -/
structure Tv (w : World) (gr gt b n : Nat) (p : ByteArray → Bool) (a0 : ByteArray) (A1 : Option Addr) (c1 : Nat) (l1 : List S41) (A2 : Option Addr) (c2 : Nat) (l2 : List S101) (a3 : ByteArray) : Prop where
  br : Bk w gr 25 #[.string a0, .slice A1 l1.length c1, .slice A2 l2.length c2, .string a3]
  bt : Bk w gt 65 #[.map (some b)]
  m : MB w b n p
  rg : Rg w A1 c1 l1 A2 c2 l2
theorem Tv.below (h : Tv w gr gt b n p a0 A1 c1 l1 A2 c2 l2 a3) (hb : Below w.heap.size w w') : Tv w' gr gt b n p a0 A1 c1 l1 A2 c2 l2 a3 := ⟨h.br.below hb, h.bt.below hb, h.m.below hb, h.rg.below hb⟩
theorem from_at {j : Nat} (hj : j < l1.length) : fromE (es l1) (j : Int) = l1[j].f2 := by
  unfold fromE
  rw [Int.toNat_natCast, List.getD_eq_getElem?_getD, List.getElem?_eq_getElem (by rw [es_len]; exact hj), Option.getD_some, es_get hj]
theorem to_at {j : Nat} (hj : j < l1.length) : toE (es l1) (j : Int) = l1[j].f3 := by
  unfold toE
  rw [Int.toNat_natCast, List.getD_eq_getElem?_getD, List.getElem?_eq_getElem (by rw [es_len]; exact hj), Option.getD_some, es_get hj]
set_option maxHeartbeats 1000000 in
theorem t11_any (h : Tv w gr gt b n p a0 A1 c1 l1 A2 c2 l2 a3) (hok : okG (es l1) = true) : PredV 49 #[.pointer (some ⟨gt, 0, none⟩), .pointer (some ⟨gr, 0, none⟩)] (Value.int .i64) (fun i => !p (fromE (es l1) i)) (fun i => ∃ j : Nat, i = j ∧ j < l1.length) w := by
  refine ⟨fun W x hx hB => ?_⟩
  obtain ⟨j, rfl, hjl⟩ := hx
  have T := Aside0.mk (h.below hB)
  have S2 := Aside0.mk (okG_f2 hok (c := (l1[j].f2, l1[j].f3)) (by rw [← es_get hjl]; exact List.getElem_mem _))
  have q1 : decide ((j : Int) < (l1.length : Int)) = true := decide_eq_true (by omega)
  have q0 : decide (j < l1.length) = true := decide_eq_true (by omega)
  have FA := Aside0.mk (from_at hjl)
  obtain ⟨r, hr⟩ : ∃ r, Aside0 (p l1[j].f2 = r) := ⟨_, ⟨rfl⟩⟩
  obtain ⟨ad, rfl, x0, x1, x2, x3, x4⟩ := T.out.rg.at hjl
  clear hB h x0 x1 x2 x3 x4
  have HB := Aside0.mk (Below.refl W.heap.size W)
  have KR : Aside0 (Bk W gr 25 #[.string a0, .slice (some ad) l1.length c1, .slice A2 l2.length c2, .string a3]) := Aside0.mk (T.out.br)
  have KT : Aside0 (Bk W gt 65 #[.map (some b)]) := Aside0.mk (T.out.bt)
  have TV := Aside0.mk (T.out)
  have MT := Aside0.mk (T.out.m)
  clear T
  have zKR_0 : W.cell? ⟨gr, 0, none⟩ = some (.string a0) := (blk_cell KR.out.blk 0).trans rfl
  have zKR_1 : W.cell? ⟨gr, 1, none⟩ = some (.slice (some ad) l1.length c1) := (blk_cell KR.out.blk 1).trans rfl
  have zKR_2 : W.cell? ⟨gr, 2, none⟩ = some (.slice A2 l2.length c2) := (blk_cell KR.out.blk 2).trans rfl
  have zKR_3 : W.cell? ⟨gr, 3, none⟩ = some (.string a3) := (blk_cell KR.out.blk 3).trans rfl
  have zKT_0 : W.cell? ⟨gt, 0, none⟩ = some (.map (some b)) := (blk_cell KT.out.blk 0).trans rfl
  show Calls Try.prog 49 #[.int .i64 j, .pointer (some ⟨gt, 0, none⟩), .pointer (some ⟨gr, 0, none⟩)] W _
  go_enter Try.func49, Try.ntmps49
  go_wp2
  have KP : Aside0 (∀ w', Below W.heap.size W w' → (w'.cell? ⟨gr, 0, none⟩ = some (.string a0) ∧ w'.cell? ⟨gr, 1, none⟩ = some (.slice (some ad) l1.length c1) ∧ w'.cell? ⟨gr, 2, none⟩ = some (.slice A2 l2.length c2) ∧ w'.cell? ⟨gr, 3, none⟩ = some (.string a3) ∧ w'.cell? ⟨gt, 0, none⟩ = some (.map (some b)))) := Aside0.mk (fun w' hb => ⟨(blk_cell (KR.out.below hb).blk 0).trans rfl, (blk_cell (KR.out.below hb).blk 1).trans rfl, (blk_cell (KR.out.below hb).blk 2).trans rfl, (blk_cell (KR.out.below hb).blk 3).trans rfl, (blk_cell (KT.out.below hb).blk 0).trans rfl⟩)
  clear zKR_0 zKR_1 zKR_2 zKR_3 zKT_0
  refine Evt.ol_start (ds := []) (w0 := W) (T := (true, [([], []), ([], []), ([1], [1]), ([], []), ([2, 3], [2, 3]), ([4], [4]), ([5], [5]), ([0, 6], [0, 6]), ([7], [7]), ([8, 0, 1, 2, 3, 4, 5, 6, 7, 8], [8])])) (B := [0, 0, 2, 0, 14, 30, 62, 127, 255, 511]) 10 [(1, some 6), (3, some 8), (0, some 5), (2, some 7), (4, some 9), (5, some 10), (6, some 11), (7, some 12), (8, some 13), (9, some 4)] (by kernel_rfl) rfl (by kernel_rfl) (by kernel_rfl) (by kernel_rfl) (by repeat (first | (with_reducible first | exact Below.refl _ _ | apply below_alloc | apply pw_below_drewN | apply below_drew1) | exact Below.refl _ _)) ?_
  intro HT_ HW_ w_ hHeld
  iterate 7 (first | (refine Evt.ol_off (a' := ?_) HT_ rfl rfl (by rfl) (by kernel_rfl) (fun _ _ _ h => h) ?_ ?_; rotate_left; (· (try simp only [Act.put, List.setIfInBounds_toArray, List.set_cons_zero, List.set_cons_succ, i64_w, i32_w]); rfl)) | (refine Evt.ol_pure (a' := ?_) (v := ?_) HT_ rfl rfl rfl (by rfl) (by kernel_rfl) (fun _ _ _ h => h) ?_ ?_ ?_; rotate_left 2; (· intro w'; go_simp; with_reducible rfl); (· (try simp only [Act.put, List.setIfInBounds_toArray, List.set_cons_zero, List.set_cons_succ, i64_w, i32_w]); rfl)) | (refine Evt.ol_load (a' := ?_) (v := ?_) HT_ HW_ hHeld rfl rfl rfl (by rfl) (by kernel_rfl) (fun _ _ _ h => h) ?_ ?_ ?_; rotate_left 2; (· intro w' hS_; obtain ⟨s0, s1, s2, s3, s4⟩ := KP.out w' hS_.out; have y3 := (TV.out.rg.below hS_.out).c3 hjl; go_simp; with_reducible rfl); (· (try simp only [Act.put, List.setIfInBounds_toArray, List.set_cons_zero, List.set_cons_succ, i64_w, i32_w]); rfl)))
  refine Evt.ol_lookB (a' := ?a4_) HT_ HW_ hHeld rfl rfl rfl (by rfl) (by kernel_rfl) (fun _ _ _ _ h => h) (s := l1[j].f2) (v := r) (fun w_' hS_ => MT.out.below hS_.out) (by have := S2.out; unfold maxLen; omega) hr.out rfl rfl ?ha4_ ?h4_
  case ha4_ => (simp only [Act.put, List.setIfInBounds_toArray, List.set_cons_zero, List.set_cons_succ, i64_w, i32_w]; rfl)
  iterate 2 (first | (refine Evt.ol_off (a' := ?_) HT_ rfl rfl (by rfl) (by kernel_rfl) (fun _ _ _ h => h) ?_ ?_; rotate_left; (· (try simp only [Act.put, List.setIfInBounds_toArray, List.set_cons_zero, List.set_cons_succ, i64_w, i32_w]); rfl)) | (refine Evt.ol_pure (a' := ?_) (v := ?_) HT_ rfl rfl rfl (by rfl) (by kernel_rfl) (fun _ _ _ h => h) ?_ ?_ ?_; rotate_left 2; (· intro w'; go_simp; with_reducible rfl); (· (try simp only [Act.put, List.setIfInBounds_toArray, List.set_cons_zero, List.set_cons_succ, i64_w, i32_w]); rfl)) | (refine Evt.ol_load (a' := ?_) (v := ?_) HT_ HW_ hHeld rfl rfl rfl (by rfl) (by kernel_rfl) (fun _ _ _ h => h) ?_ ?_ ?_; rotate_left 2; (· intro w' hS_; obtain ⟨s0, s1, s2, s3, s4⟩ := KP.out w' hS_.out; have y3 := (TV.out.rg.below hS_.out).c3 hjl; go_simp; with_reducible rfl); (· (try simp only [Act.put, List.setIfInBounds_toArray, List.set_cons_zero, List.set_cons_succ, i64_w, i32_w]); rfl)))
  refine Evt.ol_done HT_ (by kernel_rfl) ?_
  refine Evt.gen_any (w0 := W) hHeld.out ?_
  intro w1 hbx
  clear hHeld HT_ HW_ KP
  have n_KR := Aside0.mk (KR.out.below hbx)
  have n_KT := Aside0.mk (KT.out.below hbx)
  have n_TV := Aside0.mk (TV.out.below hbx)
  have n_MT := Aside0.mk (MT.out.below hbx)
  have n_HB := Aside0.mk (below_step HB.out hbx)
  clear HB KR KT TV MT
  have KR := n_KR
  have KT := n_KT
  have TV := n_TV
  have MT := n_MT
  have HB := n_HB
  clear hbx n_KR n_KT n_TV n_MT n_HB
  have zKR_0 : w1.cell? ⟨gr, 0, none⟩ = some (.string a0) := (blk_cell KR.out.blk 0).trans rfl
  have zKR_1 : w1.cell? ⟨gr, 1, none⟩ = some (.slice (some ad) l1.length c1) := (blk_cell KR.out.blk 1).trans rfl
  have zKR_2 : w1.cell? ⟨gr, 2, none⟩ = some (.slice A2 l2.length c2) := (blk_cell KR.out.blk 2).trans rfl
  have zKR_3 : w1.cell? ⟨gr, 3, none⟩ = some (.string a3) := (blk_cell KR.out.blk 3).trans rfl
  have zKT_0 : w1.cell? ⟨gt, 0, none⟩ = some (.map (some b)) := (blk_cell KT.out.blk 0).trans rfl
  go_wp2
  go_ret
  exact ⟨by rw [FA.out, hr.out]; rfl, HB.out⟩
theorem eg_t11 : ∀ args w, (callFunc 49 args).run Try.prog w = .ok (.enter 49 args) w := enters_of Try.func49 (by kernel_rfl) rfl
theorem eg_t1 : ∀ args w, (callFunc 47 args).run Try.prog w = .ok (.enter 47 args) w := enters_of Try.func47 (by kernel_rfl) rfl
theorem in_lt {s : ByteArray} {i : Int} (h : i ∈ inL (es l1) s) : ∃ j : Nat, i = j ∧ j < l1.length := by
  obtain ⟨j, rfl, hj, _⟩ := inL_mem.1 h
  exact ⟨j, rfl, by rw [es_len] at hj; exact hj⟩
set_option maxHeartbeats 1000000 in
theorem t1_any (h : Tv w gr gt b n p a0 A1 c1 l1 A2 c2 l2 a3) (hok : okG (es l1) = true) : PredV 47 #[.pointer (some ⟨gr, 0, none⟩), .pointer (some ⟨gt, 0, none⟩)] Value.string (fun s => !((inL (es l1) s).any fun i => !p (fromE (es l1) i))) (fun _ => True) w := by
  refine ⟨fun W s hx hB => ?_⟩
  have T := Aside0.mk (h.below hB)
  have OK := Aside0.mk hok
  have LN : l1.length ≤ 1000 := by have := okG_len hok; rw [es_len] at this; exact this
  have IL := Aside0.mk (idxs_len (fun c => decide (c.2 = s)) (es l1))
  have hmf : ∀ (fn : Fn) (first cap : Array Value) (w : World), (Instr.makeFunc fn first cap).run Try.prog w = .ok (.func fn first cap) w := fun _ _ _ _ => rfl
  obtain ⟨r, hr⟩ : ∃ r, Aside0 ((inL (es l1) s).any (fun i => !p (fromE (es l1) i)) = r) := ⟨_, ⟨rfl⟩⟩
  clear hB h hok hx
  have HB := Aside0.mk (Below.refl W.heap.size W)
  have KR : Aside0 (Bk W gr 25 #[.string a0, .slice A1 l1.length c1, .slice A2 l2.length c2, .string a3]) := Aside0.mk (T.out.br)
  have TV := Aside0.mk (T.out)
  clear T
  have zKR_0 : W.cell? ⟨gr, 0, none⟩ = some (.string a0) := (blk_cell KR.out.blk 0).trans rfl
  have zKR_1 : W.cell? ⟨gr, 1, none⟩ = some (.slice A1 l1.length c1) := (blk_cell KR.out.blk 1).trans rfl
  have zKR_2 : W.cell? ⟨gr, 2, none⟩ = some (.slice A2 l2.length c2) := (blk_cell KR.out.blk 2).trans rfl
  have zKR_3 : W.cell? ⟨gr, 3, none⟩ = some (.string a3) := (blk_cell KR.out.blk 3).trans rfl
  show Calls Try.prog 47 #[.string s, .pointer (some ⟨gr, 0, none⟩), .pointer (some ⟨gt, 0, none⟩)] W _
  go_enter Try.func47, Try.ntmps47
  go_wp2_with (first | ((with_reducible refine gate_callee (f := 23) rfl ?_); refine goesL_ (some 7) rfl rfl Try.func23 (by kernel_rfl) rfl #[.agg #[.string a0, .slice A1 l1.length c1, .slice A2 l2.length c2, .string a3], .string s] rfl (by (try simp only [List.map_toArray, List.map_cons, List.map_nil]); first | done | rfl | (simp only [List.length_drop, List.length_take]; rfl)) ?_; (with_reducible refine (incoming_any _ (TV.out.below (by repeat (first | (with_reducible first | exact Below.refl _ _ | apply below_alloc | apply pw_below_drewN | apply below_drew1) | exact Below.refl _ _))).rg LN s).mono ?_); rintro e w1 ⟨v, rfl, ho, hb⟩; have hbx : Below W.heap.size W w1 := below_step (by repeat (first | (with_reducible first | exact Below.refl _ _ | apply below_alloc | apply pw_below_drewN | apply below_drew1) | exact Below.refl _ _)) hb; obtain ⟨A_, c_, rfl, hw_⟩ := Ro.sliceI ho; clear zKR_0 zKR_1 zKR_2 zKR_3; have n_KR := Aside0.mk (KR.out.below hbx); have n_TV := Aside0.mk (TV.out.below hbx); have n_HB := Aside0.mk (below_step HB.out hbx); clear HB KR TV; have KR := n_KR; have TV := n_TV; have HB := n_HB; clear hbx n_KR n_TV n_HB; have IW := Aside0.mk (hw_.out); clear hb; clear ho hw_; have zKR_0 : w1.cell? ⟨gr, 0, none⟩ = some (.string a0) := (blk_cell KR.out.blk 0).trans rfl; have zKR_1 : w1.cell? ⟨gr, 1, none⟩ = some (.slice A1 l1.length c1) := (blk_cell KR.out.blk 1).trans rfl; have zKR_2 : w1.cell? ⟨gr, 2, none⟩ = some (.slice A2 l2.length c2) := (blk_cell KR.out.blk 2).trans rfl; have zKR_3 : w1.cell? ⟨gr, 3, none⟩ = some (.string a3) := (blk_cell KR.out.blk 3).trans rfl; refine ⟨_, rfl, ?_⟩) | ((with_reducible refine gate_callee (f := 48) rfl ?_); refine goesL_ (some 9) rfl rfl Try.func48 (by kernel_rfl) rfl #[.slice A_ (inL (es l1) s).length c_, .func (.func 49) #[] #[.pointer (some ⟨gt, 0, none⟩), .pointer (some ⟨gr, 0, none⟩)]] rfl (by (try simp only [List.map_toArray, List.map_cons, List.map_nil]); first | done | rfl | (simp only [List.length_drop, List.length_take]; rfl)) ?_; (with_reducible refine (contfI' eg_t11 (IW.out.below (by repeat (first | (with_reducible first | exact Below.refl _ _ | apply below_alloc | apply pw_below_drewN | apply below_drew1) | exact Below.refl _ _))) (by have := IL.out; rw [es_len] at this; unfold inL; omega) ((t11_any (TV.out.below (by repeat (first | (with_reducible first | exact Below.refl _ _ | apply below_alloc | apply pw_below_drewN | apply below_drew1) | exact Below.refl _ _))) OK.out).mono (fun x hx => in_lt hx)) hr.out).mono ?_); rintro e w2 ⟨rfl, hb⟩; have hbx : Below w1.heap.size w1 w2 := below_step (by repeat (first | (with_reducible first | exact Below.refl _ _ | apply below_alloc | apply pw_below_drewN | apply below_drew1) | exact Below.refl _ _)) hb; clear zKR_0 zKR_1 zKR_2 zKR_3; have n_KR := Aside0.mk (KR.out.below hbx); have n_TV := Aside0.mk (TV.out.below hbx); have n_IW := Aside0.mk (IW.out.below hbx); have n_HB := Aside0.mk (below_step HB.out hbx); clear HB KR TV IW; have KR := n_KR; have TV := n_TV; have IW := n_IW; have HB := n_HB; clear hbx n_KR n_TV n_IW n_HB; clear hb; have zKR_0 : w2.cell? ⟨gr, 0, none⟩ = some (.string a0) := (blk_cell KR.out.blk 0).trans rfl; have zKR_1 : w2.cell? ⟨gr, 1, none⟩ = some (.slice A1 l1.length c1) := (blk_cell KR.out.blk 1).trans rfl; have zKR_2 : w2.cell? ⟨gr, 2, none⟩ = some (.slice A2 l2.length c2) := (blk_cell KR.out.blk 2).trans rfl; have zKR_3 : w2.cell? ⟨gr, 3, none⟩ = some (.string a3) := (blk_cell KR.out.blk 3).trans rfl; refine ⟨_, rfl, ?_⟩))
  go_ret
  exact ⟨by rw [hr.out]; rfl, HB.out⟩
/-- TopoSort's loop at hand: what is told (tl), what is left, what is put out. -/
structure Ts (w0 w : World) (gr gt b : Nat) (a0 : ByteArray) (A1 : Option Addr) (c1 : Nat) (l1 : List S41) (A2 : Option Addr) (c2 : Nat) (l2 : List S101) (a3 : ByteArray) (vl vs : Value) (tl left out : List ByteArray) : Prop where
  tv : Tv w gr gt b tl.length (fun s => decide (s ∈ tl)) a0 A1 c1 l1 A2 c2 l2 a3
  bel : Below w0.heap.size w0 w
  bge : w0.heap.size ≤ b
  rl : Ro Kd.string 9 w0 w vl left
  rs : Ro Kd.string 9 w0 w vs out
  ap : ∀ k, vs.ownBlock = some k → vl.ownBlock ≠ some k
  rg : Rg w0 A1 c1 l1 A2 c2 l2
section
variable {w0 w1 : World} {vl vs : Value} {tl left out : List ByteArray}
theorem Ts.below (h : Ts w0 w gr gt b a0 A1 c1 l1 A2 c2 l2 a3 vl vs tl left out) (hb : Below w.heap.size w w') : Ts w0 w' gr gt b a0 A1 c1 l1 A2 c2 l2 a3 vl vs tl left out := ⟨h.tv.below hb, below_step h.bel hb, h.bge, h.rl.below hb, h.rs.below hb, h.ap, h.rg⟩
theorem Ts.put (h : Ts w0 w gr gt b a0 A1 c1 l1 A2 c2 l2 a3 vl vs tl left out) {s : ByteArray} (hm : MB w1 b (tl.length + 1) (fun z => if z = s then true else decide (z ∈ tl))) (hg : w.grownBy w1 (some b)) : Ts w0 w1 gr gt b a0 A1 c1 l1 A2 c2 l2 a3 vl vs (tl ++ [s]) left out := by
  have hbel : Below w0.heap.size w0 w1 := h.bel.grown hg h.bel.size (fun k hk => by cases hk; exact h.bge)
  refine ⟨⟨h.tv.br.mput h.tv.m hg, h.tv.bt.mput h.tv.m hg, ?_, h.rg.below hbel⟩, hbel, h.bge, ⟨R_other h.rl.row hg (.inl (h.tv.m.row h.rl.row))⟩, ⟨R_other h.rs.row hg (.inl (h.tv.m.row h.rs.row))⟩, h.ap, h.rg⟩
  rw [List.length_append, List.length_singleton]
  refine hm.congr (fun z => ?_)
  by_cases e : z = s
  · subst e; simp
  · simp [e]
theorem Ts.app (h : Ts w0 w gr gt b a0 A1 c1 l1 A2 c2 l2 a3 vl vs tl left out) {v1 : Value} {s : ByteArray} (hr : Ro Kd.string 9 w0 w1 v1 (out ++ [s])) (hb : Below w0.heap.size w0 w1) (hg : w.grownBy w1 vs.ownBlock) (hat : v1.ownBlock = vs.ownBlock ∨ ∃ k, v1.ownBlock = some k ∧ w.heap.size ≤ k) : Ts w0 w1 gr gt b a0 A1 c1 l1 A2 c2 l2 a3 vl v1 tl left (out ++ [s]) := by
  refine ⟨⟨h.tv.br.grown hg (Kd.R_ne h.rs.row h.tv.br.blk (by decide)), h.tv.bt.grown hg (Kd.R_ne h.rs.row h.tv.bt.blk (by decide)), h.tv.m.grown hg (h.tv.m.row h.rs.row), h.rg.below hb⟩, hb, h.bge, ⟨R_other h.rl.row hg ?_⟩, hr, ?_, h.rg⟩
  · cases hv : vs.ownBlock with
    | none => exact .inr rfl
    | some k => exact .inl (Ne.symm (h.ap k hv))
  · intro k hk
    rcases hat with e | ⟨k', e, hk'⟩
    · exact h.ap k (e ▸ hk)
    · rw [e] at hk
      injection hk with hk
      subst hk
      intro e2
      have := Kd.R_lt h.rl.row _ e2
      omega
theorem Ts.del (h : Ts w0 w gr gt b a0 A1 c1 l1 A2 c2 l2 a3 vl vs tl left out) {v1 : Value} {left' : List ByteArray} (hr : Ro Kd.string 9 w0 w1 v1 left') (hg : w.grownBy w1 vl.ownBlock) (hat : v1.ownBlock = vl.ownBlock) : Ts w0 w1 gr gt b a0 A1 c1 l1 A2 c2 l2 a3 v1 vs tl left' out := by
  have hbel : Below w0.heap.size w0 w1 := h.bel.grown hg h.bel.size (fun k hk => by obtain ⟨i, ho⟩ := Kd.R_own h.rl.row; exact own_base ho k hk)
  refine ⟨⟨h.tv.br.grown hg (Kd.R_ne h.rl.row h.tv.br.blk (by decide)), h.tv.bt.grown hg (Kd.R_ne h.rl.row h.tv.bt.blk (by decide)), h.tv.m.grown hg (h.tv.m.row h.rl.row), h.rg.below hbel⟩, hbel, h.bge, hr, ⟨R_other h.rs.row hg ?_⟩, ?_, h.rg⟩
  · cases hv : vl.ownBlock with
    | none => exact .inr rfl
    | some k => exact .inl (fun e => h.ap k e.symm hv)
  · intro k hk
    rw [hat]
    exact h.ap k hk
/-- One of what is left, by its number. -/
theorem Ts.at (h : Ts w0 w gr gt b a0 A1 c1 l1 A2 c2 l2 a3 vl vs tl left out) {A : Option Addr} {c i : Nat} (hv : vl = .slice A left.length c) (hi : i < left.length) : ∃ ad, A = some ad ∧ w.cell? (ad.add i) = some (.string (left.getD i ⟨#[]⟩)) := by
  subst hv
  obtain ⟨ad, e, x0⟩ := Kd.at_string (Rw.of_R h.rl.row).row (i : Int) (by omega) (by omega)
  rw [Int.toNat_natCast, show rdOf ByteArray.empty left (i : Int) = left.getD i ⟨#[]⟩ by simp [rdOf]; rfl] at x0
  exact ⟨ad, e, x0⟩
theorem Ts.at2 {ad : Addr} {c i n : Nat} (h : Ts w0 w gr gt b a0 A1 c1 l1 A2 c2 l2 a3 (.slice (some ad) n c) vs tl left out) (hn : n = left.length) (hi : i < left.length) : w.cell? (ad.add i) = some (.string (left.getD i ⟨#[]⟩)) := by
  subst hn
  obtain ⟨ad', e, x⟩ := h.at rfl hi
  injection e with e
  subst e
  exact x
end
set_option maxHeartbeats 4000000 in
theorem topo_any (w : World) (h : Rg w A1 c1 l1 A2 c2 l2) (hok : okG (es l1) = true) :
    Calls Try.prog 25 #[.agg #[.string a0, .slice A1 l1.length c1, .slice A2 l2.length c2, .string a3]] w fun e w' => ∃ v, e = .returned (.tuple #[v, .int .i64 (errT (topo (es l1)))]) ∧ Ro Kd.string 9 w w' v ((topo (es l1)).getD []) ∧ Below w.heap.size w w' := by
  have hmf : ∀ (fn : Fn) (first cap : Array Value) (w : World), (Instr.makeFunc fn first cap).run Try.prog w = .ok (.func fn first cap) w := fun _ _ _ _ => rfl
  have HB := Aside0.mk (Below.refl w.heap.size w)
  have R := Aside0.mk (h)
  have R0 := Aside0.mk h
  have OK := Aside0.mk hok
  have LN : l1.length ≤ 1000 := by have := okG_len hok; rw [es_len] at this; exact this
  have NL := Aside0.mk (nodesL_len (es l1))
  rw [es_len] at NL
  clear h hok
  go_enter Try.func25, Try.ntmps25
  go_wp2_with (first | ((with_reducible refine gate_dst (N := 1) rfl ?_); refine box_event ?hg (N := 1) ?hd (cs := #[.string a0, .slice A1 l1.length c1, .slice A2 l2.length c2, .string a3]) (t := 25) ?hr ?_; (case hd => rfl); (case hg => rfl); (case hr => first | (go_simp; done) | (go_simp; rfl)); intro g1 hg w1 hbox hb; have hbx : Below w.heap.size w w1 := below_step (by repeat (first | (with_reducible first | exact Below.refl _ _ | apply below_alloc | apply pw_below_drewN | apply below_drew1) | exact Below.refl _ _)) hb; have n_R := Aside0.mk (R.out.below hbx); have n_HB := Aside0.mk (below_step HB.out hbx); clear HB R; have R := n_R; have HB := n_HB; clear hbx n_R n_HB; have BK1 := Aside0.mk (Bk.mk (hbox : Blk w1 g1 25 #[.string a0, .slice A1 l1.length c1, .slice A2 l2.length c2, .string a3])); clear hbox hg hb; have zBK1_0 : w1.cell? ⟨g1, 0, none⟩ = some (.string a0) := (blk_cell BK1.out.blk 0).trans rfl; have zBK1_1 : w1.cell? ⟨g1, 1, none⟩ = some (.slice A1 l1.length c1) := (blk_cell BK1.out.blk 1).trans rfl; have zBK1_2 : w1.cell? ⟨g1, 2, none⟩ = some (.slice A2 l2.length c2) := (blk_cell BK1.out.blk 2).trans rfl; have zBK1_3 : w1.cell? ⟨g1, 3, none⟩ = some (.string a3) := (blk_cell BK1.out.blk 3).trans rfl) | ((with_reducible refine gate_callee (f := 18) rfl ?_); refine goesL_ (some 9) rfl rfl Try.func18 (by kernel_rfl) rfl #[.agg #[.string a0, .slice A1 l1.length c1, .slice A2 l2.length c2, .string a3]] rfl (by (try simp only [List.map_toArray, List.map_cons, List.map_nil]); first | done | rfl | (simp only [List.length_drop, List.length_take]; rfl)) ?_; (with_reducible refine (nodes_any _ (R.out.below (by repeat (first | (with_reducible first | exact Below.refl _ _ | apply below_alloc | apply pw_below_drewN | apply below_drew1) | exact Below.refl _ _))) OK.out).mono ?_); rintro e w2 ⟨v, rfl, ho, hb⟩; have hbx : Below w1.heap.size w1 w2 := below_step (by repeat (first | (with_reducible first | exact Below.refl _ _ | apply below_alloc | apply pw_below_drewN | apply below_drew1) | exact Below.refl _ _)) hb; have ho_ := Ro.lower ho (below_size (below_step HB.out (by repeat (first | (with_reducible first | exact Below.refl _ _ | apply below_alloc | apply pw_below_drewN | apply below_drew1) | exact Below.refl _ _)))); clear zBK1_0 zBK1_1 zBK1_2 zBK1_3; have n_R := Aside0.mk (R.out.below hbx); have n_BK1 := Aside0.mk (BK1.out.below hbx); have n_HB := Aside0.mk (below_step HB.out hbx); clear HB R BK1; have R := n_R; have BK1 := n_BK1; have HB := n_HB; clear hbx n_R n_BK1 n_HB; have NV := Aside0.mk (ho_); clear hb; clear ho ho_; have zBK1_0 : w2.cell? ⟨g1, 0, none⟩ = some (.string a0) := (blk_cell BK1.out.blk 0).trans rfl; have zBK1_1 : w2.cell? ⟨g1, 1, none⟩ = some (.slice A1 l1.length c1) := (blk_cell BK1.out.blk 1).trans rfl; have zBK1_2 : w2.cell? ⟨g1, 2, none⟩ = some (.slice A2 l2.length c2) := (blk_cell BK1.out.blk 2).trans rfl; have zBK1_3 : w2.cell? ⟨g1, 3, none⟩ = some (.string a3) := (blk_cell BK1.out.blk 3).trans rfl; refine ⟨_, rfl, ?_⟩) | ((with_reducible refine gate_dst (N := 10) rfl ?_); refine Mp.mkB_ev rfl (N := 10) rfl rfl ?_; intro b10 hg w3 hmap hb; have hbx : Below w2.heap.size w2 w3 := below_step (by repeat (first | (with_reducible first | exact Below.refl _ _ | apply below_alloc | apply pw_below_drewN | apply below_drew1) | exact Below.refl _ _)) hb; have hge_ : w.heap.size ≤ b10 := (by rw [hg]; exact below_size (below_step HB.out (by repeat (first | (with_reducible first | exact Below.refl _ _ | apply below_alloc | apply pw_below_drewN | apply below_drew1) | exact Below.refl _ _)))); clear zBK1_0 zBK1_1 zBK1_2 zBK1_3; have n_R := Aside0.mk (R.out.below hbx); have n_BK1 := Aside0.mk (BK1.out.below hbx); have n_NV := Aside0.mk (NV.out.below hbx); have n_HB := Aside0.mk (below_step HB.out hbx); clear HB R BK1 NV; have R := n_R; have BK1 := n_BK1; have NV := n_NV; have HB := n_HB; clear hbx n_R n_BK1 n_NV n_HB; have M10 := Aside0.mk hmap; have GE10 := Aside0.mk hge_; clear hmap hg hb hge_; have zBK1_0 : w3.cell? ⟨g1, 0, none⟩ = some (.string a0) := (blk_cell BK1.out.blk 0).trans rfl; have zBK1_1 : w3.cell? ⟨g1, 1, none⟩ = some (.slice A1 l1.length c1) := (blk_cell BK1.out.blk 1).trans rfl; have zBK1_2 : w3.cell? ⟨g1, 2, none⟩ = some (.slice A2 l2.length c2) := (blk_cell BK1.out.blk 2).trans rfl; have zBK1_3 : w3.cell? ⟨g1, 3, none⟩ = some (.string a3) := (blk_cell BK1.out.blk 3).trans rfl) | ((with_reducible refine gate_dst (N := 5) rfl ?_); refine Evt.box1 ?hg5_ (N := 5) ?hd5_ (z := .map none) (v := .map (some b10)) (T := 65) ?hr5_ ?hg25_ ?hd25_ ?hr25_ ?_; (case hd5_ => rfl); (case hg5_ => rfl); (case hr5_ => first | (go_simp; done) | (go_simp; rfl)); (case hg25_ => rfl); (case hd25_ => rfl); (case hr25_ => first | (go_simp; done) | (go_simp; rfl)); intro g5 hg w4 hbox hb; have hbx : Below w3.heap.size w3 w4 := below_step (by repeat (first | (with_reducible first | exact Below.refl _ _ | apply below_alloc | apply pw_below_drewN | apply below_drew1) | exact Below.refl _ _)) hb; clear zBK1_0 zBK1_1 zBK1_2 zBK1_3; have n_R := Aside0.mk (R.out.below hbx); have n_BK1 := Aside0.mk (BK1.out.below hbx); have n_NV := Aside0.mk (NV.out.below hbx); have n_M10 := Aside0.mk (M10.out.below hbx); have n_HB := Aside0.mk (below_step HB.out hbx); clear HB R BK1 NV M10; have R := n_R; have BK1 := n_BK1; have NV := n_NV; have M10 := n_M10; have HB := n_HB; clear hbx n_R n_BK1 n_NV n_M10 n_HB; have BK5 := Aside0.mk (Bk.mk (hbox : Blk w4 g5 65 #[.map (some b10)])); clear hbox hg hb; have zBK1_0 : w4.cell? ⟨g1, 0, none⟩ = some (.string a0) := (blk_cell BK1.out.blk 0).trans rfl; have zBK1_1 : w4.cell? ⟨g1, 1, none⟩ = some (.slice A1 l1.length c1) := (blk_cell BK1.out.blk 1).trans rfl; have zBK1_2 : w4.cell? ⟨g1, 2, none⟩ = some (.slice A2 l2.length c2) := (blk_cell BK1.out.blk 2).trans rfl; have zBK1_3 : w4.cell? ⟨g1, 3, none⟩ = some (.string a3) := (blk_cell BK1.out.blk 3).trans rfl; have zBK5_0 : w4.cell? ⟨g5, 0, none⟩ = some (.map (some b10)) := (blk_cell BK5.out.blk 0).trans rfl))
  have TS : Aside0 (Ts w w4 g1 g5 b10 a0 A1 c1 l1 A2 c2 l2 a3 v (.slice none 0 0) [] (nodesL (es l1)) []) := Aside0.mk ⟨⟨BK1.out, BK5.out, M10.out.congr (fun z => by simp), R.out⟩, HB.out, GE10.out, NV.out, ⟨Kd.R_nil _ _ _ _ _⟩, (fun k hk => by cases hk), R0.out⟩
  clear R BK1 NV M10 BK5 zBK1_0 zBK1_1 zBK1_2 zBK1_3 zBK5_0 HB GE10 R0
  have T0 : Aside0 (topoG (es l1) (nodesL (es l1)).length (nodesL (es l1)) [] = topo (es l1)) := Aside0.mk rfl
  have SZ0 : Aside0 (∀ x ∈ nodesL (es l1), x.size ≤ 100000) := Aside0.mk (fun x hx => nodesL_size OK.out hx)
  go_loopg [4, 6] (nodesL (es l1)).length (fun kq v4 v6 wr => ∃ left out : List ByteArray, Aside0 (left.length = kq) ∧ Aside0 (out.length + kq ≤ 2002) ∧ Aside0 (topoG (es l1) kq left out = topo (es l1)) ∧ Aside0 (∀ x ∈ left, x.size ≤ 100000) ∧ Aside0 (Ts w wr g1 g5 b10 a0 A1 c1 l1 A2 c2 l2 a3 v4 v6 out left out))
  case atStart => exact ⟨_, [], ⟨rfl⟩, ⟨by have := NL.out; simp; omega⟩, T0, SZ0, TS⟩
  case round =>
    clear TS T0 SZ0
    obtain ⟨left, out, LL, OL, TT, SZ, TS⟩ := hrel
    obtain ⟨A, c, rfl, _⟩ := Ro.sliceS TS.out.rl
    cases gk with
    | zero =>
      have e0 : left.length = 0 := LL.out
      have q0 : decide (0 < left.length) = false := decide_eq_false (by omega)
      have q1 : decide ((0 : Int) < (left.length : Int)) = false := decide_eq_false (by omega)
      clear e0
      go_wp2
      go_ret2
      exact ⟨_, by rw [show topo (es l1) = some out from TT.out.symm]; rfl, by rw [show topo (es l1) = some out from TT.out.symm]; exact TS.out.rs, TS.out.bel⟩
    | succ k1 =>
      have q0 : decide (0 < left.length) = true := decide_eq_true (by have := LL.out; omega)
      have q1 : decide ((0 : Int) < (left.length : Int)) = true := decide_eq_true (by have := LL.out; omega)
      have LE : Aside0 (left.length ≤ 2002) := Aside0.mk (by have := LL.out; have := OL.out; omega)
      have PR : Aside0 (PredV 47 #[.pointer (some ⟨g1, 0, none⟩), .pointer (some ⟨g5, 0, none⟩)] Value.string (readyG (es l1) out) (fun x => x ∈ left) wr) := Aside0.mk ((t1_any TS.out.tv OK.out).mono (fun _ _ => trivial))
      have RL : Aside0 (Rw Kd.string wr A c left) := Aside0.mk (Rw.of_R TS.out.rl.row)
      cases hf : left.findIdx? (readyG (es l1) out) with
      | none =>
        have IX : Aside0 (idxF (readyG (es l1) out) left = -1) := Aside0.mk (by unfold idxF; rw [hf])
        have TN : Aside0 (topo (es l1) = none) := Aside0.mk (by rw [← TT.out]; unfold topoG; rw [hf])
        clear hf
        have HB := Aside0.mk (Below.refl wr.heap.size wr)
        have TL := Aside0.mk (TS.out)
        go_wp2_with (first | ((with_reducible refine gate_callee (f := 46) rfl ?_); refine goesL_ (some 16) rfl rfl Try.func46 (by kernel_rfl) rfl #[.slice A left.length c, .func (.func 47) #[] #[.pointer (some ⟨g1, 0, none⟩), .pointer (some ⟨g5, 0, none⟩)]] rfl (by (try simp only [List.map_toArray, List.map_cons, List.map_nil]); first | done | rfl | (simp only [List.length_drop, List.length_take]; rfl)) ?_; (with_reducible refine (idxfS' eg_t1 RL.out (by have := LE.out; omega) PR.out IX.out).mono ?_); rintro e w1 ⟨rfl, hb⟩; have hbx : Below wr.heap.size wr w1 := below_step (by repeat (first | (with_reducible first | exact Below.refl _ _ | apply below_alloc | apply pw_below_drewN | apply below_drew1) | exact Below.refl _ _)) hb; have n_TL := Aside0.mk (TL.out.below hbx); have n_HB := Aside0.mk (below_step HB.out hbx); clear HB TL; have TL := n_TL; have HB := n_HB; clear hbx n_TL n_HB; clear hb; refine ⟨_, rfl, ?_⟩))
        go_ret2
        exact ⟨_, by rw [TN.out]; rfl, by rw [TN.out]; exact ⟨Kd.R_nil _ _ _ _ _⟩, TL.out.bel⟩
      | some i =>
        have IX : Aside0 (idxF (readyG (es l1) out) left = (i : Int)) := Aside0.mk (by unfold idxF; rw [hf])
        have hil : i < left.length := by rw [List.findIdx?_eq_some_iff_getElem] at hf; exact hf.1
        have TN : Aside0 (topoG (es l1) k1 (left.eraseIdx i) (out ++ [left.getD i ⟨#[]⟩]) = topo (es l1)) := Aside0.mk (by rw [← TT.out, show topoG (es l1) (k1 + 1) left out = _ from rfl, topoG, hf])
        have SI : Aside0 ((left.getD i ⟨#[]⟩).size ≤ 100000) := Aside0.mk (SZ.out _ (by rw [List.getD_eq_getElem?_getD, List.getElem?_eq_getElem hil]; exact List.getElem_mem _))
        have p0 : decide ((i : Int) < 0) = false := decide_eq_false (by omega)
        have p1 : decide ((i : Int) < (left.length : Int)) = true := decide_eq_true (by omega)
        have p2 : decide (i < left.length) = true := decide_eq_true hil
        obtain ⟨ad, rfl, _⟩ := TS.out.at rfl hil
        obtain ⟨s, hsv⟩ : ∃ s, Aside0 (left.getD i ⟨#[]⟩ = s) := ⟨_, ⟨rfl⟩⟩
        rw [hsv.out] at TN SI
        clear hf
        have HB := Aside0.mk (Below.refl wr.heap.size wr)
        have TL := Aside0.mk (TS.out)
        have MT := Aside0.mk (TS.out.tv.m)
        clear TS
        go_wp2_with (first | ((with_reducible refine gate_callee (f := 46) rfl ?_); refine goesL_ (some 16) rfl rfl Try.func46 (by kernel_rfl) rfl #[.slice (some ad) left.length c, .func (.func 47) #[] #[.pointer (some ⟨g1, 0, none⟩), .pointer (some ⟨g5, 0, none⟩)]] rfl (by (try simp only [List.map_toArray, List.map_cons, List.map_nil]); first | done | rfl | (simp only [List.length_drop, List.length_take]; rfl)) ?_; (with_reducible refine (idxfS' eg_t1 RL.out (by have := LE.out; omega) PR.out IX.out).mono ?_); rintro e w1 ⟨rfl, hb⟩; have hbx : Below wr.heap.size wr w1 := below_step (by repeat (first | (with_reducible first | exact Below.refl _ _ | apply below_alloc | apply pw_below_drewN | apply below_drew1) | exact Below.refl _ _)) hb; have n_TL := Aside0.mk (TL.out.below hbx); have n_MT := Aside0.mk (MT.out.below hbx); have n_HB := Aside0.mk (below_step HB.out hbx); clear HB TL MT; have TL := n_TL; have MT := n_MT; have HB := n_HB; clear hbx n_TL n_MT n_HB; clear hb; refine ⟨_, rfl, ?_⟩))
        refine Evt.ol_start (ds := [5]) (w0 := w1) (T := (true, [([], []), ([], []), ([], []), ([1, 2], [1, 2]), ([3], [3]), ([0, 4, 0, 1, 2, 3, 4], [0, 4])])) (B := [0, 0, 0, 6, 14, 31]) 6 [(1, some 20), (2, some 21), (3, some 22), (0, some 19), (4, some 23), (5, none)] (by kernel_rfl) rfl (by kernel_rfl) (by kernel_rfl) (by kernel_rfl) (by repeat (first | (with_reducible first | exact Below.refl _ _ | apply below_alloc | apply pw_below_drewN | apply below_drew1) | exact Below.refl _ _)) ?_
        intro HT_ HW_ w_ hHeld
        iterate 5 (first | (refine Evt.ol_off (a' := ?_) HT_ rfl rfl (by rfl) (by kernel_rfl) (fun _ _ _ h => h) ?_ ?_; rotate_left; (· (try simp only [Act.put, List.setIfInBounds_toArray, List.set_cons_zero, List.set_cons_succ, i64_w, i32_w]); rfl)) | (refine Evt.ol_pure (a' := ?_) (v := ?_) HT_ rfl rfl rfl (by rfl) (by kernel_rfl) (fun _ _ _ h => h) ?_ ?_ ?_; rotate_left 2; (· intro w'; go_simp; with_reducible rfl); (· (try simp only [Act.put, List.setIfInBounds_toArray, List.set_cons_zero, List.set_cons_succ, i64_w, i32_w]); rfl)) | (refine Evt.ol_load (a' := ?_) (v := ?_) HT_ HW_ hHeld rfl rfl rfl (by rfl) (by kernel_rfl) (fun _ _ _ h => h) ?_ ?_ ?_; rotate_left 2; (· intro w' hS_; have z1 := TL.out.below hS_.out; have y0 := z1.tv.bt.blk.cell 0 rfl; have y1 := (z1.at2 rfl hil).trans (congrArg (fun t => some (Value.string t)) hsv.out); clear z1; go_simp; with_reducible rfl); (· (try simp only [Act.put, List.setIfInBounds_toArray, List.set_cons_zero, List.set_cons_succ, i64_w, i32_w]); rfl)))
        refine Evt.ol_putB HT_ rfl rfl (by simp) (by kernel_rfl) (by rfl) rfl (s := s) (v := true) rfl rfl rfl  (by have := SI.out; unfold maxLen; omega) (by have := OL.out; unfold maxLen; omega) (MT.out.below hHeld.out) ?_
        intro w2 hM_ hg_
        refine Evt.ol_done HT_ (by kernel_rfl) ?_
        have TU := Aside0.mk ((TL.out.below hHeld.out).put hM_ hg_)
        clear hM_ hg_ hHeld TL MT RL PR
        clear HT_ HW_
        clear HB
        have HB := Aside0.mk TU.out.bel
        skip
        have hw1 : wrap64 ((i : Int) + 1) = (i : Int) + 1 := by have := LE.out; unfold wrap64; omega
        have y2 := (TU.out.at2 rfl hil).trans (congrArg (fun t => some (Value.string t)) hsv.out)
        go_wp2_with (first | ((with_reducible refine gate_dst (N := 29) rfl ?_); refine Evt.slice_event ?hg (N := 29) ?hd (cs := #[.string s]) (t := 9) (n := 1) ?hr ?_; (case hd => rfl); (case hg => rfl); (case hr => first | (go_simp; done) | (go_simp; rfl)); intro g29 hg w3 hbox hb; have hbx : Below w2.heap.size w2 w3 := below_step (by repeat (first | (with_reducible first | exact Below.refl _ _ | apply below_alloc | apply pw_below_drewN | apply below_drew1) | exact Below.refl _ _)) hb; have n_TU := Aside0.mk (TU.out.below hbx); have n_HB := Aside0.mk (below_step HB.out hbx); clear HB TU; have TU := n_TU; have HB := n_HB; clear hbx n_TU n_HB; have BK29 := Aside0.mk (Bk.mk (hbox : Blk w3 g29 9 #[.string s])); clear hbox hg hb; have zBK29_0 : w3.cell? ⟨g29, 0, none⟩ = some (.string s) := (blk_cell BK29.out.blk 0).trans rfl) | ((with_reducible refine gate_dst (N := 30) rfl ?_); at_builtin; refine Evt.ro_app Value.string (fun _ => rfl) ByteArray.empty rfl (.tmp 24) (.tmp 29) 29 9 (.string ⟨#[]⟩) 16 rfl Try.underlying29 info9 rfl (by decide) u6 out s g29 rfl rfl TU.out.rs BK29.out HB.out (by have := OL.out; omega) ?_; intro v30 wa_ ho hb hg hat; have TA := Aside0.mk (TU.out.app ho hb hg hat); clear ho hb hg hat TU HB BK29 zBK29_0) | (go_at_call 50; refine (Sh.delete_any TA.out.rl i hil (by have := LE.out; omega)).mono ?_; rintro e wd ⟨v', rfl, ho, hg, hat⟩; have TD := Aside0.mk (TA.out.del ho hg hat); clear ho hg hat TA))
        go_roundg k1
        case measure => omega
        case rel => exact ⟨left.eraseIdx i, out ++ [s], ⟨by rw [List.length_eraseIdx_of_lt hil]; have := LL.out; omega⟩, ⟨by have := OL.out; simp; omega⟩, TN, ⟨fun x hx => SZ.out x (List.mem_of_mem_eraseIdx hx)⟩, TD⟩
end
end Go.Proofs.Ytmacdknicgfglaa.Gw
