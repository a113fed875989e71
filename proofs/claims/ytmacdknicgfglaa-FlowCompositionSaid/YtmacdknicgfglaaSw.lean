/- flow.ShortestPath, walked: the search in rounds, the path. -/
import Derived.Test.YtmacdknicgfglaaRq
import Derived.Test.YtmacdknicgfglaaLw0
import Derived.Test.YtmacdknicgfglaaSd
namespace Go.Proofs.Ytmacdknicgfglaa.Gw
open Go.RowKit Go.Shelf Go.Proofs.YtmacdknicgfglaaW.PrintWords Go.Proofs.YtmacdknicgfglaaW.PrintMore Go.Proofs.YtmacdknicgfglaaW.PrintLast Go.Proofs.Ytmacdknicgfglaa.Chg Go.Proofs.Ytmacdknicgfglaa.Evt Go.Proofs.Ytmacdknicgfglaa.Impl Go.Proofs.Ytmacdknicgfglaa.Gp Go.Proofs.Ytmacdknicgfglaa.Mp
set_option linter.unusedVariables false
set_option linter.unusedSimpArgs false
set_option maxRecDepth 100000
section
variable {w w' : World} {A1 A2 : Option Addr} {c1 c2 : Nat} {l1 : List S41} {l2 : List S101} {a0 a3 : ByteArray}
/-- The rung and the map of distances. -/
structure Sa (w wr : World) (g1 g4 b n : Nat) (q : ByteArray → Option Int) (a0 : ByteArray) (A1 : Option Addr) (c1 : Nat) (l1 : List S41) (A2 : Option Addr) (c2 : Nat) (l2 : List S101) (a3 : ByteArray) : Prop where
  bel : Below w.heap.size w wr
  ge : w.heap.size ≤ b
  b1 : Bk wr g1 25 #[.string a0, .slice A1 l1.length c1, .slice A2 l2.length c2, .string a3]
  b4 : Bk wr g4 44 #[.map (some b)]
  m : MI wr b n q
theorem Sa.below {wr w1 : World} {g1 g4 b n : Nat} {q : ByteArray → Option Int} (h : Sa w wr g1 g4 b n q a0 A1 c1 l1 A2 c2 l2 a3) (hb : Below wr.heap.size wr w1) : Sa w w1 g1 g4 b n q a0 A1 c1 l1 A2 c2 l2 a3 := ⟨below_step h.bel hb, h.ge, h.b1.below hb, h.b4.below hb, h.m.below hb⟩
theorem Sa.put {wr w1 : World} {g1 g4 b n n' : Nat} {q q' : ByteArray → Option Int} (h : Sa w wr g1 g4 b n q a0 A1 c1 l1 A2 c2 l2 a3) (hm : MI w1 b n' q') (hg : wr.grownBy w1 (some b)) : Sa w w1 g1 g4 b n' q' a0 A1 c1 l1 A2 c2 l2 a3 :=
  ⟨h.bel.grown hg h.bel.size (fun j e => by cases e; exact h.ge), h.ge, h.b1.grown hg (fun e => h.m.ne h.b1.blk (by injection e)), h.b4.grown hg (fun e => h.m.ne h.b4.blk (by injection e)), hm⟩
/-- A row of one's own is written. -/
theorem Sa.rowS {wr w1 wb : World} {g1 g4 b n : Nat} {q : ByteArray → Option Int} {v : Value} {xs : List ByteArray} (h : Sa w wr g1 g4 b n q a0 A1 c1 l1 A2 c2 l2 a3) (hr : Ro Kd.string 9 wb wr v xs) (hw : w.heap.size ≤ wb.heap.size) (hg : wr.grownBy w1 v.ownBlock) : Sa w w1 g1 g4 b n q a0 A1 c1 l1 A2 c2 l2 a3 :=
  ⟨h.bel.grown hg h.bel.size (fun k hk => by obtain ⟨i, ho⟩ := Kd.R_own hr.row; have := own_base ho k hk; omega), h.ge, h.b1.grown hg (row_ne hr.row h.b1.blk (by decide)), h.b4.grown hg (row_ne hr.row h.b4.blk (by decide)), h.m.grown hg (h.m.row hr.row)⟩
theorem Sa.rowI {wr w1 wb : World} {g1 g4 b n : Nat} {q : ByteArray → Option Int} {v : Value} {xs : List Int} (h : Sa w wr g1 g4 b n q a0 A1 c1 l1 A2 c2 l2 a3) (hr : Ro (Kd.int .i64) 3 wb wr v xs) (hw : w.heap.size ≤ wb.heap.size) (hg : wr.grownBy w1 v.ownBlock) : Sa w w1 g1 g4 b n q a0 A1 c1 l1 A2 c2 l2 a3 :=
  ⟨h.bel.grown hg h.bel.size (fun k hk => by obtain ⟨i, ho⟩ := Kd.R_own hr.row; have := own_base ho k hk; omega), h.ge, h.b1.grown hg (row_ne hr.row h.b1.blk (by decide)), h.b4.grown hg (row_ne hr.row h.b4.blk (by decide)), h.m.grown hg (h.m.row hr.row)⟩
theorem _root_.Go.Proofs.Ytmacdknicgfglaa.Evt.Ro.other {α : Type} {enc : α → Value} {h1 : ∀ x, (enc x).oneCell' = true} {e : TypeId} {w0 wr w1 : World} {v : Value} {xs : List α} {row : Option Nat} (h : Ro (Kd.scalar enc h1) e w0 wr v xs) (hg : wr.grownBy w1 row) (hne : row ≠ v.ownBlock ∨ row = none) : Ro (Kd.scalar enc h1) e w0 w1 v xs := ⟨R_other h.row hg hne⟩
/-- A row of strings and a row of numbers are two. -/
theorem rows_two {w0 w1 wr : World} {v v' : Value} {xs : List ByteArray} {ys : List Int} (h : Ro Kd.string 9 w0 wr v xs) (h' : Ro (Kd.int .i64) 3 w1 wr v' ys) : v.ownBlock ≠ v'.ownBlock ∨ v.ownBlock = none := by
  cases hv : v.ownBlock with
  | none => exact .inr rfl
  | some k =>
    refine .inl (fun e => ?_)
    obtain ⟨i, ho⟩ := Kd.R_own h.row
    obtain ⟨i', ho'⟩ := Kd.R_own h'.row
    obtain ⟨cs, hc⟩ := own_typed ho k hv
    obtain ⟨cs', hc'⟩ := own_typed ho' k e.symm
    rw [hc] at hc'
    injection hc' with hc'
    injection hc' with _ hc'
    exact absurd hc' (by decide)
/-- Between two steps of the search: the round's names, the next round's. -/
structure Sn (w wo wr : World) (g1 g4 b n : Nat) (q : ByteArray → Option Int) (vr : Value) (rnd : List ByteArray) (vn : Value) (nx : List ByteArray) (a0 : ByteArray) (A1 : Option Addr) (c1 : Nat) (l1 : List S41) (A2 : Option Addr) (c2 : Nat) (l2 : List S101) (a3 : ByteArray) : Prop where
  s : Sa w wr g1 g4 b n q a0 A1 c1 l1 A2 c2 l2 a3
  r : Ro Kd.string 9 w wr vr rnd
  rl : ∀ k, vr.ownBlock = some k → k < wo.heap.size
  x : Ro Kd.string 9 w wr vn nx
  xl : ∀ k, vn.ownBlock = some k → wo.heap.size ≤ k
  sz : wo.heap.size ≤ wr.heap.size
section
variable {wo wr w1 : World} {g1 g4 b n n' : Nat} {q q' : ByteArray → Option Int} {vr vn vn' : Value} {rnd nx nx' : List ByteArray}
theorem Sn.below (h : Sn w wo wr g1 g4 b n q vr rnd vn nx a0 A1 c1 l1 A2 c2 l2 a3) (hb : Below wr.heap.size wr w1) : Sn w wo w1 g1 g4 b n q vr rnd vn nx a0 A1 c1 l1 A2 c2 l2 a3 := ⟨h.s.below hb, h.r.below hb, h.rl, h.x.below hb, h.xl, Nat.le_trans h.sz hb.size⟩
theorem Sn.put (h : Sn w wo wr g1 g4 b n q vr rnd vn nx a0 A1 c1 l1 A2 c2 l2 a3) (hm : MI w1 b n' q') (hg : wr.grownBy w1 (some b)) : Sn w wo w1 g1 g4 b n' q' vr rnd vn nx a0 A1 c1 l1 A2 c2 l2 a3 :=
  ⟨h.s.put hm hg, h.r.mputI h.s.m hg, h.rl, h.x.mputI h.s.m hg, h.xl, Nat.le_trans h.sz hg.size⟩
theorem Sn.app (h : Sn w wo wr g1 g4 b n q vr rnd vn nx a0 A1 c1 l1 A2 c2 l2 a3) (hx : Ro Kd.string 9 w w1 vn' nx') (hg : wr.grownBy w1 vn.ownBlock) (hat : vn'.ownBlock = vn.ownBlock ∨ ∃ k, vn'.ownBlock = some k ∧ wr.heap.size ≤ k) : Sn w wo w1 g1 g4 b n q vr rnd vn' nx' a0 A1 c1 l1 A2 c2 l2 a3 := by
  refine ⟨h.s.rowS h.x (Nat.le_refl _) hg, h.r.other hg ?_, h.rl, hx, fun k hk => ?_, Nat.le_trans h.sz hg.size⟩
  · cases hv : vn.ownBlock with
    | none => exact .inr rfl
    | some k => exact .inl (fun e => by have h1 := h.rl k e.symm; have h2 := h.xl k hv; omega)
  · rcases hat with e | ⟨j, e, hj⟩
    · exact h.xl k (e ▸ hk)
    · rw [e] at hk
      cases hk
      exact Nat.le_trans h.sz hj
end
/-- The rung, the distances, the name at hand. -/
structure Sv (w : World) (gr gt ga b n : Nat) (at_ : ByteArray) (a0 : ByteArray) (A1 : Option Addr) (c1 : Nat) (l1 : List S41) (A2 : Option Addr) (c2 : Nat) (l2 : List S101) (a3 : ByteArray) : Prop where
  br : Bk w gr 25 #[.string a0, .slice A1 l1.length c1, .slice A2 l2.length c2, .string a3]
  bt : Bk w gt 44 #[.map (some b)]
  ba : Bk w ga 9 #[.string at_]
  m : MI w b n (farD (es l1))
  rg : Rg w A1 c1 l1 A2 c2 l2
theorem Sv.below {gr gt ga b n : Nat} {at_ : ByteArray} (h : Sv w gr gt ga b n at_ a0 A1 c1 l1 A2 c2 l2 a3) (hb : Below w.heap.size w w') : Sv w' gr gt ga b n at_ a0 A1 c1 l1 A2 c2 l2 a3 := ⟨h.br.below hb, h.bt.below hb, h.ba.below hb, h.m.below hb, h.rg.below hb⟩
set_option maxHeartbeats 2000000 in
theorem sp1_any {gr gt ga b n k : Nat} {at_ : ByteArray} (h : Sv w gr gt ga b n at_ a0 A1 c1 l1 A2 c2 l2 a3) (hok : okG (es l1) = true) (hat : distL (es l1) at_ = some (k + 1)) (hk : k ≤ 3000) (haz : at_.size ≤ 100000) : PredV 61 #[.pointer (some ⟨gt, 0, none⟩), .pointer (some ⟨gr, 0, none⟩), .pointer (some ⟨ga, 0, none⟩)] (Value.int .i64) (fun i => decide (distL (es l1) (toE (es l1) i) = some k)) (fun i => ∃ j : Nat, i = j ∧ j < l1.length) w := by
  refine ⟨fun W x hx hB => ?_⟩
  obtain ⟨j, rfl, hjl⟩ := hx
  have T := Aside0.mk (h.below hB)
  have S3 := Aside0.mk (okG_f3 hok (c := (l1[j].f2, l1[j].f3)) (by rw [← es_get hjl]; exact List.getElem_mem _))
  have S3m : Aside0 (l1[j].f3.size ≤ maxLen) := ⟨by have h_ : l1[j].f3.size ≤ 100000 := S3.out; unfold maxLen; omega⟩
  have SAm : Aside0 (at_.size ≤ maxLen) := ⟨by unfold maxLen; omega⟩
  have q1 : decide ((j : Int) < (l1.length : Int)) = true := decide_eq_true (by omega)
  have q0 : decide (j < l1.length) = true := decide_eq_true (by omega)
  have FA := Aside0.mk (to_at hjl)
  have AT := Aside0.mk (farD_some hat)
  have DK : Aside0 (k ≤ 3000) := ⟨hk⟩
  obtain ⟨v, ok, hv, hr⟩ : ∃ (v : Int) (ok : Bool), Aside0 ((farD (es l1) l1[j].f3).getD 0 = v ∧ (farD (es l1) l1[j].f3).isSome = ok) ∧ Aside0 (decide (distL (es l1) l1[j].f3 = some k) = (ok && decide (v = (k : Int)))) := by
    cases e : distL (es l1) l1[j].f3 with
    | none => exact ⟨0, false, ⟨by rw [farD_none e]; exact ⟨rfl, rfl⟩⟩, ⟨by simp⟩⟩
    | some m => exact ⟨(m : Int), true, ⟨by rw [farD_some e]; exact ⟨rfl, rfl⟩⟩, ⟨by simp only [Bool.true_and, Option.some.injEq]; exact decide_eq_decide.2 ⟨fun q => by omega, fun q => by omega⟩⟩⟩
  obtain ⟨ad, rfl, x0, x1, x2, x3, x4⟩ := T.out.rg.at hjl
  clear hB h x0 x1 x2 x3 x4 hat hk haz
  have HB := Aside0.mk (Below.refl W.heap.size W)
  have KR : Aside0 (Bk W gr 25 #[.string a0, .slice (some ad) l1.length c1, .slice A2 l2.length c2, .string a3]) := Aside0.mk (T.out.br)
  have KT : Aside0 (Bk W gt 44 #[.map (some b)]) := Aside0.mk (T.out.bt)
  have KA : Aside0 (Bk W ga 9 #[.string at_]) := Aside0.mk (T.out.ba)
  have TV := Aside0.mk (T.out)
  have MT := Aside0.mk (T.out.m)
  clear T
  have zKR_0 : W.cell? ⟨gr, 0, none⟩ = some (.string a0) := (blk_cell KR.out.blk 0).trans rfl
  have zKR_1 : W.cell? ⟨gr, 1, none⟩ = some (.slice (some ad) l1.length c1) := (blk_cell KR.out.blk 1).trans rfl
  have zKR_2 : W.cell? ⟨gr, 2, none⟩ = some (.slice A2 l2.length c2) := (blk_cell KR.out.blk 2).trans rfl
  have zKR_3 : W.cell? ⟨gr, 3, none⟩ = some (.string a3) := (blk_cell KR.out.blk 3).trans rfl
  have zKT_0 : W.cell? ⟨gt, 0, none⟩ = some (.map (some b)) := (blk_cell KT.out.blk 0).trans rfl
  have zKA_0 : W.cell? ⟨ga, 0, none⟩ = some (.string at_) := (blk_cell KA.out.blk 0).trans rfl
  show Calls Try.prog 61 #[.int .i64 j, .pointer (some ⟨gt, 0, none⟩), .pointer (some ⟨gr, 0, none⟩), .pointer (some ⟨ga, 0, none⟩)] W _
  go_enter Try.func61, Try.ntmps61
  go_wp2
  have KP : Aside0 (∀ w', Below W.heap.size W w' → (w'.cell? ⟨gr, 0, none⟩ = some (.string a0) ∧ w'.cell? ⟨gr, 1, none⟩ = some (.slice (some ad) l1.length c1) ∧ w'.cell? ⟨gr, 2, none⟩ = some (.slice A2 l2.length c2) ∧ w'.cell? ⟨gr, 3, none⟩ = some (.string a3) ∧ w'.cell? ⟨gt, 0, none⟩ = some (.map (some b)) ∧ w'.cell? ⟨ga, 0, none⟩ = some (.string at_))) := Aside0.mk (fun w' hb => ⟨(blk_cell (KR.out.below hb).blk 0).trans rfl, (blk_cell (KR.out.below hb).blk 1).trans rfl, (blk_cell (KR.out.below hb).blk 2).trans rfl, (blk_cell (KR.out.below hb).blk 3).trans rfl, (blk_cell (KT.out.below hb).blk 0).trans rfl, (blk_cell (KA.out.below hb).blk 0).trans rfl⟩)
  clear zKR_0 zKR_1 zKR_2 zKR_3 zKT_0 zKA_0
  refine Evt.ol_start (ds := []) (w0 := W) (T := (true, [([], []), ([], []), ([1], [1]), ([], []), ([2, 3], [2, 3]), ([4], [4]), ([5], [5]), ([0, 6], [0, 6]), ([7], [7]), ([8], [8]), ([8], [8]), ([9, 0, 1, 2, 3, 4, 5, 6, 7, 8, 9], [9]), ([10, 11, 0, 1, 2, 3, 4, 5, 6, 7, 8, 9, 10, 11], [10])])) (B := [0, 0, 2, 0, 14, 30, 62, 127, 255, 511, 511, 1023, 4095]) 13 [(1, some 10), (3, some 12), (0, some 9), (2, some 11), (4, some 13), (5, some 14), (6, some 15), (7, some 16), (8, some 8), (9, some 17), (10, some 18), (11, some 6), (12, some 7)] (by kernel_rfl) rfl (by kernel_rfl) (by kernel_rfl) (by kernel_rfl) (by repeat (first | (with_reducible first | exact Below.refl _ _ | apply below_alloc | apply pw_below_drewN | apply below_drew1) | exact Below.refl _ _)) ?_
  intro HT_ HW_ w_ hHeld
  iterate 7 (first | (refine Evt.ol_off (a' := ?_) HT_ rfl rfl (by rfl) (by kernel_rfl) (fun _ _ _ h => h) ?_ ?_; rotate_left; (· (try simp only [Act.put, List.setIfInBounds_toArray, List.set_cons_zero, List.set_cons_succ, i64_w, i32_w]); rfl)) | (refine Evt.ol_pure (a' := ?_) (v := ?_) HT_ rfl rfl rfl (by rfl) (by kernel_rfl) (fun _ _ _ h => h) ?_ ?_ ?_; rotate_left 2; (· intro w'; go_simp; with_reducible rfl); (· (try simp only [Act.put, List.setIfInBounds_toArray, List.set_cons_zero, List.set_cons_succ, i64_w, i32_w]); rfl)) | (refine Evt.ol_load (a' := ?_) (v := ?_) HT_ HW_ hHeld rfl rfl rfl (by rfl) (by kernel_rfl) (fun _ _ _ h => h) ?_ ?_ ?_; rotate_left 2; (· intro w' hS_; obtain ⟨s0, s1, s2, s3, s4, s5⟩ := KP.out w' hS_.out; have y3 := (TV.out.rg.below hS_.out).c4 hjl; go_simp; with_reducible rfl); (· (try simp only [Act.put, List.setIfInBounds_toArray, List.set_cons_zero, List.set_cons_succ, i64_w, i32_w]); rfl)))
  refine Evt.ol_lookI2 (a' := ?a5_) HT_ HW_ hHeld rfl rfl rfl (by rfl) (by kernel_rfl) (fun _ _ _ _ h => h) (s := l1[j].f3) (v := v) (ok := ok) (fun w_' hS_ => MT.out.below hS_.out) S3m.out hv.out.1 hv.out.2 rfl rfl ?ha5_ ?h5_
  case ha5_ => (simp only [Act.put, List.setIfInBounds_toArray, List.set_cons_zero, List.set_cons_succ, i64_w, i32_w]; rfl)
  iterate 5 (first | (refine Evt.ol_off (a' := ?_) HT_ rfl rfl (by rfl) (by kernel_rfl) (fun _ _ _ h => h) ?_ ?_; rotate_left; (· (try simp only [Act.put, List.setIfInBounds_toArray, List.set_cons_zero, List.set_cons_succ, i64_w, i32_w]); rfl)) | (refine Evt.ol_pure (a' := ?_) (v := ?_) HT_ rfl rfl rfl (by rfl) (by kernel_rfl) (fun _ _ _ h => h) ?_ ?_ ?_; rotate_left 2; (· intro w'; go_simp; with_reducible rfl); (· (try simp only [Act.put, List.setIfInBounds_toArray, List.set_cons_zero, List.set_cons_succ, i64_w, i32_w]); rfl)) | (refine Evt.ol_load (a' := ?_) (v := ?_) HT_ HW_ hHeld rfl rfl rfl (by rfl) (by kernel_rfl) (fun _ _ _ h => h) ?_ ?_ ?_; rotate_left 2; (· intro w' hS_; obtain ⟨s0, s1, s2, s3, s4, s5⟩ := KP.out w' hS_.out; have y3 := (TV.out.rg.below hS_.out).c4 hjl; go_simp; with_reducible rfl); (· (try simp only [Act.put, List.setIfInBounds_toArray, List.set_cons_zero, List.set_cons_succ, i64_w, i32_w]); rfl)))
  refine Evt.ol_done HT_ (by kernel_rfl) ?_
  refine Evt.gen_any (w0 := W) hHeld.out ?_
  intro w1 hbx
  clear hHeld HT_ HW_ KP
  have n_KR := Aside0.mk (KR.out.below hbx)
  have n_KT := Aside0.mk (KT.out.below hbx)
  have n_KA := Aside0.mk (KA.out.below hbx)
  have n_TV := Aside0.mk (TV.out.below hbx)
  have n_MT := Aside0.mk (MT.out.below hbx)
  have n_HB := Aside0.mk (below_step HB.out hbx)
  clear HB KR KT KA TV MT
  have KR := n_KR
  have KT := n_KT
  have KA := n_KA
  have TV := n_TV
  have MT := n_MT
  have HB := n_HB
  clear hbx n_KR n_KT n_KA n_TV n_MT n_HB
  have zKR_0 : w1.cell? ⟨gr, 0, none⟩ = some (.string a0) := (blk_cell KR.out.blk 0).trans rfl
  have zKR_1 : w1.cell? ⟨gr, 1, none⟩ = some (.slice (some ad) l1.length c1) := (blk_cell KR.out.blk 1).trans rfl
  have zKR_2 : w1.cell? ⟨gr, 2, none⟩ = some (.slice A2 l2.length c2) := (blk_cell KR.out.blk 2).trans rfl
  have zKR_3 : w1.cell? ⟨gr, 3, none⟩ = some (.string a3) := (blk_cell KR.out.blk 3).trans rfl
  have zKT_0 : w1.cell? ⟨gt, 0, none⟩ = some (.map (some b)) := (blk_cell KT.out.blk 0).trans rfl
  have zKA_0 : w1.cell? ⟨ga, 0, none⟩ = some (.string at_) := (blk_cell KA.out.blk 0).trans rfl
  have hlk := Mp.MI.look MT.out (s := at_) SAm.out
  rw [AT.out] at hlk
  have hk9 := DK.out
  have hw : wrap64 ((((k + 1 : Nat) : Int)) - 1) = (k : Int) := by unfold wrap64; omega
  have hw2 : ((k + 1 : Nat) : Int) - 1 = (k : Int) := by omega
  simp only [Option.getD_some] at hlk
  cases ok with
  | false =>
    clear hlk hw hw2 hk9
    go_wp2
    go_ret
    exact ⟨by rw [FA.out, hr.out]; rfl, HB.out⟩
  | true =>
    rw [show ((k + 1 : Nat) : Int) = (k : Int) + 1 from rfl] at hlk
    clear hw hw2
    have HR := Aside0.mk (hr.out.trans (Bool.true_and _))
    clear hr
    by_cases e : v = (k : Int)
    · subst e
      go_wp2
      go_ret
      exact ⟨by rw [FA.out, HR.out]; simp, HB.out⟩
    · have e1 : decide (v = (k : Int)) = false := decide_eq_false e
      have e2 : (v == (k : Int)) = false := beq_eq_false_iff_ne.mpr e
      have HE := Aside0.mk e1
      clear e
      go_wp2
      go_ret
      exact ⟨by rw [FA.out, HR.out, HE.out]; rfl, HB.out⟩
theorem eg_sp1 : ∀ args w, (callFunc 61 args).run Try.prog w = .ok (.enter 61 args) w := enters_of Try.func61 (by kernel_rfl) rfl
/-- The path so far. -/
structure Pl (w wr : World) (g1 g4 ga b n k : Nat) (at_ : ByteArray) (all out : List Int) (vo : Value) (a0 : ByteArray) (A1 : Option Addr) (c1 : Nat) (l1 : List S41) (A2 : Option Addr) (c2 : Nat) (l2 : List S101) (a3 : ByteArray) : Prop where
  s : Sa w wr g1 g4 b n (farD (es l1)) a0 A1 c1 l1 A2 c2 l2 a3
  ba : Bk wr ga 9 #[.string at_]
  o : Ro (Kd.int .i64) 3 w wr vo out
  d : IsD (es l1) k at_
  p : out ++ pathG (es l1) k at_ = all
  ge : w.heap.size ≤ ga
theorem Pl.below {wr w1 : World} {g1 g4 ga b n k : Nat} {at_ : ByteArray} {all out : List Int} {vo : Value} (h : Pl w wr g1 g4 ga b n k at_ all out vo a0 A1 c1 l1 A2 c2 l2 a3) (hb : Below wr.heap.size wr w1) : Pl w w1 g1 g4 ga b n k at_ all out vo a0 A1 c1 l1 A2 c2 l2 a3 := ⟨h.s.below hb, h.ba.below hb, h.o.below hb, h.d, h.p, h.ge⟩
/-- The path has grown; the name at hand is the elder one. -/
structure Pm (w wr : World) (g1 g4 ga b n : Nat) (at_ : ByteArray) (out : List Int) (vo : Value) (a0 : ByteArray) (A1 : Option Addr) (c1 : Nat) (l1 : List S41) (A2 : Option Addr) (c2 : Nat) (l2 : List S101) (a3 : ByteArray) : Prop where
  s : Sa w wr g1 g4 b n (farD (es l1)) a0 A1 c1 l1 A2 c2 l2 a3
  ba : Bk wr ga 9 #[.string at_]
  o : Ro (Kd.int .i64) 3 w wr vo out
theorem Pm.below {wr w1 : World} {g1 g4 ga b n : Nat} {at_ : ByteArray} {out : List Int} {vo : Value} (h : Pm w wr g1 g4 ga b n at_ out vo a0 A1 c1 l1 A2 c2 l2 a3) (hb : Below wr.heap.size wr w1) : Pm w w1 g1 g4 ga b n at_ out vo a0 A1 c1 l1 A2 c2 l2 a3 := ⟨h.s.below hb, h.ba.below hb, h.o.below hb⟩
theorem Bk_two {wr : World} {g g' : Nat} {T T' : TypeId} {cs cs' : Array Value} (h : Bk wr g T cs) (h' : Bk wr g' T' cs') (hne : T ≠ T') : g ≠ g' := by
  rintro rfl
  have := h.blk.symm.trans h'.blk
  injection this with this
  injection this with _ this
  exact hne this
theorem Pm.set {wr w1 : World} {g1 g4 ga b n : Nat} {at_ x : ByteArray} {out : List Int} {vo : Value} (h : Pm w wr g1 g4 ga b n at_ out vo a0 A1 c1 l1 A2 c2 l2 a3) (hge : w.heap.size ≤ ga) (hB : Bk w1 ga 9 (#[.string at_].setIfInBounds 0 (.string x))) (hg : wr.grownBy w1 (some ga)) : Pm w w1 g1 g4 ga b n x out vo a0 A1 c1 l1 A2 c2 l2 a3 :=
  ⟨⟨h.s.bel.grown hg h.s.bel.size (fun k e => by cases e; exact hge), h.s.ge, h.s.b1.grown hg (fun e => Bk_two h.s.b1 h.ba (by decide) (by injection e)), h.s.b4.grown hg (fun e => Bk_two h.s.b4 h.ba (by decide) (by injection e)), h.s.m.grown hg (fun e => h.s.m.ne h.ba.blk (by injection e with e; exact e.symm))⟩, hB, h.o.other hg (.inl (row_ne h.o.row h.ba.blk (by decide)))⟩
theorem out_lt {s : ByteArray} {i : Int} (h : i ∈ outL (es l1) s) : ∃ j : Nat, i = j ∧ j < l1.length := by
  obtain ⟨j, rfl, hj, _⟩ := outL_mem.1 h
  exact ⟨j, rfl, by rw [es_len] at hj; exact hj⟩
set_option maxHeartbeats 4000000 in
theorem short_any' (w : World) (h : Rg w A1 c1 l1 A2 c2 l2) (hok : okG (es l1) = true) :
    Calls Try.prog 39 #[.agg #[.string a0, .slice A1 l1.length c1, .slice A2 l2.length c2, .string a3]] w fun e w' => ∃ v, e = .returned (.tuple #[v, .int .i64 (errP (shortL (es l1)))]) ∧ Ro (Kd.int .i64) 3 w w' v ((shortL (es l1)).getD []) ∧ Below w.heap.size w w' := by
  have OK := Aside0.mk hok
  have LN : l1.length ≤ 1000 := by have := okG_len hok; rw [es_len] at this; exact this
  have NL := Aside0.mk (nodesL_len (es l1))
  rw [es_len] at NL
  have R0 := Aside0.mk h
  have hmf : ∀ (fn : Fn) (first cap : Array Value) (w : World), (Instr.makeFunc fn first cap).run Try.prog w = .ok (.func fn first cap) w := fun _ _ _ _ => rfl
  have HB := Aside0.mk (Below.refl w.heap.size w)
  clear h hok
  go_enter Try.func39, Try.ntmps39
  go_wp2_with (((with_reducible refine gate_dst (N := 1) rfl ?_); refine box_event ?hg (N := 1) ?hd (cs := #[.string a0, .slice A1 l1.length c1, .slice A2 l2.length c2, .string a3]) (t := 25) ?hr ?_; (case hd => rfl); (case hg => rfl); (case hr => first | (go_simp; done) | (go_simp; rfl)); intro g1 hg w1 hbox hb; have hbx : Below w.heap.size w w1 := below_step (by repeat (first | (with_reducible first | exact Below.refl _ _ | apply below_alloc | apply pw_below_drewN | apply below_drew1) | exact Below.refl _ _)) hb; have n_HB := Aside0.mk (below_step HB.out hbx); clear HB ; have HB := n_HB; clear hbx n_HB; have BK1 := Aside0.mk (Bk.mk (hbox : Blk w1 g1 25 #[.string a0, .slice A1 l1.length c1, .slice A2 l2.length c2, .string a3])); clear hbox hg hb; have zBK1_0 : w1.cell? ⟨g1, 0, none⟩ = some (.string a0) := (blk_cell BK1.out.blk 0).trans rfl; have zBK1_1 : w1.cell? ⟨g1, 1, none⟩ = some (.slice A1 l1.length c1) := (blk_cell BK1.out.blk 1).trans rfl; have zBK1_2 : w1.cell? ⟨g1, 2, none⟩ = some (.slice A2 l2.length c2) := (blk_cell BK1.out.blk 2).trans rfl; have zBK1_3 : w1.cell? ⟨g1, 3, none⟩ = some (.string a3) := (blk_cell BK1.out.blk 3).trans rfl))
  go_step3
  go_wp2_with (first | ((with_reducible refine gate_dst (N := 21) rfl ?_); refine Mp.mkI_ev rfl (N := 21) rfl rfl ?_; intro b21 hg w2 hmap hb; have hbx : Below w1.heap.size w1 w2 := below_step (by repeat (first | (with_reducible first | exact Below.refl _ _ | apply below_alloc | apply pw_below_drewN | apply below_drew1) | exact Below.refl _ _)) hb; have hge_ : w.heap.size ≤ b21 := (by rw [hg]; exact below_size (below_step HB.out (by repeat (first | (with_reducible first | exact Below.refl _ _ | apply below_alloc | apply pw_below_drewN | apply below_drew1) | exact Below.refl _ _)))); clear zBK1_0 zBK1_1 zBK1_2 zBK1_3; have n_BK1 := Aside0.mk (BK1.out.below hbx); have n_HB := Aside0.mk (below_step HB.out hbx); clear HB BK1; have BK1 := n_BK1; have HB := n_HB; clear hbx n_BK1 n_HB; have M21 := Aside0.mk hmap; have GE21 := Aside0.mk hge_; clear hmap hg hb hge_; have zBK1_0 : w2.cell? ⟨g1, 0, none⟩ = some (.string a0) := (blk_cell BK1.out.blk 0).trans rfl; have zBK1_1 : w2.cell? ⟨g1, 1, none⟩ = some (.slice A1 l1.length c1) := (blk_cell BK1.out.blk 1).trans rfl; have zBK1_2 : w2.cell? ⟨g1, 2, none⟩ = some (.slice A2 l2.length c2) := (blk_cell BK1.out.blk 2).trans rfl; have zBK1_3 : w2.cell? ⟨g1, 3, none⟩ = some (.string a3) := (blk_cell BK1.out.blk 3).trans rfl) | (refine Mp.putI_ev rfl (.inr rfl) (s := ⟨#[82]⟩) (v := 0) rfl rfl rfl (WalkArith.wf_i64 (by omega)) (by decide) (by unfold maxLen; omega) (M21.out.below (by repeat (first | (with_reducible first | exact Below.refl _ _ | apply below_alloc | apply pw_below_drewN | apply below_drew1) | exact Below.refl _ _))) ?_; intro w3 hM hg_; clear zBK1_0 zBK1_1 zBK1_2 zBK1_3; have n_BK1 := Aside0.mk ((BK1.out.below (by repeat (first | (with_reducible first | exact Below.refl _ _ | apply below_alloc | apply pw_below_drewN | apply below_drew1) | exact Below.refl _ _))).mputI (M21.out.below (by repeat (first | (with_reducible first | exact Below.refl _ _ | apply below_alloc | apply pw_below_drewN | apply below_drew1) | exact Below.refl _ _))) hg_); have n_HB := Aside0.mk ((below_step HB.out (by repeat (first | (with_reducible first | exact Below.refl _ _ | apply below_alloc | apply pw_below_drewN | apply below_drew1) | exact Below.refl _ _))).grown hg_ (below_size (below_step HB.out (by repeat (first | (with_reducible first | exact Below.refl _ _ | apply below_alloc | apply pw_below_drewN | apply below_drew1) | exact Below.refl _ _)))) (fun k hk => (by cases hk; exact GE21.out))); clear HB BK1 M21; have BK1 := n_BK1; have HB := n_HB; have M21 := Aside0.mk hM; clear hM hg_ n_BK1 n_HB; have zBK1_0 : w3.cell? ⟨g1, 0, none⟩ = some (.string a0) := (blk_cell BK1.out.blk 0).trans rfl; have zBK1_1 : w3.cell? ⟨g1, 1, none⟩ = some (.slice A1 l1.length c1) := (blk_cell BK1.out.blk 1).trans rfl; have zBK1_2 : w3.cell? ⟨g1, 2, none⟩ = some (.slice A2 l2.length c2) := (blk_cell BK1.out.blk 2).trans rfl; have zBK1_3 : w3.cell? ⟨g1, 3, none⟩ = some (.string a3) := (blk_cell BK1.out.blk 3).trans rfl) | ((with_reducible refine gate_dst (N := 4) rfl ?_); refine Evt.box1 ?hg6_ (N := 4) ?hd6_ (z := .map none) (v := .map (some b21)) (T := 44) ?hr6_ ?hg26_ ?hd26_ ?hr26_ ?_; (case hd6_ => rfl); (case hg6_ => rfl); (case hr6_ => first | (go_simp; done) | (go_simp; rfl)); (case hg26_ => rfl); (case hd26_ => rfl); (case hr26_ => first | (go_simp; done) | (go_simp; rfl)); intro g4 hg w4 hbox hb; have hbx : Below w3.heap.size w3 w4 := below_step (by repeat (first | (with_reducible first | exact Below.refl _ _ | apply below_alloc | apply pw_below_drewN | apply below_drew1) | exact Below.refl _ _)) hb; clear zBK1_0 zBK1_1 zBK1_2 zBK1_3; have n_BK1 := Aside0.mk (BK1.out.below hbx); have n_M21 := Aside0.mk (M21.out.below hbx); have n_HB := Aside0.mk (below_step HB.out hbx); clear HB BK1 M21; have BK1 := n_BK1; have M21 := n_M21; have HB := n_HB; clear hbx n_BK1 n_M21 n_HB; have BK4 := Aside0.mk (Bk.mk (hbox : Blk w4 g4 44 #[.map (some b21)])); clear hbox hg hb; have zBK1_0 : w4.cell? ⟨g1, 0, none⟩ = some (.string a0) := (blk_cell BK1.out.blk 0).trans rfl; have zBK1_1 : w4.cell? ⟨g1, 1, none⟩ = some (.slice A1 l1.length c1) := (blk_cell BK1.out.blk 1).trans rfl; have zBK1_2 : w4.cell? ⟨g1, 2, none⟩ = some (.slice A2 l2.length c2) := (blk_cell BK1.out.blk 2).trans rfl; have zBK1_3 : w4.cell? ⟨g1, 3, none⟩ = some (.string a3) := (blk_cell BK1.out.blk 3).trans rfl; have zBK4_0 : w4.cell? ⟨g4, 0, none⟩ = some (.map (some b21)) := (blk_cell BK4.out.blk 0).trans rfl) | ((with_reducible refine gate_dst (N := 23) rfl ?_); refine Evt.ro_lit (w0 := w) Value.string (fun _ => rfl) 9 ?hg7_ (N := 23) ?hd7_ (xs := [⟨#[82]⟩]) ?hr7_ (below_step HB.out (by repeat (first | (with_reducible first | exact Below.refl _ _ | apply below_alloc | apply pw_below_drewN | apply below_drew1) | exact Below.refl _ _))) (by decide) ?_; (case hd7_ => rfl); (case hg7_ => rfl); (case hr7_ => first | (go_simp; done) | (go_simp; rfl)); intro v23 w5 ho hb hnew; have hbx : Below w4.heap.size w4 w5 := below_step (by repeat (first | (with_reducible first | exact Below.refl _ _ | apply below_alloc | apply pw_below_drewN | apply below_drew1) | exact Below.refl _ _)) hb; clear zBK1_0 zBK1_1 zBK1_2 zBK1_3 zBK4_0; have n_BK1 := Aside0.mk (BK1.out.below hbx); have n_M21 := Aside0.mk (M21.out.below hbx); have n_BK4 := Aside0.mk (BK4.out.below hbx); have n_HB := Aside0.mk (below_step HB.out hbx); clear HB BK1 M21 BK4; have BK1 := n_BK1; have M21 := n_M21; have BK4 := n_BK4; have HB := n_HB; clear hbx n_BK1 n_M21 n_BK4 n_HB; have RO23 := Aside0.mk ho; clear ho hb hnew; have zBK1_0 : w5.cell? ⟨g1, 0, none⟩ = some (.string a0) := (blk_cell BK1.out.blk 0).trans rfl; have zBK1_1 : w5.cell? ⟨g1, 1, none⟩ = some (.slice A1 l1.length c1) := (blk_cell BK1.out.blk 1).trans rfl; have zBK1_2 : w5.cell? ⟨g1, 2, none⟩ = some (.slice A2 l2.length c2) := (blk_cell BK1.out.blk 2).trans rfl; have zBK1_3 : w5.cell? ⟨g1, 3, none⟩ = some (.string a3) := (blk_cell BK1.out.blk 3).trans rfl; have zBK4_0 : w5.cell? ⟨g4, 0, none⟩ = some (.map (some b21)) := (blk_cell BK4.out.blk 0).trans rfl))
  go_step3
  go_wp2
  have S0 : Aside0 (Sa w w5 g1 g4 b21 (0 + 1) (fun x => if x = ⟨#[82]⟩ then some 0 else none) a0 A1 c1 l1 A2 c2 l2 a3 ∧ Ro Kd.string 9 w w5 v23 [⟨#[82]⟩]) := Aside0.mk ⟨⟨HB.out, GE21.out, BK1.out, BK4.out, M21.out⟩, RO23.out⟩
  clear HB GE21 BK1 BK4 M21 RO23 zBK1_0 zBK1_1 zBK1_2 zBK1_3 zBK4_0
  have NP : Aside0 (0 < (nodesL (es l1)).length) := ⟨nodes_pos _⟩
  go_loopg [5, 6] (nodesL (es l1)).length (fun kq v5 v6 wr => ∃ (d n : Nat) (far : ByteArray → Option Int) (rnd : List ByteArray), v6 = .int .i64 ((d + 1 : Nat) : Int) ∧ Aside0 (d + kq = (nodesL (es l1)).length) ∧ Aside0 (Bf (es l1) d far rnd ∧ rnd ≠ []) ∧ Aside0 (n ≤ 1 + 3000 * d) ∧ Aside0 (Sa w wr g1 g4 b21 n far a0 A1 c1 l1 A2 c2 l2 a3 ∧ Ro Kd.string 9 w wr v5 rnd))
  case atStart => exact ⟨0, _, _, _, rfl, ⟨by omega⟩, ⟨bf_zero, by simp⟩, ⟨by omega⟩, S0⟩
  case round =>
    clear S0
    obtain ⟨d, n, far, rnd, rfl, DK, BF, NB, SS⟩ := hrel
    have DL : Aside0 (d < (nodesL (es l1)).length) := ⟨bf_lt BF.out.1 BF.out.2⟩
    have RL : Aside0 (rnd.length ≤ 2002) := ⟨by have := bf_len BF.out.1; have := NL.out; omega⟩
    obtain ⟨Yr, yr, rfl, RW⟩ := Ro.sliceS SS.out.2
    have KB : Aside0 (∀ k, (Value.slice Yr rnd.length yr).ownBlock = some k → k < wr.heap.size) := ⟨Kd.R_lt SS.out.2.row⟩
    obtain ⟨gk0, rfl⟩ : ∃ gk0, gk = gk0 + 1 := ⟨gk - 1, by have := DK.out; have := DL.out; omega⟩
    have D1 : Aside0 (d ≤ 2002) := ⟨by have := DL.out; have := NL.out; omega⟩
    obtain ⟨wo, rfl⟩ : ∃ wo, wo = wr := ⟨_, rfl⟩
    go_wp2
    have S1 : Aside0 (Sn w wo wo g1 g4 b21 n ((([] : List ByteArray).foldl (stepB (d + 1)) (far, [])).1) (.slice Yr rnd.length yr) rnd (.slice none 0 0) ((([] : List ByteArray).foldl (stepB (d + 1)) (far, [])).2) a0 A1 c1 l1 A2 c2 l2 a3) := Aside0.mk ⟨SS.out.1, SS.out.2, KB.out, ⟨Kd.R_nil _ _ _ _ _⟩, fun k hk => (by cases hk), Nat.le_refl _⟩
    clear SS KB RW
    go_loopg [7, 28] rnd.length (fun kq v7 v28 wr => ∃ (j n2 : Nat) (F : List ByteArray), v28 = .int .i64 j ∧ Aside0 (j + kq = rnd.length) ∧ Aside0 (F = (rnd.take j).flatMap (preL (es l1))) ∧ Aside0 (n2 ≤ 1 + 3000 * d + (F.foldl (stepB (d + 1)) (far, [])).2.length) ∧ Aside0 (Sn w wo wr g1 g4 b21 n2 (F.foldl (stepB (d + 1)) (far, [])).1 (.slice Yr rnd.length yr) rnd v7 (F.foldl (stepB (d + 1)) (far, [])).2 a0 A1 c1 l1 A2 c2 l2 a3))
    case atStart => exact ⟨0, n, [], rfl, ⟨by omega⟩, ⟨by simp⟩, ⟨by have := NB.out; simp; omega⟩, S1⟩
    case round =>
      clear S1
      obtain ⟨j, n2, F, rfl, hj, HF, HN, HS⟩ := hrel
      cases gk with
      | zero =>
        have e0 : j = rnd.length := by have := hj.out; omega
        have q0 : decide (j < rnd.length) = false := decide_eq_false (by omega)
        have q1 : decide ((j : Int) < (rnd.length : Int)) = false := decide_eq_false (by omega)
        have HF2 : Aside0 (F = rnd.flatMap (preL (es l1))) := ⟨by rw [HF.out, List.take_of_length_le (by omega)]⟩
        have BN : Aside0 (Bf (es l1) (d + 1) (F.foldl (stepB (d + 1)) (far, [])).1 (F.foldl (stepB (d + 1)) (far, [])).2) := ⟨by rw [HF2.out]; exact bf_next BF.out.1⟩
        clear e0
        generalize hsp : F.foldl (stepB (d + 1)) (far, []) = sp at HN HS BN
        clear hsp
        obtain ⟨Yn, yn, rfl, _⟩ := Ro.sliceS HS.out.x
        have DN : d ≤ 2002 := D1.out
        by_cases hz : sp.2 = []
        · have z0 : decide (sp.2.length = 0) = true := decide_eq_true (by rw [hz]; rfl)
          have z1 : decide ((sp.2.length : Int) = 0) = true := decide_eq_true (by rw [hz]; rfl)
          have z2 : ((sp.2.length : Int) == 0) = true := by rw [hz]; rfl
          have FE : Aside0 (∀ y, sp.1 y = farD (es l1) y) := ⟨bf_end (by have := BN.out; rw [hz] at this; exact this)⟩
          have SF : Aside0 (Sa w wr g1 g4 b21 n2 (farD (es l1)) a0 A1 c1 l1 A2 c2 l2 a3) := ⟨⟨HS.out.s.bel, HS.out.s.ge, HS.out.s.b1, HS.out.s.b4, HS.out.s.m.congr FE.out⟩⟩
          clear hz HS HN BN FE BF DK NB DL RL D1 HF HF2
          have WZ := Aside0.mk SF.out.bel.size
          have HB := Aside0.mk (Below.refl wr.heap.size wr)
          have SX := Aside0.mk (SF.out)
          have K4 : Aside0 (Bk wr g4 44 #[.map (some b21)]) := Aside0.mk (SF.out.b4)
          clear SF
          have zK4_0 : wr.cell? ⟨g4, 0, none⟩ = some (.map (some b21)) := (blk_cell K4.out.blk 0).trans rfl
          cases hd : distL (es l1) sL with
          | none =>
            have V1 : Aside0 ((farD (es l1) ⟨#[76]⟩).getD 0 = 0 ∧ (farD (es l1) ⟨#[76]⟩).isSome = false) := ⟨by rw [farD_none (show distL (es l1) ⟨#[76]⟩ = none from hd)]; exact ⟨rfl, rfl⟩⟩
            have SH : Aside0 (shortL (es l1) = none) := ⟨by unfold shortL; rw [hd]; rfl⟩
            clear hd
            go_wp2_with (refine Mp.getI2_ev rfl rfl (s := ⟨#[76]⟩) (v := 0) (ok := false) rfl rfl (by decide) (SX.out.m.below (by repeat (first | (with_reducible first | exact Below.refl _ _ | apply below_alloc | apply pw_below_drewN | apply below_drew1) | exact Below.refl _ _))) V1.out.1 V1.out.2 ?_)
            rw [Exit.noGoto_ret]
            go_ret2
            rw [SH.out]
            exact ⟨_, rfl, ⟨Kd.R_nil _ _ _ _ _⟩, SX.out.bel⟩
          | some k0 =>
            have V1 : Aside0 ((farD (es l1) ⟨#[76]⟩).getD 0 = (k0 : Int) ∧ (farD (es l1) ⟨#[76]⟩).isSome = true) := ⟨by rw [farD_some (show distL (es l1) ⟨#[76]⟩ = some k0 from hd)]; exact ⟨rfl, rfl⟩⟩
            have SH : Aside0 (shortL (es l1) = some (pathG (es l1) k0 sL)) := ⟨by unfold shortL; rw [hd]; rfl⟩
            have DS : Aside0 (IsD (es l1) k0 sL) := ⟨dist_some.1 hd⟩
            clear hd
            go_wp2_with (first | (refine Mp.getI2_ev rfl rfl (s := ⟨#[76]⟩) (v := (k0 : Int)) (ok := true) rfl rfl (by decide) (SX.out.m.below (by repeat (first | (with_reducible first | exact Below.refl _ _ | apply below_alloc | apply pw_below_drewN | apply below_drew1) | exact Below.refl _ _))) V1.out.1 V1.out.2 ?_) | ((with_reducible refine gate_dst (N := 18) rfl ?_); refine Evt.box1 ?hg8_ (N := 18) ?hd8_ (z := .string ⟨#[]⟩) (v := .string ⟨#[76]⟩) (T := 9) ?hr8_ ?hg28_ ?hd28_ ?hr28_ ?_; (case hd8_ => rfl); (case hg8_ => rfl); (case hr8_ => first | (go_simp; done) | (go_simp; rfl)); (case hg28_ => rfl); (case hd28_ => rfl); (case hr28_ => first | (go_simp; done) | (go_simp; rfl)); intro g18 hg w1 hbox hb; have hbx : Below wr.heap.size wr w1 := below_step (by repeat (first | (with_reducible first | exact Below.refl _ _ | apply below_alloc | apply pw_below_drewN | apply below_drew1) | exact Below.refl _ _)) hb; have GG18 := Aside0.mk (show wr.heap.size ≤ g18 from (by rw [hg]; exact below_size (below_step HB.out (by repeat (first | (with_reducible first | exact Below.refl _ _ | apply below_alloc | apply pw_below_drewN | apply below_drew1) | exact Below.refl _ _))))); clear zK4_0; have n_SX := Aside0.mk (SX.out.below hbx); have n_K4 := Aside0.mk (K4.out.below hbx); have n_HB := Aside0.mk (below_step HB.out hbx); clear HB SX K4; have SX := n_SX; have K4 := n_K4; have HB := n_HB; clear hbx n_SX n_K4 n_HB; have BK18 := Aside0.mk (Bk.mk (hbox : Blk w1 g18 9 #[.string ⟨#[76]⟩])); clear hbox hg hb; have zK4_0 : w1.cell? ⟨g4, 0, none⟩ = some (.map (some b21)) := (blk_cell K4.out.blk 0).trans rfl; have zBK18_0 : w1.cell? ⟨g18, 0, none⟩ = some (.string ⟨#[76]⟩) := (blk_cell BK18.out.blk 0).trans rfl))
            have PA : Aside0 (Pl w w1 g1 g4 g18 b21 n2 k0 sL (pathG (es l1) k0 sL) [] (.slice none 0 0) a0 A1 c1 l1 A2 c2 l2 a3) := Aside0.mk ⟨SX.out, BK18.out, ⟨Kd.R_nil _ _ _ _ _⟩, DS.out, rfl, Nat.le_trans WZ.out GG18.out⟩
            clear SX K4 HB BK18 zK4_0 zBK18_0 V1 GG18
            have KN : Aside0 (k0 < (nodesL (es l1)).length) := ⟨isD_lt DS.out⟩
            simp only [Act.put, List.setIfInBounds_toArray, List.set_cons_zero, List.set_cons_succ]
            go_loopg [17, 18] (k0 + 1) (fun kq v17 v18 wr => ∃ (k g : Nat) (at_ : ByteArray) (out : List Int), v18 = .pointer (some ⟨g, 0, none⟩) ∧ Aside0 (k + 1 = kq) ∧ Aside0 (k ≤ k0 ∧ out.length + k = k0) ∧ Aside0 (Pl w wr g1 g4 g b21 n2 k at_ (pathG (es l1) k0 sL) out v17 a0 A1 c1 l1 A2 c2 l2 a3))
            case atStart => exact ⟨k0, g18, sL, [], rfl, ⟨rfl⟩, ⟨by simp⟩, PA⟩
            case round =>
              clear PA
              obtain ⟨k, ga, at_, out, rfl, hkq, hko, PP⟩ := hrel
              cases k with
              | zero =>
                obtain rfl : at_ = ⟨#[82]⟩ := isD_zero.1 PP.out.d
                have OE : Aside0 (pathG (es l1) k0 sL = out) := ⟨by have := PP.out.p; rw [pathG_zero, List.append_nil] at this; exact this.symm⟩
                have HB := Aside0.mk (Below.refl wr.heap.size wr)
                have KA : Aside0 (Bk wr ga 9 #[.string ⟨#[82]⟩]) := Aside0.mk (PP.out.ba)
                have zKA_0 : wr.cell? ⟨ga, 0, none⟩ = some (.string ⟨#[82]⟩) := (blk_cell KA.out.blk 0).trans rfl
                go_wp2
                rw [Exit.noGoto_ret]
                go_ret2
                rw [SH.out]
                refine ⟨_, rfl, ?_, PP.out.s.bel⟩
                have := PP.out.o
                rw [← OE.out] at this
                exact this
              | succ k =>
                obtain ⟨kq', rfl⟩ : ∃ kq', gk = kq' + 1 := ⟨k + 1, by have := hkq.out; omega⟩
                have KL : Aside0 (k ≤ 3000 ∧ out.length ≤ 3000) := ⟨by have := hko.out; have := KN.out; have := NL.out; omega⟩
                have hne : at_ ≠ ⟨#[82]⟩ := isD_ne PP.out.d
                have hx1 : (at_.toList == ([82] : List UInt8)) = false := beq_eq_false_iff_ne.mpr (fun e => hne (str_eq.1 (e.trans (by decide +kernel))))
                have hx2 : (at_.toList != ([82] : List UInt8)) = true := by rw [bne, hx1]; rfl
                have AZ : Aside0 (at_.size ≤ 100000) := ⟨nodesL_size OK.out (isD_node PP.out.d)⟩
                obtain ⟨m, j, hml_, hjl, hj, hfj, hdi, hpg, hmf_⟩ := path_pick PP.out.d
                have hml : m < l1.length := by rw [es_len] at hml_; exact hml_
                rw [es_get hml] at hdi hpg
                have PG : Aside0 (pathG (es l1) (k + 1) at_ = (m : Int) :: pathG (es l1) k l1[m].f3) := ⟨hpg⟩
                have DI : Aside0 (IsD (es l1) k l1[m].f3) := ⟨hdi⟩
                have IX : Aside0 (idxF (fun i => decide (distL (es l1) (toE (es l1) i) = some k)) (outL (es l1) at_) = (j : Int)) := ⟨by unfold idxF; rw [hfj]⟩
                have HJ := Aside0.mk hj
                have LO : Aside0 ((outL (es l1) at_).length ≤ 1000) := ⟨by have := idxs_len (fun c => decide (c.1 = at_)) (es l1); rw [es_len] at this; unfold outL; omega⟩
                have p0 : decide (m < l1.length) = true := decide_eq_true hml
                have p1 : decide ((m : Int) < (l1.length : Int)) = true := decide_eq_true (by omega)
                have p2 : decide (j < (outL (es l1) at_).length) = true := decide_eq_true hjl
                have p3 : decide ((j : Int) < ((outL (es l1) at_).length : Int)) = true := decide_eq_true (by omega)
                have EA := Aside0.mk (dist_some.2 PP.out.d)
                have PO := Aside0.mk PP.out.p
                have AGE := Aside0.mk PP.out.ge
                clear hml_ hdi hpg hj hfj hmf_ hne
                obtain ⟨ad2, rfl, _⟩ := R0.out.at hml
                have HB := Aside0.mk (Below.refl wr.heap.size wr)
                have PX := Aside0.mk (PP.out)
                have K1 : Aside0 (Bk wr g1 25 #[.string a0, .slice (some ad2) l1.length c1, .slice A2 l2.length c2, .string a3]) := Aside0.mk (PP.out.s.b1)
                have KA : Aside0 (Bk wr ga 9 #[.string at_]) := Aside0.mk (PP.out.ba)
                clear PP
                have zK1_0 : wr.cell? ⟨g1, 0, none⟩ = some (.string a0) := (blk_cell K1.out.blk 0).trans rfl
                have zK1_1 : wr.cell? ⟨g1, 1, none⟩ = some (.slice (some ad2) l1.length c1) := (blk_cell K1.out.blk 1).trans rfl
                have zK1_2 : wr.cell? ⟨g1, 2, none⟩ = some (.slice A2 l2.length c2) := (blk_cell K1.out.blk 2).trans rfl
                have zK1_3 : wr.cell? ⟨g1, 3, none⟩ = some (.string a3) := (blk_cell K1.out.blk 3).trans rfl
                have zKA_0 : wr.cell? ⟨ga, 0, none⟩ = some (.string at_) := (blk_cell KA.out.blk 0).trans rfl
                go_wp2_with (first | ((with_reducible refine gate_callee (f := 21) rfl ?_); refine goesL_ (some 78) rfl rfl Try.func21 (by kernel_rfl) rfl #[.agg #[.string a0, .slice (some ad2) l1.length c1, .slice A2 l2.length c2, .string a3], .string at_] rfl (by (try simp only [List.map_toArray, List.map_cons, List.map_nil]); first | done | rfl | (simp only [List.length_drop, List.length_take]; rfl)) ?_; (with_reducible refine (outgoing_any _ (R0.out.below (PX.out.s.below (by repeat (first | (with_reducible first | exact Below.refl _ _ | apply below_alloc | apply pw_below_drewN | apply below_drew1) | exact Below.refl _ _))).bel) LN at_).mono ?_); rintro e w1 ⟨v, rfl, ho, hb⟩; have hbx : Below wr.heap.size wr w1 := below_step (by repeat (first | (with_reducible first | exact Below.refl _ _ | apply below_alloc | apply pw_below_drewN | apply below_drew1) | exact Below.refl _ _)) hb; obtain ⟨A_, c_, rfl, hw_⟩ := Ro.sliceI ho; have ho_ := hw_.out; clear zK1_0 zK1_1 zK1_2 zK1_3 zKA_0; have n_PX := Aside0.mk (PX.out.below hbx); have n_K1 := Aside0.mk (K1.out.below hbx); have n_KA := Aside0.mk (KA.out.below hbx); have n_HB := Aside0.mk (below_step HB.out hbx); clear HB PX K1 KA; have PX := n_PX; have K1 := n_K1; have KA := n_KA; have HB := n_HB; clear hbx n_PX n_K1 n_KA n_HB; have IW := Aside0.mk (ho_); clear hb; clear ho ho_ hw_; have zK1_0 : w1.cell? ⟨g1, 0, none⟩ = some (.string a0) := (blk_cell K1.out.blk 0).trans rfl; have zK1_1 : w1.cell? ⟨g1, 1, none⟩ = some (.slice (some ad2) l1.length c1) := (blk_cell K1.out.blk 1).trans rfl; have zK1_2 : w1.cell? ⟨g1, 2, none⟩ = some (.slice A2 l2.length c2) := (blk_cell K1.out.blk 2).trans rfl; have zK1_3 : w1.cell? ⟨g1, 3, none⟩ = some (.string a3) := (blk_cell K1.out.blk 3).trans rfl; have zKA_0 : w1.cell? ⟨ga, 0, none⟩ = some (.string at_) := (blk_cell KA.out.blk 0).trans rfl; refine ⟨_, rfl, ?_⟩) | ((with_reducible refine gate_callee (f := 60) rfl ?_); refine goesL_ (some 82) rfl rfl Try.func60 (by kernel_rfl) rfl #[.slice A_ (outL (es l1) at_).length c_, .func (.func 61) #[] #[.pointer (some ⟨g4, 0, none⟩), .pointer (some ⟨g1, 0, none⟩), .pointer (some ⟨ga, 0, none⟩)]] rfl (by (try simp only [List.map_toArray, List.map_cons, List.map_nil]); first | done | rfl | (simp only [List.length_drop, List.length_take]; rfl)) ?_; (with_reducible refine (idxfI' eg_sp1 (IW.out.below (by repeat (first | (with_reducible first | exact Below.refl _ _ | apply below_alloc | apply pw_below_drewN | apply below_drew1) | exact Below.refl _ _))) (by have := LO.out; omega) (((sp1_any ((Sv.mk K1.out PX.out.s.b4 KA.out PX.out.s.m (R0.out.below PX.out.s.bel))) OK.out EA.out KL.out.1 AZ.out).mono (fun x hx => out_lt hx)).below (by repeat (first | (with_reducible first | exact Below.refl _ _ | apply below_alloc | apply pw_below_drewN | apply below_drew1) | exact Below.refl _ _))) IX.out).mono ?_); rintro e w2 ⟨rfl, hb⟩; have hbx : Below w1.heap.size w1 w2 := below_step (by repeat (first | (with_reducible first | exact Below.refl _ _ | apply below_alloc | apply pw_below_drewN | apply below_drew1) | exact Below.refl _ _)) hb; clear zK1_0 zK1_1 zK1_2 zK1_3 zKA_0; have n_PX := Aside0.mk (PX.out.below hbx); have n_K1 := Aside0.mk (K1.out.below hbx); have n_KA := Aside0.mk (KA.out.below hbx); have n_IW := Aside0.mk (IW.out.below hbx); have n_HB := Aside0.mk (below_step HB.out hbx); clear HB PX K1 KA IW; have PX := n_PX; have K1 := n_K1; have KA := n_KA; have IW := n_IW; have HB := n_HB; clear hbx n_PX n_K1 n_KA n_IW n_HB; clear hb; obtain ⟨ad5, rfl, x5⟩ := at_int0 IW.out.row (j : Int) (by omega) (by omega); rw [Int.toNat_natCast, show rd (outL (es l1) at_) (j : Int) = (m : Int) by rw [← HJ.out]; simp [rd, List.getD_eq_getElem?_getD, List.getElem?_eq_getElem hjl]] at x5; have zK1_0 : w2.cell? ⟨g1, 0, none⟩ = some (.string a0) := (blk_cell K1.out.blk 0).trans rfl; have zK1_1 : w2.cell? ⟨g1, 1, none⟩ = some (.slice (some ad2) l1.length c1) := (blk_cell K1.out.blk 1).trans rfl; have zK1_2 : w2.cell? ⟨g1, 2, none⟩ = some (.slice A2 l2.length c2) := (blk_cell K1.out.blk 2).trans rfl; have zK1_3 : w2.cell? ⟨g1, 3, none⟩ = some (.string a3) := (blk_cell K1.out.blk 3).trans rfl; have zKA_0 : w2.cell? ⟨ga, 0, none⟩ = some (.string at_) := (blk_cell KA.out.blk 0).trans rfl; refine ⟨_, rfl, ?_⟩) | ((with_reducible refine gate_dst (N := 87) rfl ?_); refine Evt.slice_event ?hg (N := 87) ?hd (cs := #[.int .i64 m]) (t := 3) (n := 1) ?hr ?_; (case hd => rfl); (case hg => rfl); (case hr => first | (go_simp; done) | (go_simp; rfl)); intro g87 hg w3 hbox hb; have hbx : Below w2.heap.size w2 w3 := below_step (by repeat (first | (with_reducible first | exact Below.refl _ _ | apply below_alloc | apply pw_below_drewN | apply below_drew1) | exact Below.refl _ _)) hb; clear zK1_0 zK1_1 zK1_2 zK1_3 zKA_0; have n_PX := Aside0.mk (PX.out.below hbx); have n_K1 := Aside0.mk (K1.out.below hbx); have n_KA := Aside0.mk (KA.out.below hbx); have n_IW := Aside0.mk (IW.out.below hbx); have n_HB := Aside0.mk (below_step HB.out hbx); clear HB PX K1 KA IW; have PX := n_PX; have K1 := n_K1; have KA := n_KA; have IW := n_IW; have HB := n_HB; clear hbx n_PX n_K1 n_KA n_IW n_HB; have BK87 := Aside0.mk (Bk.mk (hbox : Blk w3 g87 3 #[.int .i64 m])); clear hbox hg hb; have zK1_0 : w3.cell? ⟨g1, 0, none⟩ = some (.string a0) := (blk_cell K1.out.blk 0).trans rfl; have zK1_1 : w3.cell? ⟨g1, 1, none⟩ = some (.slice (some ad2) l1.length c1) := (blk_cell K1.out.blk 1).trans rfl; have zK1_2 : w3.cell? ⟨g1, 2, none⟩ = some (.slice A2 l2.length c2) := (blk_cell K1.out.blk 2).trans rfl; have zK1_3 : w3.cell? ⟨g1, 3, none⟩ = some (.string a3) := (blk_cell K1.out.blk 3).trans rfl; have zKA_0 : w3.cell? ⟨ga, 0, none⟩ = some (.string at_) := (blk_cell KA.out.blk 0).trans rfl; have zBK87_0 : w3.cell? ⟨g87, 0, none⟩ = some (.int .i64 m) := (blk_cell BK87.out.blk 0).trans rfl) | ((with_reducible refine gate_dst (N := 88) rfl ?_); at_builtin; refine Evt.ro_app (Value.int .i64) (fun _ => rfl) (0 : Int) rfl (.tmp 85) (.tmp 87) 32 3 (.int .i64 0) 8 rfl Try.underlying32 info3 rfl (by decide) u17 out (m : Int) g87 rfl rfl PX.out.o BK87.out PX.out.s.bel (by have := KL.out.2; omega) ?_; intro v88 wa_ ho hb hg hat; have P2 := Aside0.mk (Pm.mk (PX.out.s.rowI PX.out.o (Nat.le_refl _) hg) (PX.out.ba.grown hg (row_ne PX.out.o.row PX.out.ba.blk (by decide))) ho); clear ho hb hg hat PX HB BK87 K1 KA IW x5 zBK87_0 zK1_0 zK1_1 zK1_2 zK1_3 zKA_0; have y1_ := P2.out.s.b1.blk.cell 1 rfl; have y4_ := (R0.out.below P2.out.s.bel).c4 hml; have ya_ := P2.out.ba.blk.cell 0 rfl; have fa_ := P2.out.ba.blk.frozen 0) | (have p2_ := P2; refine Evt.setc_ev rfl 0 (g := ga) (v := .string l1[m].f3) P2.out.ba ?hs_ ?_; (case hs_ => first | (go_simp; done) | (go_simp; rfl)); intro wb hB hG; have P3 := Aside0.mk (P2.out.set AGE.out hB hG); clear hB hG P2 p2_ y1_ y4_ ya_ fa_; have ya_ := P3.out.ba.blk.cell 0 rfl; skip; have HB := Aside0.mk (Below.refl wb.heap.size wb)))
                have hba : Below wb.heap.size wb (wb.alloc (.cells #[.string l1[m].f3] 9)) := below_alloc (Below.refl _ _) _
                have P4 := Aside0.mk (P3.out.below hba)
                have BA4 : Aside0 (Bk (wb.alloc (.cells #[.string l1[m].f3] 9)) wb.heap.size 9 #[.string l1[m].f3]) := ⟨Bk.new_eq rfl⟩
                clear hba
                go_roundg kq'
                case measure => omega
                case rel => exact ⟨k, wb.heap.size, l1[m].f3, out ++ [(m : Int)], rfl, ⟨by have := hkq.out; omega⟩, ⟨by have := hko.out; simp; omega⟩, ⟨P4.out.s, BA4.out, P4.out.o, DI.out, by rw [List.append_assoc, List.singleton_append, ← PG.out]; exact PO.out, P3.out.s.bel.size⟩⟩
        · have z0 : decide (sp.2.length = 0) = false := decide_eq_false (fun e => hz (List.eq_nil_of_length_eq_zero e))
          have z1 : decide ((sp.2.length : Int) = 0) = false := decide_eq_false (fun e => hz (List.eq_nil_of_length_eq_zero (by omega)))
          have z2 : ((sp.2.length : Int) == 0) = false := beq_eq_false_iff_ne.mpr (fun e => hz (List.eq_nil_of_length_eq_zero (by omega)))
          have HZ := Aside0.mk hz
          clear hz
          go_wp2
          go_roundg gk0
          case measure => omega
          case rel => exact ⟨d + 1, n2, _, _, by go_num, ⟨by have := DK.out; omega⟩, ⟨BN.out, HZ.out⟩, ⟨by have h1 := HN.out; have h2 := bf_len BN.out; have h3 := NL.out; omega⟩, ⟨HS.out.s, HS.out.x⟩⟩
      | succ kj =>
        have hjl : j < rnd.length := by have := hj.out; omega
        have RL9 : rnd.length ≤ 2002 := RL.out
        have q0 : decide (j < rnd.length) = true := decide_eq_true hjl
        have q1 : decide ((j : Int) < (rnd.length : Int)) = true := decide_eq_true (by omega)
        obtain ⟨x, hx⟩ : ∃ x, Aside0 (rnd[j] = x) := ⟨_, ⟨rfl⟩⟩
        have RWr : Rw Kd.string wr Yr yr rnd := Rw.of_R HS.out.r.row
        obtain ⟨ad, rfl⟩ := Rw.someS RWr (by omega)
        have x0 := Rw.atS RWr hjl
        rw [hx.out] at x0
        clear RWr
        have NN : Aside0 ((inL (es l1) x).length ≤ 1000) := Aside0.mk (by have := idxs_len (fun c => decide (c.2 = x)) (es l1); rw [es_len] at this; unfold inL; omega)
        have HB := Aside0.mk (Below.refl wr.heap.size wr)
        have SX := Aside0.mk (HS.out)
        have K1 : Aside0 (Bk wr g1 25 #[.string a0, .slice A1 l1.length c1, .slice A2 l2.length c2, .string a3]) := Aside0.mk (HS.out.s.b1)
        clear HS
        have zK1_0 : wr.cell? ⟨g1, 0, none⟩ = some (.string a0) := (blk_cell K1.out.blk 0).trans rfl
        have zK1_1 : wr.cell? ⟨g1, 1, none⟩ = some (.slice A1 l1.length c1) := (blk_cell K1.out.blk 1).trans rfl
        have zK1_2 : wr.cell? ⟨g1, 2, none⟩ = some (.slice A2 l2.length c2) := (blk_cell K1.out.blk 2).trans rfl
        have zK1_3 : wr.cell? ⟨g1, 3, none⟩ = some (.string a3) := (blk_cell K1.out.blk 3).trans rfl
        go_wp2_with (((with_reducible refine gate_callee (f := 23) rfl ?_); refine goesL_ (some 34) rfl rfl Try.func23 (by kernel_rfl) rfl #[.agg #[.string a0, .slice A1 l1.length c1, .slice A2 l2.length c2, .string a3], .string x] rfl (by (try simp only [List.map_toArray, List.map_cons, List.map_nil]); first | done | rfl | (simp only [List.length_drop, List.length_take]; rfl)) ?_; (with_reducible refine (incoming_any _ (R0.out.below (SX.out.s.below (by repeat (first | (with_reducible first | exact Below.refl _ _ | apply below_alloc | apply pw_below_drewN | apply below_drew1) | exact Below.refl _ _))).bel) LN x).mono ?_); rintro e w1 ⟨v, rfl, ho, hb⟩; have hbx : Below wr.heap.size wr w1 := below_step (by repeat (first | (with_reducible first | exact Below.refl _ _ | apply below_alloc | apply pw_below_drewN | apply below_drew1) | exact Below.refl _ _)) hb; obtain ⟨A_, c_, rfl, _⟩ := Ro.sliceI ho; have ho_ := Ro.lower (w0 := w) ho (Nat.le_trans SX.out.s.bel.size (below_size (by repeat (first | (with_reducible first | exact Below.refl _ _ | apply below_alloc | apply pw_below_drewN | apply below_drew1) | exact Below.refl _ _)))); clear zK1_0 zK1_1 zK1_2 zK1_3; have n_SX := Aside0.mk (SX.out.below hbx); have n_K1 := Aside0.mk (K1.out.below hbx); have n_HB := Aside0.mk (below_step HB.out hbx); clear HB SX K1; have SX := n_SX; have K1 := n_K1; have HB := n_HB; clear hbx n_SX n_K1 n_HB; have IW := Aside0.mk (ho_); clear hb; clear ho ho_; have zK1_0 : w1.cell? ⟨g1, 0, none⟩ = some (.string a0) := (blk_cell K1.out.blk 0).trans rfl; have zK1_1 : w1.cell? ⟨g1, 1, none⟩ = some (.slice A1 l1.length c1) := (blk_cell K1.out.blk 1).trans rfl; have zK1_2 : w1.cell? ⟨g1, 2, none⟩ = some (.slice A2 l2.length c2) := (blk_cell K1.out.blk 2).trans rfl; have zK1_3 : w1.cell? ⟨g1, 3, none⟩ = some (.string a3) := (blk_cell K1.out.blk 3).trans rfl; refine ⟨_, rfl, ?_⟩))
        have I0 : Aside0 (Sn w wo w1 g1 g4 b21 n2 ((F ++ (preL (es l1) x).take 0).foldl (stepB (d + 1)) (far, [])).1 (.slice (some ad) rnd.length yr) rnd u7 ((F ++ (preL (es l1) x).take 0).foldl (stepB (d + 1)) (far, [])).2 a0 A1 c1 l1 A2 c2 l2 a3 ∧ Ro (Kd.int .i64) 3 w w1 (.slice A_ (inL (es l1) x).length c_) (inL (es l1) x)) := Aside0.mk ⟨by rw [List.take_zero, List.append_nil]; exact SX.out, IW.out⟩
        clear SX IW HB K1 zK1_0 zK1_1 zK1_2 zK1_3
        go_loopg [7, 36] (inL (es l1) x).length (fun kq v7 v36 wr => ∃ (i n3 : Nat), v36 = .int .i64 i ∧ Aside0 (i + kq = (inL (es l1) x).length) ∧ Aside0 (n3 ≤ 1 + 3000 * d + ((F ++ (preL (es l1) x).take i).foldl (stepB (d + 1)) (far, [])).2.length) ∧ Aside0 (Sn w wo wr g1 g4 b21 n3 ((F ++ (preL (es l1) x).take i).foldl (stepB (d + 1)) (far, [])).1 (.slice (some ad) rnd.length yr) rnd v7 ((F ++ (preL (es l1) x).take i).foldl (stepB (d + 1)) (far, [])).2 a0 A1 c1 l1 A2 c2 l2 a3 ∧ Ro (Kd.int .i64) 3 w wr (.slice A_ (inL (es l1) x).length c_) (inL (es l1) x)))
        case atStart => exact ⟨0, n2, rfl, ⟨by omega⟩, ⟨by rw [List.take_zero, List.append_nil]; exact HN.out⟩, I0⟩
        case round =>
          clear I0 HN
          obtain ⟨i, n3, rfl, hi, HN, HS⟩ := hrel
          cases gk with
          | zero =>
            have e0 : i = (inL (es l1) x).length := by have := hi.out; omega
            have q0_ : decide (i < (inL (es l1) x).length) = false := decide_eq_false (by omega)
            have q1_ : decide ((i : Int) < ((inL (es l1) x).length : Int)) = false := decide_eq_false (by omega)
            have TE := Aside0.mk (show F ++ (preL (es l1) x).take i = (rnd.take (j + 1)).flatMap (preL (es l1)) by
              rw [List.take_of_length_le (by unfold preL; rw [List.length_map]; omega), HF.out, List.take_succ_eq_append_getElem hjl, List.flatMap_append, hx.out]; simp)
            clear e0
            go_wp2
            go_roundg kj
            case measure => omega
            case rel => exact ⟨j + 1, n3, _, by go_num, ⟨by have := hj.out; omega⟩, TE, HN, ⟨HS.out.1⟩⟩
          | succ k1 =>
            have hil : i < (inL (es l1) x).length := by have := hi.out; omega
            have q0_ : decide (i < (inL (es l1) x).length) = true := decide_eq_true hil
            have q1_ : decide ((i : Int) < ((inL (es l1) x).length : Int)) = true := decide_eq_true (by omega)
            have NN9 : (inL (es l1) x).length ≤ 1000 := NN.out
            obtain ⟨m, hm, hml⟩ : ∃ m : Nat, (inL (es l1) x)[i] = (m : Int) ∧ m < l1.length := by
              obtain ⟨m, hm, hl, _⟩ := inL_mem.1 (List.getElem_mem hil)
              exact ⟨m, hm, by rw [es_len] at hl; exact hl⟩
            have p0 : decide (m < l1.length) = true := decide_eq_true hml
            have p1 : decide ((m : Int) < (l1.length : Int)) = true := decide_eq_true (by omega)
            obtain ⟨ad3, rfl, x3⟩ := at_int0 (Rw.of_R HS.out.2.row).row (i : Int) (by omega) (by omega)
            rw [Int.toNat_natCast, show rd (inL (es l1) x) (i : Int) = (m : Int) by rw [← hm]; simp [rd, List.getD_eq_getElem?_getD, List.getElem?_eq_getElem hil]] at x3
            have ST := Aside0.mk (show F ++ (preL (es l1) x).take (i + 1) = (F ++ (preL (es l1) x).take i) ++ [l1[m].f2] by unfold preL; rw [List.take_succ_eq_append_getElem (by rw [List.length_map]; exact hil), List.getElem_map, hm, from_at hml, List.append_assoc])
            have FL : Aside0 (((F ++ (preL (es l1) x).take i).foldl (stepB (d + 1)) (far, [])).2.length ≤ (nodesL (es l1)).length) := ⟨foldB_nodes (fun y hy => by
              rcases List.mem_append.1 hy with hy | hy
              · rw [HF.out] at hy; exact flat_nodes y hy
              · obtain ⟨c, hc, _, q2⟩ := pre_mem.1 (List.mem_of_mem_take hy); rw [← q2]; exact nodes_1 hc) _⟩
            have C2 := Aside0.mk (okG_f2 OK.out (c := (l1[m].f2, l1[m].f3)) (by rw [← es_get hml]; exact List.getElem_mem _))
            have C2m : Aside0 (l1[m].f2.size ≤ maxLen) := ⟨by have h_ : l1[m].f2.size ≤ 100000 := C2.out; unfold maxLen; omega⟩
            clear hm
            have FS := Aside0.mk (List.foldl_append (f := stepB (d + 1)) (b := (far, [])) (l := F ++ (preL (es l1) x).take i) (l' := [l1[m].f2]))
            generalize hsp : (F ++ (preL (es l1) x).take i).foldl (stepB (d + 1)) (far, []) = sp at HS HN FL FS
            clear hsp
            obtain ⟨ad2, rfl, _⟩ := R0.out.at hml
            have y3 := (R0.out.below HS.out.1.s.bel).c3 hml
            have HB := Aside0.mk (Below.refl wr.heap.size wr)
            have SX := Aside0.mk (HS.out.1)
            have IW := Aside0.mk (HS.out.2)
            have K1 : Aside0 (Bk wr g1 25 #[.string a0, .slice (some ad2) l1.length c1, .slice A2 l2.length c2, .string a3]) := Aside0.mk (HS.out.1.s.b1)
            have K4 : Aside0 (Bk wr g4 44 #[.map (some b21)]) := Aside0.mk (HS.out.1.s.b4)
            clear HS
            have zK1_0 : wr.cell? ⟨g1, 0, none⟩ = some (.string a0) := (blk_cell K1.out.blk 0).trans rfl
            have zK1_1 : wr.cell? ⟨g1, 1, none⟩ = some (.slice (some ad2) l1.length c1) := (blk_cell K1.out.blk 1).trans rfl
            have zK1_2 : wr.cell? ⟨g1, 2, none⟩ = some (.slice A2 l2.length c2) := (blk_cell K1.out.blk 2).trans rfl
            have zK1_3 : wr.cell? ⟨g1, 3, none⟩ = some (.string a3) := (blk_cell K1.out.blk 3).trans rfl
            have zK4_0 : wr.cell? ⟨g4, 0, none⟩ = some (.map (some b21)) := (blk_cell K4.out.blk 0).trans rfl
            cases hf : sp.1 l1[m].f2 with
            | some v1 =>
              have SE : Aside0 (stepB (d + 1) sp l1[m].f2 = sp) := ⟨if_pos (by rw [hf]; rfl)⟩
              have V1 : Aside0 ((sp.1 l1[m].f2).getD 0 = v1 ∧ (sp.1 l1[m].f2).isSome = true) := ⟨by rw [hf]; exact ⟨rfl, rfl⟩⟩
              clear hf
              go_wp2_with (refine Mp.getI2_ev rfl rfl (s := l1[m].f2) (v := v1) (ok := true) rfl rfl C2m.out (SX.out.s.m.below (by repeat (first | (with_reducible first | exact Below.refl _ _ | apply below_alloc | apply pw_below_drewN | apply below_drew1) | exact Below.refl _ _))) V1.out.1 V1.out.2 ?_)
              go_roundg k1
              case measure => omega
              case rel => exact ⟨i + 1, n3, by go_num, ⟨by have := hi.out; omega⟩, ⟨by rw [ST.out, FS.out, List.foldl_cons, List.foldl_nil, SE.out]; exact HN.out⟩, ⟨by rw [ST.out, FS.out, List.foldl_cons, List.foldl_nil, SE.out]; exact ⟨SX.out, IW.out⟩⟩⟩
            | none =>
              have SE : Aside0 (stepB (d + 1) sp l1[m].f2 = (fun y => if y = l1[m].f2 then some ((d + 1 : Nat) : Int) else sp.1 y, sp.2 ++ [l1[m].f2])) := ⟨if_neg (by rw [hf]; simp)⟩
              have V1 : Aside0 ((sp.1 l1[m].f2).getD 0 = 0 ∧ (sp.1 l1[m].f2).isSome = false) := ⟨by rw [hf]; exact ⟨rfl, rfl⟩⟩
              have D9 : d ≤ 2002 := D1.out
              have NM : Aside0 (n3 < maxLen) := ⟨by have := HN.out; have := FL.out; have := NL.out; unfold maxLen; omega⟩
              have XL : Aside0 (sp.2.length ≤ 2002) := ⟨by have := FL.out; have := NL.out; omega⟩
              clear hf
              go_wp2_with (first | (refine Mp.getI2_ev rfl rfl (s := l1[m].f2) (v := 0) (ok := false) rfl rfl C2m.out (SX.out.s.m.below (by repeat (first | (with_reducible first | exact Below.refl _ _ | apply below_alloc | apply pw_below_drewN | apply below_drew1) | exact Below.refl _ _))) V1.out.1 V1.out.2 ?_) | (refine Mp.putI_ev rfl (.inl rfl) (s := l1[m].f2) (v := ((d + 1 : Nat) : Int)) rfl rfl rfl (WalkArith.wf_i64 (by omega)) C2m.out NM.out (SX.out.s.m.below (by repeat (first | (with_reducible first | exact Below.refl _ _ | apply below_alloc | apply pw_below_drewN | apply below_drew1) | exact Below.refl _ _))) ?_; intro wp hM_ hg_; have SX2 := Aside0.mk ((SX.out.below (by repeat (first | (with_reducible first | exact Below.refl _ _ | apply below_alloc | apply pw_below_drewN | apply below_drew1) | exact Below.refl _ _))).put hM_ hg_); have IW2 := Aside0.mk ((IW.out.below (by repeat (first | (with_reducible first | exact Below.refl _ _ | apply below_alloc | apply pw_below_drewN | apply below_drew1) | exact Below.refl _ _))).mputI (SX.out.s.m.below (by repeat (first | (with_reducible first | exact Below.refl _ _ | apply below_alloc | apply pw_below_drewN | apply below_drew1) | exact Below.refl _ _))) hg_); clear hM_ hg_ SX IW K1 K4 HB x3 y3 zK1_0 zK1_1 zK1_2 zK1_3 zK4_0; skip; have HB := Aside0.mk (Below.refl wp.heap.size wp)) | ((with_reducible refine gate_dst (N := 59) rfl ?_); refine Evt.slice_event ?hg (N := 59) ?hd (cs := #[.string l1[m].f2]) (t := 9) (n := 1) ?hr ?_; (case hd => rfl); (case hg => rfl); (case hr => first | (go_simp; done) | (go_simp; rfl)); intro g59 hg w1 hbox hb; have hbx : Below wp.heap.size wp w1 := below_step (by repeat (first | (with_reducible first | exact Below.refl _ _ | apply below_alloc | apply pw_below_drewN | apply below_drew1) | exact Below.refl _ _)) hb; have n_SX2 := Aside0.mk (SX2.out.below hbx); have n_IW2 := Aside0.mk (IW2.out.below hbx); have n_HB := Aside0.mk (below_step HB.out hbx); clear HB SX2 IW2; have SX2 := n_SX2; have IW2 := n_IW2; have HB := n_HB; clear hbx n_SX2 n_IW2 n_HB; have BK59 := Aside0.mk (Bk.mk (hbox : Blk w1 g59 9 #[.string l1[m].f2])); clear hbox hg hb; have zBK59_0 : w1.cell? ⟨g59, 0, none⟩ = some (.string l1[m].f2) := (blk_cell BK59.out.blk 0).trans rfl) | ((with_reducible refine gate_dst (N := 60) rfl ?_); at_builtin; refine Evt.ro_app Value.string (fun _ => rfl) ByteArray.empty rfl (.tmp 57) (.tmp 59) 29 9 (.string ⟨#[]⟩) 16 rfl Try.underlying29 info9 rfl (by decide) u7 sp.2 l1[m].f2 g59 rfl rfl SX2.out.x BK59.out SX2.out.s.bel (by have := XL.out; omega) ?_; intro v60 wa_ ho hb hg hat; have SX3 := Aside0.mk (SX2.out.app ho hg hat); have IW3 := Aside0.mk (IW2.out.other hg (rows_two SX2.out.x IW2.out)); clear ho hb hg hat SX2 IW2 HB BK59 zBK59_0))
              go_roundg k1
              case measure => omega
              case rel =>
                refine ⟨i + 1, n3 + 1, by go_num, ⟨by have := hi.out; omega⟩, ⟨?_⟩, ⟨?_, ?_⟩⟩
                · rw [ST.out, FS.out, List.foldl_cons, List.foldl_nil, SE.out]; have := HN.out; simp only [List.length_append, List.length_singleton]; omega
                · rw [ST.out, FS.out, List.foldl_cons, List.foldl_nil, SE.out]; exact SX3.out
                · exact IW3.out
end
end Go.Proofs.Ytmacdknicgfglaa.Gw
