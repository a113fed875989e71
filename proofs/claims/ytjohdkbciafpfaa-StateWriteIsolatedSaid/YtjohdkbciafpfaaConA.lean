/- Chapter 03: the contracts of the package, said in plain Lean. -/
import Derived.Test.YtjohdkbciafpfaaAlive03
import Derived.Test.YtjohdkbciafpfaaPim3
import Derived.Test.YtjohdkbciafpfaaImpl1
import Derived.Test.YtjohdkbciafpfaaImpl2
import Derived.Test.YtjohdkbciafpfaaImpl4
import Derived.Test.YtjohdkbciafpfaaImpl6
namespace Go.Proofs.Ytjohdkbciafpfaa.St03
open Go.RowKit Go.Proofs.YtjohdkbciafpfaaW.PrintWords Go.Proofs.YtjohdkbciafpfaaW.PrintMore Go.Proofs.YtjohdkbciafpfaaW.PrintLast Go.Proofs.Ytjohdkbciafpfaa.Chg Go.Proofs.Ytjohdkbciafpfaa.Evt Go.Proofs.Ytjohdkbciafpfaa.Impl Go.Proofs.Ytjohdkbciafpfaa.Pimg
set_option linter.unusedVariables false
set_option linter.unusedSimpArgs false
def szv (i q m e : Int) : Int := if (0 ≤ i ∧ i ≤ 256) ∧ (0 ≤ q ∧ q ≤ 256) ∧ (0 ≤ m ∧ m ≤ 256) ∧ 0 ≤ e ∧ e ≤ 16384 then 0 else 3
theorem chk (i q m e : Int) : addr_CheckSize.f i q m e = some (szv i q m e) := by
  have hw : ∀ a b : Int, addr_within.f a b = some (decide (0 ≤ a ∧ a ≤ b)) := by
    intro a b
    unfold addr_within.f
    by_cases h : a ≥ 0
    · rw [if_pos h]; congr 1; by_cases h2 : a ≤ b <;> simp [h2] <;> omega
    · rw [if_neg h]; congr 1; symm; simp; omega
  unfold addr_CheckSize.f
  simp only [hw, Option.bind_some]
  unfold szv
  by_cases h1 : 0 ≤ e ∧ e ≤ 16384 <;> by_cases h2 : 0 ≤ i ∧ i ≤ 256 <;> by_cases h3 : 0 ≤ q ∧ q ≤ 256 <;> by_cases h4 : 0 ≤ m ∧ m ≤ 256 <;> simp [h1, h2, h3, h4]
def nwv (z q : Int) : List Bool := if z = 0 then List.replicate q.toNat false else []
theorem szv0 {i q m e : Int} (h : szv i q m e = 0) : (0 ≤ i ∧ i ≤ 256) ∧ (0 ≤ q ∧ q ≤ 256) ∧ (0 ≤ m ∧ m ≤ 256) ∧ 0 ≤ e ∧ e ≤ 16384 := by
  unfold szv at h
  by_cases hc : (0 ≤ i ∧ i ≤ 256) ∧ (0 ≤ q ∧ q ≤ 256) ∧ (0 ≤ m ∧ m ≤ 256) ∧ 0 ≤ e ∧ e ≤ 16384
  · exact hc
  · rw [if_neg hc] at h; omega
theorem nwv_len {z q : Int} (h : z = 0 → q ≤ 20000) : (nwv z q).length ≤ 20000 := by
  unfold nwv
  by_cases hz : z = 0
  · rw [if_pos hz, List.length_replicate]; have := h hz; omega
  · rw [if_neg hz]; simp
theorem newP (i q m e : Int) : state_New.f i q m e = some (nwv (szv i q m e) q, nwv (szv i q m e) m, nwv (szv i q m e) e, szv i q m e) := by
  unfold state_New.f
  rw [chk, Option.bind_some]
  by_cases hz : szv i q m e = 0
  · have := szv0 hz
    rw [if_pos hz, if_pos (by omega), if_pos (by omega), if_pos (by omega), if_pos (by omega), if_pos (by omega), if_pos (by omega), hz]
    simp [nwv]
  · rw [if_neg hz]; simp [nwv, hz]
theorem cloneP (l0 l1 l2 : List Bool) (h0 : l0.length ≤ 20000) (h1 : l1.length ≤ 20000) (h2 : l2.length ≤ 20000) : state_Clone.f l0 l1 l2 = some (l0, l1, l2) := by
  unfold state_Clone.f slices_Clone_bool_bool.f
  rw [if_pos (by omega), if_pos (by omega), if_pos (by omega)]
  rfl
def ftv (i q m e : Int) (n0 n1 n2 : Nat) : Bool := decide ((n0 : Int) = q) && (decide ((n1 : Int) = m) && (decide ((n2 : Int) = e) && szv i q m e == 0))
def eqv (l0 l1 l2 m0 m1 m2 : List Bool) : Bool := decide (l0 = m0) && decide (l1 = m1) && decide (l2 = m2)
def fm3 (l0 l1 l2 : List Bool) : ByteArray := fmtB l0 ++ ⟨#[32]⟩ ++ fmtB l1 ++ ⟨#[32]⟩ ++ fmtB l2
theorem fmtB_size (l : List Bool) (h : l.length ≤ 20000) : (fmtB l).size ≤ 20001 := by
  show (fmtL l).toArray.size ≤ _
  rw [List.size_toArray]
  unfold fmtL
  by_cases hl : l = []
  · rw [if_pos hl]; simp
  · rw [if_neg hl, chs_length]; omega
def rdv (l l0 l1 : List Bool) (s n : Int) : Bool × Int :=
  if s = 0 then (if 0 ≤ n ∧ n < l.length then (rdOf false l n, 0) else (false, 3)) else if s = 1 then (if 0 ≤ n ∧ n < l0.length then (rdOf false l0 n, 0) else (false, 3)) else if s = 2 then (if 0 ≤ n ∧ n < l1.length then (rdOf false l1 n, 0) else (false, 3)) else (false, 8)
theorem getP (l : List Bool) (n : Int) : image_Get.f l n = some (if 0 ≤ n ∧ n < l.length then (rdOf false l n, 0) else (false, 3)) := by
  by_cases h : 0 ≤ n ∧ n < l.length
  · obtain ⟨j, rfl⟩ : ∃ j : Nat, n = j := ⟨n.toNat, by omega⟩
    rw [if_pos h, get_in l j (by omega), rdOf_lt _ _ _ (by omega)]
  · rw [if_neg h, get_out l n (by omega)]
def wrv (l0 l1 l2 : List Bool) (s n : Int) (v : Bool) : List Bool × List Bool × List Bool × Int :=
  if s = 1 then (if 0 ≤ n ∧ n < l0.length then (l0.set n.toNat v, l1, l2, 0) else ([], [], [], 3)) else if s = 2 then (if 0 ≤ n ∧ n < l1.length then (l0, l1.set n.toNat v, l2, 0) else ([], [], [], 3)) else ([], [], [], 8)
theorem setP (l : List Bool) (n : Int) (v : Bool) (h : l.length ≤ 20000) : image_Set.f l n v = some (if 0 ≤ n ∧ n < l.length then (l.set n.toNat v, 0) else ([], 3)) := by
  by_cases hc : 0 ≤ n ∧ n < l.length
  · obtain ⟨j, rfl⟩ : ∃ j : Nat, n = j := ⟨n.toNat, by omega⟩
    rw [if_pos hc, set_in l j v (by omega) (by omega), Int.toNat_natCast]
  · rw [if_neg hc, set_out l n v (by omega)]
theorem writeP (l0 l1 l2 : List Bool) (s n : Int) (v : Bool) (h0 : l0.length ≤ 20000) (h1 : l1.length ≤ 20000) (h2 : l2.length ≤ 20000) : state_Write.f l0 l1 l2 s n v = some (wrv l0 l1 l2 s n v) := by
  unfold state_Write.f wrv
  rw [cloneP l0 l1 l2 h0 h1 h2, Option.bind_some, setP l0 n v h0, setP l1 n v h1, Option.bind_some, Option.bind_some]
  by_cases c1 : s = 1
  · rw [if_pos c1, if_pos c1]
    by_cases c : 0 ≤ n ∧ n < l0.length
    · rw [if_pos c, if_pos c]; rfl
    · rw [if_neg c, if_neg c]; rfl
  · rw [if_neg c1, if_neg c1]
    by_cases c2 : s = 2
    · rw [if_pos c2, if_pos c2]
      by_cases c : 0 ≤ n ∧ n < l1.length
      · rw [if_pos c, if_pos c]; rfl
      · rw [if_neg c, if_neg c]; rfl
    · rw [if_neg c2, if_neg c2]; rfl
def big (x : S24) : Prop := x.f0.length > 1000 ∨ x.f1.length > 1000 ∨ x.f2.length > 1000
theorem tl1 (x : S24) : (busbarlaw03_TooLarge.f 2 [x] = some 1) ∨ (busbarlaw03_TooLarge.f 2 [x] = some 0 ∧ x.f0.length ≤ 1000 ∧ x.f1.length ≤ 1000 ∧ x.f2.length ≤ 1000) := by
  have e0 : rd_T24 [x] 0 = x := rfl
  have hw : wrap64 (0 + 1) = 1 := by simp [wrap64]
  by_cases h0 : x.f0.length ≤ 1000 <;> by_cases h1 : x.f1.length ≤ 1000 <;> by_cases h2 : x.f2.length ≤ 1000
  all_goals first
    | (right; refine ⟨?_, h0, h1, h2⟩; unfold busbarlaw03_TooLarge.f; simp only [busbarlaw03_TooLarge.l0, e0]; rw [if_pos (by simp), if_pos (by decide), if_pos (by simp), if_neg (by omega), if_neg (by omega), if_neg (by omega), hw, if_neg (by simp)])
    | (left; unfold busbarlaw03_TooLarge.f; simp only [busbarlaw03_TooLarge.l0, e0]; rw [if_pos (by simp), if_pos (by decide), if_pos (by simp)]; repeat (first | (rw [if_pos (by omega)]; done) | rw [if_neg (by omega)]))
theorem tl2 (x y : S24) : (busbarlaw03_TooLarge.f 3 [x, y] = some 1) ∨ (busbarlaw03_TooLarge.f 3 [x, y] = some 0 ∧ (x.f0.length ≤ 1000 ∧ x.f1.length ≤ 1000 ∧ x.f2.length ≤ 1000) ∧ y.f0.length ≤ 1000 ∧ y.f1.length ≤ 1000 ∧ y.f2.length ≤ 1000) := by
  have e0 : rd_T24 [x, y] 0 = x := rfl
  have e1 : rd_T24 [x, y] 1 = y := rfl
  have hw : wrap64 (0 + 1) = 1 := by simp [wrap64]
  have hw2 : wrap64 (1 + 1) = 2 := by simp [wrap64]
  by_cases hx : x.f0.length ≤ 1000 ∧ x.f1.length ≤ 1000 ∧ x.f2.length ≤ 1000
  · by_cases hy : y.f0.length ≤ 1000 ∧ y.f1.length ≤ 1000 ∧ y.f2.length ≤ 1000
    · right
      refine ⟨?_, hx, hy⟩
      unfold busbarlaw03_TooLarge.f
      simp only [busbarlaw03_TooLarge.l0, e0, hw, e1, hw2]
      rw [if_pos (by simp), if_pos (by decide), if_pos (by simp), if_neg (by omega), if_neg (by omega), if_neg (by omega), if_pos (by simp), if_pos (by decide), if_pos (by simp), if_neg (by omega), if_neg (by omega), if_neg (by omega), if_neg (by simp)]
    · left
      unfold busbarlaw03_TooLarge.f
      simp only [busbarlaw03_TooLarge.l0, e0, hw, e1, hw2]
      rw [if_pos (by simp), if_pos (by decide), if_pos (by simp), if_neg (by omega), if_neg (by omega), if_neg (by omega), if_pos (by simp), if_pos (by decide), if_pos (by simp)]
      by_cases a : (y.f0.length : Int) > 1000
      · rw [if_pos a]
      · rw [if_neg a]
        by_cases b : (y.f1.length : Int) > 1000
        · rw [if_pos b]
        · rw [if_neg b, if_pos (by omega)]
  · left
    unfold busbarlaw03_TooLarge.f
    simp only [busbarlaw03_TooLarge.l0, e0, hw, e1, hw2]
    rw [if_pos (by simp), if_pos (by decide), if_pos (by simp)]
    by_cases a : (x.f0.length : Int) > 1000
    · rw [if_pos a]
    · rw [if_neg a]
      by_cases b : (x.f1.length : Int) > 1000
      · rw [if_pos b]
      · rw [if_neg b, if_pos (by omega)]
/-- Three rows, none very long, at hand in w. -/
structure Sb (w : World) (A0 : Option Addr) (c0 : Nat) (A1 : Option Addr) (c1 : Nat) (A2 : Option Addr) (c2 : Nat) (l0 l1 l2 : List Bool) : Prop where
  sr : Sr Kd.bool w A0 c0 A1 c1 A2 c2 l0 l1 l2
  b0 : l0.length ≤ 20000
  b1 : l1.length ≤ 20000
  b2 : l2.length ≤ 20000
section
variable {A A0 A1 A2 B0 B1 B2 : Option Addr} {c c0 c1 c2 d0 d1 d2 : Nat} {l l0 l1 l2 m0 m1 m2 : List Bool} {w w' : World}
theorem Sb.below (h : Sb w A0 c0 A1 c1 A2 c2 l0 l1 l2) (hb : Below w.heap.size w w') : Sb w' A0 c0 A1 c1 A2 c2 l0 l1 l2 := ⟨h.sr.below hb, h.b0, h.b1, h.b2⟩
theorem equalC (h : Sb w A0 c0 A1 c1 A2 c2 l0 l1 l2) (h' : Sb w B0 d0 B1 d1 B2 d2 m0 m1 m2) :
    Calls Try.prog 29 #[.agg #[.slice A0 l0.length c0, .slice A1 l1.length c1, .slice A2 l2.length c2], .agg #[.slice B0 m0.length d0, .slice B1 m1.length d1, .slice B2 m2.length d2]] w fun e w' => e = .returned (.bool (eqv l0 l1 l2 m0 m1 m2)) ∧ Below w.heap.size w w' := by
  obtain ⟨k0, e0⟩ := equal_ev l0 m0 (by have := h.b0; omega)
  obtain ⟨k1, e1⟩ := equal_ev l1 m1 (by have := h.b1; omega)
  obtain ⟨k2, e2⟩ := equal_ev l2 m2 (by have := h.b2; omega)
  exact equal_any (k0 + k1 + k2) _ _ _ w h.sr h'.sr (e0 _ (by omega)) (e1 _ (by omega)) (e2 _ (by omega))
theorem formatC (h : Sb w A0 c0 A1 c1 A2 c2 l0 l1 l2) :
    Calls Try.prog 30 #[.agg #[.slice A0 l0.length c0, .slice A1 l1.length c1, .slice A2 l2.length c2]] w fun e w' => e = .returned (.string (fm3 l0 l1 l2)) ∧ Below w.heap.size w w' := by
  obtain ⟨k0, e0⟩ := format_ev l0 (by have := h.b0; omega)
  obtain ⟨k1, e1⟩ := format_ev l1 (by have := h.b1; omega)
  obtain ⟨k2, e2⟩ := format_ev l2 (by have := h.b2; omega)
  exact format_any (k0 + k1 + k2) _ _ _ w h.sr (e0 _ (by omega)) (e1 _ (by omega)) (e2 _ (by omega)) (by have := fmtB_size l0 h.b0; have := fmtB_size l1 h.b1; have := fmtB_size l2 h.b2; omega)
theorem fitsC (i q m e : Int) (h : Sb w A0 c0 A1 c1 A2 c2 l0 l1 l2) :
    Calls Try.prog 26 #[.agg #[.int .i64 i, .int .i64 q, .int .i64 m, .int .i64 e], .agg #[.slice A0 l0.length c0, .slice A1 l1.length c1, .slice A2 l2.length c2]] w fun x w' => x = .returned (.bool (ftv i q m e l0.length l1.length l2.length)) ∧ Below w.heap.size w w' :=
  fits_any i q m e _ w _ _ _ (chk i q m e) _ rfl
theorem readC (s n : Int) (h : Rw Kd.bool w A c l) (h' : Sb w A0 c0 A1 c1 A2 c2 l0 l1 l2) :
    Calls Try.prog 18 #[.slice A l.length c, .agg #[.slice A0 l0.length c0, .slice A1 l1.length c1, .slice A2 l2.length c2], .agg #[.int .i64 s, .int .i64 n]] w fun x w' => x = .returned (.tuple #[.bool (rdv l l0 l1 s n).1, .int .i64 (rdv l l0 l1 s n).2]) ∧ Below w.heap.size w w' := by
  refine read_any s n w h h'.sr _ _ ?_ ?_ ?_ ?_
  · rintro rfl; rw [getP]; rfl
  · rintro rfl; rw [getP]; rfl
  · rintro rfl; rw [getP]; rfl
  · intro hs
    unfold rdv
    rw [if_neg (by omega), if_neg (by omega), if_neg (by omega)]
    exact ⟨rfl, rfl⟩
/-- Three rows of one's own, apart. -/
structure Own3 (w : World) (base : Nat) (v0 v1 v2 : Value) (l0 l1 l2 : List Bool) : Prop where
  q0 : Kd.R Kd.bool 4 w base (fun k_ => some k_ ≠ v1.ownBlock ∧ some k_ ≠ v2.ownBlock) v0 l0
  q1 : Kd.R Kd.bool 4 w base (fun k_ => some k_ ≠ v0.ownBlock ∧ some k_ ≠ v2.ownBlock) v1 l1
  q2 : Kd.R Kd.bool 4 w base (fun k_ => some k_ ≠ v0.ownBlock ∧ some k_ ≠ v1.ownBlock) v2 l2
theorem Own3.form {base : Nat} {v0 v1 v2 : Value} (h : Own3 w base v0 v1 v2 l0 l1 l2) : ∃ X0 x0 X1 x1 X2 x2, v0 = .slice X0 l0.length x0 ∧ v1 = .slice X1 l1.length x1 ∧ v2 = .slice X2 l2.length x2 := by
  obtain ⟨X0, x0, h0⟩ := Kd.R_slice h.q0
  obtain ⟨X1, x1, h1⟩ := Kd.R_slice h.q1
  obtain ⟨X2, x2, h2⟩ := Kd.R_slice h.q2
  exact ⟨X0, x0, X1, x1, X2, x2, h0, h1, h2⟩
theorem Own3.sr {base : Nat} {X0 X1 X2 : Option Addr} {x0 x1 x2 : Nat} (h : Own3 w base (.slice X0 l0.length x0) (.slice X1 l1.length x1) (.slice X2 l2.length x2) l0 l1 l2) : Sr Kd.bool w X0 x0 X1 x1 X2 x2 l0 l1 l2 := ⟨Rw.of_R h.q0, Rw.of_R h.q1, Rw.of_R h.q2⟩
/-- What makes a state answers: the three rows, and an error's number. -/
abbrev Gives (w : World) (x : Ending) (w' : World) (l0 l1 l2 : List Bool) (e : Int) : Prop := ∃ X0 x0 X1 x1 X2 x2, x = .returned (.tuple #[.agg #[.slice X0 l0.length x0, .slice X1 l1.length x1, .slice X2 l2.length x2], .int .i64 e]) ∧ Own3 w' w.heap.size (.slice X0 l0.length x0) (.slice X1 l1.length x1) (.slice X2 l2.length x2) l0 l1 l2 ∧ Below w.heap.size w w'
abbrev Gives1 (w : World) (x : Ending) (w' : World) (l0 l1 l2 : List Bool) : Prop := ∃ X0 x0 X1 x1 X2 x2, x = .returned (.agg #[.slice X0 l0.length x0, .slice X1 l1.length x1, .slice X2 l2.length x2]) ∧ Own3 w' w.heap.size (.slice X0 l0.length x0) (.slice X1 l1.length x1) (.slice X2 l2.length x2) l0 l1 l2 ∧ Below w.heap.size w w'
theorem newC (i q m e : Int) : Calls Try.prog 25 #[.agg #[.int .i64 i, .int .i64 q, .int .i64 m, .int .i64 e]] w fun x w' => Gives w x w' (nwv (szv i q m e) q) (nwv (szv i q m e) m) (nwv (szv i q m e) e) (szv i q m e) :=
  (state_New.calls i q m e _ _ _ _ w (newP i q m e)).mono fun x w' ⟨v0, v1, v2, hx, q0, q1, q2, hb⟩ => by
    have ho : Own3 w' w.heap.size v0 v1 v2 _ _ _ := ⟨q0, q1, q2⟩
    obtain ⟨X0, x0, X1, x1, X2, x2, rfl, rfl, rfl⟩ := ho.form
    exact ⟨_, _, _, _, _, _, hx, ho, hb⟩
theorem cloneC (h : Sb w A0 c0 A1 c1 A2 c2 l0 l1 l2) : Calls Try.prog 24 #[.agg #[.slice A0 l0.length c0, .slice A1 l1.length c1, .slice A2 l2.length c2]] w fun x w' => Gives1 w x w' l0 l1 l2 :=
  (state_Clone.calls _ _ l0 _ _ l1 _ _ l2 _ _ _ w h.sr.r0.row h.sr.r0.cap h.sr.r1.row h.sr.r1.cap h.sr.r2.row h.sr.r2.cap (cloneP l0 l1 l2 h.b0 h.b1 h.b2)).mono fun x w' ⟨v0, v1, v2, hx, q0, q1, q2, hb⟩ => by
    have ho : Own3 w' w.heap.size v0 v1 v2 _ _ _ := ⟨q0, q1, q2⟩
    obtain ⟨X0, x0, X1, x1, X2, x2, rfl, rfl, rfl⟩ := ho.form
    exact ⟨_, _, _, _, _, _, hx, ho, hb⟩
theorem writeC (s n : Int) (v : Bool) (h : Sb w A0 c0 A1 c1 A2 c2 l0 l1 l2) {r0 r1 r2 : List Bool} {e : Int} (hr : wrv l0 l1 l2 s n v = (r0, r1, r2, e)) : Calls Try.prog 20 #[.agg #[.slice A0 l0.length c0, .slice A1 l1.length c1, .slice A2 l2.length c2], .agg #[.int .i64 s, .int .i64 n], .bool v] w fun x w' => Gives w x w' r0 r1 r2 e :=
  (state_Write.calls _ _ l0 _ _ l1 _ _ l2 s n v r0 r1 r2 e w h.sr.r0.row h.sr.r0.cap h.sr.r1.row h.sr.r1.cap h.sr.r2.row h.sr.r2.cap (by rw [writeP l0 l1 l2 s n v h.b0 h.b1 h.b2, hr])).mono fun x w' ⟨v0, v1, v2, hx, q0, q1, q2, hb⟩ => by
    have ho : Own3 w' w.heap.size v0 v1 v2 _ _ _ := ⟨q0, q1, q2⟩
    obtain ⟨X0, x0, X1, x1, X2, x2, rfl, rfl, rfl⟩ := ho.form
    exact ⟨_, _, _, _, _, _, hx, ho, hb⟩
/-! ### A list of states, made for a call -/
theorem cells_at {g : Nat} {T : TypeId} {cs : Array Value} (h : Blk w g T cs) (i : Nat) {v : Value} (hv : cs[i]? = some v) (o : Nat) (ho : o = i) : w.cell? ((⟨g, 0, none⟩ : Addr).add o) = some v := by
  subst ho
  have e : ((⟨g, 0, none⟩ : Addr).add o) = ⟨g, o, none⟩ := by unfold Addr.add; split <;> simp_all
  rw [e]
  exact h.cell o hv
theorem list1 {g : Nat} (hb : Blk w g 24 #[.slice A0 l0.length c0, .slice A1 l1.length c1, .slice A2 l2.length c2]) (h : Sr Kd.bool w A0 c0 A1 c1 A2 c2 l0 l1 l2) : Kd.C k24 w (some ⟨g, 0, none⟩) 1 [⟨l0, l1, l2⟩] := by
  refine ⟨rfl, by decide, fun _ => ⟨_, rfl, fun j x hj => ?_⟩⟩
  match j, hj with
  | 0, hj =>
    obtain rfl : (⟨l0, l1, l2⟩ : S24) = x := by simpa using hj
    refine ⟨_, rfl, k24_mk w ⟨l0, l1, l2⟩ h.r0.cap h.r0.row h.r1.cap h.r1.row h.r2.cap h.r2.row, fun i u hu => ?_⟩
    exact cells_at hb i (by simpa using hu) _ (by simp)
theorem list2 {g : Nat} (hb : Blk w g 24 #[.slice A0 l0.length c0, .slice A1 l1.length c1, .slice A2 l2.length c2, .slice B0 m0.length d0, .slice B1 m1.length d1, .slice B2 m2.length d2]) (h : Sr Kd.bool w A0 c0 A1 c1 A2 c2 l0 l1 l2) (h' : Sr Kd.bool w B0 d0 B1 d1 B2 d2 m0 m1 m2) : Kd.C k24 w (some ⟨g, 0, none⟩) 2 [⟨l0, l1, l2⟩, ⟨m0, m1, m2⟩] := by
  refine ⟨rfl, by decide, fun _ => ⟨_, rfl, fun j x hj => ?_⟩⟩
  match j, hj with
  | 0, hj =>
    obtain rfl : (⟨l0, l1, l2⟩ : S24) = x := by simpa using hj
    refine ⟨_, rfl, k24_mk w ⟨l0, l1, l2⟩ h.r0.cap h.r0.row h.r1.cap h.r1.row h.r2.cap h.r2.row, fun i u hu => ?_⟩
    match i, hu with
    | 0, hu => exact cells_at hb 0 (by simpa using hu) _ (by simp)
    | 1, hu => exact cells_at hb 1 (by simpa using hu) _ (by simp)
    | 2, hu => exact cells_at hb 2 (by simpa using hu) _ (by simp)
  | 1, hj =>
    obtain rfl : (⟨m0, m1, m2⟩ : S24) = x := by simpa using hj
    refine ⟨_, rfl, k24_mk w ⟨m0, m1, m2⟩ h'.r0.cap h'.r0.row h'.r1.cap h'.r1.row h'.r2.cap h'.r2.row, fun i u hu => ?_⟩
    match i, hu with
    | 0, hu => exact cells_at hb 3 (by simpa using hu) _ rfl
    | 1, hu => exact cells_at hb 4 (by simpa using hu) _ rfl
    | 2, hu => exact cells_at hb 5 (by simpa using hu) _ rfl
theorem tooLarge1 {g : Nat} {r : Int} (hb : Blk w g 24 #[.slice A0 l0.length c0, .slice A1 l1.length c1, .slice A2 l2.length c2]) (h : Sr Kd.bool w A0 c0 A1 c1 A2 c2 l0 l1 l2) (hr : busbarlaw03_TooLarge.f 2 [⟨l0, l1, l2⟩] = some r) :
    Calls Try.prog 16 #[.slice (some ⟨g, 0, none⟩) 1 1] w fun e w' => e = .returned (.int .i64 r) ∧ Below w.heap.size w w' :=
  busbarlaw03_TooLarge.calls 2 _ 1 [⟨l0, l1, l2⟩] r w (list1 hb h) (by simp) hr
theorem tooLarge2 {g : Nat} {r : Int} (hb : Blk w g 24 #[.slice A0 l0.length c0, .slice A1 l1.length c1, .slice A2 l2.length c2, .slice B0 m0.length d0, .slice B1 m1.length d1, .slice B2 m2.length d2]) (h : Sr Kd.bool w A0 c0 A1 c1 A2 c2 l0 l1 l2) (h' : Sr Kd.bool w B0 d0 B1 d1 B2 d2 m0 m1 m2) (hr : busbarlaw03_TooLarge.f 3 [⟨l0, l1, l2⟩, ⟨m0, m1, m2⟩] = some r) :
    Calls Try.prog 16 #[.slice (some ⟨g, 0, none⟩) 2 2] w fun e w' => e = .returned (.int .i64 r) ∧ Below w.heap.size w w' :=
  busbarlaw03_TooLarge.calls 3 _ 2 [⟨l0, l1, l2⟩, ⟨m0, m1, m2⟩] r w (list2 hb h h') (by simp) hr
theorem equalC' {r : Bool} (hr : eqv l0 l1 l2 m0 m1 m2 = r) (h : Sb w A0 c0 A1 c1 A2 c2 l0 l1 l2) (h' : Sb w B0 d0 B1 d1 B2 d2 m0 m1 m2) : Calls Try.prog 29 #[.agg #[.slice A0 l0.length c0, .slice A1 l1.length c1, .slice A2 l2.length c2], .agg #[.slice B0 m0.length d0, .slice B1 m1.length d1, .slice B2 m2.length d2]] w fun e w' => e = .returned (.bool r) ∧ Below w.heap.size w w' := by subst hr; exact equalC h h'
theorem formatC' {t : ByteArray} (hr : fm3 l0 l1 l2 = t) (h : Sb w A0 c0 A1 c1 A2 c2 l0 l1 l2) : Calls Try.prog 30 #[.agg #[.slice A0 l0.length c0, .slice A1 l1.length c1, .slice A2 l2.length c2]] w fun e w' => e = .returned (.string t) ∧ Below w.heap.size w w' := by subst hr; exact formatC h
theorem fitsC' {i q m e : Int} {r : Bool} (hr : ftv i q m e l0.length l1.length l2.length = r) (h : Sb w A0 c0 A1 c1 A2 c2 l0 l1 l2) : Calls Try.prog 26 #[.agg #[.int .i64 i, .int .i64 q, .int .i64 m, .int .i64 e], .agg #[.slice A0 l0.length c0, .slice A1 l1.length c1, .slice A2 l2.length c2]] w fun x w' => x = .returned (.bool r) ∧ Below w.heap.size w w' := by subst hr; exact fitsC i q m e h
theorem eqv_self (l0 l1 l2 : List Bool) : eqv l0 l1 l2 l0 l1 l2 = true := by simp [eqv]
end
section
variable {A A0 A1 A2 : Option Addr} {c c0 c1 c2 : Nat} {l l0 l1 l2 r0 r1 r2 : List Bool} {w : World} {s n e : Int} {v : Bool}
theorem wl (hw : wrv l0 l1 l2 s n v = (r0, r1, r2, e)) (h : Sb w A0 c0 A1 c1 A2 c2 l0 l1 l2) : r0.length ≤ 20000 ∧ r1.length ≤ 20000 ∧ r2.length ≤ 20000 := by
  have b0 := h.b0
  have b1 := h.b1
  have b2 := h.b2
  unfold wrv at hw
  by_cases c1 : s = 1
  · rw [if_pos c1] at hw
    by_cases c : 0 ≤ n ∧ n < l0.length
    · rw [if_pos c] at hw; simp only [Prod.mk.injEq] at hw; obtain ⟨rfl, rfl, rfl, _⟩ := hw; simp; omega
    · rw [if_neg c] at hw; simp only [Prod.mk.injEq] at hw; obtain ⟨rfl, rfl, rfl, _⟩ := hw; simp
  · rw [if_neg c1] at hw
    by_cases c2 : s = 2
    · rw [if_pos c2] at hw
      by_cases c : 0 ≤ n ∧ n < l1.length
      · rw [if_pos c] at hw; simp only [Prod.mk.injEq] at hw; obtain ⟨rfl, rfl, rfl, _⟩ := hw; simp; omega
      · rw [if_neg c] at hw; simp only [Prod.mk.injEq] at hw; obtain ⟨rfl, rfl, rfl, _⟩ := hw; simp
    · rw [if_neg c2] at hw; simp only [Prod.mk.injEq] at hw; obtain ⟨rfl, rfl, rfl, _⟩ := hw; simp
end
end Go.Proofs.Ytjohdkbciafpfaa.St03
