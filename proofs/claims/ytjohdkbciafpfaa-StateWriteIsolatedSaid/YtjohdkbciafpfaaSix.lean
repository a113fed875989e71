/- Six rows of bits that one may overwrite: what stays while they are. And what Write turns. -/
import Derived.Test.YtjohdkbciafpfaaConA
namespace Go.Proofs.Ytjohdkbciafpfaa.St03
open Go.RowKit Go.Proofs.YtjohdkbciafpfaaW.PrintWords Go.Proofs.YtjohdkbciafpfaaW.PrintMore Go.Proofs.YtjohdkbciafpfaaW.PrintLast Go.Proofs.Ytjohdkbciafpfaa.Chg Go.Proofs.Ytjohdkbciafpfaa.Evt Go.Proofs.Ytjohdkbciafpfaa.Impl Go.Proofs.Ytjohdkbciafpfaa.Pimg
set_option linter.unusedVariables false
set_option linter.unusedSimpArgs false
/-- n bits, which one may write: a block from base on. -/
structure Bits (base : Nat) (w : World) (A : Option Addr) (n : Nat) : Prop where
  le : n ≤ 20000
  row : 0 < n → ∃ g cs, A = some ⟨g, 0, none⟩ ∧ base ≤ g ∧ w.heap[g]? = some (.cells cs 4 (0, 0)) ∧ ∀ j, j < n → ∃ b, cs[j]? = some (.bool b)
theorem Bits.of_R {base : Nat} {ok : Nat → Prop} {w : World} {A : Option Addr} {c : Nat} {l : List Bool} (h : Kd.R Kd.bool 4 w base ok (.slice A l.length c) l) (hl : l.length ≤ 20000) : Bits base w A l.length := by
  refine ⟨hl, fun hn => ?_⟩
  obtain ⟨g, cap, he, hb, _, cs, hc⟩ := Kd.R_form h hn
  injection he with he1 he2 he3
  subst he1
  refine ⟨g, cs, rfl, hb, hc, fun j hj => ?_⟩
  obtain ⟨_, hC⟩ := Rw.of_R h
  obtain ⟨ad, e, hcell⟩ := hC.2.2 hn
  injection e with e
  subst e
  obtain ⟨d, _, hK, hd⟩ := hcell j _ (List.getElem?_eq_getElem hj)
  have hK' : d = [.bool l[j]] := hK
  subst hK'
  have h1 := hd 0 _ rfl
  have e2 : j * Kd.bool.sz + 0 = j := by show j * 1 + 0 = j; omega
  rw [e2, add_plain, blk_cell hc] at h1
  exact ⟨_, h1⟩
section
variable {base n : Nat} {w w' : World} {A : Option Addr}
theorem Bits.below (h : Bits base w A n) (hb : Below w.heap.size w w') : Bits base w' A n := by
  refine ⟨h.le, fun hn => ?_⟩
  obtain ⟨g, cs, e, hg, hc, hj⟩ := h.row hn
  exact ⟨g, cs, e, hg, blk_below hc hb, hj⟩
theorem Bits.lower {base' : Nat} (h : Bits base w A n) (hb : base' ≤ base) : Bits base' w A n := by
  refine ⟨h.le, fun hn => ?_⟩
  obtain ⟨g, cs, e, hg, hc, hj⟩ := h.row hn
  exact ⟨g, cs, e, by omega, hc, hj⟩
theorem Bits.set (h : Bits base w A n) (g j : Nat) (b : Bool) : Bits base (w.setCell ⟨g, j, none⟩ (.bool b)) A n := by
  refine ⟨h.le, fun hn => ?_⟩
  obtain ⟨g', cs, e, hg, hc, hj⟩ := h.row hn
  by_cases hgg : g' = g
  · subst hgg
    refine ⟨g', _, e, hg, blk_set hc j _, fun i hi => ?_⟩
    obtain ⟨b', hb'⟩ := hj i hi
    by_cases hij : j = i
    · subst hij
      exact ⟨b, by rw [Array.getElem?_setIfInBounds_self_of_lt (Array.getElem?_eq_some_iff.1 hb').1]⟩
    · exact ⟨b', by rw [Array.getElem?_setIfInBounds_ne hij]; exact hb'⟩
  · exact ⟨g', cs, e, hg, blk_far hc hgg _, hj⟩
theorem Bits.at (h : Bits base w A n) {j : Nat} (hj : j < n) : ∃ g b, A = some ⟨g, 0, none⟩ ∧ base ≤ g ∧ w.cell? ⟨g, j, none⟩ = some (.bool b) ∧ w.frozen? ⟨g, j, none⟩ = false ∧ ∃ cs, w.heap[g]? = some (.cells cs 4 (0, 0)) := by
  obtain ⟨g, cs, e, hg, hc, hb⟩ := h.row (by omega)
  obtain ⟨b, hb⟩ := hb j hj
  exact ⟨g, b, e, hg, (blk_cell hc j).trans hb, blk_frozen hc j, cs, hc⟩
end
/-- Nothing of wb has turned; six rows of bits that lie behind it. -/
structure Six (wb w : World) (A0 : Option Addr) (n0 : Nat) (A1 : Option Addr) (n1 : Nat) (A2 : Option Addr) (n2 : Nat) (B0 : Option Addr) (m0 : Nat) (B1 : Option Addr) (m1 : Nat) (B2 : Option Addr) (m2 : Nat) : Prop where
  bw : Below wb.heap.size wb w
  a0 : Bits wb.heap.size w A0 n0
  a1 : Bits wb.heap.size w A1 n1
  a2 : Bits wb.heap.size w A2 n2
  b0 : Bits wb.heap.size w B0 m0
  b1 : Bits wb.heap.size w B1 m1
  b2 : Bits wb.heap.size w B2 m2
section
variable {wb w w' : World} {A0 A1 A2 B0 B1 B2 : Option Addr} {n0 n1 n2 m0 m1 m2 : Nat}
theorem Six.below (h : Six wb w A0 n0 A1 n1 A2 n2 B0 m0 B1 m1 B2 m2) (hb : Below w.heap.size w w') : Six wb w' A0 n0 A1 n1 A2 n2 B0 m0 B1 m1 B2 m2 :=
  ⟨below_step h.bw hb, h.a0.below hb, h.a1.below hb, h.a2.below hb, h.b0.below hb, h.b1.below hb, h.b2.below hb⟩
theorem Six.set (h : Six wb w A0 n0 A1 n1 A2 n2 B0 m0 B1 m1 B2 m2) {g : Nat} (hg : wb.heap.size ≤ g) (j : Nat) (b : Bool) : Six wb (w.setCell ⟨g, j, none⟩ (.bool b)) A0 n0 A1 n1 A2 n2 B0 m0 B1 m1 B2 m2 :=
  ⟨below_set h.bw hg, h.a0.set g j b, h.a1.set g j b, h.a2.set g j b, h.b0.set g j b, h.b1.set g j b, h.b2.set g j b⟩
/-- The row number k of the six. -/
theorem Six.pick (h : Six wb w A0 n0 A1 n1 A2 n2 B0 m0 B1 m1 B2 m2) {gl : Nat} {T : TypeId} {c0 c1 c2 d0 d1 d2 : Nat} (hl : Bk w gl T #[.slice A0 n0 c0, .slice A1 n1 c1, .slice A2 n2 c2, .slice B0 m0 d0, .slice B1 m1 d1, .slice B2 m2 d2]) {k : Nat} (hk : k < 6) :
    ∃ A n c, w.cell? ⟨gl, k, none⟩ = some (.slice A n c) ∧ Bits wb.heap.size w A n := by
  match k, hk with
  | 0, _ => exact ⟨_, _, _, hl.blk.cell 0 rfl, h.a0⟩
  | 1, _ => exact ⟨_, _, _, hl.blk.cell 1 rfl, h.a1⟩
  | 2, _ => exact ⟨_, _, _, hl.blk.cell 2 rfl, h.a2⟩
  | 3, _ => exact ⟨_, _, _, hl.blk.cell 3 rfl, h.b0⟩
  | 4, _ => exact ⟨_, _, _, hl.blk.cell 4 rfl, h.b1⟩
  | 5, _ => exact ⟨_, _, _, hl.blk.cell 5 rfl, h.b2⟩
end
/-- The one of the six, kept through an inner loop. -/
structure Sev (wb w : World) (A0 : Option Addr) (n0 : Nat) (A1 : Option Addr) (n1 : Nat) (A2 : Option Addr) (n2 : Nat) (B0 : Option Addr) (m0 : Nat) (B1 : Option Addr) (m1 : Nat) (B2 : Option Addr) (m2 : Nat) (gl : Nat) (T : TypeId) (cs : Array Value) (A : Option Addr) (n : Nat) : Prop where
  six : Six wb w A0 n0 A1 n1 A2 n2 B0 m0 B1 m1 B2 m2
  bk : Bk w gl T cs
  bits : Bits wb.heap.size w A n
theorem Sev.set {wb w : World} {A0 A1 A2 B0 B1 B2 A : Option Addr} {n0 n1 n2 m0 m1 m2 n gl : Nat} {T : TypeId} {cs : Array Value} (h : Sev wb w A0 n0 A1 n1 A2 n2 B0 m0 B1 m1 B2 m2 gl T cs A n) {g : Nat} (hg : wb.heap.size ≤ g) (hT : T ≠ 4) (hc : ∃ cs, w.heap[g]? = some (.cells cs 4 (0, 0))) (j : Nat) (b : Bool) : Sev wb (w.setCell ⟨g, j, none⟩ (.bool b)) A0 n0 A1 n1 A2 n2 B0 m0 B1 m1 B2 m2 gl T cs A n := by
  obtain ⟨cs', hc⟩ := hc
  exact ⟨h.six.set hg j b, ⟨h.bk.blk.far (blk_ne h.bk.blk hc hT) _⟩, h.bits.set g j b⟩
/-- Nothing of wb has turned. -/
structure Bw (wb w : World) : Prop where
  out : Below wb.heap.size wb w
theorem Bw.below {wb w w' : World} (h : Bw wb w) (hb : Below w.heap.size w w') : Bw wb w' := ⟨below_step h.out hb⟩
/-- Three rows of bits that lie behind wb. -/
structure B3 (wb w : World) (A0 : Option Addr) (n0 : Nat) (A1 : Option Addr) (n1 : Nat) (A2 : Option Addr) (n2 : Nat) : Prop where
  a0 : Bits wb.heap.size w A0 n0
  a1 : Bits wb.heap.size w A1 n1
  a2 : Bits wb.heap.size w A2 n2
theorem B3.below {wb w w' : World} {A0 A1 A2 : Option Addr} {n0 n1 n2 : Nat} (h : B3 wb w A0 n0 A1 n1 A2 n2) (hb : Below w.heap.size w w') : B3 wb w' A0 n0 A1 n1 A2 n2 := ⟨h.a0.below hb, h.a1.below hb, h.a2.below hb⟩
theorem B3.of_own {wb w : World} {base : Nat} {X0 X1 X2 : Option Addr} {x0 x1 x2 : Nat} {l0 l1 l2 : List Bool} (h : Own3 w base (.slice X0 l0.length x0) (.slice X1 l1.length x1) (.slice X2 l2.length x2) l0 l1 l2) (hb : wb.heap.size ≤ base) (h0 : l0.length ≤ 20000) (h1 : l1.length ≤ 20000) (h2 : l2.length ≤ 20000) : B3 wb w X0 l0.length X1 l1.length X2 l2.length :=
  ⟨(Bits.of_R h.q0 h0).lower hb, (Bits.of_R h.q1 h1).lower hb, (Bits.of_R h.q2 h2).lower hb⟩
theorem Six.of_b3 {wb w : World} {A0 A1 A2 B0 B1 B2 : Option Addr} {n0 n1 n2 m0 m1 m2 : Nat} (h : Bw wb w) (ha : B3 wb w A0 n0 A1 n1 A2 n2) (hb : B3 wb w B0 m0 B1 m1 B2 m2) : Six wb w A0 n0 A1 n1 A2 n2 B0 m0 B1 m1 B2 m2 := ⟨h.out, ha.a0, ha.a1, ha.a2, hb.a0, hb.a1, hb.a2⟩
/-- What is read behind a write. -/
theorem wr_iso {l l0 l1 l2 a0 a1 a2 : List Bool} {s0 n0 s1 n1 : Int} (hA : wrv l0 l1 l2 s0 n0 true = (a0, a1, a2, 0)) :
    rdv l a0 a1 s0 n0 = (true, 0) ∧ ∃ ov nv g, rdv l l0 l1 s1 n1 = (ov, g) ∧ rdv l a0 a1 s1 n1 = (nv, g) ∧ (¬ (s0 = s1 ∧ n0 = n1) → ov = nv) := by
  have key : ∀ (m : List Bool) (n n' : Int), ¬ n = n' → 0 ≤ n → 0 ≤ n' → rdOf false (m.set n.toNat true) n' = rdOf false m n' := by
    intro m n n' hne h h'
    unfold rdOf
    rw [List.getD_eq_getElem?_getD, List.getD_eq_getElem?_getD, List.getElem?_set_ne (by omega)]
  have same : ∀ (m : List Bool) (n : Int), 0 ≤ n ∧ n < m.length → rdOf false (m.set n.toNat true) n = true := by
    intro m n h
    unfold rdOf
    rw [List.getD_eq_getElem?_getD, List.getElem?_set_self (by omega)]
    rfl
  unfold wrv at hA
  by_cases h1 : s0 = 1
  · subst h1
    rw [if_pos rfl] at hA
    by_cases h2 : 0 ≤ n0 ∧ n0 < l0.length
    · rw [if_pos h2] at hA
      simp only [Prod.mk.injEq] at hA
      obtain ⟨rfl, rfl, rfl, _⟩ := hA
      refine ⟨by unfold rdv; rw [if_neg (by decide), if_pos rfl, if_pos (by simpa using h2), same _ _ h2], ?_⟩
      unfold rdv
      by_cases e0 : s1 = 0
      · rw [if_pos e0, if_pos e0]; exact ⟨_, _, _, rfl, rfl, fun _ => rfl⟩
      · rw [if_neg e0, if_neg e0]
        by_cases e1 : s1 = 1
        · rw [if_pos e1, if_pos e1, List.length_set]
          by_cases e2 : 0 ≤ n1 ∧ n1 < l0.length
          · rw [if_pos e2, if_pos e2]; exact ⟨_, _, _, rfl, rfl, fun hne => (key _ _ _ (fun e => hne ⟨e1.symm, e⟩) h2.1 e2.1).symm⟩
          · rw [if_neg e2, if_neg e2]; exact ⟨_, _, _, rfl, rfl, fun _ => rfl⟩
        · rw [if_neg e1, if_neg e1]; exact ⟨_, _, _, rfl, rfl, fun _ => rfl⟩
    · rw [if_neg h2] at hA; simp at hA
  · rw [if_neg h1] at hA
    by_cases h1' : s0 = 2
    · subst h1'
      rw [if_pos rfl] at hA
      by_cases h2 : 0 ≤ n0 ∧ n0 < l1.length
      · rw [if_pos h2] at hA
        simp only [Prod.mk.injEq] at hA
        obtain ⟨rfl, rfl, rfl, _⟩ := hA
        refine ⟨by unfold rdv; rw [if_neg (by decide), if_neg (by decide), if_pos rfl, if_pos (by simpa using h2), same _ _ h2], ?_⟩
        unfold rdv
        by_cases e0 : s1 = 0
        · rw [if_pos e0, if_pos e0]; exact ⟨_, _, _, rfl, rfl, fun _ => rfl⟩
        · rw [if_neg e0, if_neg e0]
          by_cases e1 : s1 = 1
          · rw [if_pos e1, if_pos e1]; exact ⟨_, _, _, rfl, rfl, fun _ => rfl⟩
          · rw [if_neg e1, if_neg e1]
            by_cases e3 : s1 = 2
            · rw [if_pos e3, if_pos e3, List.length_set]
              by_cases e2 : 0 ≤ n1 ∧ n1 < l1.length
              · rw [if_pos e2, if_pos e2]; exact ⟨_, _, _, rfl, rfl, fun hne => (key _ _ _ (fun e => hne ⟨e3.symm, e⟩) h2.1 e2.1).symm⟩
              · rw [if_neg e2, if_neg e2]; exact ⟨_, _, _, rfl, rfl, fun _ => rfl⟩
            · rw [if_neg e3, if_neg e3]; exact ⟨_, _, _, rfl, rfl, fun _ => rfl⟩
      · rw [if_neg h2] at hA; simp at hA
    · rw [if_neg h1'] at hA; simp at hA
end Go.Proofs.Ytjohdkbciafpfaa.St03
