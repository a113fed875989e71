/- VmFrame: its three maps; the inputs flipped. -/
import Derived.Test.YtjohdkbciafpfaaFr
import Derived.Test.YtjohdkbciafpfaaBa
import Derived.Test.YtjohdkbciafpfaaRk
import Derived.Test.YtjohdkbciafpfaaVr
namespace Go.Proofs.Ytjohdkbciafpfaa.Vm6
open Go.RowKit Go.Proofs.YtjohdkbciafpfaaW.PrintWords Go.Proofs.YtjohdkbciafpfaaW.PrintMore Go.Proofs.YtjohdkbciafpfaaW.PrintLast Go.Proofs.Ytjohdkbciafpfaa.Chg Go.Proofs.Ytjohdkbciafpfaa.Evt Go.Proofs.Ytjohdkbciafpfaa.Impl
set_option linter.unusedVariables false
set_option linter.unusedSimpArgs false
set_option maxRecDepth 100000
/-- A world behind another. -/
structure Bv (wB w : World) : Prop where
  out : Below wB.heap.size wB w
theorem Bv.below {wB w w' : World} (h : Bv wB w) (hb : Below w.heap.size w w') : Bv wB w' := ⟨below_step h.out hb⟩
/-- The three maps. -/
structure M3 (wM wr : World) (b8 b9 b10 N : Nat) (p8 : Int × Int → Bool) (p9 p10 : Int → Bool) : Prop where
  m8 : ∃ n, n ≤ N ∧ Bm.Mp Bm.kAB wr b8 n p8
  m9 : ∃ n, n ≤ N ∧ Bm.Mp Bm.kIB wr b9 n p9
  m10 : ∃ n, n ≤ N ∧ Bm.Mp Bm.kIB wr b10 n p10
  d : b8 ≠ b9 ∧ b8 ≠ b10 ∧ b9 ≠ b10
  g : wM.heap.size ≤ b8 ∧ wM.heap.size ≤ b9 ∧ wM.heap.size ≤ b10
section
variable {wM wr w' W : World} {b8 b9 b10 N i : Nat} {p8 p8' : Int × Int → Bool} {p9 p10 p9' p10' : Int → Bool}
theorem M3.below (h : M3 wM wr b8 b9 b10 N p8 p9 p10) (hb : Below wr.heap.size wr w') : M3 wM w' b8 b9 b10 N p8 p9 p10 := by
  obtain ⟨⟨n8, h8, m8⟩, ⟨n9, h9, m9⟩, ⟨n10, h10, m10⟩, d, g⟩ := h
  exact ⟨⟨n8, h8, m8.below hb⟩, ⟨n9, h9, m9.below hb⟩, ⟨n10, h10, m10.below hb⟩, d, g⟩
theorem M3.congr (h : M3 wM wr b8 b9 b10 N p8 p9 p10) {N' : Nat} (hN : N ≤ N') (e8 : ∀ s, p8 s = p8' s) (e9 : ∀ s, p9 s = p9' s) (e10 : ∀ s, p10 s = p10' s) : M3 wM wr b8 b9 b10 N' p8' p9' p10' := by
  obtain ⟨⟨n8, h8, m8⟩, ⟨n9, h9, m9⟩, ⟨n10, h10, m10⟩, d, g⟩ := h
  exact ⟨⟨n8, Nat.le_trans h8 hN, m8.congr e8⟩, ⟨n9, Nat.le_trans h9 hN, m9.congr e9⟩, ⟨n10, Nat.le_trans h10 hN, m10.congr e10⟩, d, g⟩
theorem M3.look8 (h : M3 wM wr b8 b9 b10 N p8 p9 p10) {a b : Int} {v : Bool} (ha : (Lit.int .i64 a).wf = true) (hb : (Lit.int .i64 b).wf = true) (hv : p8 (a, b) = v) : (Instr.lookup 72 (.map (some b8)) (.agg #[.int .i64 a, .int .i64 b]) false).run Try.prog wr = .ok (.bool v) wr := by
  obtain ⟨n8, h8, m8⟩ := h.m8
  have e := m8.look Bm.gAB (s := (a, b)) ⟨ha, hb⟩
  rw [hv] at e
  exact e
theorem M3.look9 (h : M3 wM wr b8 b9 b10 N p8 p9 p10) {a : Int} {v : Bool} (ha : (Lit.int .i64 a).wf = true) (hv : p9 a = v) : (Instr.lookup 73 (.map (some b9)) (.int .i64 a) false).run Try.prog wr = .ok (.bool v) wr := by
  obtain ⟨n8, h8, m8⟩ := h.m9
  have e := m8.look Bm.gIB (s := a) ha
  rw [hv] at e
  exact e
theorem M3.look10 (h : M3 wM wr b8 b9 b10 N p8 p9 p10) {a : Int} {v : Bool} (ha : (Lit.int .i64 a).wf = true) (hv : p10 a = v) : (Instr.lookup 73 (.map (some b10)) (.int .i64 a) false).run Try.prog wr = .ok (.bool v) wr := by
  obtain ⟨n8, h8, m8⟩ := h.m10
  have e := m8.look Bm.gIB (s := a) ha
  rw [hv] at e
  exact e
variable {ops : Array Oper} {rest : List Oper} {o : Oper} {a : Act} {Q : Exit → Act → World → Prop}
theorem mp_blk {α β : Type} {k : Bm.Kq α β} {b n : Nat} {p : α → β} (h : Bm.Mp k W b n p) (hg : W.grownBy w' (some b)) : ∀ g T cs, Blk W g T cs → Blk w' g T cs := fun g T cs hb => hb.grown hg (fun e => h.ne hb (by injection e))
theorem M3.put8_ev (H : M3 wM W b8 b9 b10 N p8 p9 p10) (hgd : o.guard = none) {m x y : Operand} (hop : o.op = .mapUpdate 72 m x y) {s : Int × Int} (hm : a.eval m = .map (some b8)) (hx : a.eval x = Bm.kvA s) (hy : a.eval y = .bool true) (hs : Bm.okA s) (hN : N < 100000)
    (h : ∀ w1, M3 wM w1 b8 b9 b10 (N + 1) (fun x => if x = s then true else p8 x) p9 p10 → (∀ g T cs, Blk W g T cs → Blk w1 g T cs) → (Below wM.heap.size wM W → Below wM.heap.size wM w1) → wpList Try.prog ops Q rest (a.put o.dst undef) w1) : wpList Try.prog ops Q (o :: rest) a W := by
  obtain ⟨⟨n8, h8, m8⟩, ⟨n9, h9, m9⟩, ⟨n10, h10, m10⟩, d, g⟩ := H
  refine Bm.put_ev (k := Bm.kAB) Bm.gAB hgd (.inl hop) (s := s) (v := true) hm hx hy hs (Bm.pB true) (by unfold maxLen; omega) m8 ?_
  intro w1 hM hg
  exact h w1 ⟨⟨n8 + 1, by omega, hM⟩, ⟨n9, by omega, m9.grown hg (fun e => d.1 (by injection e with e; exact e.symm))⟩, ⟨n10, by omega, m10.grown hg (fun e => d.2.1 (by injection e with e; exact e.symm))⟩, d, g⟩ (mp_blk m8 hg) (fun hb => hb.grown hg hb.size (fun k hk => by cases hk; exact g.1))
theorem M3.put9_ev (H : M3 wM W b8 b9 b10 N p8 p9 p10) (hgd : o.guard = none) {m x y : Operand} (hop : o.op = .mapUpdate 73 m x y) {s : Int} (hm : a.eval m = .map (some b9)) (hx : a.eval x = .int .i64 s) (hy : a.eval y = .bool true) (hs : (Lit.int .i64 s).wf = true) (hN : N < 100000)
    (h : ∀ w1, M3 wM w1 b8 b9 b10 (N + 1) p8 (fun x => if x = s then true else p9 x) p10 → (∀ g T cs, Blk W g T cs → Blk w1 g T cs) → (Below wM.heap.size wM W → Below wM.heap.size wM w1) → wpList Try.prog ops Q rest (a.put o.dst undef) w1) : wpList Try.prog ops Q (o :: rest) a W := by
  obtain ⟨⟨n8, h8, m8⟩, ⟨n9, h9, m9⟩, ⟨n10, h10, m10⟩, d, g⟩ := H
  refine Bm.put_ev (k := Bm.kIB) Bm.gIB hgd (.inl hop) (s := s) (v := true) hm hx hy hs (Bm.pB true) (by unfold maxLen; omega) m9 ?_
  intro w1 hM hg
  exact h w1 ⟨⟨n8, by omega, m8.grown hg (fun e => d.1 (by injection e))⟩, ⟨n9 + 1, by omega, hM⟩, ⟨n10, by omega, m10.grown hg (fun e => d.2.2 (by injection e with e; exact e.symm))⟩, d, g⟩ (mp_blk m9 hg) (fun hb => hb.grown hg hb.size (fun k hk => by cases hk; exact g.2.1))
theorem M3.put10_ev (H : M3 wM W b8 b9 b10 N p8 p9 p10) (hgd : o.guard = none) {m x y : Operand} (hop : o.op = .mapUpdate 73 m x y) {s : Int} (hm : a.eval m = .map (some b10)) (hx : a.eval x = .int .i64 s) (hy : a.eval y = .bool true) (hs : (Lit.int .i64 s).wf = true) (hN : N < 100000)
    (h : ∀ w1, M3 wM w1 b8 b9 b10 (N + 1) p8 p9 (fun x => if x = s then true else p10 x) → (∀ g T cs, Blk W g T cs → Blk w1 g T cs) → (Below wM.heap.size wM W → Below wM.heap.size wM w1) → wpList Try.prog ops Q rest (a.put o.dst undef) w1) : wpList Try.prog ops Q (o :: rest) a W := by
  obtain ⟨⟨n8, h8, m8⟩, ⟨n9, h9, m9⟩, ⟨n10, h10, m10⟩, d, g⟩ := H
  refine Bm.put_ev (k := Bm.kIB) Bm.gIB hgd (.inl hop) (s := s) (v := true) hm hx hy hs (Bm.pB true) (by unfold maxLen; omega) m10 ?_
  intro w1 hM hg
  exact h w1 ⟨⟨n8, by omega, m8.grown hg (fun e => d.2.1 (by injection e))⟩, ⟨n9, by omega, m9.grown hg (fun e => d.2.2 (by injection e))⟩, ⟨n10 + 1, by omega, hM⟩, d, g⟩ (mp_blk m10 hg) (fun hb => hb.grown hg hb.size (fun k hk => by cases hk; exact g.2.2))
end
section
variable {lp : List S66} {k a b j : Int} {p : Int × Int → Bool} {q : Int → Bool}
theorem wr_on (h : 11 ≤ k ∧ k ≤ 14) (s : Int × Int) : (if s = (a, b) then true else wrP lp s) = wrP (lp ++ [⟨k, ⟨a, b⟩, j⟩]) s := by
  unfold wrP
  rw [List.any_append]
  by_cases e : s = (a, b) <;> simp [xW, e, h.1, h.2]
theorem wr_off (h : ¬ (11 ≤ k ∧ k ≤ 14)) (s : Int × Int) : wrP lp s = wrP (lp ++ [⟨k, ⟨a, b⟩, j⟩]) s := by
  unfold wrP
  rw [List.any_append]
  have : xW s ⟨k, ⟨a, b⟩, j⟩ = false := by
    unfold xW
    by_cases h1 : 11 ≤ k
    · have h2 : ¬ k ≤ 14 := fun h2 => h ⟨h1, h2⟩
      simp [h2]
    · simp [h1]
  simp [this]
theorem se_on (h : k = 6 ∨ k = 7) (s : Int) : (if s = j then true else seP lp s) = seP (lp ++ [⟨k, ⟨a, b⟩, j⟩]) s := by
  unfold seP
  rw [List.any_append]
  by_cases e : s = j <;> simp [xS, e, h]
theorem se_off (h : ¬ (k = 6 ∨ k = 7)) (s : Int) : seP lp s = seP (lp ++ [⟨k, ⟨a, b⟩, j⟩]) s := by
  unfold seP
  rw [List.any_append]
  simp [xS, h]
theorem as_on (h : 0 ≤ k ∧ k ≤ 7) (h0 : a = 0) (s : Int) : (if s = b then true else asP lp s) = asP (lp ++ [⟨k, ⟨a, b⟩, j⟩]) s := by
  unfold asP
  rw [List.any_append]
  by_cases e : s = b <;> simp [xA, e, h.1, h.2, h0]
theorem as_off (h : ¬ (0 ≤ k ∧ k ≤ 7 ∧ a = 0)) (s : Int) : asP lp s = asP (lp ++ [⟨k, ⟨a, b⟩, j⟩]) s := by
  unfold asP
  rw [List.any_append]
  have : xA s ⟨k, ⟨a, b⟩, j⟩ = false := by
    unfold xA
    by_cases h1 : 0 ≤ k
    · by_cases h2 : k ≤ 7
      · have h3 : ¬ a = 0 := fun h3 => h ⟨h1, h2, h3⟩
        simp [h3]
      · simp [h2]
    · simp [h1]
  simp [this]
end
/-- X begins the bits of L, in a block that may be written. -/
def Ob (w wB : World) (X : Option Addr) (L : List Bool) : Prop := L = [] ∨ ∃ g cs, X = some ⟨g, 0, none⟩ ∧ Bk w g 4 cs ∧ wB.heap.size ≤ g ∧ ∀ i, i < L.length → cs[i]? = some (.bool (L.getD i false))
section
variable {w w' wB : World} {X : Option Addr} {c g : Nat} {cs : Array Value} {L li : List Bool} {l : List S66}
theorem Ob.of_R {okr : Nat → Prop} {n : Nat} (h : Kd.R Kd.bool 4 w wB.heap.size okr (.slice X n c) L) : Ob w wB X L := by
  have ho := Kd.own_of_R (enc := Value.bool) h
  rcases ho.2 with ⟨e, e0⟩ | ⟨g, cap, cur, e, hg, hh, hn, hcap, hcs, hcur⟩
  · exact .inl (List.eq_nil_of_length_eq_zero e0)
  · injection e with e1 e2 e3
    subst e1
    refine .inr ⟨g, cur, rfl, ⟨hh⟩, hg, fun i hi => ?_⟩
    have h1 : (cur.toList.take (L.length * 1))[i]? = (encs Value.bool L)[i]? := by rw [hcur]
    rw [List.getElem?_take, if_pos (by omega)] at h1
    have h2 : (encs Value.bool L)[i]? = some (.bool (L.getD i false)) := by
      unfold encs
      rw [List.getElem?_map, List.getD_eq_getElem?_getD, List.getElem?_eq_getElem (by omega)]
      rfl
    rw [← Array.getElem?_toList, h1, h2]
theorem Ob.below (h : Ob w wB X L) (hb : Below w.heap.size w w') : Ob w' wB X L := by
  rcases h with h | ⟨g, cs, e, hk, h⟩
  · exact .inl h
  · exact .inr ⟨g, cs, e, hk.below hb, h⟩
theorem Ob.rw (h : Ob w wB X L) (hc : L.length ≤ c) (hm : L.length ≤ 20000) : Rw Kd.bool w X c L := by
  rcases h with rfl | ⟨g, cs, rfl, hk, hg, h⟩
  · exact ⟨Nat.zero_le _, rfl, by simp, fun h => absurd h (by simp)⟩
  · refine ⟨hc, rfl, by omega, fun _ => ⟨_, rfl, fun j x hj => ⟨[.bool x], rfl, rfl, fun i u hu => ?_⟩⟩⟩
    rw [Addr.add_lit, Nat.zero_add]
    have hjl : j < L.length := by
      rcases Nat.lt_or_ge j L.length with h1 | h1
      · exact h1
      · rw [List.getElem?_eq_none h1] at hj; cases hj
    match i, hu with
    | 0, hu =>
      show w.cell? ⟨g, j * 1 + 0, none⟩ = some u
      rw [Nat.mul_one, Nat.add_zero]
      injection hu with hu
      subst hu
      have := hk.blk.cell j (h j hjl)
      rw [this, List.getD_eq_getElem?_getD, hj]
      rfl
theorem Ob.put {i : Nat} {v : Bool} (hi : i < L.length) (hk : Bk w g 4 (cs.setIfInBounds i (.bool v))) (hg : wB.heap.size ≤ g) (hcs : ∀ t, t < L.length → cs[t]? = some (.bool (L.getD t false))) : Ob w wB (some ⟨g, 0, none⟩) (L.set i v) := by
  refine .inr ⟨g, _, rfl, hk, hg, fun t ht => ?_⟩
  rw [List.length_set] at ht
  have h1 := hcs t ht
  rw [Array.getElem?_setIfInBounds, List.getD_eq_getElem?_getD, List.getElem?_set]
  by_cases e : i = t
  · subst e
    have h2 : i < cs.size := by
      rcases Nat.lt_or_ge i cs.size with h2 | h2
      · exact h2
      · rw [Array.getElem?_eq_none h2] at h1; cases h1
    rw [if_pos rfl, if_pos rfl, if_pos h2, if_pos hi]
    rfl
  · rw [if_neg e, if_neg e, h1, List.getD_eq_getElem?_getD]
/-- While the inputs are flipped: i are done. -/
def Fp (l : List S66) (li : List Bool) (i : Nat) (L : List Bool) : Prop := L.length = li.length ∧ ∀ t : Nat, t < li.length → L.getD t false = if t < i then (li.getD t false != !(asP l t)) else li.getD t false
theorem Fp.start : Fp l li 0 li := ⟨rfl, fun t _ => rfl⟩
theorem Fp.next {i : Nat} (h : Fp l li i L) (hi : i < li.length) {v : Bool} (hv : (L.getD i false != !(asP l i)) = v) : Fp l li (i + 1) (L.set i v) := by
  refine ⟨by rw [List.length_set, h.1], fun t ht => ?_⟩
  have h1 := h.2 t ht
  rw [List.getD_eq_getElem?_getD, List.getElem?_set]
  by_cases e : i = t
  · subst e
    rw [if_pos rfl, if_pos (by rw [h.1]; exact hi), if_pos (by omega)]
    rw [if_neg (by omega)] at h1
    rw [← h1, hv]
    rfl
  · rw [if_neg e, ← List.getD_eq_getElem?_getD, h1]
    by_cases e2 : t < i
    · rw [if_pos e2, if_pos (by omega)]
    · rw [if_neg e2, if_neg (by omega)]
theorem Fp.agree (h : Fp l li li.length L) : Agree l li L := ⟨h.1.symm, fun i hi ha => by
  rw [h.2 i hi, if_pos hi, ha]
  simp⟩
end
theorem rbit {w : World} {A : Option Addr} {c : Nat} {l : List Bool} (h : Rw Kd.bool w A c l) {i : Nat} (hi : i < l.length) : ∃ ad, A = some ad ∧ w.cell? (ad.add i) = some (.bool (l.getD i false)) := by
  obtain ⟨ad, e, hc⟩ := h.row.2.2 (by omega)
  refine ⟨ad, e, ?_⟩
  obtain ⟨cs, hl, hK, hcell⟩ := hc i _ (List.getElem?_eq_getElem hi)
  obtain rfl : cs = [.bool l[i]] := hK
  have h0 := hcell 0 _ rfl
  have e1 : i * Kd.bool.sz + 0 = i := by show i * 1 + 0 = i; omega
  rw [e1] at h0
  rw [h0, List.getD_eq_getElem?_getD, List.getElem?_eq_getElem hi]
  rfl
theorem rbit_at {w : World} {ad : Addr} {c : Nat} {l : List Bool} (h : Rw Kd.bool w (some ad) c l) {i : Nat} (hi : i < l.length) {x : Bool} (hx : l.getD i false = x) : w.cell? (ad.add i) = some (.bool x) := by
  obtain ⟨ad', e, h1⟩ := rbit h hi
  injection e with e
  subst e
  rw [h1, hx]
theorem Sb.bw {wB w : World} {A0 A1 A2 : Option Addr} {c0 c1 c2 : Nat} {l0 l1 l2 : List Bool} (h : Sb wB A0 c0 A1 c1 A2 c2 l0 l1 l2) (hb : Below wB.heap.size wB w) : Sb w A0 c0 A1 c1 A2 c2 l0 l1 l2 := h.below hb
section
variable {ops : Array Oper} {rest : List Oper} {o : Oper} {a : Act} {Q : Exit → Act → World → Prop} {w0 W : World} {α : Type} {d : Kd α} {e t : TypeId}
theorem row0_ev (hgd : o.guard = none) {N : Tmp} (_hd : o.dst = some N) (HB : Below w0.heap.size w0 W) (hrun : (execOp a.eval o).run Try.prog W = .ok (.value (.slice (some ⟨W.heap.size, 0, none⟩) 0 0)) (W.alloc (.cells #[] e (0, 0))))
    (h : ∀ (v : Value) (w1 : World), Ro d e w0 w1 v [] → Below w0.heap.size w0 w1 → wpList Try.prog ops Q rest (a.put o.dst v) w1) : wpList Try.prog ops Q (o :: rest) a W := by
  refine Kd.event_run hgd hrun (h _ _ ⟨?_⟩ (below_step HB (below_alloc (Below.refl _ _) _)))
  refine ⟨fun k hk => trivial, [], ?_, by simp, fun j p hj => by simp at hj⟩
  exact World.ownsRow_lit (base := w0.heap.size) (e := e) (size := d.sz) W #[] 0 HB.size (by simp) (by simp)
theorem rowapp_ev (R : Rk d e t) (hgd : o.guard = none) (s x : Operand) (ho : o.op = .call { callee := .builtin .append, args := #[s, x], argTypes := #[t, t] }) (v : Value) (xs ys : List α) (A : Option Addr) (m c : Nat) (hs : a.eval s = v) (hx : a.eval x = .slice A m c)
    (HO : Ro d e w0 W v xs) (HC : Kd.C d W A m ys) (HB : Below w0.heap.size w0 W) (hl : xs.length + m ≤ 4000000000000)
    (h : ∀ v1 w1, Ro d e w0 w1 v1 (xs ++ ys) → Below w0.heap.size w0 w1 → wpList Try.prog ops Q rest (a.put o.dst v1) w1) : wpList Try.prog ops Q (o :: rest) a W := by
  obtain ⟨z, by_, hi, hz, hs0, hb0, hb1⟩ := R.info
  exact Kd.R_append_rows d (Rr := d.K W) (w0 := w0) w0.heap.size hgd s x t e z by_ ho R.ht hi hz hs0 hb0 v xs ys A m c (fun _ => True) (fun _ => False) hs hx HO.row HC (fun _ _ hk => R.km _ _ _ _ _ hk) (fun _ hk => hk.elim) (fun _ _ => trivial) HB HB.size (Nat.le_trans (Nat.mul_le_mul hl hb1) (by decide)) (fun v1 w1 h1 h2 _ _ => h v1 w1 ⟨h1⟩ h2)
end
theorem rd_split {l : List S66} {i : Nat} {k a b j : Int} (hi : i < l.length) (h : rd_T66 l (i : Int) = ⟨k, ⟨a, b⟩, j⟩) : l.take (i + 1) = l.take i ++ [⟨k, ⟨a, b⟩, j⟩] := by
  rw [← h, List.take_add_one, List.getElem?_eq_getElem hi]
  unfold rd_T66
  rw [Int.toNat_natCast, List.getD_eq_getElem?_getD, List.getElem?_eq_getElem hi]
  rfl
end Go.Proofs.Ytjohdkbciafpfaa.Vm6
