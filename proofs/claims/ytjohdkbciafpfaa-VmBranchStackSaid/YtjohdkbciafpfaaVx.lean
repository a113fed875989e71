/- Chapter 06: rows of instructions of one's own. -/
import Derived.Test.YtjohdkbciafpfaaVw
import Derived.Test.YtjohdkbciafpfaaRo
import Derived.Test.YtjohdkbciafpfaaWRepsOne
namespace Go.Proofs.Ytjohdkbciafpfaa.Vm6
open Go.RowKit Go.Proofs.YtjohdkbciafpfaaW.PrintWords Go.Proofs.YtjohdkbciafpfaaW.PrintMore Go.Proofs.YtjohdkbciafpfaaW.PrintLast Go.Proofs.Ytjohdkbciafpfaa.Chg Go.Proofs.Ytjohdkbciafpfaa.Evt Go.Proofs.Ytjohdkbciafpfaa.Impl
set_option linter.unusedVariables false
set_option linter.unusedSimpArgs false
/-- An instruction's cells. -/
abbrev ic (k a b j : Int) : List Value := [.int .i64 k, .int .i64 a, .int .i64 b, .int .i64 j]
section
variable {ops : Array Oper} {rest : List Oper} {o : Oper} {a : Act} {Q : Exit → Act → World → Prop} {w0 W : World}
/-- Instructions at hand are put behind a row of one's own. -/
theorem app66 (hgd : o.guard = none) (s x : Operand) (ho : o.op = .call { callee := .builtin .append, args := #[s, x], argTypes := #[57, 57] }) (v : Value) (xs ys : List S66) (A : Option Addr) (m c : Nat) (hs : a.eval s = v) (hx : a.eval x = .slice A m c)
    (HO : Ro k66 66 w0 W v xs) (HC : Kd.C k66 W A m ys) (HB : Below w0.heap.size w0 W) (hl : (xs.length + m) * 32 ≤ 140737488355328)
    (h : ∀ v1 w1, Ro k66 66 w0 w1 v1 (xs ++ ys) → Below w0.heap.size w0 w1 → W.grownBy w1 v.ownBlock → wpList Try.prog ops Q rest (a.put o.dst v1) w1) : wpList Try.prog ops Q (o :: rest) a W :=
  Kd.R_append_rows k66 (Rr := k66.K W) (w0 := w0) w0.heap.size hgd s x 57 66 _ 32 ho Try.underlying57 info66 (by rfl) (by decide) (by decide) v xs ys A m c (fun _ => True) (fun _ => False) hs hx HO.row HC (fun _ _ hk => k66_KM hk) (fun _ hk => hk.elim) (fun _ _ => trivial) HB HB.size hl (fun v1 w1 h1 h2 h3 _ => h v1 w1 ⟨h1⟩ h2 h3)
/-- A literal of instructions, as a row of one's own. -/
theorem lit66 (hgd : o.guard = none) {N : Tmp} (hd : o.dst = some N) {xs : List S66} {inner : List Value} (hrun : (execOp a.eval o).run Try.prog W = .ok (.value (.slice (some ⟨W.heap.size, 0, none⟩) xs.length xs.length)) (W.alloc (.cells inner.toArray 66)))
    (hrep : Reps (k66.M W w0.heap.size (fun _ => True)) k66.sz xs inner) (HB : Below w0.heap.size w0 W) (hm : xs.length ≤ 9223372036854775807)
    (h : ∀ v1 w1, Ro k66 66 w0 w1 v1 xs → Below w0.heap.size w0 w1 → wpList Try.prog ops Q rest (a.put o.dst v1) w1) : wpList Try.prog ops Q (o :: rest) a W :=
  Kd.R_lit k66 (w0 := w0) w0.heap.size 66 hgd hd hrun hrep (fun _ hk => hk) trivial HB HB.size hm (fun v1 w1 h1 h2 _ _ => h v1 w1 ⟨h1⟩ h2)
end
theorem C66_1 {w : World} {g : Nat} {k a b j : Int} (h : Bk w g 66 #[.int .i64 k, .int .i64 a, .int .i64 b, .int .i64 j]) : Kd.C k66 w (some ⟨g, 0, none⟩) 1 [⟨k, ⟨a, b⟩, j⟩] := C66_of_blk (l := [⟨k, ⟨a, b⟩, j⟩]) h (by simp) (by
  intro i x hi
  match i, hi with
  | 0, hi => obtain rfl := Option.some.inj hi; exact ⟨rfl, rfl, rfl, rfl⟩)
theorem C66_2 {w : World} {g : Nat} {k a b j k' a' b' j' : Int} (h : Bk w g 66 #[.int .i64 k, .int .i64 a, .int .i64 b, .int .i64 j, .int .i64 k', .int .i64 a', .int .i64 b', .int .i64 j']) : Kd.C k66 w (some ⟨g, 0, none⟩) 2 [⟨k, ⟨a, b⟩, j⟩, ⟨k', ⟨a', b'⟩, j'⟩] := C66_of_blk (l := [⟨k, ⟨a, b⟩, j⟩, ⟨k', ⟨a', b'⟩, j'⟩]) h (by simp) (by
  intro i x hi
  match i, hi with
  | 0, hi | 1, hi => obtain rfl := Option.some.inj hi; exact ⟨rfl, rfl, rfl, rfl⟩)
theorem Ro66.C {w0 w : World} {A : Option Addr} {n c : Nat} {l : List S66} (h : Ro k66 66 w0 w (.slice A n c) l) : Kd.C k66 w A l.length l := (Kd.R_reads' h.row).2.2
theorem rd_at {l : List S66} {i : Nat} {x : S66} (h : l[i]? = some x) : rd_T66 l (i : Int) = x := by
  unfold rd_T66
  rw [Int.toNat_natCast, List.getD_eq_getElem?_getD, h]
  rfl
/-- One step, by its instruction. -/
theorem stepV_at {l : List S66} {li : List Bool} {q m e st : List Bool} {acc : Bool} {fault : Int} {i : Nat} {x : S66} (h : l[i]? = some x) {np : Int} {s1 : MS} (hc : core l.length li x.f0 x.f1.f0 x.f1.f1 x.f2 ⟨q, m, e, (i : Int), acc, st, false, fault⟩ = (0, np, s1)) :
    stepV l li ⟨q, m, e, (i : Int), acc, st, false, fault⟩ = ((!s1.ended, 0), { s1 with pc := np }) := by
  have hi : i < l.length := by
    rcases Nat.lt_or_ge i l.length with h1 | h1
    · exact h1
    · rw [List.getElem?_eq_none h1] at h; cases h
  unfold stepV
  simp only [rd_at h, hc]
  rw [if_neg (by simp), if_neg (by omega)]
  rfl
/-- A run goes on. -/
theorem runV_go {l : List S66} {li : List Bool} {s s1 : MS} {f n : Nat} (h : stepV l li s = ((true, 0), s1)) : runV l li (f + 1) s n = runV l li f s1 (n + 1) := by
  show (if (stepV l li s).1.1 = true then _ else _) = _
  rw [h]
  rfl
/-- A run ends. -/
theorem runV_end {l : List S66} {li : List Bool} {s s1 : MS} {f n : Nat} (h : stepV l li s = ((false, 0), s1)) : runV l li (f + 1) s n = (s1, n + 1) := by
  show (if (stepV l li s).1.1 = true then _ else _) = _
  rw [h]
  rfl
end Go.Proofs.Ytjohdkbciafpfaa.Vm6
