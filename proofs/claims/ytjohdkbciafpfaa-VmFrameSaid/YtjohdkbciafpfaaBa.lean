/- Chapter 06: maps whose keys are addresses (a struct of two numbers). -/
import Derived.Test.YtjohdkbciafpfaaBm
import Derived.DeepKeys4
namespace Go.Proofs.Ytjohdkbciafpfaa.Bm
open Go.RowKit Go.Maps Go.Proofs.YtjohdkbciafpfaaW.PrintWords
set_option linter.unusedVariables false
set_option maxRecDepth 100000
theorem laidOut_ : laidOutB Try.prog = true := by kernel_rfl
theorem row_ : (26 : TypeId) < Try.prog.types.size := of_decide_eq_true (by kernel_rfl)
theorem cells_ : Try.prog.cellsOf 26 = 2 := by kernel_rfl
theorem wide_ : (match Try.prog.underlying 26 with | some (.array _ _) | some (.struct _) => true | _ => false) = true := by rw [Try.underlying26]
theorem lawA : Keyed Try.prog 26 := Keyed.of_law (deep_law_laid laidOut_ (m := 2) (by omega) row_ (by kernel_rfl) wide_)
theorem size_ : ∃ m, Try.prog.types.size = m + 1 := Nat.exists_eq_succ_of_ne_zero (Nat.ne_of_gt (Nat.lt_of_le_of_lt (Nat.zero_le _) row_))
def kvA (s : Int × Int) : Value := .agg #[.int .i64 s.1, .int .i64 s.2]
theorem keyA {a b : Int} (ha : (Lit.int .i64 a).wf = true) (hb : (Lit.int .i64 b).wf = true) : ∃ l, keyOf Try.prog 26 (kvA (a, b)) = some l := by
  have h1 : Try.prog.keyType 26 = true := by kernel_rfl
  have h2 : (kvA (a, b)).formed Try.prog 26 = true := by simp [kvA, Value.formed, Try.underlying26, cells_]
  have h3 : ∃ ls, Try.prog.keyLits (Try.prog.types.size + 1) 26 [.int .i64 a, .int .i64 b] = some ls := by
    obtain ⟨m, hm⟩ := size_
    rw [hm]
    have c3 : Try.prog.cellsOf 3 = 1 := by kernel_rfl
    simp [Program.keyLits, Try.underlying26, Try.underlying3, cells_, c3, ha, hb]
  obtain ⟨ls, h3⟩ := h3
  refine ⟨.string (keyBytes ls), ?_⟩
  unfold keyOf
  rw [Try.underlying26]
  show (if (_ && _) = true then _ else _) = _
  rw [h1, h2]
  show (Try.prog.keyLits (Try.prog.types.size + 1) 26 [.int .i64 a, .int .i64 b]).map _ = _
  rw [h3]
  rfl
def okA (s : Int × Int) : Prop := (Lit.int .i64 s.1).wf = true ∧ (Lit.int .i64 s.2).wf = true
noncomputable def kAB : Kq (Int × Int) Bool := ⟨26, 4, 72, kvA, fun s => (keyOf Try.prog 26 (kvA s)).getD (.bool false), okA, .bool, .bool, false⟩
theorem keyA' (s : Int × Int) (hs : okA s) : keyOf Try.prog 26 (kvA s) = some ((keyOf Try.prog 26 (kvA s)).getD (.bool false)) := by
  obtain ⟨l, h⟩ := keyA hs.1 hs.2
  rw [h]
  rfl
theorem gAB : kAB.Good := ⟨lawA, keyA', fun x y hx hy h => by
    have e := lawA.inj (keyA' x hx) ((keyA' y hy).trans (congrArg some (show (keyOf Try.prog 26 (kvA y)).getD (.bool false) = (keyOf Try.prog 26 (kvA x)).getD (.bool false) from h.symm)))
    unfold kvA at e
    injection e with e
    injection e with e
    injection e with e1 e2
    injection e2 with e2
    injection e1 with _ e1
    injection e2 with _ e2
    exact Prod.ext e1 e2, Try.underlying72, fun w => by kernel_rfl, pB false, piB⟩
end Go.Proofs.Ytjohdkbciafpfaa.Bm
