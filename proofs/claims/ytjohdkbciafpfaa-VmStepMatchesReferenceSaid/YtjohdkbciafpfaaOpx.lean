/- Several texts of this session in one (join.py): Op03, Op06. -/
import Derived.Test.YtjohdkbciafpfaaOpen
import Derived.Test.YtjohdkbciafpfaaEv
import Derived.Test.YtjohdkbciafpfaaProg
import Derived.Test.YtjohdkbciafpfaaVw
section
/- Chapter 03: what the arguments read as. -/
namespace Go.Proofs.Ytjohdkbciafpfaa.St03
open Go.RowKit Go.Proofs.YtjohdkbciafpfaaW.PrintWords Go.Proofs.YtjohdkbciafpfaaW.PrintMore Go.Proofs.YtjohdkbciafpfaaW.PrintLast Go.Proofs.Ytjohdkbciafpfaa.Evt Go.Proofs.Ytjohdkbciafpfaa.Open
set_option linter.unusedVariables false
abbrev KSt : Kd (List Bool × List Bool × List Bool) := Kd.pair (Kd.slice 4 Kd.bool) (Kd.pair (Kd.slice 4 Kd.bool) (Kd.slice 4 Kd.bool))
abbrev KAddr : Kd (Int × Int) := Kd.pair (Kd.int .i64) (Kd.int .i64)
abbrev KSize : Kd (Int × Int × Int × Int) := Kd.pair (Kd.int .i64) (Kd.pair (Kd.int .i64) (Kd.pair (Kd.int .i64) (Kd.int .i64)))
abbrev KTwo : Kd ((Int × Int) × (Int × Int)) := Kd.pair KAddr KAddr
abbrev KBools : Kd (Bool × Bool) := Kd.pair Kd.bool Kd.bool
abbrev K4 : Kd (Int × Int × Int × Int) := Kd.pair (Kd.int .u16) (Kd.pair (Kd.int .u16) (Kd.pair (Kd.int .u16) (Kd.int .u16)))
abbrev I64 (n : Int) : Prop := (Lit.int .i64 n).wf = true
abbrev U16 (n : Int) : Prop := (Lit.int .u16 n).wf = true
theorem opens_row (w : World) : Opens Try.prog w 22 (Kd.slice 4 Kd.bool) (SlQ fun _ => True) := opens_slice Try.underlying22 (by kernel_rfl) (opens_bool Try.underlying4)
theorem opens_St (w : World) : Opens Try.prog w 24 KSt (fun y => SlQ (fun _ => True) y.1 ∧ SlQ (fun _ => True) y.2.1 ∧ SlQ (fun _ => True) y.2.2) :=
  opens_struct3 Try.underlying24 rfl rfl rfl (by kernel_rfl) (by kernel_rfl) (by kernel_rfl) (by kernel_rfl) (opens_row w) (opens_row w) (opens_row w)
theorem opens_Addr (w : World) : Opens Try.prog w 26 KAddr (fun y => I64 y.1 ∧ I64 y.2) :=
  opens_struct2 Try.underlying26 rfl rfl (by kernel_rfl) (by kernel_rfl) (by kernel_rfl) (opens_int Try.underlying3) (opens_int Try.underlying3)
theorem opens_Size (w : World) : Opens Try.prog w 47 KSize (fun y => I64 y.1 ∧ I64 y.2.1 ∧ I64 y.2.2.1 ∧ I64 y.2.2.2) :=
  opens_struct4 Try.underlying47 rfl rfl rfl rfl (by kernel_rfl) (by kernel_rfl) (by kernel_rfl) (by kernel_rfl) (by kernel_rfl) (opens_int Try.underlying3) (opens_int Try.underlying3) (opens_int Try.underlying3) (opens_int Try.underlying3)
theorem opens_Two (w : World) : Opens Try.prog w 40 KTwo (fun y => (I64 y.1.1 ∧ I64 y.1.2) ∧ I64 y.2.1 ∧ I64 y.2.2) :=
  opens_arr2 Try.underlying40 (by kernel_rfl) (by kernel_rfl) (opens_Addr w)
theorem opens_Bools (w : World) : Opens Try.prog w 55 KBools (fun _ => True ∧ True) :=
  opens_arr2 Try.underlying55 (by kernel_rfl) (by kernel_rfl) (opens_bool Try.underlying4)
theorem opens_4 (w : World) : Opens Try.prog w 45 K4 (fun y => U16 y.1 ∧ U16 y.2.1 ∧ U16 y.2.2.1 ∧ U16 y.2.2.2) :=
  opens_arr4 Try.underlying45 (by kernel_rfl) rfl (by kernel_rfl) (opens_int Try.underlying44)
/-! ### Their cells -/
theorem row_form {w : World} {l : List Bool} {cs : List Value} (h : (Kd.slice 4 Kd.bool).K w l cs) : ∃ A c, cs = [.slice A l.length c] ∧ Rw Kd.bool w A c l := by
  obtain ⟨A, c, rfl, hc, hC⟩ := h
  exact ⟨A, c, rfl, hc, hC⟩
theorem st_form {w : World} {y : List Bool × List Bool × List Bool} {cs : List Value} (h : KSt.K w y cs) : ∃ A0 c0 A1 c1 A2 c2, cs = [.slice A0 y.1.length c0, .slice A1 y.2.1.length c1, .slice A2 y.2.2.length c2] ∧ Sr Kd.bool w A0 c0 A1 c1 A2 c2 y.1 y.2.1 y.2.2 := by
  obtain ⟨x0, x1, rfl, h0, y0, y1, rfl, h1, h2⟩ := h
  obtain ⟨A0, c0, rfl, r0⟩ := row_form h0
  obtain ⟨A1, c1, rfl, r1⟩ := row_form h1
  obtain ⟨A2, c2, rfl, r2⟩ := row_form h2
  exact ⟨A0, c0, A1, c1, A2, c2, rfl, r0, r1, r2⟩
theorem int_form {w : World} {k : IntKind} {n : Int} {cs : List Value} (h : (Kd.int k).K w n cs) : cs = [.int k n] := h
theorem bool_form {w : World} {b : Bool} {cs : List Value} (h : Kd.bool.K w b cs) : cs = [.bool b] := h
theorem addr_form {w : World} {y : Int × Int} {cs : List Value} (h : KAddr.K w y cs) : cs = [.int .i64 y.1, .int .i64 y.2] := by
  obtain ⟨x0, x1, rfl, h0, h1⟩ := h
  rw [int_form h0, int_form h1]; rfl
theorem two_form {w : World} {y : (Int × Int) × (Int × Int)} {cs : List Value} (h : KTwo.K w y cs) : cs = [.int .i64 y.1.1, .int .i64 y.1.2, .int .i64 y.2.1, .int .i64 y.2.2] := by
  obtain ⟨x0, x1, rfl, h0, h1⟩ := h
  rw [addr_form h0, addr_form h1]; rfl
theorem bools_form {w : World} {y : Bool × Bool} {cs : List Value} (h : KBools.K w y cs) : cs = [.bool y.1, .bool y.2] := by
  obtain ⟨x0, x1, rfl, h0, h1⟩ := h
  rw [bool_form h0, bool_form h1]; rfl
theorem size_form {w : World} {y : Int × Int × Int × Int} {cs : List Value} (h : KSize.K w y cs) : cs = [.int .i64 y.1, .int .i64 y.2.1, .int .i64 y.2.2.1, .int .i64 y.2.2.2] := by
  obtain ⟨x0, x1, rfl, h0, x2, x3, rfl, h1, x4, x5, rfl, h2, h3⟩ := h
  rw [int_form h0, int_form h1, int_form h2, int_form h3]; rfl
theorem four_form {w : World} {y : Int × Int × Int × Int} {cs : List Value} (h : K4.K w y cs) : cs = [.int .u16 y.1, .int .u16 y.2.1, .int .u16 y.2.2.1, .int .u16 y.2.2.2] := by
  obtain ⟨x0, x1, rfl, h0, x2, x3, rfl, h1, x4, x5, rfl, h2, h3⟩ := h
  rw [int_form h0, int_form h1, int_form h2, int_form h3]; rfl
end Go.Proofs.Ytjohdkbciafpfaa.St03
end
section
/- Chapter 06: what the arguments read as. -/
namespace Go.Proofs.Ytjohdkbciafpfaa.Vm6
open Go.RowKit Go.Proofs.YtjohdkbciafpfaaW.PrintWords Go.Proofs.YtjohdkbciafpfaaW.PrintMore Go.Proofs.YtjohdkbciafpfaaW.PrintLast Go.Proofs.Ytjohdkbciafpfaa.Evt Go.Proofs.Ytjohdkbciafpfaa.Open Go.Proofs.Ytjohdkbciafpfaa.Impl
set_option linter.unusedVariables false
abbrev I64 (n : Int) : Prop := (Lit.int .i64 n).wf = true
theorem opens_26 (w : World) : Opens Try.prog w 26 k26 (fun y => I64 y.f0 ∧ I64 y.f1) := (St03.opens_Addr w).iso_ (fun x : S26 => (x.f0, x.f1)) (fun p => ⟨p.1, p.2⟩) (fun _ => rfl)
theorem opens_66 (w : World) : Opens Try.prog w 66 k66 (fun y => I64 y.f0 ∧ (I64 y.f1.f0 ∧ I64 y.f1.f1) ∧ I64 y.f2) :=
  (opens_struct3 Try.underlying66 rfl rfl rfl (by kernel_rfl) (by kernel_rfl) (by kernel_rfl) (by kernel_rfl) (opens_int Try.underlying3) (opens_26 w) (opens_int Try.underlying3)).iso_ (fun x : S66 => (x.f0, x.f1, x.f2)) (fun p => ⟨p.1, p.2.1, p.2.2⟩) (fun _ => rfl)
theorem opens_code (w : World) : Opens Try.prog w 57 (Kd.slice 66 k66) (SlQ fun y => I64 y.f0 ∧ (I64 y.f1.f0 ∧ I64 y.f1.f1) ∧ I64 y.f2) := opens_slice Try.underlying57 (by kernel_rfl) (opens_66 w)
theorem WfC.sl {l : List S66} (h : SlQ (fun y : S66 => I64 y.f0 ∧ (I64 y.f1.f0 ∧ I64 y.f1.f1) ∧ I64 y.f2) l) : WfC l := fun i hi => by
  unfold rd_T66
  rw [Int.toNat_natCast, List.getD_eq_getElem?_getD, List.getElem?_eq_getElem hi]
  exact (h.2 _ (List.getElem_mem hi)).1
end Go.Proofs.Ytjohdkbciafpfaa.Vm6
end
