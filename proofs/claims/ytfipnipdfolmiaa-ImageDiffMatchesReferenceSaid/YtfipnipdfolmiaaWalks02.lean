/- The laws of chapter 2, walked: from the printed contracts and the plain laws. -/
import Derived.Test.YtfipnipdfolmiaaPlaw
import Derived.Test.YtfipnipdfolmiaaOpen
namespace Go.Proofs.Ytfipnipdfolmiaa.Walks02
open Go.RowKit Go.Proofs.YtfipnipdfolmiaaW.PrintWords Go.Proofs.YtfipnipdfolmiaaW.PrintMore Go.Proofs.Ytfipnipdfolmiaa.Open Go.Proofs.Ytfipnipdfolmiaa.Impl
set_option linter.unusedVariables false
theorem conc (w : World) (A0 : Option Addr) (c0 : Nat) (l0 : List Bool) (w0 : l0.length ≤ c0) (y0 : Kd.bool.C w A0 l0.length l0) (z0 : SlQ (fun _ => True) l0)
    (A1 : Option Addr) (c1 : Nat) (l1 : List Bool) (w1 : l1.length ≤ c1) (y1 : Kd.bool.C w A1 l1.length l1) (z1 : SlQ (fun _ => True) l1) :
    Calls Try.prog 3 #[.slice A0 l0.length c0, .slice A1 l1.length c1] w fun e w' => e = .returned (.bool true) ∧ Below w.heap.size w w' := by
  obtain ⟨k, h⟩ := Plaw.conc l0 l1 z0.1 z1.1
  exact busbarlaw02_ImageConcatenation.calls k A0 c0 l0 A1 c1 l1 true w y0 w0 y1 w1 h
theorem fmr (w : World) (A0 : Option Addr) (c0 : Nat) (l0 : List Bool) (w0 : l0.length ≤ c0) (y0 : Kd.bool.C w A0 l0.length l0) (z0 : SlQ (fun _ => True) l0) (s : ByteArray) (hs : s.size ≤ maxLen) :
    Calls Try.prog 5 #[.slice A0 l0.length c0, .string s] w fun e w' => e = .returned (.bool true) ∧ Below w.heap.size w w' := by
  obtain ⟨k, h⟩ := Plaw.fmr l0 s
  exact busbarlaw02_ImageFormatMatchesReference.calls k A0 c0 l0 s true w y0 w0 h
theorem dmr (w : World) (A0 : Option Addr) (c0 : Nat) (l0 : List Bool) (w0 : l0.length ≤ c0) (y0 : Kd.bool.C w A0 l0.length l0) (z0 : SlQ (fun _ => True) l0)
    (A1 : Option Addr) (c1 : Nat) (l1 : List Bool) (w1 : l1.length ≤ c1) (y1 : Kd.bool.C w A1 l1.length l1) (z1 : SlQ (fun _ => True) l1) :
    Calls Try.prog 6 #[.slice A0 l0.length c0, .slice A1 l1.length c1] w fun e w' => e = .returned (.bool true) ∧ Below w.heap.size w w' := by
  obtain ⟨k, h⟩ := Plaw.dmr l0 l1
  exact busbarlaw02_ImageDiffMatchesReference.calls k A0 c0 l0 A1 c1 l1 true w y0 w0 y1 w1 h
theorem gs (w : World) (A0 : Option Addr) (c0 : Nat) (l0 : List Bool) (w0 : l0.length ≤ c0) (y0 : Kd.bool.C w A0 l0.length l0) (z0 : SlQ (fun _ => True) l0) (n : Int) (hn : (Lit.int .i64 n).wf = true) (v : Bool) :
    Calls Try.prog 4 #[.slice A0 l0.length c0, .int .i64 n, .bool v] w fun e w' => e = .returned (.bool true) ∧ Below w.heap.size w w' := by
  obtain ⟨k, h⟩ := Plaw.gs l0 n v
  exact busbarlaw02_ImageGetSet.calls k A0 c0 l0 n v true w y0 w0 h
theorem sc (w : World) (A0 : Option Addr) (c0 : Nat) (l0 : List Bool) (w0 : l0.length ≤ c0) (y0 : Kd.bool.C w A0 l0.length l0) (z0 : SlQ (fun _ => True) l0) (n : Int) (hn : (Lit.int .u16 n).wf = true) (v : Bool) :
    Calls Try.prog 7 #[.slice A0 l0.length c0, .int .u16 n, .bool v] w fun e w' => e = .returned (.bool true) ∧ Below w.heap.size w w' := by
  have hb : 0 ≤ n ∧ n ≤ 65535 := by
    simp [Lit.wf, IntKind.min, IntKind.max, IntKind.signed, IntKind.bits] at hn
    omega
  obtain ⟨k, h⟩ := Plaw.sc l0 n v hb.1 hb.2
  exact busbarlaw02_ImageSetChangesOneBit.calls k A0 c0 l0 n v true w y0 w0 h
end Go.Proofs.Ytfipnipdfolmiaa.Walks02
