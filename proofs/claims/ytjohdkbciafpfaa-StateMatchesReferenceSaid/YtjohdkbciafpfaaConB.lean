/- Chapter 03: the reference's New, Fits, Format. -/
import Derived.Test.YtjohdkbciafpfaaConA
import Derived.Test.YtjohdkbciafpfaaImpl14
import Derived.Test.YtjohdkbciafpfaaImpl15
import Derived.Test.YtjohdkbciafpfaaImpl17
namespace Go.Proofs.Ytjohdkbciafpfaa.St03
open Go.RowKit Go.Proofs.YtjohdkbciafpfaaW.PrintWords Go.Proofs.YtjohdkbciafpfaaW.PrintMore Go.Proofs.YtjohdkbciafpfaaW.PrintLast Go.Proofs.Ytjohdkbciafpfaa.Chg Go.Proofs.Ytjohdkbciafpfaa.Evt Go.Proofs.Ytjohdkbciafpfaa.Impl Go.Proofs.Ytjohdkbciafpfaa.Pimg
set_option linter.unusedVariables false
set_option linter.unusedSimpArgs false
theorem chkR (i q m e : Int) : busbarref01_CheckSize.f i q m e = some (szv i q m e) := by
  unfold busbarref01_CheckSize.f szv
  by_cases h : (0 ≤ i ∧ i ≤ 256) ∧ (0 ≤ q ∧ q ≤ 256) ∧ (0 ≤ m ∧ m ≤ 256) ∧ 0 ≤ e ∧ e ≤ 16384
  · rw [if_pos h, if_neg (by omega), if_neg (by omega), if_neg (by omega), if_neg (by omega), if_neg (by omega), if_neg (by omega), if_neg (by omega), if_neg (by omega)]
  · rw [if_neg h]
    repeat (first | rfl | (split; · rfl))
    omega
theorem newR (i q m e : Int) : busbarref03_New.f i q m e = some (nwv (szv i q m e) q, nwv (szv i q m e) m, nwv (szv i q m e) e, szv i q m e) := by
  unfold busbarref03_New.f
  rw [chkR, Option.bind_some]
  by_cases hz : szv i q m e = 0
  · have := szv0 hz
    rw [if_pos hz, if_pos (by omega), if_pos (by omega), if_pos (by omega), if_pos (by omega), if_pos (by omega), if_pos (by omega), hz]
    simp [nwv]
  · rw [if_neg hz]; simp [nwv, hz]
theorem fitsR (i q m e : Int) (l0 l1 l2 : List Bool) : busbarref03_Fits.f i q m e l0 l1 l2 = some (ftv i q m e l0.length l1.length l2.length) := by
  unfold busbarref03_Fits.f
  rw [chkR, Option.bind_some]
  unfold ftv
  by_cases h0 : szv i q m e = 0 <;> by_cases h1 : (l0.length : Int) = q <;> by_cases h2 : (l1.length : Int) = m <;> by_cases h3 : (l2.length : Int) = e <;> simp [h0, h1, h2, h3]
theorem formatR (l0 l1 l2 : List Bool) (h0 : l0.length ≤ 20000) (h1 : l1.length ≤ 20000) (h2 : l2.length ≤ 20000) : Ev (fun k => busbarref03_Format.f k l0 l1 l2) (fm3 l0 l1 l2) := by
  have s0 := fmtB_size l0 h0
  have s1 := fmtB_size l1 h1
  have s2 := fmtB_size l2 h2
  have hz : ((⟨#[32]⟩ : ByteArray)).size = 1 := rfl
  refine Ev.bind (refFormat_ev l0 (by omega)) ?_
  refine Ev.congr (fun k => if_pos (by omega)) ?_
  refine Ev.bind (refFormat_ev l1 (by omega)) ?_
  refine Ev.congr (fun k => (if_pos (by rw [ByteArray.size_append, hz]; omega)).trans (if_pos (by rw [ByteArray.size_append, ByteArray.size_append, hz]; omega))) ?_
  refine Ev.bind (refFormat_ev l2 (by omega)) ?_
  refine Ev.congr (fun k => if_pos (by rw [ByteArray.size_append, ByteArray.size_append, ByteArray.size_append, hz]; omega)) ?_
  exact Ev.now _
section
variable {A A0 A1 A2 B0 B1 B2 : Option Addr} {c c0 c1 c2 d0 d1 d2 : Nat} {l l0 l1 l2 m0 m1 m2 : List Bool} {w w' : World}
theorem formatRC (h : Sb w A0 c0 A1 c1 A2 c2 l0 l1 l2) :
    Calls Try.prog 31 #[.agg #[.slice A0 l0.length c0, .slice A1 l1.length c1, .slice A2 l2.length c2]] w fun e w' => e = .returned (.string (fm3 l0 l1 l2)) ∧ Below w.heap.size w w' := by
  obtain ⟨k, e⟩ := (formatR l0 l1 l2 h.b0 h.b1 h.b2).rounds
  exact busbarref03_Format.calls k _ _ l0 _ _ l1 _ _ l2 _ w h.sr.r0.row h.sr.r0.cap h.sr.r1.row h.sr.r1.cap h.sr.r2.row h.sr.r2.cap e
theorem fitsRC (i q m e : Int) (h : Sb w A0 c0 A1 c1 A2 c2 l0 l1 l2) :
    Calls Try.prog 28 #[.agg #[.int .i64 i, .int .i64 q, .int .i64 m, .int .i64 e], .agg #[.slice A0 l0.length c0, .slice A1 l1.length c1, .slice A2 l2.length c2]] w fun x w' => x = .returned (.bool (ftv i q m e l0.length l1.length l2.length)) ∧ Below w.heap.size w w' :=
  busbarref03_Fits.calls i q m e _ _ l0 _ _ l1 _ _ l2 _ w h.sr.r0.row h.sr.r0.cap h.sr.r1.row h.sr.r1.cap h.sr.r2.row h.sr.r2.cap (fitsR i q m e l0 l1 l2)
theorem newRC (i q m e : Int) : Calls Try.prog 27 #[.agg #[.int .i64 i, .int .i64 q, .int .i64 m, .int .i64 e]] w fun x w' => Gives w x w' (nwv (szv i q m e) q) (nwv (szv i q m e) m) (nwv (szv i q m e) e) (szv i q m e) :=
  (busbarref03_New.calls i q m e _ _ _ _ w (newR i q m e)).mono fun x w' ⟨v0, v1, v2, hx, q0, q1, q2, hb⟩ => by
    have ho : Own3 w' w.heap.size v0 v1 v2 _ _ _ := ⟨q0, q1, q2⟩
    obtain ⟨X0, x0, X1, x1, X2, x2, rfl, rfl, rfl⟩ := ho.form
    exact ⟨_, _, _, _, _, _, hx, ho, hb⟩
theorem formatRC' {t : ByteArray} (hr : fm3 l0 l1 l2 = t) (h : Sb w A0 c0 A1 c1 A2 c2 l0 l1 l2) : Calls Try.prog 31 #[.agg #[.slice A0 l0.length c0, .slice A1 l1.length c1, .slice A2 l2.length c2]] w fun e w' => e = .returned (.string t) ∧ Below w.heap.size w w' := by subst hr; exact formatRC h
theorem fitsRC' {i q m e : Int} {r : Bool} (hr : ftv i q m e l0.length l1.length l2.length = r) (h : Sb w A0 c0 A1 c1 A2 c2 l0 l1 l2) : Calls Try.prog 28 #[.agg #[.int .i64 i, .int .i64 q, .int .i64 m, .int .i64 e], .agg #[.slice A0 l0.length c0, .slice A1 l1.length c1, .slice A2 l2.length c2]] w fun x w' => x = .returned (.bool r) ∧ Below w.heap.size w w' := by subst hr; exact fitsRC i q m e h
end
end Go.Proofs.Ytjohdkbciafpfaa.St03
