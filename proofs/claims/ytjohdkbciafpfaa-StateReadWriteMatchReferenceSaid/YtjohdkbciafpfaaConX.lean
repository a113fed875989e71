/- Chapter 03: the reference's Read and Write. -/
import Derived.Test.YtjohdkbciafpfaaConK
import Derived.Test.YtjohdkbciafpfaaImpl8
import Derived.Test.YtjohdkbciafpfaaImpl10
namespace Go.Proofs.Ytjohdkbciafpfaa.St03
open Go.RowKit Go.Proofs.YtjohdkbciafpfaaW.PrintWords Go.Proofs.YtjohdkbciafpfaaW.PrintMore Go.Proofs.YtjohdkbciafpfaaW.PrintLast Go.Proofs.Ytjohdkbciafpfaa.Chg Go.Proofs.Ytjohdkbciafpfaa.Evt Go.Proofs.Ytjohdkbciafpfaa.Impl Go.Proofs.Ytjohdkbciafpfaa.Pimg
set_option linter.unusedVariables false
set_option linter.unusedSimpArgs false
theorem readR (l l0 l1 l2 : List Bool) (s n : Int) : busbarref03_Read.f l l0 l1 l2 s n = some (rdv l l0 l1 s n) := by
  have hh : ∀ l : List Bool, (if n < 0 then (some (false, 3)) else (if n ≥ (l.length : Int) then (some (false, 3)) else (if 0 ≤ n then (if n < (l.length : Int) then (some (rdOf false l n, 0)) else (none)) else (none)))) = some (if 0 ≤ n ∧ n < l.length then (rdOf false l n, (0 : Int)) else (false, 3)) := by
    intro l
    by_cases h : 0 ≤ n ∧ n < l.length
    · rw [if_pos h, if_neg (by omega), if_neg (by omega), if_pos (by omega), if_pos (by omega)]
    · rw [if_neg h]
      by_cases h1 : n < 0
      · rw [if_pos h1]
      · rw [if_neg h1, if_pos (by omega)]
  unfold busbarref03_Read.f rdv
  rw [hh, hh, hh]
  by_cases h0 : s = 0
  · rw [if_pos h0, if_pos h0]
  · rw [if_neg h0, if_neg h0]
    by_cases h1 : s = 1
    · rw [if_pos h1, if_pos h1]
    · rw [if_neg h1, if_neg h1]
      by_cases h2 : s = 2
      · rw [if_pos h2, if_pos h2]
      · rw [if_neg h2, if_neg h2]
theorem writeR (l0 l1 l2 : List Bool) (s n : Int) (v : Bool) (h0 : l0.length ≤ 20000) (h1 : l1.length ≤ 20000) (h2 : l2.length ≤ 20000) : busbarref03_Write.f l0 l1 l2 s n v = some (wrv l0 l1 l2 s n v) := by
  unfold busbarref03_Write.f wrv
  rw [cloneR l0 l1 l2 h0 h1 h2, Option.bind_some]
  by_cases c1 : s = 1
  · rw [if_pos c1, if_pos c1]
    by_cases c : 0 ≤ n ∧ n < l0.length
    · rw [if_pos c, if_neg (by omega), if_neg (by simp only; omega), if_pos (by omega), if_pos (by simp only; omega)]
    · rw [if_neg c]
      by_cases h1 : n < 0
      · rw [if_pos h1]
      · rw [if_neg h1, if_pos (by simp only; omega)]
  · rw [if_neg c1, if_neg c1]
    by_cases c2 : s = 2
    · rw [if_pos c2, if_pos c2]
      by_cases c : 0 ≤ n ∧ n < l1.length
      · rw [if_pos c, if_neg (by omega), if_neg (by simp only; omega), if_pos (by omega), if_pos (by simp only; omega)]
      · rw [if_neg c]
        by_cases h1 : n < 0
        · rw [if_pos h1]
        · rw [if_neg h1, if_pos (by simp only; omega)]
    · rw [if_neg c2, if_neg c2]
section
variable {A A0 A1 A2 B0 B1 B2 : Option Addr} {c c0 c1 c2 d0 d1 d2 : Nat} {l l0 l1 l2 m0 m1 m2 : List Bool} {w w' : World}
theorem readRC (s n : Int) (h : Rw Kd.bool w A c l) (h' : Sb w A0 c0 A1 c1 A2 c2 l0 l1 l2) :
    Calls Try.prog 19 #[.slice A l.length c, .agg #[.slice A0 l0.length c0, .slice A1 l1.length c1, .slice A2 l2.length c2], .agg #[.int .i64 s, .int .i64 n]] w fun x w' => x = .returned (.tuple #[.bool (rdv l l0 l1 s n).1, .int .i64 (rdv l l0 l1 s n).2]) ∧ Below w.heap.size w w' :=
  busbarref03_Read.calls _ _ l _ _ l0 _ _ l1 _ _ l2 s n _ _ w h.row h.cap h'.sr.r0.row h'.sr.r0.cap h'.sr.r1.row h'.sr.r1.cap h'.sr.r2.row h'.sr.r2.cap (readR l l0 l1 l2 s n)
theorem writeRC (s n : Int) (v : Bool) (h : Sb w A0 c0 A1 c1 A2 c2 l0 l1 l2) {r0 r1 r2 : List Bool} {e : Int} (hr : wrv l0 l1 l2 s n v = (r0, r1, r2, e)) : Calls Try.prog 21 #[.agg #[.slice A0 l0.length c0, .slice A1 l1.length c1, .slice A2 l2.length c2], .agg #[.int .i64 s, .int .i64 n], .bool v] w fun x w' => Gives w x w' r0 r1 r2 e :=
  (busbarref03_Write.calls _ _ l0 _ _ l1 _ _ l2 s n v r0 r1 r2 e w h.sr.r0.row h.sr.r0.cap h.sr.r1.row h.sr.r1.cap h.sr.r2.row h.sr.r2.cap (by rw [writeR l0 l1 l2 s n v h.b0 h.b1 h.b2, hr])).mono fun x w' ⟨v0, v1, v2, hx, q0, q1, q2, hb⟩ => by
    have ho : Own3 w' w.heap.size v0 v1 v2 _ _ _ := ⟨q0, q1, q2⟩
    obtain ⟨X0, x0, X1, x1, X2, x2, rfl, rfl, rfl⟩ := ho.form
    exact ⟨_, _, _, _, _, _, hx, ho, hb⟩
end
end Go.Proofs.Ytjohdkbciafpfaa.St03
