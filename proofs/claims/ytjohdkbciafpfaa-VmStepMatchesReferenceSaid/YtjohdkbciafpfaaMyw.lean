/- Laws that the walks of this seat lack: copy into a row of one's own. -/
import Derived.Test.YtjohdkbciafpfaaWm
import Derived.Laws.CopyOwn
namespace Go.Proofs.Ytjohdkbciafpfaa.Myw
open Go.RowKit Go.Proofs.YtjohdkbciafpfaaW.PrintWords Go.Proofs.YtjohdkbciafpfaaW.PrintMore Go.Proofs.YtjohdkbciafpfaaW.PrintLast
section
variable {P : Program} {ops : Array Oper} {rest : List Oper} {o : Oper} {a : Act} {Q : Exit → Act → World → Prop}
theorem encs_read {α : Type} {enc : α → Value} {h1 : ∀ x, (enc x).oneCell' = true} {w : World} {A : Option Addr} {l : List α} (h : (Kd.scalar enc h1).C w A l.length l) (hp : 0 < l.length) :
    ∃ ad, A = some ad ∧ ∀ j v, (encs enc l)[j]? = some v → w.cell? (ad.add j) = some v := by
  obtain ⟨ad, rfl, hc⟩ := h.2.2 hp
  refine ⟨ad, rfl, fun j v hj => ?_⟩
  unfold encs at hj
  rw [List.getElem?_map, Option.map_eq_some_iff] at hj
  obtain ⟨x, hx, rfl⟩ := hj
  obtain ⟨c, hl, hK, hcell⟩ := hc j x hx
  have hK' : c = [enc x] := hK
  subst hK'
  have := hcell 0 (enc x) rfl
  have e : j * (Kd.scalar enc h1).sz + 0 = j := by show j * 1 + 0 = j; omega
  rw [e] at this
  exact this
/-- copy(v, l): v a row of one's own, as long as l, which is not empty. -/
theorem copy_full {α : Type} {enc : α → Value} {h1 : ∀ x, (enc x).oneCell' = true} {e base : Nat} {w0 W : World} {ok : Nat → Prop} (hgd : o.guard = none) (d s : Operand) (dT sT : TypeId)
    (ho : o.op = .call { callee := .builtin .copy, args := #[d, s], argTypes := #[dT, sT] }) (hu : P.underlying dT = some (.slice e)) (hsz : (P.info? e).map (·.size) = some 1)
    (v : Value) (A : Option Addr) (c : Nat) (xs l : List α) (hd : a.eval d = v) (hs : a.eval s = .slice A l.length c) (hlen : xs.length = l.length) (hpos : 0 < l.length)
    (HO : (Kd.scalar enc h1).R e W base ok v xs) (HC : (Kd.scalar enc h1).C W A l.length l) (HB : Below base w0 W)
    (h : ∀ w', (Kd.scalar enc h1).R e w' base ok v l → Below base w0 w' → wpList P ops Q rest (a.put o.dst (goInt l.length)) w') : wpList P ops Q (o :: rest) a W := by
  have hok := HO.1
  have hown := Kd.own_of_R HO
  obtain ⟨ad, rfl, hcell⟩ := encs_read HC hpos
  rcases hown.2 with ⟨_, h0⟩ | ⟨g, cap, cur, rfl, hg, hh, hn, hcap, hcs, hcur⟩
  · omega
  · have hle : (encs enc l).length = l.length := by simp [encs]
    refine wpList_copy_splice hgd d s dT sT ho e hu hsz (some ⟨g, 0, none⟩) (some ad) xs.length cap l.length c hd hs g 0 cur.toList e (by simpa using hh) (encs enc l) (by rw [hle, hlen]; exact (Nat.min_self _).symm) (fun _ => ⟨rfl, ad, rfl, hcell⟩) (by have := Array.length_toList (xs := cur); omega) ?_ base w0 HB hg ?_
    · intro u hu
      unfold encs at hu
      obtain ⟨x, _, rfl⟩ := List.mem_map.1 hu
      exact h1 x
    · intro w' hw' hb'
      rw [hle]
      refine h w' (Kd.R_of_own ⟨by rw [hle, Nat.mul_one], .inr ⟨g, cap, _, by rw [hlen], hg, hw', by omega, hcap, ?_, ?_⟩⟩ hok) hb'
      · rw [List.size_toArray, length_splice _ _ _ (by have := Array.length_toList (xs := cur); omega), Array.length_toList, hcs]
      · unfold splice
        rw [List.take_zero, List.nil_append, Nat.mul_one]
        rw [List.take_append_of_le_length (by omega), List.take_of_length_le (by omega)]
end
end Go.Proofs.Ytjohdkbciafpfaa.Myw
