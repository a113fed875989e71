/- A rung of one's own (no coils) as an argument; the first cells of a row of strings. -/
import Derived.Test.YtmacdknicgfglaaGa
import Derived.Test.YtmacdknicgfglaaRv
namespace Go.Proofs.Ytmacdknicgfglaa.Gw
open Go.RowKit Go.Shelf Go.Proofs.YtmacdknicgfglaaW.PrintWords Go.Proofs.YtmacdknicgfglaaW.PrintMore Go.Proofs.YtmacdknicgfglaaW.PrintLast Go.Proofs.Ytmacdknicgfglaa.Chg Go.Proofs.Ytmacdknicgfglaa.Evt Go.Proofs.Ytmacdknicgfglaa.Impl Go.Proofs.Ytmacdknicgfglaa.Gp Go.Proofs.Ytmacdknicgfglaa.Mp
set_option linter.unusedVariables false
set_option linter.unusedSimpArgs false
theorem Rw.atS {w : World} {ad : Addr} {c : Nat} {l : List ByteArray} (h : Rw Kd.string w (some ad) c l) {j : Nat} (hj : j < l.length) : w.cell? (ad.add j) = some (.string l[j]) := by
  obtain ⟨ad', e, x⟩ := Kd.at_string h.row (j : Int) (by omega) (by omega)
  injection e with e
  subst e
  rw [Int.toNat_natCast, show rdOf ByteArray.empty l (j : Int) = l[j] by simp [rdOf, List.getD_eq_getElem?_getD, List.getElem?_eq_getElem hj]] at x
  exact x
theorem Rw.someS {w : World} {A : Option Addr} {c : Nat} {l : List ByteArray} (h : Rw Kd.string w A c l) (hj : 0 < l.length) : ∃ ad, A = some ad := by
  obtain ⟨ad, e, _⟩ := Kd.at_string h.row 0 (by omega) (by omega)
  exact ⟨ad, e⟩
theorem Rw.at0 {w : World} {ad : Addr} {c : Nat} {l : List ByteArray} (h : Rw Kd.string w (some ad) c l) (hj : 0 < l.length) : w.cell? ad = some (.string l[0]) := by
  have := Rw.atS h hj
  simpa [Addr.add] using this
theorem Rw.at1 {w : World} {ad : Addr} {c : Nat} {l : List ByteArray} (h : Rw Kd.string w (some ad) c l) (hj : 1 < l.length) : w.cell? { block := ad.block, off := ad.off + 1 } = some (.string l[1]) := by
  have := Rw.atS h hj
  simpa [Addr.add] using this
section
variable {A1 A2 : Option Addr} {c1 c2 : Nat} {l1 : List S41} {l2 : List S101} {a0 a3 s : ByteArray}
theorem reach_q (w : World) (h : Rg w A1 c1 l1 none 0 []) (hok : okG (es l1) = true) (n : ByteArray) : Calls Try.prog 27 #[.agg #[.string a0, .slice A1 l1.length c1, .slice none 0 0, .string a3], .string n] w fun e w' => ∃ v, e = .returned v ∧ Ro Kd.string 9 w w' v (reachL (es l1) n) ∧ Below w.heap.size w w' := reach_any (a0 := a0) (a3 := a3) (A1 := A1) (c1 := c1) (A2 := none) (c2 := 0) (l1 := l1) (l2 := []) w h hok n
theorem anc_q (w : World) (h : Rg w A1 c1 l1 none 0 []) (hok : okG (es l1) = true) (n : ByteArray) : Calls Try.prog 30 #[.agg #[.string a0, .slice A1 l1.length c1, .slice none 0 0, .string a3], .string n] w fun e w' => ∃ v, e = .returned v ∧ Ro Kd.string 9 w w' v (ancL (es l1) n) ∧ Below w.heap.size w w' := anc_any (a0 := a0) (a3 := a3) (A1 := A1) (c1 := c1) (A2 := none) (c2 := 0) (l1 := l1) (l2 := []) w h hok n
theorem topo_q (w : World) (h : Rg w A1 c1 l1 none 0 []) (hok : okG (es l1) = true) : Calls Try.prog 25 #[.agg #[.string a0, .slice A1 l1.length c1, .slice none 0 0, .string a3]] w fun e w' => ∃ v, e = .returned (.tuple #[v, .int .i64 (errT (topo (es l1)))]) ∧ Ro Kd.string 9 w w' v ((topo (es l1)).getD []) ∧ Below w.heap.size w w' := topo_any (a0 := a0) (a3 := a3) (A1 := A1) (c1 := c1) (A2 := none) (c2 := 0) (l1 := l1) (l2 := []) w h hok
theorem nodes_q (w : World) (h : Rg w A1 c1 l1 none 0 []) (hok : okG (es l1) = true) : Calls Try.prog 18 #[.agg #[.string a0, .slice A1 l1.length c1, .slice none 0 0, .string a3]] w fun e w' => ∃ v, e = .returned v ∧ Ro Kd.string 9 w w' v (nodesL (es l1)) ∧ Below w.heap.size w w' := nodes_any (a0 := a0) (a3 := a3) (A1 := A1) (c1 := c1) (A2 := none) (c2 := 0) (l1 := l1) (l2 := []) w h hok
theorem out_q (w : World) (h : Rg w A1 c1 l1 none 0 []) (hn : l1.length ≤ 1000) (n : ByteArray) : Calls Try.prog 21 #[.agg #[.string a0, .slice A1 l1.length c1, .slice none 0 0, .string a3], .string n] w fun e w' => ∃ v, e = .returned v ∧ Ro (Kd.int .i64) 3 w w' v (outL (es l1) n) ∧ Below w.heap.size w w' := outgoing_any (a0 := a0) (a3 := a3) (A1 := A1) (c1 := c1) (A2 := none) (c2 := 0) (l1 := l1) (l2 := []) w h hn n
theorem in_q (w : World) (h : Rg w A1 c1 l1 none 0 []) (hn : l1.length ≤ 1000) (n : ByteArray) : Calls Try.prog 23 #[.agg #[.string a0, .slice A1 l1.length c1, .slice none 0 0, .string a3], .string n] w fun e w' => ∃ v, e = .returned v ∧ Ro (Kd.int .i64) 3 w w' v (inL (es l1) n) ∧ Below w.heap.size w w' := incoming_any (a0 := a0) (a3 := a3) (A1 := A1) (c1 := c1) (A2 := none) (c2 := 0) (l1 := l1) (l2 := []) w h hn n
end
end Go.Proofs.Ytmacdknicgfglaa.Gw
