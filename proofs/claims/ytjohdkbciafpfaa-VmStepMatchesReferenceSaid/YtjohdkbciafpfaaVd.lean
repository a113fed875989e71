/- Chapter 06: the table of bound methods: a map from opcodes to function values; does, walked. -/
import Derived.Test.YtjohdkbciafpfaaVm
import Derived.Test.YtjohdkbciafpfaaOl
import Derived.Maps.OwnSet
namespace Go.Proofs.Ytjohdkbciafpfaa.Vm6
open Go.RowKit Go.Maps Go.Proofs.YtjohdkbciafpfaaW.PrintWords Go.Proofs.YtjohdkbciafpfaaW.PrintMore Go.Proofs.YtjohdkbciafpfaaW.PrintLast Go.Proofs.Ytjohdkbciafpfaa.Chg Go.Proofs.Ytjohdkbciafpfaa.Evt
set_option linter.unusedVariables false
set_option linter.unusedSimpArgs false
set_option maxRecDepth 100000
/-- A method bound to the machine gm reads as its number. -/
def RF (gm : Nat) (v : Value) : Option (DataW Unit × List MemPlace) :=
  match v with
  | .func (.func f) ⟨[.pointer (some ⟨g, 0, none⟩)]⟩ ⟨[]⟩ => if g = gm then some (.lit (.int .i64 f), []) else none
  | .nilFunc => some (.lit (.int .i64 (-1)), [])
  | _ => none
theorem RF_fun (gm f : Nat) : RF gm (.func (.func f) #[.pointer (some ⟨gm, 0, none⟩)] #[]) = some (.lit (.int .i64 f), []) := if_pos rfl
theorem RF_inv {gm : Nat} {v : Value} {n : Int} {ps : List MemPlace} (h : RF gm v = some (.lit (.int .i64 n), ps)) (hn : 0 ≤ n) : v = .func (.func n.toNat) #[.pointer (some ⟨gm, 0, none⟩)] #[] := by
  unfold RF at h
  split at h
  · split at h
    · rename_i f g e
      subst e
      injection h with h
      injection h with h _
      injection h with h
      injection h with _ h
      subst h
      rw [Int.toNat_natCast]
    · cases h
  · injection h with h
    injection h with h _
    injection h with h
    injection h with _ h
    omega
  · cases h
theorem RF_nil {gm : Nat} {v : Value} {ps : List MemPlace} (h : RF gm v = some (.lit (.int .i64 (-1)), ps)) : v = .nilFunc := by
  unfold RF at h
  split at h
  · split at h
    · injection h with h
      injection h with h _
      injection h with h
      injection h with _ h
      omega
    · cases h
  · rfl
  · cases h
theorem lawI : Keyed Try.prog 3 := int_keyed Try.underlying3
theorem zeroF (w : World) : (zeroValue 102).run Try.prog w = .ok .nilFunc w := by kernel_rfl
/-- Block b is a table: at k it holds the method p k. -/
def MF (gm : Nat) (w : World) (b n : Nat) (p : Int → Option Nat) : Prop :=
  ∃ D : DataW Unit, w.ownsMap Try.prog 3 (RF gm) b n D ∧ ∀ k : Int, (Lit.int .i64 k).wf = true → D.atKey (.int .i64 k) (.lit (.int .i64 (-1))) = .lit (.int .i64 (match p k with | some f => (f : Int) | none => -1)) ∧ Maps.has D (.int .i64 k) = (p k).isSome
section
variable {gm b n : Nat} {w w' : World} {p : Int → Option Nat}
theorem MF.lt (h : MF gm w b n p) : b < w.heap.size := by obtain ⟨D, h, _⟩ := h; exact h.lt
theorem MF.heap (h : MF gm w b n p) (e : w'.heap[b]? = w.heap[b]?) : MF gm w' b n p := by
  obtain ⟨D, ⟨es, clock, hb, r⟩, k⟩ := h
  exact ⟨D, ⟨es, clock, e.trans hb, r⟩, k⟩
theorem MF.below (h : MF gm w b n p) (hb : Below w.heap.size w w') : MF gm w' b n p := h.heap (hb.block b h.lt)
theorem MF.made (gm : Nat) (w : World) : MF gm (w.alloc (.map #[] 0)) w.heap.size 0 (fun _ => none) := ⟨.map [], World.ownsMap_made _ _ _ _, fun s _ => ⟨rfl, rfl⟩⟩
theorem kI_lit {k : Int} (hk : (Lit.int .i64 k).wf = true) : WideAt.IsKeyLit (.int .i64 k) := lawI.key (keyOf_int_mk Try.underlying3 hk)
theorem kI_ne {k j : Int} (h : k ≠ j) : Lit.int .i64 k ≠ Lit.int .i64 j := fun e => h (by injection e)
theorem MF.put (h : MF gm w b n p) (hn : n < maxLen) {k : Int} (hk : (Lit.int .i64 k).wf = true) (f : Nat) : ∃ w', (Instr.mapUpdate 104 (.map (some b)) (.int .i64 k) (.func (.func f) #[.pointer (some ⟨gm, 0, none⟩)] #[])).run Try.prog w = .ok () w' ∧ MF gm w' b (n + 1) (fun x => if x = k then some f else p x) ∧ w.grownBy w' (some b) := by
  obtain ⟨D, ho, hh⟩ := h
  obtain ⟨w', hr, ho', hg⟩ := ho.update lawI Try.underlying104 hn (keyOf_int_mk Try.underlying3 hk) (RF_fun gm f)
  refine ⟨w', hr, ⟨_, ho', fun x hx => ?_⟩, hg⟩
  dsimp only
  by_cases e : x = k
  · subst e
    rw [if_pos rfl, Maps.atKey_put_same ho.isMap (kI_lit hk), Maps.has_put_same ho.isMap (kI_lit hk)]
    exact ⟨rfl, rfl⟩
  · rw [if_neg e, Maps.atKey_put_other (kI_ne e), Maps.has_put_other (kI_ne e)]
    exact hh x hx
theorem MF.look (h : MF gm w b n p) {k : Int} (hk : (Lit.int .i64 k).wf = true) : (Instr.lookup 104 (.map (some b)) (.int .i64 k) true).run Try.prog w = .ok (.tuple #[match p k with | some f => .func (.func f) #[.pointer (some ⟨gm, 0, none⟩)] #[] | none => .nilFunc, .bool (p k).isSome]) w := by
  obtain ⟨D, ho, hh⟩ := h
  obtain ⟨v, ps, hr, hv⟩ := ho.look_ok lawI Try.underlying104 (zeroF w) (show RF gm .nilFunc = some (.lit (.int .i64 (-1)), []) from rfl) (keyOf_int_mk Try.underlying3 hk)
  rw [(hh k hk).1] at hv
  rw [hr, (hh k hk).2]
  cases e : p k with
  | none =>
    rw [e] at hv
    rw [RF_nil hv]
  | some f =>
    rw [e] at hv
    rw [RF_inv hv (Int.natCast_nonneg f), Int.toNat_natCast]
end
section
variable {ops : Array Oper} {rest : List Oper} {o : Oper} {a : Act} {Q : Exit → Act → World → Prop} {W : World} {gm : Nat}
theorem mkF_ev (hgd : o.guard = none) {N : Tmp} (_hd : o.dst = some N) (hop : o.op = .makeMap 104 none)
    (h : ∀ b, b = W.heap.size → ∀ w1, MF gm w1 b 0 (fun _ => none) → Below W.heap.size W w1 → wpList Try.prog ops Q rest (a.put o.dst (.map (some b))) w1) : wpList Try.prog ops Q (o :: rest) a W := by
  have hrun : (execOp a.eval o).run Try.prog W = .ok (.value (.map (some W.heap.size))) (W.alloc (.map #[] 0)) := by
    have := @run_makeMap Try.prog 104 W
    simp [execOp, hop, this, Result.andThen]
  exact Kd.event_run hgd hrun (h _ rfl _ (MF.made gm W) (below_alloc (Below.refl _ _) _))
theorem putF_ev (hgd : o.guard = none) {m x y : Operand} (hop : o.op = .insert 104 m x y) {b n f : Nat} {p : Int → Option Nat} {k : Int} (hm : a.eval m = .map (some b)) (hx : a.eval x = .int .i64 k) (hy : a.eval y = .func (.func f) #[.pointer (some ⟨gm, 0, none⟩)] #[]) (hk : (Lit.int .i64 k).wf = true) (hn : n < maxLen) (H : MF gm W b n p)
    (h : ∀ w1, MF gm w1 b (n + 1) (fun x => if x = k then some f else p x) → W.grownBy w1 (some b) → wpList Try.prog ops Q rest (a.put o.dst undef) w1) : wpList Try.prog ops Q (o :: rest) a W := by
  obtain ⟨w1, hr, hb, hg⟩ := H.put hn hk f
  have hrun : (execOp a.eval o).run Try.prog W = .ok .skip w1 := by
    simp [execOp, hop, hm, hx, hy, hr, Result.andThen]
  exact skip_ev hgd hrun (h w1 hb hg)
end
/-- The method of an opcode. -/
def fop (k : Int) : Option Nat :=
  if 0 ≤ k ∧ k ≤ 5 then some 62 else if k = 6 ∨ k = 7 then some 63 else if k = 8 then some 64 else if k = 9 ∨ k = 10 then some 65
  else if 11 ≤ k ∧ k ≤ 14 then some 66 else if k = 15 then some 67 else if k = 16 then some 68 else none
set_option maxHeartbeats 8000000 in
theorem does_any (w : World) (gm : Nat) : Calls Try.prog 56 #[.pointer (some ⟨gm, 0, none⟩)] w fun x w' => ∃ b n p, x = .returned (.map (some b)) ∧ MF gm w' b n p ∧ p = fop ∧ Below w.heap.size w w' := by
  have HB := Aside0.mk (Below.refl w.heap.size w)
  go_enter Try.func56, Try.ntmps56
  go_wp2_with (first | (refine Vm6.mkF_ev (gm := gm) rfl (N := 3) rfl rfl ?_; intro b3 hb_ w1 hM_ hb; have MM := Aside0.mk hM_; have GE := Aside0.mk (show w.heap.size ≤ b3 from by rw [hb_]; exact HB.out.size); have HB_ := Aside0.mk (below_step HB.out hb); clear HB hM_ hb_ hb; have HB := HB_; clear HB_) | (refine Vm6.putF_ev rfl rfl rfl rfl rfl (by decide) (by unfold maxLen; omega) MM.out ?_; intro wp_ hM_ hg_; have HB_ := Aside0.mk (HB.out.grown hg_ HB.out.size (fun k hk => by cases hk; exact GE.out)); have MM_ := Aside0.mk hM_; clear HB MM hM_ hg_; have HB := HB_; have MM := MM_; clear HB_ MM_))
  go_ret
  refine ⟨_, _, _, rfl, MM.out, ?_, HB.out⟩
  funext k
  unfold fop
  by_cases h : 0 ≤ k ∧ k ≤ 16
  · obtain ⟨j, rfl⟩ : ∃ j : Nat, k = j := ⟨k.toNat, by omega⟩
    have hj : j < 17 := by omega
    match j, hj with
    | 0, _ | 1, _ | 2, _ | 3, _ | 4, _ | 5, _ | 6, _ | 7, _ | 8, _ | 9, _ | 10, _ | 11, _ | 12, _ | 13, _ | 14, _ | 15, _ | 16, _ => rfl
  · repeat rw [if_neg (by omega)]
end Go.Proofs.Ytjohdkbciafpfaa.Vm6
