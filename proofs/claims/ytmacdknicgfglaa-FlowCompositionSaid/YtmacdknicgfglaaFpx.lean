/- Several texts of this session in one (join.py): Nm, Or6, Or7, Or8, Fp. -/
import Derived.Test.YtmacdknicgfglaaCmx
import Derived.Test.YtmacdknicgfglaaLw0
import Derived.Test.YtmacdknicgfglaaOr5
import Derived.Test.YtmacdknicgfglaaWApart
import Derived.Test.YtmacdknicgfglaaAl3
section
/- The closure that renames a node, walked. -/
namespace Go.Proofs.Ytmacdknicgfglaa.Gw
open Go.RowKit Go.Shelf Go.Proofs.YtmacdknicgfglaaW.PrintWords Go.Proofs.YtmacdknicgfglaaW.PrintMore Go.Proofs.YtmacdknicgfglaaW.PrintLast Go.Proofs.Ytmacdknicgfglaa.Chg Go.Proofs.Ytmacdknicgfglaa.Evt Go.Proofs.Ytmacdknicgfglaa.Impl Go.Proofs.Ytmacdknicgfglaa.Gp Go.Proofs.Ytmacdknicgfglaa.Mp Go.Proofs.Ytmacdknicgfglaa.Open
set_option linter.unusedVariables false
set_option linter.unusedSimpArgs false
set_option maxRecDepth 100000
set_option maxHeartbeats 1000000 in
theorem nm_any (w : World) (n own l r : ByteArray) (hs : own.size + n.size ≤ 1000000000) {z : ByteArray} (hz : nm own l r n = z) :
    Calls Try.prog 41 #[.string n, .string own, .string l, .string r] w fun e w' => e = .returned (.string z) ∧ Below w.heap.size w w' := by
  have HB := Aside0.mk (Below.refl w.heap.size w)
  by_cases h1 : n = sL
  · have q1 : (n.toList == ([76] : List UInt8)) = true := beq_iff_eq.mpr (by rw [h1]; decide +kernel)
    obtain rfl : l = z := by rw [h1, nm_L] at hz; exact hz
    clear h1 hz
    go_enter Try.func41, Try.ntmps41
    go_wp2
    go_ret
    exact ⟨rfl, HB.out⟩
  · have q1 : (n.toList == ([76] : List UInt8)) = false := beq_eq_false_iff_ne.mpr (fun e => h1 (str_eq.1 (e.trans (by decide +kernel))))
    by_cases h2 : n = sR
    · have q2 : (n.toList == ([82] : List UInt8)) = true := beq_iff_eq.mpr (by rw [h2]; decide +kernel)
      obtain rfl : r = z := by rw [h2, nm_R] at hz; exact hz
      clear h1 h2 hz
      go_enter Try.func41, Try.ntmps41
      go_wp2
      go_ret
      exact ⟨rfl, HB.out⟩
    · have q2 : (n.toList == ([82] : List UInt8)) = false := beq_eq_false_iff_ne.mpr (fun e => h2 (str_eq.1 (e.trans (by decide +kernel))))
      have sz : (9223372036854775807 < own.size + n.size) = False := eq_false (by omega)
      have hz' : own ++ n = z := by unfold nm at hz; rw [if_neg h1, if_neg h2] at hz; exact hz
      have HZ := Aside0.mk hz'
      clear h1 h2 hz hz'
      go_enter Try.func41, Try.ntmps41
      go_wp2
      go_ret
      exact ⟨by rw [← HZ.out]; rfl, HB.out⟩
end Go.Proofs.Ytmacdknicgfglaa.Gw
end
section
/- Regions of open order whose end appends to a row made before the region and stores it: the last steps. -/
namespace Go.Proofs.Ytmacdknicgfglaa.Evt
open Go.RowKit Go.Proofs.YtmacdknicgfglaaW.PrintWords Go.Proofs.YtmacdknicgfglaaW.PrintMore Go.Proofs.YtmacdknicgfglaaW.PrintLast Go.Proofs.Ytmacdknicgfglaa.Chg Go.Proofs.Ytmacdknicgfglaa.Mp Go.Proofs.Ytmacdknicgfglaa.Impl
set_option linter.unusedVariables false
section
variable {ops : Array Oper} {Q : Exit → Act → World → Prop} {w0 : World} {n m : Nat} {N : Option Tmp} {r : List (Nat × Option Tmp)} {a : Act} {w : World} {oi : Oper} {T : Bool × List (List Nat × List Nat)} {ds : List Nat} {i : Nat}
/-- The append, one of ds: the row was made before the region (behind base). -/
theorem ol_appo (HT : Aside0 (rtab .any ops = T)) (ho : ops[i]? = some oi) (hN : oi.dst = N) (hd : i ∈ ds) (hc : (readyT T.2 (lst n ((i, N) :: r)).toList == [i] && (lst n ((i, N) :: r)).toList.set i true == (lst n r).toList) = true) (hw : Region.wanted oi (yielded ops a.tmps) = true)
    (base : Nat) (u : World) (s x : Operand) (hop : oi.op = .call { callee := .builtin .append, args := #[s, x], argTypes := #[22, 22] }) (v : Value) (xs ys : List S41) (A : Option Addr) (k c : Nat) (hs : a.eval s = v) (hx : a.eval x = .slice A k c) {ok : Nat → Prop}
    (HO : Kd.R k41 41 w base ok v xs) (HC : Kd.C k41 w A k ys) (hfresh : ∀ k, w.heap.size ≤ k → ok k) (HB : Below base u w) (hbase : base ≤ w.heap.size) (hl : (xs.length + k) * 56 ≤ 140737488355328)
    (h : ∀ v1 w1, Kd.R k41 41 w1 base ok v1 (xs ++ ys) → Below base u w1 → w.grownBy w1 v.ownBlock → (v1.ownBlock = v.ownBlock ∨ ∃ b, v1.ownBlock = some b ∧ w.heap.size ≤ b) → Ol Try.prog ops Q w0 ds n m r (a.put N v1) w1) : Ol Try.prog ops Q w0 ds n (m + 1) ((i, N) :: r) a w := by
  subst hN
  refine last_ (lst n r) ho rfl (one_of HT.out hc) hd (fun K hK => ?_)
  refine Kd.R_append_rows_step k41 (Rr := k41.K w) (w0 := u) base hw s x 22 41 _ 56 hop Try.underlying22 info41 (by rfl) (by decide) (by decide) v xs ys A k c ok (fun _ => False) hs hx HO HC (fun _ _ hk => k41_KM hk) (fun _ hk => hk.elim) hfresh HB hbase hl ?_
  intro v1 w1 h1 h2 h3 h4
  exact hK.out _ _ (h v1 w1 h1 h2 h3 h4)
/-- An operation of ds without a destination, run. -/
theorem ol_ran {w1 : World} (HT : Aside0 (rtab .any ops = T)) (ho : ops[i]? = some oi) (hN : oi.dst = none) (hd : i ∈ ds) (hc : (readyT T.2 (lst n ((i, none) :: r)).toList == [i] && (lst n ((i, none) :: r)).toList.set i true == (lst n r).toList) = true) (hw : Region.wanted oi (yielded ops a.tmps) = true)
    (hrun : (execOp a.eval oi).run Try.prog w = .ok .skip w1) (h : Ol Try.prog ops Q w0 ds n m r a w1) : Ol Try.prog ops Q w0 ds n (m + 1) ((i, none) :: r) a w := by
  refine last_ (lst n r) ho hN (one_of HT.out hc) hd (fun K hK => ?_)
  rw [if_pos hw]
  unfold Oper.wp
  rw [hrun]
  show K (a.put oi.dst undef) w1
  rw [hN]
  exact hK.out _ _ h
/-- The calls of ds's regions: one that may come up alone, with ds. -/
theorem ol_callds (HT : Aside0 (rtab .any ops = T)) (HS : Hb w0 w) (ho : ops[i]? = some oi) (hN : oi.dst = N) (hd : i ∉ ds) (hc : (readyT T.2 (lst n ((i, N) :: r)).toList == [i] && (lst n ((i, N) :: r)).toList.set i true == (lst n r).toList) = true)
    (h : ∀ K : Act → World → Prop, Shut (∀ a' w', Hb w0 w' → (Hb w0 w' → Ol Try.prog ops Q w0 ds n m r a' w') → K a' w') → if Region.wanted oi (yielded ops a.tmps) = true then Oper.wp Try.prog oi a w K Q else K (a.put N undef) w) : Ol Try.prog ops Q w0 ds n (m + 1) ((i, N) :: r) a w :=
  one_ (lst n r) ho hN (one_of HT.out hc) hd h
end
end Go.Proofs.Ytmacdknicgfglaa.Evt
end
section
/- Two drawn rungs that grow by turns: what stands, and what an append and its store do to it. -/
namespace Go.Proofs.Ytmacdknicgfglaa.Evt
open Go.RowKit Go.Proofs.YtmacdknicgfglaaW.PrintWords Go.Proofs.YtmacdknicgfglaaW.PrintMore Go.Proofs.YtmacdknicgfglaaW.PrintLast Go.Proofs.Ytmacdknicgfglaa.Chg Go.Proofs.Ytmacdknicgfglaa.Mp Go.Proofs.Ytmacdknicgfglaa.Impl
set_option linter.unusedVariables false
abbrev rungC (v : Value) : Array Value := #[.string ⟨#[]⟩, v, .slice none 0 0, .string ⟨#[]⟩]
/-- Two rungs of one's own in blocks gs, gw, with rows vS, vW. -/
structure Two (w wr : World) (gs gw : Nat) (vS vW : Value) (xs ys : List S41) : Prop where
  hb : Below w.heap.size w wr
  bs : Bk wr gs 25 (rungC vS)
  bw : Bk wr gw 25 (rungC vW)
  rs : Kd.R k41 41 wr w.heap.size (fun k => some k ≠ vW.ownBlock) vS xs
  rw : Kd.R k41 41 wr w.heap.size (fun k => some k ≠ vS.ownBlock) vW ys
  ls : w.heap.size ≤ gs
  lw : w.heap.size ≤ gw
  ne : gs ≠ gw
theorem Two.swap {w wr : World} {gs gw : Nat} {vS vW : Value} {xs ys : List S41} (h : Two w wr gs gw vS vW xs ys) : Two w wr gw gs vW vS ys xs := ⟨h.hb, h.bw, h.bs, h.rw, h.rs, h.lw, h.ls, h.ne.symm⟩
theorem Two.nil {w wr : World} {gs gw : Nat} (hb : Below w.heap.size w wr) (bs : Bk wr gs 25 (rungC (.slice none 0 0))) (bw : Bk wr gw 25 (rungC (.slice none 0 0))) (ls : w.heap.size ≤ gs) (lt : gs < gw) : Two w wr gs gw (.slice none 0 0) (.slice none 0 0) [] [] :=
  ⟨hb, bs, bw, Kd.R_nil _ _ _ _ _, Kd.R_nil _ _ _ _ _, ls, by omega, by omega⟩
theorem row_grown {w w1 : World} {base : Nat} {ok : Nat → Prop} {v : Value} {xs : List S41} (h : Kd.R k41 41 w base ok v xs) {row : Option Nat} (hg : w.grownBy w1 row) (hne : ∀ k, row = some k → some k ≠ v.ownBlock) : Kd.R k41 41 w1 base ok v xs :=
  Kd.R_mono (Kd.R_grown (Kd.R_tight rfl h) hg (fun k hk e_ => hne k e_.symm hk)) (fun k hk => h.1 k hk.symm)
theorem Two.appS {w wr w1 : World} {gs gw : Nat} {vS vW v1 : Value} {xs ys : List S41} {c : S41} (h : Two w wr gs gw vS vW xs ys) (h1 : Kd.R k41 41 w1 w.heap.size (fun k => some k ≠ vW.ownBlock) v1 (xs ++ [c])) (hb1 : Below w.heap.size w w1) (hg : wr.grownBy w1 vS.ownBlock) :
    Two w (w1.setCell ⟨gs, 1, none⟩ v1) gs gw v1 vW (xs ++ [c]) ys := by
  have bs1 : Bk w1 gs 25 (rungC vS) := h.bs.grown hg (Kd.R_ne h.rs h.bs.blk (by decide))
  have bw1 : Bk w1 gw 25 (rungC vW) := h.bw.grown hg (Kd.R_ne h.rs h.bw.blk (by decide))
  have rw1 := Kd.R_grown h.rw hg (fun k hk => hk)
  have g2 : w1.grownBy (w1.setCell ⟨gs, 1, none⟩ v1) (some gs) := ⟨rfl, rfl, rfl, by simp [World.setCell], fun k hk hne => Below.heap_setCell w1 ⟨gs, 1, none⟩ v1 k (fun e => hne (by rw [e]))⟩
  refine ⟨below_set hb1 h.ls, ⟨Blk.set_ bs1.blk 1 v1⟩, bw1.grown g2 (fun e => by injection e with e; exact h.ne e.symm), row_grown h1 g2 (fun k e => ?_), ?_, h.ls, h.lw, h.ne⟩
  · cases e; exact Kd.R_ne h1 bs1.blk (by decide)
  · refine Kd.R_mono (row_grown (Kd.R_tight rfl rw1) g2 (fun k e => ?_)) (fun k hk e => ?_)
    · cases e; exact Kd.R_ne rw1 bs1.blk (by decide)
    · exact h1.1 k e.symm hk
theorem Two.appW {w wr w1 : World} {gs gw : Nat} {vS vW v1 : Value} {xs ys : List S41} {c : S41} (h : Two w wr gs gw vS vW xs ys) (h1 : Kd.R k41 41 w1 w.heap.size (fun k => some k ≠ vS.ownBlock) v1 (ys ++ [c])) (hb1 : Below w.heap.size w w1) (hg : wr.grownBy w1 vW.ownBlock) :
    Two w (w1.setCell ⟨gw, 1, none⟩ v1) gs gw vS v1 xs (ys ++ [c]) := (h.swap.appS h1 hb1 hg).swap
/-- What a step leaves that changes no old block. -/
theorem Two.below {w wr w1 : World} {gs gw : Nat} {vS vW : Value} {xs ys : List S41} (h : Two w wr gs gw vS vW xs ys) (hb : Below wr.heap.size wr w1) : Two w w1 gs gw vS vW xs ys :=
  ⟨below_step h.hb hb, h.bs.below hb, h.bw.below hb, Kd.R_below h.rs hb, Kd.R_below h.rw hb, h.ls, h.lw, h.ne⟩
end Go.Proofs.Ytmacdknicgfglaa.Evt
end
section
/- Regions of open order with calls of a function value and a row of one element made, among operations of ds; what stays beside two growing rungs. -/
namespace Go.Proofs.Ytmacdknicgfglaa.Evt
open Go.RowKit Go.Proofs.YtmacdknicgfglaaW.PrintWords Go.Proofs.YtmacdknicgfglaaW.PrintMore Go.Proofs.YtmacdknicgfglaaW.PrintLast Go.Proofs.Ytmacdknicgfglaa.Chg Go.Proofs.Ytmacdknicgfglaa.Mp Go.Proofs.Ytmacdknicgfglaa.Impl
set_option linter.unusedVariables false
section
variable {ops : Array Oper} {Q : Exit → Act → World → Prop} {w0 : World} {n m : Nat} {N : Option Tmp} {r : List (Nat × Option Tmp)} {a a' : Act} {w : World} {oi : Oper} {T : Bool × List (List Nat × List Nat)} {ds : List Nat} {i : Nat}
/-- The call of a function value, alone ready. -/
theorem ol_callf (HT : Aside0 (rtab .any ops = T)) (HS : Hb w0 w) (ho : ops[i]? = some oi) (hN : oi.dst = N) (hd : i ∉ ds) {f : FuncId} {fn : Func} {x : Operand} {aS : Array Operand} {ts : Array TypeId} (hop : oi.op = .call { callee := .value x, args := aS, argTypes := ts }) (hx : a.eval x = .func (.func f) #[] #[]) (hf : Try.prog.funcs[f]? = some fn) (hname : (fn.name == "runtime.NumGoroutine") = false) (hb : fn.body.isSome = true) (args : Array Value)
    (hc : (readyT T.2 (lst n ((i, N) :: r)).toList == [i] && (lst n ((i, N) :: r)).toList.set i true == (lst n r).toList) = true) (hw : Region.wanted oi (yielded ops a.tmps) = true) (hargs : aS.map a.eval = args)
    (h : Calls Try.prog f args w fun e w' => ∃ v, e = .returned v ∧ Below w.heap.size w w' ∧ (Hb w0 w' → Ol Try.prog ops Q w0 ds n m r (a.put N v) w')) : Ol Try.prog ops Q w0 ds n (m + 1) ((i, N) :: r) a w := by
  refine one_ (lst n r) ho hN (one_of HT.out hc) hd (fun K hK => ?_)
  refine call_ f args hw hN ?_ ?_
  · have he := enters_ hf hname hb args w
    unfold execOp
    simp [hop, resolve, Deferred.ofValue, invoke, hx, hargs, he]
  · refine h.mono fun e w' hh => ?_
    obtain ⟨v, rfl, hb, hk⟩ := hh
    have hS' : Hb w0 w' := ⟨below_step HS.out hb⟩
    exact ⟨v, rfl, hK.out _ _ hS' (fun _ => hk hS')⟩
/-- An operation, alone ready, that yields a slice of a new block. -/
theorem ol_sliced (HT : Aside0 (rtab .any ops = T)) (HS : Hb w0 w) (ho : ops[i]? = some oi) (hN : oi.dst = N) (hd : i ∉ ds)
    (hc : (readyT T.2 (lst n ((i, N) :: r)).toList == [i] && (lst n ((i, N) :: r)).toList.set i true == (lst n r).toList) = true) (hw : Region.wanted oi (yielded ops a.tmps) = true) {cs : Array Value} {t : TypeId} {ln : Nat}
    (hrun : (execOp a.eval oi).run Try.prog w = .ok (.value (.slice (some ⟨w.heap.size, 0, none⟩) ln ln)) (w.alloc (.cells cs t (0, 0))))
    (h : ∀ (g : Nat) (w1 : World), g = w.heap.size → Bk w1 g t cs → Below w.heap.size w w1 → Hb w0 w1 → Ol Try.prog ops Q w0 ds n m r (a.put N (.slice (some ⟨g, 0, none⟩) ln ln)) w1) : Ol Try.prog ops Q w0 ds n (m + 1) ((i, N) :: r) a w := by
  refine one_ (lst n r) ho hN (one_of HT.out hc) hd (fun K hK => ?_)
  have hb : Below w.heap.size w (w.alloc (.cells cs t (0, 0))) := below_alloc (Below.refl _ _) _
  have hS' : Hb w0 (w.alloc (.cells cs t (0, 0))) := ⟨below_step HS.out hb⟩
  exact value_ hw hN hrun (hK.out _ _ hS' (fun _ => h w.heap.size _ rfl ⟨heap_alloc_new w _⟩ hb hS'))
end
/-- A block that is neither row nor rung. -/
theorem Two.keepS {w wr w1 : World} {gs gw : Nat} {vS vW v1 : Value} {xs ys : List S41} (h : Two w wr gs gw vS vW xs ys) (hg : wr.grownBy w1 vS.ownBlock) {g : Nat} {T : TypeId} {cs : Array Value} (hb : Bk wr g T cs) (hn : some g ≠ vS.ownBlock) (hne : g ≠ gs) : Bk (w1.setCell ⟨gs, 1, none⟩ v1) g T cs :=
  ⟨(hb.grown hg hn).blk.far hne _⟩
theorem Two.rowS {w wr : World} {gs gw : Nat} {vS vW : Value} {xs ys : List S41} (h : Two w wr gs gw vS vW xs ys) {g : Nat} {cs : Array Value} (hb : Bk wr g 25 cs) : some g ≠ vS.ownBlock := Kd.R_ne h.rs hb.blk (by decide)
theorem Two.ltS {w wr : World} {gs gw : Nat} {vS vW : Value} {xs ys : List S41} (h : Two w wr gs gw vS vW xs ys) {g : Nat} (hg : wr.heap.size ≤ g) : some g ≠ vS.ownBlock := fun e => by have := Kd.R_lt h.rs _ e.symm; omega
end Go.Proofs.Ytmacdknicgfglaa.Evt
end
section
/- FlowComposition: the names' sizes, the rungs that are put together, the renaming's contracts. -/
namespace Go.Proofs.Ytmacdknicgfglaa.Gw
open Go.RowKit Go.Shelf Go.Proofs.YtmacdknicgfglaaW.PrintWords Go.Proofs.YtmacdknicgfglaaW.PrintMore Go.Proofs.YtmacdknicgfglaaW.PrintLast Go.Proofs.Ytmacdknicgfglaa.Chg Go.Proofs.Ytmacdknicgfglaa.Evt Go.Proofs.Ytmacdknicgfglaa.Impl Go.Proofs.Ytmacdknicgfglaa.Gp Go.Proofs.Ytmacdknicgfglaa.Mp Go.Proofs.Ytmacdknicgfglaa.Open
open Go.Proofs.Ytmacdknicgfglaa.Pe (tl sumG sumG_mem)
set_option linter.unusedVariables false
set_option linter.unusedSimpArgs false
set_option maxRecDepth 100000
theorem tl_name {l : List Ed} (h : tl l ≤ 0) {c : Ed} (hc : c ∈ l) : c.1.size ≤ 2000 ∧ c.2.size ≤ 2000 := by
  unfold Pe.tl at h
  by_cases hb : 60 < l.length ∨ 2000 < sumG l
  · rw [if_pos hb] at h; omega
  · have := sumG_mem hc
    omega
theorem nm_size {o l r n : ByteArray} (ho : o.size ≤ 1) (hl : l.size ≤ 3) (hr : r.size ≤ 3) : (nm o l r n).size ≤ n.size + 3 := by
  unfold nm
  split
  · omega
  · split
    · omega
    · rw [ByteArray.size_append]; omega
theorem okG_mv {o l r o' l' r' : ByteArray} {a b : List Ed} (ha : tl a ≤ 0) (hb : tl b ≤ 0) (la : a.length ≤ 12) (lb : b.length ≤ 12) (h1 : o.size ≤ 1) (h2 : l.size ≤ 3) (h3 : r.size ≤ 3) (k1 : o'.size ≤ 1) (k2 : l'.size ≤ 3) (k3 : r'.size ≤ 3) : okG (mvE (nm o l r) a ++ mvE (nm o' l' r') b) = true := by
  unfold okG
  rw [Bool.and_eq_true]
  refine ⟨decide_eq_true (by rw [List.length_append, mv_len, mv_len]; omega), List.all_eq_true.2 fun c hc => ?_⟩
  rw [Bool.and_eq_true]
  rcases List.mem_append.1 hc with hc | hc
  · obtain ⟨d, hd, rfl⟩ := mv_mem.1 hc
    have t := tl_name ha hd
    have s1 := nm_size (n := d.1) h1 h2 h3
    have s2 := nm_size (n := d.2) h1 h2 h3
    exact ⟨decide_eq_true (by simp only; omega), decide_eq_true (by simp only; omega)⟩
  · obtain ⟨d, hd, rfl⟩ := mv_mem.1 hc
    have t := tl_name hb hd
    have s1 := nm_size (n := d.1) k1 k2 k3
    have s2 := nm_size (n := d.2) k1 k2 k3
    exact ⟨decide_eq_true (by simp only; omega), decide_eq_true (by simp only; omega)⟩
/-- One more contact, renamed. -/
theorem step_es {f : ByteArray → ByteArray} {P : List Ed} {xs l : List S41} {j : Nat} (hj : j < l.length) (h : es xs = P ++ mvE f ((es l).take j)) {z1 z2 : ByteArray} (e1 : f l[j].f2 = z1) (e2 : f l[j].f3 = z2) : es (xs ++ [(⟨0, ⟨0, 0⟩, z1, z2⟩ : S41)]) = P ++ mvE f ((es l).take (j + 1)) := by
  have hj' : j < (es l).length := by rw [es_len]; exact hj
  have : es (xs ++ [(⟨0, ⟨0, 0⟩, z1, z2⟩ : S41)]) = es xs ++ [(z1, z2)] := by unfold es; rw [List.map_append]; rfl
  rw [this, h, List.take_succ_eq_append_getElem hj', es_get hj]
  unfold mvE
  rw [List.map_append, List.append_assoc, ← e1, ← e2]
  rfl
/-- At the head of a loop's round: the two rungs hold X and Y. -/
def Lp (w wr : World) (g2 g3 gs gw : Nat) (ca cb : Array Value) (X Y : List Ed) : Prop := ∃ vS vW xs ys, Two w wr gs gw vS vW xs ys ∧ Bk wr g2 25 ca ∧ Bk wr g3 25 cb ∧ es xs = X ∧ es ys = Y
theorem C_of_new {w : World} {g : Nat} {z1 z2 : ByteArray} (h : Bk w g 41 #[.int .i64 0, .int .i64 0, .int .i64 0, .string z1, .string z2]) : Kd.C k41 w (some ⟨g, 0, none⟩) 1 [(⟨0, ⟨0, 0⟩, z1, z2⟩ : S41)] := by
  refine ⟨rfl, by simp, fun _ => ⟨_, rfl, fun j p hj => ?_⟩⟩
  cases j with
  | zero =>
    obtain rfl : (⟨0, ⟨0, 0⟩, z1, z2⟩ : S41) = p := by simpa using hj
    refine ⟨_, rfl, k41_mk w _, fun i u hu => ?_⟩
    rw [Addr.add_lit]
    exact h.blk.cell _ (by simpa using hu)
  | succ j => simp at hj
theorem count_q2 {AQ : Option Addr} {cQ : Nat} {lq : List S41} (w : World) (h : Rg w AQ cQ lq none 0 []) (hok : okG (es lq) = true) {x y : Int} (hc : countL (es lq) = (x, y)) :
    Calls Try.prog 37 #[.agg #[.string ⟨#[]⟩, .slice AQ lq.length cQ, .slice none 0 0, .string ⟨#[]⟩]] w fun e w' => e = .returned (.tuple #[.int .i64 x, .int .i64 y]) ∧ Below w.heap.size w w' := count_any (A1 := AQ) (c1 := cQ) (l1 := lq) (A2 := none) (c2 := 0) (l2 := []) w h hok hc
theorem short_pp {A1 A2 : Option Addr} {c1 c2 : Nat} {l1 : List S41} {l2 : List S101} {a0 a3 : ByteArray} (w : World) (h : Rg w A1 c1 l1 A2 c2 l2) (hok : okG (es l1) = true) {p : List Int} (hp : shortL (es l1) = some p) {n : Nat} (hn : p.length = n) :
    Calls Try.prog 39 #[.agg #[.string a0, .slice A1 l1.length c1, .slice A2 l2.length c2, .string a3]] w fun e w' => ∃ A c, e = .returned (.tuple #[.slice A n c, .int .i64 0]) ∧ Below w.heap.size w w' :=
  (short_any w h hok hp rfl).mono fun e w' ⟨v, he, ho, hb⟩ => by
    obtain ⟨A, c, rfl, _⟩ := Ro.sliceI ho
    subst hn
    exact ⟨A, c, he, hb⟩
theorem short_pq {AQ : Option Addr} {cQ : Nat} {lq : List S41} (w : World) (h : Rg w AQ cQ lq none 0 []) (hok : okG (es lq) = true) {p : List Int} (hp : shortL (es lq) = some p) {n : Nat} (hn : p.length = n) :
    Calls Try.prog 39 #[.agg #[.string ⟨#[]⟩, .slice AQ lq.length cQ, .slice none 0 0, .string ⟨#[]⟩]] w fun e w' => ∃ A c, e = .returned (.tuple #[.slice A n c, .int .i64 0]) ∧ Below w.heap.size w w' := short_pp (A1 := AQ) (c1 := cQ) (l1 := lq) (A2 := none) (c2 := 0) (l2 := []) w h hok hp hn
theorem check_q2 {AQ : Option Addr} {cQ : Nat} {lq : List S41} (w : World) (h : Rg w AQ cQ lq none 0 []) (hok : okG (es lq) = true) {x : Int} (hx : checkL (es lq) = x) :
    Calls Try.prog 33 #[.agg #[.string ⟨#[]⟩, .slice AQ lq.length cQ, .slice none 0 0, .string ⟨#[]⟩]] w fun e w' => e = .returned (.int .i64 x) ∧ Below w.heap.size w w' := check_any (A1 := AQ) (c1 := cQ) (l1 := lq) (A2 := none) (c2 := 0) (l2 := []) w h hok hx
theorem rg_own {w0 w : World} {AQ : Option Addr} {cQ : Nat} {lq : List S41} {ok : Nat → Prop} (h : Kd.R k41 41 w w0.heap.size ok (.slice AQ lq.length cQ) lq) : Rg w AQ cQ lq none 0 [] := by
  obtain ⟨h1, h2, h3⟩ := Kd.R_reads' h
  exact ⟨h3, h2, Kd.C_nil _ _, Nat.le_refl _⟩
theorem nm_c (w : World) {n own l r z : ByteArray} (hs : n.size ≤ 100000) (ho : own.size ≤ 1) (hz : nm own l r n = z) : Calls Try.prog 41 #[.string n, .string own, .string l, .string r] w fun e w' => e = .returned (.string z) ∧ Below w.heap.size w w' := nm_any w n own l r (by omega) hz
theorem nm_aLR (w : World) {n z : ByteArray} (hs : n.size ≤ 100000) (hz : nm sa sL sR n = z) : Calls Try.prog 41 #[.string n, .string ⟨#[97]⟩, .string ⟨#[76]⟩, .string ⟨#[82]⟩] w fun e w' => e = .returned (.string z) ∧ Below w.heap.size w w' := nm_c w hs (by decide) hz
theorem nm_aLM (w : World) {n z : ByteArray} (hs : n.size ≤ 100000) (hz : nm sa sL sM n = z) : Calls Try.prog 41 #[.string n, .string ⟨#[97]⟩, .string ⟨#[76]⟩, .string ⟨#[109, 105, 100]⟩] w fun e w' => e = .returned (.string z) ∧ Below w.heap.size w w' := nm_c w hs (by decide) hz
theorem nm_bLR (w : World) {n z : ByteArray} (hs : n.size ≤ 100000) (hz : nm sb sL sR n = z) : Calls Try.prog 41 #[.string n, .string ⟨#[98]⟩, .string ⟨#[76]⟩, .string ⟨#[82]⟩] w fun e w' => e = .returned (.string z) ∧ Below w.heap.size w w' := nm_c w hs (by decide) hz
theorem nm_bMR (w : World) {n z : ByteArray} (hs : n.size ≤ 100000) (hz : nm sb sM sR n = z) : Calls Try.prog 41 #[.string n, .string ⟨#[98]⟩, .string ⟨#[109, 105, 100]⟩, .string ⟨#[82]⟩] w fun e w' => e = .returned (.string z) ∧ Below w.heap.size w w' := nm_c w hs (by decide) hz
end Go.Proofs.Ytmacdknicgfglaa.Gw
end
