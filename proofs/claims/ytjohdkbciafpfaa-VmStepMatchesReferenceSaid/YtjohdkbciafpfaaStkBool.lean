/- Contracts of the stack at elements of type bool: typed by hand. St: a stack behind a pointer: its slice, what it holds, its capacity, its greatest depth. -/
import Derived.Test.YtjohdkbciafpfaaProg
import Derived.Test.YtjohdkbciafpfaaVt
import Derived.WalkKit
import Derived.KernelRfl
import Derived.Outline
import Derived.Deep.QuietTactic
import Derived.BigQuiet
import Derived.Maps.AppendAt
import Derived.OwnWalk
import Derived.Lib.SliceRun
namespace Go.Proofs.Ytjohdkbciafpfaa.StkBool
open Go.RowKit Go.Proofs.YtjohdkbciafpfaaW.PrintWords Go.Proofs.YtjohdkbciafpfaaW.PrintMore Go.Proofs.YtjohdkbciafpfaaW.PrintLast Go.Proofs.Ytjohdkbciafpfaa.Chg
attribute [local go_sem] max2_int min2_int max_two min_two
set_option linter.unusedVariables false
set_option linter.unusedSimpArgs false
theorem info : (Try.prog.info? 4).map (fun i => (i.zero, i.size, i.bytes)) = some (some (.bool false), 1, 1) := by kernel_rfl

/-- Block g is a stack: v its slice, which holds xs; rows from base on. -/
structure St (w : World) (base g : Nat) (v : Value) (xs : List Bool) (mx most : Nat) : Prop where
  blk : Blk w g 112 #[v, .int .i64 mx, .int .i64 most]
  row : Kd.R Kd.bool 4 w base (fun _ => True) v xs
  le : xs.length ≤ mx
  mle : most ≤ mx
  cap : mx ≤ 4096
  gbase : base ≤ g
  hbase : base ≤ w.heap.size
theorem St.form {w : World} {base g mx most : Nat} {v : Value} {xs : List Bool} (h : St w base g v xs mx most) : ∃ A c, v = .slice A xs.length c := Kd.R_slice h.row
/-- What may turn when the stack is written. -/
def foot (g : Nat) (v : Value) : Nat → Prop := fun k => k = g ∨ own v k
theorem St.foot_base {w : World} {base g mx most : Nat} {v : Value} {xs : List Bool} (h : St w base g v xs mx most) : ∀ k, foot g v k → base ≤ k := by
  rintro k (rfl | hk)
  · exact h.gbase
  · exact Kd.R_base h.row k hk.symm
theorem St.chg {S : Nat → Prop} {w w' : World} {base g mx most : Nat} {v : Value} {xs : List Bool} (h : St w base g v xs mx most) (hc : Chg S w w') (hg : ¬ S g) (hv : ∀ k, own v k → ¬ S k) : St w' base g v xs mx most :=
  ⟨h.blk.chg hc hg, Kd.R_mono (hc.row (Vm6.tight rfl h.row) (fun k hk => hv k hk)) (fun _ _ => trivial), h.le, h.mle, h.cap, h.gbase, Nat.le_trans h.hbase hc.size⟩
theorem St.below {w w' : World} {base g mx most : Nat} {v : Value} {xs : List Bool} (h : St w base g v xs mx most) (hb : Below w.heap.size w w') : St w' base g v xs mx most :=
  h.chg (S := fun _ => False) (Chg.of_below hb) (fun x => x) (fun _ _ x => x)

/-- What a push leaves. -/
theorem push_end {w w1 : World} {base g n mx most m : Nat} {v v1 : Value} {xs : List Bool} {x : Bool} (h : St w base g v xs mx most) (hlt : xs.length < mx) (hb1 : Blk w1 g 112 #[v, .int .i64 mx, .int .i64 most])
    (hg : (w.drewN n).grownBy w1 v.ownBlock) (ho : Kd.R Kd.bool 4 w1 base (fun _ => True) v1 (xs ++ [x])) (hat : v1.ownBlock = v.ownBlock ∨ ∃ b, v1.ownBlock = some b ∧ w.heap.size ≤ b) (hm : m = max most (xs.length + 1)) :
    St ((w1.setCell ⟨g, 0, none⟩ v1).setCell ⟨g, 2, none⟩ (.int .i64 m)).drew base g v1 (xs ++ [x]) mx (max most (xs.length + 1)) ∧ Chg (foot g v) w ((w1.setCell ⟨g, 0, none⟩ v1).setCell ⟨g, 2, none⟩ (.int .i64 m)).drew ∧
    (∀ k, own v1 k → own v k ∨ w.heap.size ≤ k) := by
  subst hm
  have hne := row_ne ho hb1 (by decide)
  have hc0 : Chg (foot g v) w w1 := ((Chg.refl _ w).drewN n).trans (Chg.of_grown (S := foot g v) hg (fun k hk => .inl (.inr hk.symm))) (fun i hi => .inl hi)
  have hc1 := ((hc0.setCell (p := ⟨g, 0, none⟩) (.inl (.inl rfl)) v1).setCell (p := ⟨g, 2, none⟩) (.inl (.inl rfl)) (.int .i64 (max most (xs.length + 1) : Nat))).drew
  refine ⟨⟨((hb1.set_ 0 v1).set_ 2 _).drew, ?_, by simp; omega, by have := h.mle; omega, h.cap, h.gbase, Nat.le_trans h.hbase hc1.size⟩, hc1, ?_⟩
  · have r1 := Kd.R_mono (Kd.R_far (p := ⟨g, 0, none⟩) (Vm6.tight rfl ho) (fun k hk e => hne (by rw [← hk, e])) v1) (fun _ _ => trivial : ∀ k, _ → True)
    have r2 := Kd.R_mono (Kd.R_far (p := ⟨g, 2, none⟩) (Vm6.tight rfl r1) (fun k hk e => hne (by rw [← hk, e])) (.int .i64 (max most (xs.length + 1) : Nat))) (fun _ _ => trivial : ∀ k, _ → True)
    exact Kd.R_drew r2
  · intro k hk
    rcases hat with hat | ⟨b, hb, hle⟩
    · left; show some k = v.ownBlock; rw [← hat]; exact hk
    · right
      have hk' : some k = v1.ownBlock := hk
      rw [hb] at hk'
      injection hk' with hk'
      omega
set_option maxHeartbeats 1000000 in
set_option maxRecDepth 100000 in
theorem push (w : World) (base g : Nat) (v : Value) (xs : List Bool) (mx most : Nat) (x : Bool) (h : St w base g v xs mx most) (hlt : xs.length < mx) :
    Calls Try.prog 73 #[.pointer (some ⟨g, 0, none⟩), .bool x] w fun e w' => e = .returned (.int .i64 0) ∧ ∃ v', St w' base g v' (xs ++ [x]) mx (max most (xs.length + 1)) ∧ Chg (foot g v) w w' ∧ (∀ k, own v' k → own v k ∨ w.heap.size ≤ k) := by
  obtain ⟨A, c, rfl⟩ := h.form
  have HS := Aside0.mk h
  have hcap := h.cap
  have hmle := h.mle
  have hbase := h.hbase
  have c0 := h.blk.cell 0 (v := .slice A xs.length c) rfl
  have c1 := h.blk.cell 1 (v := .int .i64 mx) rfl
  have c2 := h.blk.cell 2 (v := .int .i64 most) rfl
  have f0 := h.blk.frozen 0
  have f2 := h.blk.frozen 2
  clear h
  have t0 : decide (xs.length = mx) = false := by simp; omega
  have t1 : ((xs.length : Int) == (mx : Int)) = false := by rw [beq_eq_false_iff_ne]; omega
  have t2 : (xs.length == mx) = false := by rw [beq_eq_false_iff_ne]; omega
  go_enter Try.func73, Try.ntmps73
  go_wp2
  go_quiet (fail)
  go_wp2_with ((with_reducible refine gate_builtin (b := .append) (xs := #[.tmp 23, .tmp 25]) rfl ?_); at_builtin; refine Kd.R_append Kd.bool (w0 := w) base rfl (.tmp 23) (.tmp 25) 22 4 (.bool false) 1 rfl Try.underlying22 info rfl (by decide) (by omega) (.slice A xs.length c) xs x [.bool x] (fun _ => True) (fun _ => False) rfl rfl ?aP (fun _ hk => hk.elim) ?aF ?aO ?aB ?aS ?aL ?_; (case aP => exact rfl); (case aF => exact fun _ _ => trivial); (case aO => exact Kd.R_drewN HS.out.row _); (case aB => exact pw_below_drewN (Below.refl _ _) _); (case aS => exact hbase); (case aL => omega); intro v1 w1 ho hb hg hat; obtain ⟨A', c', rfl, hc', hC'⟩ := Kd.R_reads ho; rw [List.length_append, List.length_singleton] at ho hat; have hb1 := Blk.grown (Blk.drewN HS.out.blk _) hg (row_ne HS.out.row HS.out.blk (by decide)); have d0 := hb1.cell 0 (v := .slice A xs.length c) rfl; have d1 := hb1.cell 1 (v := .int .i64 mx) rfl; have d2 := hb1.cell 2 (v := .int .i64 most) rfl; have g0 := hb1.frozen 0; have g2 := hb1.frozen 2; have HB1 := Aside0.mk hb1; have HO := Aside0.mk ho; have HG := Aside0.mk hg; have HAT := Aside0.mk hat; clear ho hb hg hat hc' hC' hb1)
  go_region
  all_goals go_wp2
  all_goals
    go_ret
    first
    | (have hm : most = max most (xs.length + 1) := by omega
       exact ⟨rfl, _, push_end (m := most) HS.out hlt HB1.out HG.out HO.out HAT.out hm⟩)
    | (have hm : (xs.length + 1) = max most (xs.length + 1) := by omega
       exact ⟨rfl, _, push_end (m := xs.length + 1) HS.out hlt HB1.out HG.out HO.out HAT.out hm⟩)
set_option maxRecDepth 100000 in
theorem push_full (w : World) (base g : Nat) (v : Value) (xs : List Bool) (mx most : Nat) (x : Bool) (h : St w base g v xs mx most) (hlt : xs.length = mx) :
    Calls Try.prog 73 #[.pointer (some ⟨g, 0, none⟩), .bool x] w fun e w' => e = .returned (.int .i64 10) ∧ Drawn0 w w' := by
  obtain ⟨A, c, rfl⟩ := h.form
  have hcap := h.cap
  have c0 := h.blk.cell 0 (v := .slice A xs.length c) rfl
  have c1 := h.blk.cell 1 (v := .int .i64 mx) rfl
  clear h
  have t1 : ((xs.length : Int) == (mx : Int)) = true := by rw [beq_iff_eq]; omega
  have t2 : (xs.length == mx) = true := by rw [beq_iff_eq]; omega
  have t0 : decide (xs.length = mx) = true := by simp; omega
  have HL := Aside0.mk hlt
  clear hlt
  go_enter Try.func73, Try.ntmps73
  go_wp2
  go_quiet (fail)
  go_wp2
  go_ret
  exact ⟨rfl, ⟨_, rfl⟩⟩
theorem push_nil (w : World) (x : Bool) : Calls Try.prog 73 #[.pointer none, .bool x] w fun e w' => e = .returned (.int .i64 1) ∧ w = w' := by
  go_enter Try.func73, Try.ntmps73
  go_wp2
  go_ret
  exact ⟨rfl, rfl⟩

/-- What a pop leaves. -/
theorem pop_end {w : World} {base g mx most c n : Nat} {A : Option Addr} {xs : List Bool} (h : St w base g (.slice A xs.length c) xs mx most) (hn : n + 1 = xs.length) :
    St (w.setCell ⟨g, 0, none⟩ (.slice A n c)) base g (.slice A n c) (xs.take n) mx most ∧ Chg (foot g (.slice A xs.length c)) w (w.setCell ⟨g, 0, none⟩ (.slice A n c)) ∧ (∀ k, own (.slice A n c) k → own (.slice A xs.length c) k ∨ w.heap.size ≤ k) := by
  have hc1 := (Chg.refl (foot g (.slice A xs.length c)) w).setCell (p := ⟨g, 0, none⟩) (.inl (.inl rfl)) (.slice A n c)
  have r1 := Kd.R_take (m := n) h.row (by omega)
  have hne := row_ne r1 h.blk (by decide)
  refine ⟨⟨h.blk.set_ 0 _, ?_, by have := h.le; rw [List.length_take]; omega, h.mle, h.cap, h.gbase, Nat.le_trans h.hbase hc1.size⟩, hc1, ?_⟩
  · exact Kd.R_mono (Kd.R_far (p := ⟨g, 0, none⟩) (Vm6.tight rfl r1) (fun k hk e => hne (by rw [← hk, e])) _) (fun _ _ => trivial : ∀ k, _ → True)
  · intro k hk
    left
    cases A with
    | none => exact absurd hk (by simp [own, Value.ownBlock])
    | some a => exact hk
set_option maxRecDepth 100000 in
theorem pop (w : World) (base g : Nat) (v : Value) (xs : List Bool) (y : Bool) (mx most : Nat) (h : St w base g v (xs ++ [y]) mx most) :
    Calls Try.prog 74 #[.pointer (some ⟨g, 0, none⟩)] w fun e w' => e = .returned (.tuple #[.bool y, .int .i64 0]) ∧ ∃ v', St w' base g v' xs mx most ∧ Chg (foot g v) w w' ∧ (∀ k, own v' k → own v k ∨ w.heap.size ≤ k) := by
  obtain ⟨A, c, rfl⟩ := h.form
  have hlen : (xs ++ [y]).length = xs.length + 1 := by rw [List.length_append, List.length_singleton]
  have hle := h.le
  have hcap := h.cap
  obtain ⟨g1, c1', e1, gb, gl, cells, HG⟩ := Kd.R_form h.row (by omega)
  injection e1 with ea en ec
  subst ea ec
  obtain ⟨hx, hf⟩ := Kd.R_celln false h.row (xs.length : Int) (by omega) (by omega)
  have hy : rdOf false (xs ++ [y]) (xs.length : Int) = y := by simp [rdOf]
  rw [hy, Int.toNat_natCast] at hx
  obtain ⟨hxc, hcc⟩ : xs.length + 1 ≤ c ∧ c ≤ 9223372036854775807 := by
    obtain ⟨inner, ho⟩ := Kd.R_own h.row
    rcases ho.2 with ⟨e0, h0⟩ | ⟨g', cap', cur, e0, _, _, hn, hcap, _⟩
    · omega
    · injection e0 with _ _ ec
      subst ec
      unfold maxLen at hcap
      omega
  have c0 := h.blk.cell 0 (v := .slice (some ⟨g1, 0, none⟩) (xs ++ [y]).length c) rfl
  have f0 := h.blk.frozen 0
  have hend := pop_end (n := xs.length) h (by omega)
  rw [List.take_left, hlen] at hend
  rw [hlen] at c0
  rw [hlen] at hle
  have HE := Aside0.mk hend
  clear hend h hf hy en HG gb gl
  have HL := Aside0.mk hlen
  clear hlen
  have t0 : (((xs.length : Int) + 1) == 0) = false := by rw [beq_eq_false_iff_ne]; omega
  have t1 : decide ((xs.length : Int) + 1 = 0) = false := by simp; omega
  have t2 : decide (xs.length + 1 = 0) = false := by simp
  rw [HL.out]
  go_enter Try.func74, Try.ntmps74
  go_wp2
  go_ret2
  exact ⟨rfl, _, HE.out⟩
set_option maxRecDepth 100000 in
theorem pop_empty (w : World) (base g : Nat) (v : Value) (mx most : Nat) (h : St w base g v [] mx most) :
    Calls Try.prog 74 #[.pointer (some ⟨g, 0, none⟩)] w fun e w' => e = .returned (.tuple #[.bool false, .int .i64 18]) ∧ w = w' := by
  obtain ⟨A, c, rfl⟩ := h.form
  have c0 := h.blk.cell 0 (v := .slice A 0 c) rfl
  clear h
  go_enter Try.func74, Try.ntmps74
  go_wp2
  go_ret2
  exact ⟨rfl, rfl⟩
theorem pop_nil (w : World) : Calls Try.prog 74 #[.pointer none] w fun e w' => e = .returned (.tuple #[.bool false, .int .i64 1]) ∧ w = w' := by
  go_enter Try.func74, Try.ntmps74
  go_wp2
  go_ret2
  exact ⟨rfl, rfl⟩
theorem depth (w : World) (base g : Nat) (v : Value) (xs : List Bool) (mx most : Nat) (h : St w base g v xs mx most) :
    Calls Try.prog 57 #[.pointer (some ⟨g, 0, none⟩)] w fun e w' => e = .returned (.int .i64 (xs.length : Int)) ∧ w = w' := by
  obtain ⟨A, c, rfl⟩ := h.form
  have c0 := h.blk.cell 0 (v := .slice A xs.length c) rfl
  clear h
  go_enter Try.func57, Try.ntmps57
  go_wp2
  go_ret
  exact ⟨rfl, rfl⟩
theorem depth_nil (w : World) : Calls Try.prog 57 #[.pointer none] w fun e w' => e = .returned (.int .i64 0) ∧ w = w' := by
  go_enter Try.func57, Try.ntmps57
  go_wp2
  go_ret
  exact ⟨rfl, rfl⟩
theorem new (w : World) (n : Int) (h1 : 1 ≤ n) (h2 : n ≤ 4096) (base : Nat) (hbase : base ≤ w.heap.size) :
    Calls Try.prog 54 #[.int .i64 n] w fun e w' => e = .returned (.tuple #[.pointer (some ⟨w.heap.size, 0, none⟩), .int .i64 0]) ∧ St w' base w.heap.size (.slice none 0 0) [] n.toNat 0 ∧ Below w.heap.size w w' ∧ w'.heap.size = w.heap.size + 1 := by
  obtain ⟨m, rfl⟩ := Int.eq_ofNat_of_zero_le (show 0 ≤ n by omega)
  rw [Int.toNat_natCast]
  have t0 : decide ((m : Int) < 1) = false := by simp; omega
  have t1 : decide ((m : Int) > 4096) = false := by simp; omega
  go_enter Try.func54, Try.ntmps54
  go_wp2
  go_ret2
  exact ⟨rfl, ⟨Blk.new _ _ _, Kd.R_nil _ _ _ _ _, Nat.zero_le _, Nat.zero_le _, by omega, hbase, by simp; omega⟩, (Below.refl _ _).alloc (Nat.le_refl _) _, by simp⟩
theorem new_out (w : World) (n : Int) (h : n < 1 ∨ 4096 < n) :
    Calls Try.prog 54 #[.int .i64 n] w fun e w' => e = .returned (.tuple #[.pointer none, .int .i64 3]) ∧ w = w' := by
  by_cases h1 : n < 1
  · go_enter Try.func54, Try.ntmps54
    go_wp2
    go_ret2
    exact ⟨rfl, rfl⟩
  · have h2 : 4096 < n := by omega
    clear h
    go_enter Try.func54, Try.ntmps54
    go_wp2
    go_ret2
    exact ⟨rfl, rfl⟩

end Go.Proofs.Ytjohdkbciafpfaa.StkBool
