/- Contracts of the reference's stack, typed by hand. -/
import Derived.Test.YtjafjahafbkfiaaProg
import Derived.Test.YtjafjahafbkfiaaChg
import Derived.WalkKit
import Derived.KernelRfl
import Derived.Outline
import Derived.Deep.QuietTactic
import Derived.BigQuiet
import Derived.Maps.AppendAt
import Derived.OwnWalk
namespace Go.Proofs.Ytjafjahafbkfiaa.Ref05
open Go.RowKit Go.Proofs.YtjafjahafbkfiaaW.PrintWords Go.Proofs.YtjafjahafbkfiaaW.PrintMore Go.Proofs.YtjafjahafbkfiaaW.PrintLast Go.Proofs.Ytjafjahafbkfiaa.Chg
set_option linter.unusedVariables false
set_option linter.unusedSimpArgs false
theorem info : (Try.prog.info? 9).map (fun i => (i.zero, i.size, i.bytes)) = some (some (.string ByteArray.empty), 1, 16) := by kernel_rfl
/-- Block g is the reference's stack: v its slice, which holds xs; rows from base on. -/
structure St (w : World) (base g : Nat) (v : Value) (xs : List ByteArray) (mx most : Nat) : Prop where
  blk : Blk w g 50 #[v, .int .i64 mx, .int .i64 most]
  row : Kd.R Kd.string 9 w base (fun _ => True) v xs
  le : xs.length ≤ mx
  mle : most ≤ mx
  cap : mx ≤ 4096
  gbase : base ≤ g
  hbase : base ≤ w.heap.size
theorem St.form {w : World} {base g mx most : Nat} {v : Value} {xs : List ByteArray} (h : St w base g v xs mx most) : ∃ A c, v = .slice A xs.length c := Kd.R_slice h.row
theorem St.chg {S : Nat → Prop} {w w' : World} {base g mx most : Nat} {v : Value} {xs : List ByteArray} (h : St w base g v xs mx most) (hc : Chg S w w') (hg : ¬ S g) (hv : ∀ k, own v k → ¬ S k) : St w' base g v xs mx most :=
  ⟨h.blk.chg hc hg, Kd.R_mono (hc.row (Kd.R_tight rfl h.row) (fun k hk => hv k hk)) (fun _ _ => trivial), h.le, h.mle, h.cap, h.gbase, Nat.le_trans h.hbase hc.size⟩
theorem St.below {w w' : World} {base g mx most : Nat} {v : Value} {xs : List ByteArray} (h : St w base g v xs mx most) (hb : Below w.heap.size w w') : St w' base g v xs mx most :=
  h.chg (S := fun _ => False) (Chg.of_below hb) (fun x => x) (fun _ _ x => x)
theorem push_end {w w1 w2 : World} {base g mx most m : Nat} {v v1 : Value} {xs : List ByteArray} {x : ByteArray} (h : St w base g v xs mx most) (hlt : xs.length < mx) (hb : Below w.heap.size w w1)
    (ho : Kd.R Kd.string 9 w1 w.heap.size (fun _ => True) v1 (xs ++ [x])) (hm : m = max most (xs.length + 1))
    (hw : (∃ n, w2 = (w1.setCell ⟨g, 0, none⟩ v1).drewN n) ∧ m = most ∨ (∃ n, w2 = ((w1.setCell ⟨g, 0, none⟩ v1).drewN n).setCell ⟨g, 2, none⟩ (.int .i64 m))) :
    St w2 base g v1 (xs ++ [x]) mx (max most (xs.length + 1)) ∧ Chg (fun k => k = g) w w2 ∧ (∀ k, own v1 k → w.heap.size ≤ k) := by
  subst hm
  have hb1 := (h.below hb).blk
  have hne := row_ne ho hb1 (by decide)
  have hc0 : Chg (fun k => k = g) w w1 := Chg.of_below hb
  have r1 := Kd.R_mono (Kd.R_far (p := ⟨g, 0, none⟩) (Kd.R_tight rfl (Kd.R_lower ho h.hbase)) (fun k hk e => hne (by rw [← hk, e])) v1) (fun _ _ => trivial : ∀ k, _ → True)
  have hown : ∀ k, own v1 k → w.heap.size ≤ k := fun k hk => Kd.R_base ho k hk.symm
  rcases hw with ⟨⟨n, rfl⟩, hm⟩ | ⟨n, rfl⟩
  · have hc1 := (hc0.setCell (p := ⟨g, 0, none⟩) (.inl rfl) v1).drewN n
    rw [hm]
    exact ⟨⟨(hb1.set_ 0 v1).drewN n, Kd.R_drewN r1 n, by simp; omega, by have := h.mle; omega, h.cap, h.gbase, Nat.le_trans h.hbase hc1.size⟩, hc1, hown⟩
  · have hc1 := ((hc0.setCell (p := ⟨g, 0, none⟩) (.inl rfl) v1).drewN n).setCell (p := ⟨g, 2, none⟩) (.inl rfl) (.int .i64 (max most (xs.length + 1) : Nat))
    have r2 := Kd.R_mono (Kd.R_far (p := ⟨g, 2, none⟩) (Kd.R_tight rfl (Kd.R_drewN r1 n)) (fun k hk e => hne (by rw [← hk, e])) (.int .i64 (max most (xs.length + 1) : Nat))) (fun _ _ => trivial : ∀ k, _ → True)
    exact ⟨⟨((hb1.set_ 0 v1).drewN n).set_ 2 _, r2, by simp; omega, by have := h.mle; omega, h.cap, h.gbase, Nat.le_trans h.hbase hc1.size⟩, hc1, hown⟩
set_option maxHeartbeats 1000000 in
set_option maxRecDepth 100000 in
theorem push (w : World) (base g : Nat) (v : Value) (xs : List ByteArray) (mx most : Nat) (x : ByteArray) (h : St w base g v xs mx most) (hlt : xs.length < mx) :
    Calls Try.prog 23 #[.pointer (some ⟨g, 0, none⟩), .string x] w fun e w' => e = .returned (.int .i64 0) ∧ ∃ v', St w' base g v' (xs ++ [x]) mx (max most (xs.length + 1)) ∧ Chg (fun k => k = g) w w' ∧ (∀ k, own v' k → w.heap.size ≤ k) := by
  obtain ⟨A, c, rfl⟩ := h.form
  have HS := Aside0.mk h
  have hcap := h.cap
  have hmle := h.mle
  obtain ⟨_, _, hC⟩ := Kd.R_reads' h.row
  have HC := Aside0.mk hC
  have c0 := h.blk.cell 0 (v := .slice A xs.length c) rfl
  have c1 := h.blk.cell 1 (v := .int .i64 mx) rfl
  clear h hC
  have t0 : decide ((xs.length : Int) ≥ (mx : Int)) = false := by simp; omega
  have t1 : decide (mx ≤ xs.length) = false := by simp; omega
  go_enter Try.func23, Try.ntmps23
  go_wp2
  go_quiet (fail)
  go_wp2_with (first | ((with_reducible refine gate_dst (N := 16) rfl ?_); refine Kd.R_lit Kd.string (w0 := w) w.heap.size 9 ?hg (N := 16) ?hd (xs := ([] : List ByteArray)) (inner := []) (ok := fun _ => True) (okp := fun _ => True) ?hr ?hp (fun _ hk => hk) trivial ?hb ?hs (by simp) ?_; (case hd => rfl); (case hg => rfl); (case hr => first | (go_simp; done) | (go_simp; rfl)); (case hp => exact (Reps.none _ _)); (case hb => exact pw_below_drewN (Below.refl _ _) _); (case hs => exact Nat.le_refl _); intro v1 w1 ho hb hg_ hnew_; have HO := Aside0.mk ho; have HB := Aside0.mk hb; have d0 := (HS.out.below hb).blk.cell 0 (v := .slice A xs.length c) rfl; clear hg_ hnew_ ho hb) | ((with_reducible refine gate_builtin (b := .append) (xs := #[.tmp 16, .tmp 20]) rfl ?_); at_builtin; refine Kd.R_append_rows Kd.string (w0 := w) w.heap.size rfl (.tmp 16) (.tmp 20) 48 9 (.string ByteArray.empty) 16 rfl Try.underlying48 info rfl (by decide) (by omega) v1 [] xs _ _ _ (fun _ => True) (fun _ => False) rfl rfl ?aO ?aR (fun _ _ h => h) (fun _ h => h.elim) ?aF ?aB ?aS ?aL ?_; (case aR => exact Kd.C_below HC.out HB.out); (case aB => exact HB.out); (case aF => exact (fun _ _ => trivial)); (case aO => exact HO.out); (case aS => exact HB.out.size); (case aL => simp; omega); intro v2 w2 ho hb hg hat; rw [List.nil_append] at ho; have HO2 := Aside0.mk ho; have HB2 := Aside0.mk hb; clear ho hb hg hat) | ((with_reducible refine gate_builtin (b := .append) (xs := #[.tmp 21, .tmp 23]) rfl ?_); at_builtin; refine Kd.R_append Kd.string (w0 := w) w.heap.size rfl (.tmp 21) (.tmp 23) 48 9 (.string ByteArray.empty) 16 rfl Try.underlying48 info rfl (by decide) (by omega) v2 xs x [.string x] (fun _ => True) (fun _ => False) rfl rfl ?aP (fun _ hk => hk.elim) ?aF ?aO ?aB ?aS ?aL ?_; (case aP => exact rfl); (case aF => exact fun _ _ => trivial); (case aO => exact HO2.out); (case aB => exact HB2.out); (case aS => exact HB2.out.size); (case aL => omega); intro v3 w3 ho hb hg hat; obtain ⟨A', c', rfl, _, _⟩ := Kd.R_reads ho; rw [List.length_append, List.length_singleton] at ho; have hb1 := (HS.out.below hb).blk; have g0 := hb1.cell 0 (v := .slice A xs.length c) rfl; have g2 := hb1.cell 2 (v := .int .i64 most) rfl; have f0 := hb1.frozen 0; have f2 := hb1.frozen 2; have HO3 := Aside0.mk ho; have HB3 := Aside0.mk hb; clear ho hb hg hat hb1))
  by_cases hm : most < xs.length + 1
  · have t2 : decide ((xs.length : Int) + 1 > (most : Int)) = true := by simp; omega
    have t3 : decide (most < xs.length + 1) = true := by simp; omega
    go_quiet (fail)
    go_wp2
    go_ret
    exact ⟨rfl, _, push_end (m := xs.length + 1) HS.out hlt HB3.out HO3.out (by omega) (.inr ⟨_, rfl⟩)⟩
  · have t2 : decide ((xs.length : Int) + 1 > (most : Int)) = false := by simp; omega
    have t3 : decide (most < xs.length + 1) = false := by simp; omega
    go_quiet (fail)
    go_wp2
    go_ret
    exact ⟨rfl, _, push_end (m := most) HS.out hlt HB3.out HO3.out (by omega) (.inl ⟨⟨_, rfl⟩, rfl⟩)⟩
set_option maxRecDepth 100000 in
theorem push_full (w : World) (base g : Nat) (v : Value) (xs : List ByteArray) (mx most : Nat) (x : ByteArray) (h : St w base g v xs mx most) (hlt : xs.length = mx) :
    Calls Try.prog 23 #[.pointer (some ⟨g, 0, none⟩), .string x] w fun e w' => e = .returned (.int .i64 10) ∧ Drawn0 w w' := by
  obtain ⟨A, c, rfl⟩ := h.form
  have hcap := h.cap
  have c0 := h.blk.cell 0 (v := .slice A xs.length c) rfl
  have c1 := h.blk.cell 1 (v := .int .i64 mx) rfl
  have t0 : decide ((xs.length : Int) ≥ (mx : Int)) = true := by simp; omega
  have t1 : decide (mx ≤ xs.length) = true := by simp; omega
  have HL := Aside0.mk hlt
  clear hlt h
  go_enter Try.func23, Try.ntmps23
  go_wp2
  go_quiet (fail)
  go_wp2
  go_ret
  exact ⟨rfl, ⟨_, rfl⟩⟩
theorem pop_end {w w1 : World} {base g mx most c n k : Nat} {A : Option Addr} {xs : List ByteArray} (h : St w base g (.slice A xs.length c) xs mx most) (hn : n + 1 = xs.length) (hw : w1 = ((w.drewN k).setCell ⟨g, 0, none⟩ (.slice A n c))) :
    St w1 base g (.slice A n c) (xs.take n) mx most ∧ Chg (fun k => k = g) w w1 ∧ (∀ k, own (.slice A n c) k → own (.slice A xs.length c) k) := by
  subst hw
  have hc1 := (((Chg.refl (fun k => k = g) w).drewN k).setCell (p := ⟨g, 0, none⟩) (.inl rfl) (.slice A n c))
  have r1 := Kd.R_drewN (Kd.R_take (m := n) h.row (by omega)) k
  have hne := row_ne r1 (h.blk.drewN k) (by decide)
  refine ⟨⟨((h.blk.drewN k).set_ 0 _), ?_, by have := h.le; rw [List.length_take]; omega, h.mle, h.cap, h.gbase, Nat.le_trans h.hbase hc1.size⟩, hc1, ?_⟩
  · exact Kd.R_mono (Kd.R_far (p := ⟨g, 0, none⟩) (Kd.R_tight rfl r1) (fun k hk e => hne (by rw [← hk, e])) _) (fun _ _ => trivial : ∀ k, _ → True)
  · intro k hk
    cases A with
    | none => exact absurd hk (by simp [own, Value.ownBlock])
    | some a => exact hk
set_option maxHeartbeats 1000000 in
set_option maxRecDepth 100000 in
theorem pop (w : World) (base g : Nat) (v : Value) (xs : List ByteArray) (y : ByteArray) (mx most : Nat) (h : St w base g v (xs ++ [y]) mx most) :
    Calls Try.prog 25 #[.pointer (some ⟨g, 0, none⟩)] w fun e w' => e = .returned (.tuple #[.string y, .int .i64 0]) ∧ ∃ v', St w' base g v' xs mx most ∧ Chg (fun k => k = g) w w' ∧ (∀ k, own v' k → own v k) := by
  obtain ⟨A, c, rfl⟩ := h.form
  have hlen : (xs ++ [y]).length = xs.length + 1 := by rw [List.length_append, List.length_singleton]
  have hle := h.le
  have hcap := h.cap
  obtain ⟨g1, c1', e1, gb, gl, cells, HG⟩ := Kd.R_form h.row (by omega)
  injection e1 with ea en ec
  subst ea ec
  obtain ⟨hx, hf⟩ := Kd.R_celln ByteArray.empty h.row (xs.length : Int) (by omega) (by omega)
  have hy : rdOf ByteArray.empty (xs ++ [y]) (xs.length : Int) = y := by simp [rdOf]
  rw [hy, Int.toNat_natCast] at hx
  obtain ⟨hxc, hcc⟩ : xs.length + 1 ≤ c ∧ c ≤ 9223372036854775807 := by
    obtain ⟨inner, ho⟩ := Kd.R_own h.row
    rcases ho.2 with ⟨e0, h0⟩ | ⟨g', cap', cur, e0, _, _, hn, hcap, _⟩
    · omega
    · injection e0 with _ _ ec
      subst ec
      unfold maxLen at hcap
      omega
  have c0 := h.blk.cell 0 (v := .slice (some ⟨g1, 0, none⟩) (xs ++ [y]).length c) rfl
  have f0 := h.blk.frozen 0
  have hend : ∀ k, _ := fun k => pop_end (n := xs.length) (k := k) h (by omega) rfl
  rw [List.take_left, hlen] at hend
  rw [hlen] at c0
  rw [hlen] at hle
  have HE := Aside0.mk hend
  clear hend h hf hy en HG gb gl
  have HL := Aside0.mk hlen
  clear hlen
  have t0 : (((xs.length : Int) + 1) == 0) = false := by rw [beq_eq_false_iff_ne]; omega
  have t1 : decide ((xs.length : Int) + 1 = 0) = false := by simp; omega
  have t2 : decide (xs.length + 1 = 0) = false := by simp
  have u1 : IntKind.i64.wrap ((xs.length : Int) + 1 - 1) = (xs.length : Int) := by rw [IntKind.wrap_i64]; omega
  have u2 : (0 : Int) ≤ (xs.length : Int) := by omega
  have u3 : (xs.length : Int) < (xs.length : Int) + 1 := by omega
  rw [HL.out]
  go_enter Try.func25, Try.ntmps25
  go_wp2
  go_quiet (fail)
  go_wp2
  go_region
  all_goals go_wp2
  all_goals
    go_ret2
    exact ⟨rfl, _, HE.out _⟩
theorem pop_empty (w : World) (base g : Nat) (v : Value) (mx most : Nat) (h : St w base g v [] mx most) :
    Calls Try.prog 25 #[.pointer (some ⟨g, 0, none⟩)] w fun e w' => e = .returned (.tuple #[.string ⟨#[]⟩, .int .i64 18]) ∧ w = w' := by
  obtain ⟨A, c, rfl⟩ := h.form
  have c0 := h.blk.cell 0 (v := .slice A 0 c) rfl
  clear h
  go_enter Try.func25, Try.ntmps25
  go_wp2
  go_ret2
  exact ⟨rfl, rfl⟩
end Go.Proofs.Ytjafjahafbkfiaa.Ref05
