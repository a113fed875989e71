/- StackMatchesReference, walked. -/
import Derived.Test.YtjafjahafbkfiaaAlive05
import Derived.Test.YtjafjahafbkfiaaStkString
import Derived.Test.YtjafjahafbkfiaaRef05
import Derived.Test.YtjafjahafbkfiaaOpen
import Derived.Deep.LoopGhost
import Derived.Deep.RegionHeld3
import Derived.Deep.DeepCutAuto
import Derived.Deep.CutBlock
namespace Go.Proofs.Ytjafjahafbkfiaa.Mat05
open Go.RowKit Go.Proofs.YtjafjahafbkfiaaW.PrintWords Go.Proofs.YtjafjahafbkfiaaW.PrintMore Go.Proofs.YtjafjahafbkfiaaW.PrintLast Go.Proofs.Ytjafjahafbkfiaa.Chg Go.Proofs.Ytjafjahafbkfiaa.Open
set_option linter.unusedVariables false
set_option linter.unusedSimpArgs false
/-- Seen from w0: the stack and the reference's. -/
structure Pr (w0 w : World) (g g' : Nat) (xs : List ByteArray) (mx most : Nat) (ys : List ByteArray) (most' : Nat) : Prop where
  st : ∃ v v', StkString.St w w0.heap.size g v xs mx most ∧ Ref05.St w w0.heap.size g' v' ys mx most' ∧ ∀ k, own v k → own v' k → False
  below : Below w0.heap.size w0 w
/-- A variable of the loop, in memory, stays. -/
def Keeps (w w' : World) : Prop := ∀ b cs, Blk w b 52 cs → Blk w' b 52 cs
theorem Keeps.of_chg {S : Nat → Prop} {w w' : World} (hc : Chg S w w') (hS : ∀ b cs, S b → Blk w b 52 cs → False) : Keeps w w' := fun b cs hb => hb.chg hc (fun hs => hS b cs hs hb)
section
variable {w0 w w' : World} {g g' mx most most' : Nat} {xs ys : List ByteArray} {x : ByteArray}
theorem Pr.later (h : Pr w0 w g g' xs mx most ys most') (hb : Below w.heap.size w w') : Pr w0 w' g g' xs mx most ys most' := by
  obtain ⟨⟨v, v', h1, h2, h3⟩, hb0⟩ := h
  exact ⟨⟨v, v', h1.below hb, h2.below hb, h3⟩, hb0.trans (hb.mono h1.hbase)⟩
theorem Pr.len (h : Pr w0 w g g' xs mx most ys most') : xs.length ≤ mx ∧ ys.length ≤ mx ∧ mx ≤ 4096 := by
  obtain ⟨⟨v, v', h1, h2, h3⟩, hb0⟩ := h
  exact ⟨h1.le, h2.le, h1.cap⟩
theorem ne_gg {v v' : Value} (h1 : StkString.St w w0.heap.size g v xs mx most) (h2 : Ref05.St w w0.heap.size g' v' ys mx most') : g' ≠ g := h2.blk.ne_ h1.blk (by decide)
/-- The stack turns. -/
theorem Pr.left {v v' v1 : Value} {xs1 : List ByteArray} {most1 : Nat} (h1 : StkString.St w w0.heap.size g v xs mx most) (h2 : Ref05.St w w0.heap.size g' v' ys mx most') (h3 : ∀ k, own v k → own v' k → False) (hb : Below w0.heap.size w0 w)
    (h4 : StkString.St w' w0.heap.size g v1 xs1 mx most1) (hc : Chg (StkString.foot g v) w w') (ho : ∀ k, own v1 k → own v k ∨ w.heap.size ≤ k) : Pr w0 w' g g' xs1 mx most1 ys most' ∧ Keeps w w' := by
  refine ⟨⟨⟨v1, v', h4, h2.chg hc ?_ ?_, ?_⟩, hc.below hb h1.foot_base h1.hbase⟩, Keeps.of_chg hc ?_⟩
  · rintro (e | e)
    · exact ne_gg h1 h2 e
    · exact row_ne h1.row h2.blk (by decide) e
  · rintro k hk (e | e)
    · subst e; exact row_ne h2.row h1.blk (by decide) hk
    · exact h3 k e hk
  · intro k hk hk'
    rcases ho k hk with h | h
    · exact h3 k h hk'
    · have := Kd.R_lt h2.row k hk'.symm; omega
  · rintro b cs (e | e) hb
    · subst e; exact hb.ne_ h1.blk (by decide) rfl
    · exact row_ne h1.row hb (by decide) e
theorem Pr.right {v v' v1 : Value} {ys1 : List ByteArray} {most1 : Nat} {S : Nat → Prop} (h1 : StkString.St w w0.heap.size g v xs mx most) (h2 : Ref05.St w w0.heap.size g' v' ys mx most') (h3 : ∀ k, own v k → own v' k → False) (hb : Below w0.heap.size w0 w)
    (h4 : Ref05.St w' w0.heap.size g' v1 ys1 mx most1) (hc : Chg (fun k => k = g') w w') (ho : ∀ k, own v1 k → own v' k ∨ w.heap.size ≤ k) : Pr w0 w' g g' xs mx most ys1 most1 ∧ Keeps w w' := by
  refine ⟨⟨⟨v, v1, h1.chg hc ?_ ?_, h4, ?_⟩, hc.below hb (fun i hi => hi ▸ h2.gbase) h2.hbase⟩, Keeps.of_chg hc ?_⟩
  · exact fun e => ne_gg h1 h2 e.symm
  · rintro k hk rfl
    exact row_ne h1.row h2.blk (by decide) hk
  · intro k hk hk'
    rcases ho k hk' with h | h
    · exact h3 k hk h
    · have := Kd.R_lt h1.row k hk.symm; omega
  · rintro b cs rfl hb
    exact hb.ne_ h2.blk (by decide) rfl
theorem Pr.push (h : Pr w0 w g g' xs mx most ys most') (hlt : xs.length < mx) :
    Calls Try.prog 22 #[.pointer (some ⟨g, 0, none⟩), .string x] w fun e w' => e = .returned (.int .i64 0) ∧ Pr w0 w' g g' (xs ++ [x]) mx (max most (xs.length + 1)) ys most' ∧ Keeps w w' := by
  obtain ⟨⟨v, v', h1, h2, h3⟩, hb⟩ := h
  exact (StkString.push w _ g v xs mx most x h1 hlt).mono fun e w' ⟨he, v1, h4, hc, ho⟩ => ⟨he, Pr.left h1 h2 h3 hb h4 hc ho⟩
theorem Pr.push' (h : Pr w0 w g g' xs mx most ys most') (hlt : ys.length < mx) :
    Calls Try.prog 23 #[.pointer (some ⟨g', 0, none⟩), .string x] w fun e w' => e = .returned (.int .i64 0) ∧ Pr w0 w' g g' xs mx most (ys ++ [x]) (max most' (ys.length + 1)) ∧ Keeps w w' := by
  obtain ⟨⟨v, v', h1, h2, h3⟩, hb⟩ := h
  exact (Ref05.push w _ g' v' ys mx most' x h2 hlt).mono fun e w' ⟨he, v1, h4, hc, ho⟩ => ⟨he, Pr.right (S := fun _ => True) h1 h2 h3 hb h4 hc (fun k hk => .inr (ho k hk))⟩
theorem keeps_drawn (n : Nat) : Keeps w (w.drewN n) := fun b cs hb => hb.drewN n
theorem Pr.full (h : Pr w0 w g g' xs mx most ys most') (hlt : xs.length = mx) :
    Calls Try.prog 22 #[.pointer (some ⟨g, 0, none⟩), .string x] w fun e w' => e = .returned (.int .i64 10) ∧ Pr w0 w' g g' xs mx most ys most' ∧ Keeps w w' := by
  obtain ⟨⟨v, v', h1, h2, h3⟩, hb⟩ := h
  exact (StkString.push_full w _ g v xs mx most x h1 hlt).mono fun e w' ⟨he, hd⟩ => by
    obtain ⟨n, rfl⟩ := hd.out
    exact ⟨he, Pr.later ⟨⟨v, v', h1, h2, h3⟩, hb⟩ (pw_below_drewN (Below.refl _ _) _), keeps_drawn n⟩
theorem Pr.full' (h : Pr w0 w g g' xs mx most ys most') (hlt : ys.length = mx) :
    Calls Try.prog 23 #[.pointer (some ⟨g', 0, none⟩), .string x] w fun e w' => e = .returned (.int .i64 10) ∧ Pr w0 w' g g' xs mx most ys most' ∧ Keeps w w' := by
  obtain ⟨⟨v, v', h1, h2, h3⟩, hb⟩ := h
  exact (Ref05.push_full w _ g' v' ys mx most' x h2 hlt).mono fun e w' ⟨he, hd⟩ => by
    obtain ⟨n, rfl⟩ := hd.out
    exact ⟨he, Pr.later ⟨⟨v, v', h1, h2, h3⟩, hb⟩ (pw_below_drewN (Below.refl _ _) _), keeps_drawn n⟩
theorem Pr.pop (h : Pr w0 w g g' (xs ++ [x]) mx most ys most') :
    Calls Try.prog 24 #[.pointer (some ⟨g, 0, none⟩)] w fun e w' => e = .returned (.tuple #[.string x, .int .i64 0]) ∧ Pr w0 w' g g' xs mx most ys most' := by
  obtain ⟨⟨v, v', h1, h2, h3⟩, hb⟩ := h
  exact (StkString.pop w _ g v xs x mx most h1).mono fun e w' ⟨he, v1, h4, hc, ho⟩ => ⟨he, (Pr.left h1 h2 h3 hb h4 hc ho).1⟩
theorem Pr.pop' (h : Pr w0 w g g' xs mx most (ys ++ [x]) most') :
    Calls Try.prog 25 #[.pointer (some ⟨g', 0, none⟩)] w fun e w' => e = .returned (.tuple #[.string x, .int .i64 0]) ∧ Pr w0 w' g g' xs mx most ys most' := by
  obtain ⟨⟨v, v', h1, h2, h3⟩, hb⟩ := h
  exact (Ref05.pop w _ g' v' ys x mx most' h2).mono fun e w' ⟨he, v1, h4, hc, ho⟩ => ⟨he, (Pr.right (S := fun _ => True) h1 h2 h3 hb h4 hc (fun k hk => .inl (ho k hk))).1⟩
theorem Pr.none_ (h : Pr w0 w g g' [] mx most ys most') :
    Calls Try.prog 24 #[.pointer (some ⟨g, 0, none⟩)] w fun e w' => e = .returned (.tuple #[.string ByteArray.empty, .int .i64 18]) ∧ w = w' := by
  obtain ⟨⟨v, v', h1, h2, h3⟩, hb⟩ := h
  exact StkString.pop_empty w _ g v mx most h1
theorem Pr.none' (h : Pr w0 w g g' xs mx most [] most') :
    Calls Try.prog 25 #[.pointer (some ⟨g', 0, none⟩)] w fun e w' => e = .returned (.tuple #[.string ⟨#[]⟩, .int .i64 18]) ∧ w = w' := by
  obtain ⟨⟨v, v', h1, h2, h3⟩, hb⟩ := h
  exact Ref05.pop_empty w _ g' v' mx most' h2
theorem Pr.clear (h : Pr w0 w g g' xs mx most ys most') :
    Calls Try.prog 26 #[.pointer (some ⟨g, 0, none⟩)] w fun e w' => e = .returned (.tuple #[]) ∧ Pr w0 w' g g' [] mx most ys most' := by
  obtain ⟨⟨v, v', h1, h2, h3⟩, hb⟩ := h
  exact (StkString.clear w _ g v xs mx most h1).mono fun e w' ⟨he, h4, hc⟩ => ⟨he, (Pr.left h1 h2 h3 hb h4 hc (fun k hk => absurd hk (by simp [own, Value.ownBlock]))).1⟩
/-- m.L = nil -/
theorem Pr.clear' (h : Pr w0 w g g' xs mx most ys most') : Pr w0 (w.setCell ⟨g', 0, none⟩ (.slice none 0 0)) g g' xs mx most [] most' := by
  obtain ⟨⟨v, v', h1, h2, h3⟩, hb⟩ := h
  have hc := (Chg.refl (fun k => k = g') w).setCell (p := ⟨g', 0, none⟩) (.inl rfl) (.slice none 0 0)
  exact (Pr.right (S := fun _ => True) h1 h2 h3 hb ⟨h2.blk.set_ 0 _, Kd.R_nil _ _ _ _ _, Nat.zero_le _, h2.mle, h2.cap, h2.gbase, Nat.le_trans h2.hbase hc.size⟩ hc (fun k hk => absurd hk (by simp [own, Value.ownBlock]))).1
theorem Pr.depth (h : Pr w0 w g g' xs mx most ys most') : Calls Try.prog 28 #[.pointer (some ⟨g, 0, none⟩)] w fun e w' => e = .returned (.int .i64 (xs.length : Int)) ∧ w = w' := by
  obtain ⟨⟨v, v', h1, h2, h3⟩, hb⟩ := h
  exact StkString.depth w _ g v xs mx most h1
theorem Pr.maxDepth (h : Pr w0 w g g' xs mx most ys most') : Calls Try.prog 29 #[.pointer (some ⟨g, 0, none⟩)] w fun e w' => e = .returned (.int .i64 (most : Int)) ∧ w = w' := by
  obtain ⟨⟨v, v', h1, h2, h3⟩, hb⟩ := h
  exact StkString.maxDepth w _ g v xs mx most h1
theorem Pr.all (h : Pr w0 w g g' xs mx most ys most') : Calls Try.prog 27 #[.pointer (some ⟨g, 0, none⟩)] w fun e w' => ∃ v, e = .returned v ∧ Kd.R Kd.string 9 w' w.heap.size (fun _ => True) v xs ∧ Pr w0 w' g g' xs mx most ys most' ∧ Below w.heap.size w w' := by
  obtain ⟨⟨v, v', h1, h2, h3⟩, hb⟩ := h
  exact (StkString.all w _ g v xs mx most h1).mono fun e w' ⟨v1, he, hr, hb1⟩ => ⟨v1, he, hr, Pr.later ⟨⟨v, v', h1, h2, h3⟩, hb⟩ hb1, hb1⟩
/-- The reference's cells, as the law reads them. -/
theorem Pr.cells (h : Pr w0 w g g' xs mx most ys most') : ∃ A c, ys.length ≤ c ∧ Kd.C Kd.string w A ys.length ys ∧ w.cell? ⟨g', 0, none⟩ = some (.slice A ys.length c) ∧ w.cell? ⟨g', 2, none⟩ = some (.int .i64 most') ∧ w.frozen? ⟨g', 0, none⟩ = false := by
  obtain ⟨⟨v, v', h1, h2, h3⟩, hb⟩ := h
  obtain ⟨A, c, rfl⟩ := h2.form
  obtain ⟨_, hc, hC⟩ := Kd.R_reads' h2.row
  exact ⟨A, c, hc, hC, h2.blk.cell 0 rfl, h2.blk.cell 2 rfl, h2.blk.frozen 0⟩
end
def mostN (n : Int) : Nat := ((n % 18446744073709551616) % 4096).toNat + 1
theorem mostN_bd (n : Int) : 1 ≤ mostN n ∧ mostN n ≤ 4096 := by unfold mostN; omega
theorem mostN_eq (n : Int) : wrap64 (1 + wrap64 ((IntKind.u64.wrap n).tmod 4096)) = (mostN n : Int) := by
  have h : IntKind.u64.wrap n = n % 18446744073709551616 := by
    simp [IntKind.wrap, IntKind.signed, IntKind.bits]
  rw [h, Int.tmod_eq_emod_of_nonneg (by omega)]
  unfold mostN wrap64
  omega
theorem most_any (w : World) (n : Int) (h0 : -9223372036854775808 ≤ n) (h1 : n ≤ 9223372036854775807) :
    Calls Try.prog 21 #[.int .i64 n] w fun e w' => e = .returned (.int .i64 (mostN n : Int)) ∧ w = w' := by
  go_enter Try.func21, Try.ntmps21
  go_wp2
  go_ret
  exact ⟨congrArg (fun z => Ending.returned (.int .i64 z)) (mostN_eq n), rfl⟩
theorem str_at {w : World} {A : Option Addr} {l : List ByteArray} (hC : Kd.C Kd.string w A l.length l) (j : Nat) (hj : j < l.length) : ∃ ad, A = some ad ∧ ∀ W, Below w.heap.size w W → W.cell? (ad.add j) = some (.string l[j]) := by
  obtain ⟨ad, rfl, hx⟩ := Kd.at_string hC (j : Int) (by omega) (by omega)
  have e : rdOf ByteArray.empty l (j : Int) = l[j] := by simp [rdOf, List.getD_eq_getElem?_getD, List.getElem?_eq_getElem hj]
  rw [e, Int.toNat_natCast] at hx
  exact ⟨ad, rfl, fun W hb => (hb.cell (World.block_lt_of_cell? w _ hx)).trans hx⟩
/-- An act. -/
def KAct : Kd (Int × ByteArray) := Kd.pair (Kd.int .i64) Kd.string
theorem act_at {w : World} {A : Option Addr} {l : List (Int × ByteArray)} (hC : KAct.C w A l.length l) (j : Nat) (hj : j < l.length) : ∃ ad, A = some ad ∧ ∀ W, Below w.heap.size w W → W.cell? (ad.add (j * 2)) = some (.int .i64 l[j].1) ∧ W.cell? ⟨(ad.add (j * 2)).block, (ad.add (j * 2)).off + 1, none⟩ = some (.string l[j].2) := by
  obtain ⟨ad, rfl, h⟩ := hC.2.2 (by omega)
  obtain ⟨c, hl, ⟨c0, c1, rfl, k0, k1⟩, hc⟩ := h j l[j] (List.getElem?_eq_getElem hj)
  have e0 : c0 = [.int .i64 l[j].1] := k0
  have e1 : c1 = [.string l[j].2] := k1
  subst e0 e1
  have h0 : w.cell? (ad.add (j * 2 + 0)) = some (.int .i64 l[j].1) := hc 0 _ rfl
  have h1 : w.cell? (ad.add (j * 2 + 1)) = some (.string l[j].2) := hc 1 _ rfl
  rw [← Go.Deep.add_add] at h1
  replace h1 : w.cell? ⟨(ad.add (j * 2)).block, (ad.add (j * 2)).off + 1, none⟩ = some (.string l[j].2) := h1
  exact ⟨ad, rfl, fun W hb => ⟨(hb.cell (World.block_lt_of_cell? w _ h0)).trans h0, (hb.cell (World.block_lt_of_cell? w _ h1)).trans h1⟩⟩
set_option maxHeartbeats 1000000 in
set_option maxRecDepth 100000 in
theorem walk (w : World) (n : Int) (hn : (Lit.int .i64 n).wf = true) (A0 : Option Addr) (c0 : Nat) (l : List (Int × ByteArray)) (hl : l.length ≤ c0) (hC : KAct.C w A0 l.length l) {Q : Int × ByteArray → Prop} (hQ : SlQ Q l) :
    Calls Try.prog 5 #[.int .i64 n, .slice A0 l.length c0] w fun e w' => e = .returned (.bool true) ∧ Below w.heap.size w w' := by
  have hlen := Kd.C_max hC
  have HC := Aside0.mk hC
  have hn1 : -9223372036854775808 ≤ n ∧ n ≤ 9223372036854775807 := by
    simp [Lit.wf, IntKind.min, IntKind.max, IntKind.signed, IntKind.bits] at hn
    omega
  go_enter Try.func5, Try.ntmps5
  clear hn hl hC hQ
  go_wp2_with fail
  refine (most_any w n hn1.1 hn1.2).mono ?_
  rintro e w1 ⟨rfl, rfl⟩
  have hm := mostN_bd n
  obtain ⟨m, hme⟩ : ∃ m, m = mostN n := ⟨_, rfl⟩
  rw [← hme] at hm
  rw [← hme]
  have HMN := Aside0.mk hme
  obtain ⟨hm1, hm2⟩ := hm
  clear hme
  go_wp2_with fail
  refine (StkString.new w (m : Int) (by omega) (by omega) w.heap.size (Nat.le_refl _)).mono ?_
  rintro e w1 ⟨rfl, hs, hb, hz⟩
  rw [Int.toNat_natCast] at hs
  have HS := Aside0.mk hs
  have HB := Aside0.mk hb
  clear hs hb hz
  go_wp2_with fail
  refine (Alive05.alive w1).mono ?_
  rintro e w2 ⟨rfl, hb⟩
  have HS2 := Aside0.mk (HS.out.below hb)
  have HB2 := Aside0.mk (HB.out.trans (hb.mono HB.out.size))
  clear hb HS HB
  by_cases hle : 300 < l.length
  · have t0 : decide ((l.length : Int) > 300) = true := by simp; omega
    go_wp2_with fail
    refine (Alive05.alive w2).mono ?_
    rintro e w3 ⟨rfl, hb⟩
    have HB3 := Aside0.mk (HB2.out.trans (hb.mono HB2.out.size))
    clear hb
    go_wp2_with fail
    go_ret
    exact ⟨rfl, HB3.out⟩
  have t0 : decide ((l.length : Int) > 300) = false := by simp; omega
  go_wp2_with fail
  refine (most_any w2 n hn1.1 hn1.2).mono ?_
  rintro e w3 ⟨rfl, rfl⟩
  rw [← HMN.out]
  go_wp2_with fail
  have HP : Aside0 (Pr w (w2.alloc (.cells #[.slice none 0 0, .int .i64 m, .int .i64 0] 50)) w.heap.size w2.heap.size [] m 0 [] 0) := by
    have hal := (Below.refl w2.heap.size w2).alloc (Nat.le_refl _) (.cells #[.slice none 0 0, .int .i64 m, .int .i64 0] 50)
    refine ⟨⟨_, .slice none 0 0, HS2.out.below hal, ⟨Blk.new _ _ _, Kd.R_nil _ _ _ _ _, Nat.zero_le _, Nat.zero_le _, hm2, HB2.out.size, Nat.le_trans HB2.out.size hal.size⟩, fun k hk => absurd hk (by simp [own, Value.ownBlock])⟩, HB2.out.trans (hal.mono HB2.out.size)⟩
  obtain ⟨g', hg'⟩ : ∃ g' : Nat, g' = w2.heap.size := ⟨_, rfl⟩
  rw [← hg'] at HP
  rw [← hg']
  clear hg' HS2 HB2 HMN
  go_loopw [52] (fun v w' => ∃ j : Nat, j ≤ l.length ∧ v = .int .i64 j ∧ ∃ xs most, Aside0 (Pr w w' w.heap.size g' xs m most xs most)) (fun v _ => l.length - (intOf v).toNat)
  case atStart => exact ⟨0, Nat.zero_le _, rfl, [], 0, HP⟩
  case round =>
    clear HP
    obtain ⟨j, hj, rfl, xs, most, HP⟩ := hrel
    by_cases hlt : j < l.length
    · obtain ⟨ad, rfl, hxx⟩ := act_at HC.out j hlt
      obtain ⟨hx0, hx1⟩ := hxx wr HP.out.below
      obtain ⟨kd, hk⟩ : ∃ kd, kd = l[j].1 := ⟨_, rfl⟩
      obtain ⟨x, hxe⟩ : ∃ x, x = l[j].2 := ⟨_, rfl⟩
      rw [← hk] at hx0
      rw [← hxe] at hx1
      clear hk hxe hxx
      go_upto_block 2 with (fail)
      have HP2 := Aside0.mk (HP.out.later ((Below.refl wr.heap.size wr).alloc (Nat.le_refl _) (.cells #[.int .i64 kd, .string x] 52)))
      have HV := Aside0.mk (Blk.new wr 52 #[.int .i64 kd, .string x])
      clear HP hx0 hx1
      obtain ⟨ga, hga⟩ : ∃ ga : Nat, ga = wr.heap.size := ⟨_, rfl⟩
      rw [← hga] at HV
      rw [← hga]
      obtain ⟨W, hW⟩ : ∃ W, W = wr.alloc (.cells #[.int .i64 kd, .string x] 52) := ⟨_, rfl⟩
      rw [← hW] at HV HP2
      rw [← hW]
      clear hW hga
      go_cut [] (fun wc => ∃ xs most, Aside0 (Pr w wc w.heap.size g' xs m most xs most))
      case first =>
        have hlen1 := HP2.out.len
        have v1 := HV.out.cell 1 (v := .string x) rfl
        by_cases k0 : kd = 0
        · subst k0
          by_cases hfull : xs.length = m
          · go_wp2_with fail
            go_region_held3 (fun w' => w'.cell? ⟨ga, 1, none⟩ = some (.string x)) (go_keep) (first | (go_at_call 22; refine (Pr.full (HP2.out.later (pw_below_drewN (Below.refl _ _) 1)) hfull).mono ?_; rintro e w5 ⟨rfl, h, hk⟩; have v2 := (hk _ _ (HV.out.drewN 1)).cell 1 (v := .string x) rfl; have HP3 := Aside0.mk h; have HV3 := Aside0.mk (hk _ _ (HV.out.drewN 1)); clear h hk) | (go_at_call 23; refine (Pr.full' HP3.out hfull).mono ?_; rintro e w6 ⟨rfl, h, hk⟩; have v3 := (hk _ _ HV3.out).cell 1 (v := .string x) rfl; have HP4 := Aside0.mk h; clear h hk))
            all_goals (go_wp2_with fail; go_meet; exact ⟨_, _, HP4⟩)
          · have hroom : xs.length < m := by omega
            go_wp2_with fail
            go_region_held3 (fun w' => w'.cell? ⟨ga, 1, none⟩ = some (.string x)) (go_keep) (first | (go_at_call 22; refine (Pr.push (HP2.out.later (pw_below_drewN (Below.refl _ _) 1)) hroom).mono ?_; rintro e w5 ⟨rfl, h, hk⟩; have v2 := (hk _ _ (HV.out.drewN 1)).cell 1 (v := .string x) rfl; have HP3 := Aside0.mk h; have HV3 := Aside0.mk (hk _ _ (HV.out.drewN 1)); clear h hk) | (go_at_call 23; refine (Pr.push' HP3.out hroom).mono ?_; rintro e w6 ⟨rfl, h, hk⟩; have v3 := (hk _ _ HV3.out).cell 1 (v := .string x) rfl; have HP4 := Aside0.mk h; clear h hk))
            all_goals (go_wp2_with fail; go_meet; exact ⟨_, _, HP4⟩)
        · have k0b : decide (kd = 0) = false := by simp [k0]
          have k0c : (kd == 0) = false := by simp [k0]
          by_cases k1 : kd = 1
          · subst k1
            rcases List.eq_nil_or_concat xs with rfl | ⟨ys, y, rfl⟩
            · go_wp2_with fail
              refine (HP2.out.none_).mono ?_
              rintro e w5 ⟨rfl, rfl⟩
              go_wp2_with fail
              refine (HP2.out.none').mono ?_
              rintro e w5 ⟨rfl, rfl⟩
              go_wp2_with fail
              go_meet
              exact ⟨_, _, HP2⟩
            · rw [List.concat_eq_append] at HP2
              go_wp2_with fail
              refine (HP2.out.pop).mono ?_
              rintro e w5 ⟨rfl, h⟩
              have HP3 := Aside0.mk h
              clear h
              go_wp2_with fail
              refine (HP3.out.pop').mono ?_
              rintro e w6 ⟨rfl, h⟩
              have HP4 := Aside0.mk h
              clear h
              have q0 : (!(y.toList == y.toList)) = false := by simp
              go_wp2_with fail
              go_meet
              exact ⟨_, _, HP4⟩
          · have k1b : decide (kd = 1) = false := by simp [k1]
            have k1c : (kd == 1) = false := by simp [k1]
            go_wp2_with fail
            refine (HP2.out.clear).mono ?_
            rintro e w5 ⟨rfl, h⟩
            obtain ⟨A, c, _, _, d0, _, df⟩ := h.cells
            have HP3 := Aside0.mk h
            clear h
            go_wp2_with fail
            go_meet
            exact ⟨_, _, ⟨HP3.out.clear'⟩⟩
      case rest =>
        obtain ⟨ys, most1, HP5⟩ := hcut
        go_wp2_with fail
        refine (HP5.out.all).mono ?_
        rintro e w5 ⟨v1, rfl, hr, h, hb⟩
        obtain ⟨A1, c1, rfl, hc1, hC1⟩ := Kd.R_reads hr
        obtain ⟨A2, c2, hc2, hC2, d0, d2, df⟩ := h.cells
        have HP6 := Aside0.mk h
        have HC1 := Aside0.mk hC1
        have HC2 := Aside0.mk hC2
        clear hr h hb hC1 hC2
        have q1 : ((ys.length : Int) != (ys.length : Int)) = false := bne_self_eq_false _
        have q2 : ((most1 : Int) != (most1 : Int)) = false := bne_self_eq_false _
        go_wp2_with fail
        go_quiet ((first | (go_at_call 28; exact Calls.quiet_of_same ((HP6.out.later (pw_below_drewN (Below.refl _ _) _)).depth.mono fun _ _ ⟨a, b⟩ => ⟨a, b.symm⟩)) | (go_at_call 29; exact Calls.quiet_of_same ((HP6.out.later (pw_below_drewN (Below.refl _ _) _)).maxDepth.mono fun _ _ ⟨a, b⟩ => ⟨a, b.symm⟩))))
        go_wp2_with fail
        have hl4 := HP6.out.len
        obtain ⟨W2, hW2⟩ : ∃ W2, W2 = w5.drewN nq := ⟨_, rfl⟩
        have hB2 : Below w5.heap.size w5 W2 := by rw [hW2]; exact pw_below_drewN (Below.refl _ _) _
        have HP7 := Aside0.mk (HP6.out.later hB2)
        have HD1 := Aside0.mk (Kd.C_below HC1.out hB2)
        have HD2 := Aside0.mk (Kd.C_below HC2.out hB2)
        have d0' : W2.cell? ⟨g', 0, none⟩ = some (.slice A2 ys.length c2) := by rw [hW2]; exact d0
        rw [← hW2]
        clear hW2 hB2 d0 d2 df HP6 HC1 HC2
        go_loopw [125] (fun v w' => ∃ i : Nat, i ≤ ys.length ∧ v = .int .i64 i ∧ Aside0 (Below W2.heap.size W2 w')) (fun v _ => ys.length - (intOf v).toNat)
        case atStart => exact ⟨0, Nat.zero_le _, rfl, ⟨Below.refl _ _⟩⟩
        case round =>
          obtain ⟨i, hi, rfl, HB⟩ := hrel
          by_cases hlt2 : i < ys.length
          · obtain ⟨ad1, rfl, hxx1⟩ := str_at HD1.out i hlt2
            have hx1 := hxx1 wr HB.out
            obtain ⟨ad2, rfl, hxx2⟩ := str_at HD2.out i hlt2
            have hx2 := hxx2 wr HB.out
            have d1' : wr.cell? ⟨g', 0, none⟩ = some (.slice (some ad2) ys.length c2) := (HB.out.cell (World.block_lt_of_cell? _ _ d0')).trans d0'
            obtain ⟨y, hy⟩ : ∃ y, y = ys[i] := ⟨_, rfl⟩
            rw [← hy] at hx1 hx2
            have q0 : (!(y.toList == y.toList)) = false := by simp
            clear hxx1 hxx2 hy
            go_wp2_with fail
            go_quiet (fail)
            go_wp2_with fail
            go_roundw
            case rel => exact ⟨i + 1, hlt2, by go_num, ⟨pw_below_drewN HB.out _⟩⟩
            case measure => simp [intOf]; omega
          · obtain rfl : i = ys.length := by omega
            go_wp2_with fail
            go_roundw
            case rel => exact ⟨j + 1, hlt, by go_num, _, _, ⟨HP7.out.later HB.out⟩⟩
            case measure => simp [intOf]; omega
    · obtain rfl : j = l.length := by omega
      go_wp2_with fail
      go_ret
      exact ⟨rfl, HP.out.below⟩
end Go.Proofs.Ytjafjahafbkfiaa.Mat05
