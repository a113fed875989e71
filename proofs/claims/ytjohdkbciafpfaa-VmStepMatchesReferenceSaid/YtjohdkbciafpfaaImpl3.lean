/- Printed by a program of this session (a copy of the kit's print.py, one text for all functions of the seat), with some contracts typed by hand among them: for each Go function a Lean function and a proof that the code comes to its answers. -/
import Derived.Test.YtjohdkbciafpfaaImpl0
import Derived.Test.YtjohdkbciafpfaaImpl2
namespace Go.Proofs.Ytjohdkbciafpfaa.Impl
open Go.RowKit Go.Proofs.YtjohdkbciafpfaaW.PrintWords Go.Proofs.YtjohdkbciafpfaaW.PrintLast Go.Proofs.YtjohdkbciafpfaaW.PrintMore
attribute [local go_sem] max2_int min2_int max_two min_two
set_option linter.unusedVariables false
set_option linter.unusedSimpArgs false

/-! ### image_Set: function 45 (typed by hand: copy) -/
def image_Set.f (l0 : List Bool) (a1 : Int) (a2 : Bool) : Option (List Bool × Int) := if 0 ≤ a1 then (if a1 < (l0.length : Int) then (if l0.length ≤ 281474976710656 then some (l0.set a1.toNat a2, 0) else none) else some ([], 3)) else some ([], 3)
set_option maxHeartbeats 1000000 in
set_option maxRecDepth 100000 in
theorem image_Set.calls (A0 : Option Addr) (c0 : Nat) (l0 : List Bool) (a1 : Int) (a2 : Bool) (r1 : List Bool) (r2 : Int) (w : World) (hr0 : Kd.C Kd.bool w A0 l0.length l0) (hc0 : l0.length ≤ c0) (h : image_Set.f l0 a1 a2 = some (r1, r2)) :
    Calls Try.prog 45 #[.slice A0 l0.length c0, .int .i64 a1, .bool a2] w fun e w' => ∃ v0_ : Value, e = .returned (.tuple #[v0_, .int .i64 r2]) ∧ Kd.R Kd.bool 4 w' w.heap.size (fun _ => True) v0_ r1 ∧ Below w.heap.size w w' := by
  have HR0 := Aside0.mk hr0
  have HC0 := Aside0.mk hc0
  clear hr0 hc0
  unfold image_Set.f at h
  by_cases c2 : 0 ≤ a1
  · rw [if_pos c2] at h
    by_cases c3 : a1 < (l0.length : Int)
    · rw [if_pos c3] at h
      by_cases c4 : l0.length ≤ 281474976710656
      · rw [if_pos c4] at h
        obtain ⟨rfl, rfl⟩ : l0.set a1.toNat a2 = r1 ∧ 0 = r2 := by injection h with h; injection h with h1 h2; exact ⟨h1, h2⟩
        have P2 := Aside0.mk (show 0 < l0.length by omega)
        have P0 := Aside0.mk (show (0:Int) ≤ (l0.length : Int) by omega)
        have P1 := Aside0.mk (show (l0.length : Int).toNat * 1 ≤ 281474976710656 by omega)
        have HI : image_is.f l0 a1 = some true := by unfold image_is.f; rw [if_pos c2, decide_eq_true c3]
        have HI' := Aside0.mk HI
        clear HI c4 h
        have q2 := c2
        have q3 := c3
        replace c2 := eq_true c2
        have c3b : decide (a1 < (l0.length : Int)) = true := decide_eq_true c3
        clear c3
        go_enter Try.func45, Try.ntmps45
        go_wp2_with (first | ((with_reducible refine gate_callee (f := 59) rfl ?_); refine goesL_ (some 11) rfl rfl Try.func59 (by kernel_rfl) rfl #[.slice A0 l0.length c0, .int .i64 a1] rfl (by (try simp only [List.map_toArray, List.map_cons, List.map_nil]); first | done | rfl | (simp only [List.length_drop, List.length_take]; rfl)) ?_; (with_reducible refine (image_is.calls _ _ l0 a1 true _ HR0.out HC0.out HI'.out).mono ?_); rintro e w1 ⟨rfl, ⟨nd, rfl⟩⟩; refine ⟨_, rfl, ?_⟩) | ((with_reducible refine gate_dst (N := 15) rfl ?_); refine Kd.R_make Kd.bool (w0 := w) w.heap.size 4 rfl (N := 15) rfl 22 _ _ rfl (l0.length : Int) rfl rfl Try.underlying22 (.bool false) 1 info4 rfl (by decide) (by omega) false (ok := fun _ => True) (okp := fun _ => True) rfl (fun _ hk => hk) trivial P0.out P1.out ?hb ?hs ?_; (case hb => exact pw_below_drewN (Below.refl _ _) _); (case hs => exact Nat.le_refl _); intro v1 w2 ho hb hg hnew; have hlr : (List.replicate (l0.length : Int).toNat false).length = l0.length := (by rw [List.length_replicate]; exact Int.toNat_natCast _); obtain ⟨g, cap, rfl, gb, gl, cells, HG⟩ := Kd.R_form ho (by rw [hlr]; exact P2.out); rw [hlr] at ho; have HO := Aside0.mk ho; have HB := Aside0.mk hb; have HL := Aside0.mk hlr; have GB := Aside0.mk gb; clear ho hb hg hnew hlr gb gl HG) | ((with_reducible refine gate_dst (N := 18) rfl ?_); refine Myw.copy_full rfl (.tmp 16) (.tmp 17) 22 22 rfl Try.underlying22 (by kernel_rfl) (.slice (some ⟨g, 0, none⟩) l0.length cap) A0 c0 _ l0 rfl rfl HL.out P2.out HO.out (Kd.C_below HR0.out HB.out) HB.out ?_; intro w3 ho hb; have HP := Aside0.mk (Kd.R_putg (cap := cap) (g := g) (n := l0.length) ho a1 a2); obtain ⟨hx, hf⟩ := Kd.R_celln false ho a1 q2 q3; have HB3 := Aside0.mk hb; clear ho hb))
        go_ret2
        exact ⟨_, rfl, HP.out.1, below_set HB3.out GB.out⟩
      · rw [if_neg c4] at h
        exact absurd h (by simp)
    · rw [if_neg c3] at h
      obtain ⟨rfl, rfl⟩ : [] = r1 ∧ 3 = r2 := by injection h with h; injection h with h1 h2; exact ⟨h1, h2⟩
      clear h
      have HI : image_is.f l0 a1 = some false := by unfold image_is.f; rw [if_pos c2, decide_eq_false c3]
      have HI' := Aside0.mk HI
      clear HI c2 c3
      go_enter Try.func45, Try.ntmps45
      go_wp2_with (((with_reducible refine gate_callee (f := 59) rfl ?_); refine goesL_ (some 11) rfl rfl Try.func59 (by kernel_rfl) rfl #[.slice A0 l0.length c0, .int .i64 a1] rfl (by (try simp only [List.map_toArray, List.map_cons, List.map_nil]); first | done | rfl | (simp only [List.length_drop, List.length_take]; rfl)) ?_; (with_reducible refine (image_is.calls _ _ l0 a1 false _ HR0.out HC0.out HI'.out).mono ?_); rintro e w1 ⟨rfl, ⟨nd, rfl⟩⟩; refine ⟨_, rfl, ?_⟩))
      go_ret2
      exact ⟨_, rfl, Kd.R_nil _ _ _ _ _, pw_below_drewN (Below.refl _ _) _⟩
  · rw [if_neg c2] at h
    obtain ⟨rfl, rfl⟩ : [] = r1 ∧ 3 = r2 := by injection h with h; injection h with h1 h2; exact ⟨h1, h2⟩
    clear h
    have HI : image_is.f l0 a1 = some false := by unfold image_is.f; rw [if_neg c2]
    have HI' := Aside0.mk HI
    clear HI c2
    go_enter Try.func45, Try.ntmps45
    go_wp2_with (((with_reducible refine gate_callee (f := 59) rfl ?_); refine goesL_ (some 11) rfl rfl Try.func59 (by kernel_rfl) rfl #[.slice A0 l0.length c0, .int .i64 a1] rfl (by (try simp only [List.map_toArray, List.map_cons, List.map_nil]); first | done | rfl | (simp only [List.length_drop, List.length_take]; rfl)) ?_; (with_reducible refine (image_is.calls _ _ l0 a1 false _ HR0.out HC0.out HI'.out).mono ?_); rintro e w1 ⟨rfl, ⟨nd, rfl⟩⟩; refine ⟨_, rfl, ?_⟩))
    go_ret2
    exact ⟨_, rfl, Kd.R_nil _ _ _ _ _, pw_below_drewN (Below.refl _ _) _⟩

end Go.Proofs.Ytjohdkbciafpfaa.Impl
