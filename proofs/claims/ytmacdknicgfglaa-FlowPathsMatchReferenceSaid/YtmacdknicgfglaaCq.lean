/- What the printed reference function CountPaths computes. -/
import Derived.Test.YtmacdknicgfglaaCp
import Derived.Test.YtmacdknicgfglaaPq
import Derived.Test.YtmacdknicgfglaaIm2
namespace Go.Proofs.Ytmacdknicgfglaa.Pe
open Go.RowKit Go.Proofs.YtmacdknicgfglaaW.PrintWords Go.Proofs.YtmacdknicgfglaaW.PrintMore Go.Proofs.Ytmacdknicgfglaa.Impl Go.Proofs.Ytmacdknicgfglaa.Gp Go.Proofs.Ytmacdknicgfglaa.Gw
set_option linter.unusedVariables false
set_option linter.unusedSimpArgs false
section
variable {a0 a3 : ByteArray} {l1 : List S41} {l2 : List S101}
/-- The inner loop: the one place of the contact's source. -/
theorem cp_l2 (r : List ByteArray) (n : List Int) (i kk p f : Nat) (hi : i < r.length) (hn : n.length = r.length) (hk : kk < l1.length) (hp : p < i) (hrp : r[p] = l1[kk].f2) (hu : ∀ (m : Nat) (hm : m < r.length), r[m] = l1[kk].f2 → m = p) (hf : n[p] = (f : Int)) (hfb : f ≤ 1073741824) (hr : r.length ≤ 3000) (hl : l1.length ≤ 1000) (res : Int × Int) :
    ∀ (d j v : Nat), i = j + d → (j ≤ p → v + f ≤ 4000000000000) → Ev (fun k => busbarref13_CountPaths.l1 k r (n.set i (((if j ≤ p then v + f else v) : Nat) : Int)) (i : Int) ((kk + 1 : Nat) : Int) a0 l1 l2 a3) res → Ev (fun k => busbarref13_CountPaths.l2 k r (n.set i (v : Int)) (i : Int) (kk : Int) (j : Int) a0 l1 l2 a3) res
  | 0, j, v, h, hv, hk' => by
    rw [if_neg (by omega)] at hk'
    refine Ev.step (fun k => ?_) hk'
    simp only [busbarref13_CountPaths.l2]; rw [if_neg (by omega), w64 hk (by omega)]
  | d + 1, j, v, h, hv, hk' => by
    have hj : j < r.length := by omega
    have hjn : j < n.length := by omega
    have hin : i < n.length := by omega
    by_cases e : r[j] = l1[kk].f2
    · obtain rfl := hu j hj e
      rw [if_pos (Nat.le_refl _)] at hk'
      have ih := cp_l2 r n i kk j f hi hn hk hp hrp hu hf hfb hr hl res d (j + 1) (v + f) (by omega) (fun q => by omega) (by rw [if_neg (by omega)]; exact hk')
      have hv' := hv (Nat.le_refl _)
      refine Ev.step (fun k => ?_) ih
      simp only [busbarref13_CountPaths.l2]
      rw [if_pos (by omega), if_pos (by omega), if_pos (by omega), if_pos (by omega), if_pos (by omega), rd41_lt _ _ hk, rdOf_lt _ _ _ hj, if_pos (by rw [e]), if_pos (by omega), if_pos (by rw [List.length_set]; omega), if_pos (by rw [List.length_set]; omega), w64 (n := i) (by omega) (by omega)]
      rw [rd_lt _ _ (by rw [List.length_set]; exact hin), rd_lt _ _ (by rw [List.length_set]; exact hjn), List.getElem_set_self, List.getElem_set_ne (by omega), hf, Int.toNat_natCast, List.set_set]
      congr 2
      unfold wrap64; omega
    · have hjp : j ≠ p := fun q => e (by subst q; exact hrp)
      have ih := cp_l2 r n i kk p f hi hn hk hp hrp hu hf hfb hr hl res d (j + 1) v (by omega) (fun q => hv (by omega)) (by
        have : (if j + 1 ≤ p then v + f else v) = if j ≤ p then v + f else v := by
          by_cases h1 : j ≤ p
          · rw [if_pos h1, if_pos (by omega)]
          · rw [if_neg h1, if_neg (by omega)]
        rw [this]; exact hk')
      refine Ev.step (fun k => ?_) ih
      simp only [busbarref13_CountPaths.l2]
      rw [if_pos (by omega), if_pos (by omega), if_pos (by omega), if_pos (by omega), if_pos (by omega), rd41_lt _ _ hk, rdOf_lt _ _ _ hj, if_neg (fun q => e (toList_inj.1 q)), w64 (n := i) (by omega) (by omega)]
theorem sL_list : sL.toList = [76] := by decide +kernel
theorem sR_list : sR.toList = [82] := by decide +kernel
theorem res_some {a b : Int × Int} (h : a = b) : Ev (fun _ : Nat => some a) b := by rw [h]; exact Ev.now _
/-- The loop over the contacts. -/
theorem cp_l1 (r : List ByteArray) (n : List Int) (i : Nat) (F : ByteArray → Nat) (hi : i < r.length) (hn : n.length = r.length) (hnd : r.Nodup) (hF : ∀ (j : Nat) (hj : j < n.length), j < i → n[j] = (F (r[j]'(by omega)) : Int)) (hFb : ∀ y, F y ≤ 1073741824) (hord : ∀ c ∈ es l1, c.2 = r[i] → c.1 ∈ r.take i) (hr : r.length ≤ 3000) (hl : l1.length ≤ 1000) (res : Int × Int) :
    ∀ (d kk v : Nat), l1.length = kk + d → v ≤ 1073741824 * (kk + 1) →
    (∀ v' : Nat, v' = v + sumE ((es l1).drop kk) (fun c => if c.2 = r[i] then F c.1 else 0) → (r[i] = sR → res = (((min 1073741824 v' : Nat) : Int), 0)) ∧ (r[i] ≠ sR → Ev (fun k => busbarref13_CountPaths.l0 k r (n.set i ((min 1073741824 v' : Nat) : Int)) ((i + 1 : Nat) : Int) a0 l1 l2 a3) res)) →
    Ev (fun k => busbarref13_CountPaths.l1 k r (n.set i (v : Int)) (i : Int) (kk : Int) a0 l1 l2 a3) res
  | 0, kk, v, h, hv, hk => by
    have hin : i < n.length := by omega
    rw [List.drop_of_length_le (by rw [es_len]; omega), sumE_nil] at hk
    obtain ⟨h1, h2⟩ := hk v (by omega)
    have hg : rd (n.set i (v : Int)) (i : Int) = (v : Int) := by rw [rd_lt _ _ (by rw [List.length_set]; exact hin), List.getElem_set_self]
    have hs : (n.set i (v : Int)).set (i : Int).toNat 1073741824 = n.set i 1073741824 := by rw [Int.toNat_natCast, List.set_set]
    have hg2 : rd (n.set i 1073741824) (i : Int) = 1073741824 := by rw [rd_lt _ _ (by rw [List.length_set]; exact hin), List.getElem_set_self]
    by_cases e : r[i] = sR
    · rw [h1 e]
      by_cases hb : v > 1073741824
      · refine Ev.step (f := fun _ => some ((((min 1073741824 v : Nat) : Int), (0 : Int)))) (fun k => ?_) (Ev.now _)
        simp only [busbarref13_CountPaths.l1]
        rw [if_neg (by omega), if_pos (by omega), if_pos (by rw [List.length_set]; omega), hg, if_pos (by omega), Option.bind_some, if_pos (by omega), rdOf_lt _ _ _ hi, if_pos (by rw [e]; exact sR_list), hs, hg2]
        have : ((min 1073741824 v : Nat) : Int) = 1073741824 := by omega
        rw [this]
      · refine Ev.step (f := fun _ => some ((((min 1073741824 v : Nat) : Int), (0 : Int)))) (fun k => ?_) (Ev.now _)
        simp only [busbarref13_CountPaths.l1]
        rw [if_neg (by omega), if_pos (by omega), if_pos (by rw [List.length_set]; omega), hg, if_neg (by omega), if_pos (by omega), rdOf_lt _ _ _ hi, if_pos (by rw [e]; exact sR_list)]
        have : ((min 1073741824 v : Nat) : Int) = (v : Int) := by omega
        rw [this]
    · have h3 := h2 e
      have ne : ¬ (r[i].toList = ([82] : List UInt8)) := fun q => e (toList_inj.1 (q.trans sR_list.symm))
      by_cases hb : v > 1073741824
      · have : ((min 1073741824 v : Nat) : Int) = 1073741824 := by omega
        rw [this] at h3
        refine Ev.step (fun k => ?_) h3
        simp only [busbarref13_CountPaths.l1]
        rw [if_neg (by omega), if_pos (by omega), if_pos (by rw [List.length_set]; omega), hg, if_pos (by omega), Option.bind_some, if_pos (by omega), rdOf_lt _ _ _ hi, if_neg ne, hs, w64 hi (by omega)]
      · have : ((min 1073741824 v : Nat) : Int) = (v : Int) := by omega
        rw [this] at h3
        refine Ev.step (fun k => ?_) h3
        simp only [busbarref13_CountPaths.l1]
        rw [if_neg (by omega), if_pos (by omega), if_pos (by rw [List.length_set]; omega), hg, if_neg (by omega), if_pos (by omega), rdOf_lt _ _ _ hi, if_neg ne, w64 hi (by omega)]
  | d + 1, kk, v, h, hv, hk => by
    have hj : kk < l1.length := by omega
    have hje : kk < (es l1).length := by rw [es_len]; exact hj
    rw [drop_cons (es l1) kk hje, sumE_cons, es_get hj] at hk
    by_cases e : l1[kk].f3 = r[i]
    · have hm := hord (l1[kk].f2, l1[kk].f3) (by rw [← es_get hj]; exact List.getElem_mem _) e
      obtain ⟨p, hp, q⟩ := List.getElem_of_mem hm
      rw [List.length_take] at hp
      rw [List.getElem_take] at q
      replace q : r[p] = l1[kk].f2 := q
      simp only [if_pos e] at hk
      have hFp := hFb l1[kk].f2
      have ih := cp_l1 r n i F hi hn hnd hF hFb hord hr hl res d (kk + 1) (v + F l1[kk].f2) (by omega) (by omega) (fun v' hv' => hk v' (by omega))
      have h2 := cp_l2 (a0 := a0) (a3 := a3) (l2 := l2) r n i kk p (F l1[kk].f2) hi hn hj (by omega) q (fun m hm qm => by
        have h5 := posL_at hnd hm
        have h6 := posL_at hnd (show p < r.length by omega)
        rw [qm] at h5
        rw [q] at h6
        omega) (by rw [hF p (by omega) (by omega), q]) hFp hr hl res i 0 v (by omega) (fun _ => by omega) (by rw [if_pos (Nat.zero_le _)]; exact ih)
      refine Ev.step (fun k => ?_) h2
      simp only [busbarref13_CountPaths.l1]
      rw [if_pos (by omega), if_pos (by omega), if_pos (by omega), if_pos (by omega), rd41_lt _ _ hj, rdOf_lt _ _ _ hi, if_pos (by rw [e])]
      rfl
    · simp only [if_neg e, Nat.zero_add] at hk
      have ih := cp_l1 r n i F hi hn hnd hF hFb hord hr hl res d (kk + 1) v (by omega) (by omega) hk
      refine Ev.step (fun k => ?_) ih
      simp only [busbarref13_CountPaths.l1]
      rw [if_pos (by omega), if_pos (by omega), if_pos (by omega), if_pos (by omega), rd41_lt _ _ hj, rdOf_lt _ _ _ hi, if_neg (fun q => e (toList_inj.1 q)), w64 hj (by omega)]
/-- The number of ways from L, bounded. -/
def Fb (l : List Ed) (y : ByteArray) : Nat := min 1073741824 (Bw l y sL)
theorem min_add (a b : Nat) : min 1073741824 (a + min 1073741824 b) = min 1073741824 (a + b) := by omega
theorem min_sum (l : List Ed) (p : Ed → Prop) [DecidablePred p] (f : Ed → Nat) (a : Nat) : min 1073741824 (a + sumE l (fun c => if p c then min 1073741824 (f c) else 0)) = min 1073741824 (a + sumE l (fun c => if p c then f c else 0)) := by
  induction l generalizing a with
  | nil => rfl
  | cons c l ih =>
    rw [sumE_cons, sumE_cons]
    by_cases h : p c
    · rw [if_pos h, if_pos h, ← Nat.add_assoc, ih, ← Nat.add_assoc]
      generalize sumE l (fun c => if p c then f c else 0) = s
      omega
    · rw [if_neg h, if_neg h, Nat.zero_add, Nat.zero_add, ih]
theorem Fb_eq {l : List Ed} {r : List ByteArray} (h : topo l = some r) (y : ByteArray) : Fb l y = min 1073741824 ((if sL = y then 1 else 0) + sumE l (fun c => if c.2 = y then Fb l c.1 else 0)) := by
  have h1 : Bw l y sL = (if sL = y then 1 else 0) + sumE l (fun c => if c.2 = y then Bw l c.1 sL else 0) := by
    rw [← Bw_fw h sL y (k := 2 * l.length + 3) (by omega)]
    show (if sL = y then 1 else 0) + sumE l (fun c => if c.2 = y then fw l sL (2 * l.length + 2) c.1 else 0) = _
    congr 1
    refine sumE_congr (fun c _ => ?_)
    rw [Bw_fw h sL c.1 (Nat.le_refl _)]
  unfold Fb
  rw [min_sum l (fun c => c.2 = y) (fun c => Bw l c.1 sL), h1]
/-- The loop over the order. -/
theorem cp_l0 (r : List ByteArray) (ht : topo (es l1) = some r) (hl : l1.length ≤ 1000) : ∀ (d i : Nat) (n : List Int), r.length = i + d → n.length = r.length → (∀ (j : Nat) (hj : j < n.length), n[j] = if j < i then (Fb (es l1) (r.getD j sL) : Int) else 0) → i ≤ posL r sR →
    Ev (fun k => busbarref13_CountPaths.l0 k r n (i : Int) a0 l1 l2 a3) ((Fb (es l1) sR : Int), 0)
  | 0, i, n, h, hn, hN, hp => by
    exfalso
    obtain ⟨ho, hlen⟩ := topo_ord ht
    have hm := full ho.nd ho.sub hlen sR (nodesL_mem.2 (.inr (.inl rfl)))
    obtain ⟨j, hj, e⟩ := List.getElem_of_mem hm
    have := posL_at ho.nd hj
    rw [e] at this
    omega
  | d + 1, i, n, h, hn, hN, hp => by
    have hi : i < r.length := by omega
    have hr : r.length ≤ 3000 := by have := topoE_len ht; rw [es_len] at this; omega
    obtain ⟨ho, hlen⟩ := topo_ord ht
    have hnd := ho.nd
    have hpi := posL_at hnd hi
    have gi : r.getD i sL = r[i] := by rw [List.getD_eq_getElem?_getD, List.getElem?_eq_getElem hi]; rfl
    have hFb : ∀ y, Fb (es l1) y ≤ 1073741824 := fun y => by unfold Fb; omega
    have hbase : ∀ n' : List Int, n'.length = r.length → (∀ (j : Nat) (hj : j < n'.length), j ≠ i → n'[j] = if j < i then (Fb (es l1) (r.getD j sL) : Int) else 0) → ∀ v : Nat, v = (if sL = r[i] then 1 else 0) → Ev (fun k => busbarref13_CountPaths.l1 k r (n'.set i (v : Int)) (i : Int) ((0 : Nat) : Int) a0 l1 l2 a3) ((Fb (es l1) sR : Int), 0) := by
      intro n' hn' hN' v hv
      refine cp_l1 r n' i (Fb (es l1)) hi hn' hnd (fun j hj hji => ?_) hFb (fun c hc e => ho.ord i hi c hc e) hr hl _ l1.length 0 v (by omega) (by split at hv <;> omega) (fun v' hv' => ?_)
      · rw [hN' j hj (by omega), if_pos hji, List.getD_eq_getElem?_getD, List.getElem?_eq_getElem (by omega)]; rfl
      · have hF : min 1073741824 v' = Fb (es l1) r[i] := by rw [Fb_eq ht r[i], hv', hv, List.drop_zero]
        refine ⟨fun e => by rw [hF, e], fun e => ?_⟩
        rw [hF]
        refine cp_l0 r ht hl d (i + 1) (n'.set i (Fb (es l1) r[i] : Int)) (by omega) (by rw [List.length_set]; exact hn') (fun j hj => ?_) ?_
        · rw [List.getElem_set]
          by_cases q : i = j
          · subst q; rw [if_pos rfl, if_pos (by omega), gi]
          · rw [if_neg q, hN' j (by rw [List.length_set] at hj; exact hj) (fun e => q e.symm)]
            by_cases q2 : j < i
            · rw [if_pos q2, if_pos (by omega)]
            · rw [if_neg q2, if_neg (by omega)]
        · rcases Nat.lt_or_ge i (posL r sR) with h5 | h5
          · exact h5
          · exfalso
            have hm := full ho.nd ho.sub hlen sR (nodesL_mem.2 (.inr (.inl rfl)))
            obtain ⟨j, hj, e2⟩ := List.getElem_of_mem hm
            have := posL_at ho.nd hj
            rw [e2] at this
            obtain rfl : i = j := by omega
            exact e e2
    have hin : i < n.length := by omega
    by_cases e : r[i] = sL
    · have h1 := hbase n hn (fun j hj _ => hN j hj) 1 (by rw [if_pos e.symm])
      refine Ev.step (f := fun k => busbarref13_CountPaths.j1 k r (n.set i ((1 : Nat) : Int)) (i : Int) a0 l1 l2 a3) (fun k => ?_) (Ev.step (fun k => rfl) h1)
      simp only [busbarref13_CountPaths.l0]
      rw [if_pos (by omega), if_pos (by omega), rdOf_lt _ _ _ hi, if_pos (by rw [e]; exact sL_list), if_pos (by omega)]
      rfl
    · have h0 : n.set i ((0 : Nat) : Int) = n := by
        have := hN i hin
        rw [if_neg (Nat.lt_irrefl _)] at this
        conv => rhs; rw [← List.set_getElem_self hin, this]
        rfl
      have h1 := hbase n hn (fun j hj _ => hN j hj) 0 (by rw [if_neg (fun q => e q.symm)])
      rw [h0] at h1
      refine Ev.step (f := fun k => busbarref13_CountPaths.j1 k r n (i : Int) a0 l1 l2 a3) (fun k => ?_) (Ev.step (fun k => rfl) h1)
      simp only [busbarref13_CountPaths.l0]
      rw [if_pos (by omega), if_pos (by omega), rdOf_lt _ _ _ hi, if_neg (fun q => e (toList_inj.1 (q.trans sL_list.symm)))]
theorem rcount_ev (hl : l1.length ≤ 1000) : Ev (fun k => busbarref13_CountPaths.f k a0 l1 l2 a3) (countL (es l1)) := by
  unfold busbarref13_CountPaths.f countL
  refine Ev.bind (rtopo_ev hl) ?_
  unfold pairT
  cases ht : topo (es l1) with
  | none =>
    simp only [errT, Option.isNone_none, if_true, if_neg (show ¬ (12 : Int) = 0 by omega)]
    exact Ev.now _
  | some r =>
    have hr : r.length ≤ 3000 := by have := topoE_len ht; rw [es_len] at this; omega
    simp only [errT, Option.isNone_some, Bool.false_eq_true, if_false, if_true, Option.getD_some, if_pos (show (0 : Int) ≤ (r.length : Int) by omega), if_pos (show (r.length : Int).toNat ≤ 35184372088832 by omega)]
    have h0 := cp_l0 (a0 := a0) (a3 := a3) (l2 := l2) r ht hl r.length 0 (List.replicate r.length 0) (by omega) (by simp) (fun j hj => by simp) (Nat.zero_le _)
    have e1 : ((Fb (es l1) sR : Nat) : Int) = capN (Bw (es l1) sR sL) := rfl
    rw [e1] at h0
    exact h0
end
end Go.Proofs.Ytmacdknicgfglaa.Pe
