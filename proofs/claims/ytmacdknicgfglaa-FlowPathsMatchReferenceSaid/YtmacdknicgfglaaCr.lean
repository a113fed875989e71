/- What the printed reference function ShortestPath computes. -/
import Derived.Test.YtmacdknicgfglaaSd
import Derived.Test.YtmacdknicgfglaaPq
import Derived.Test.YtmacdknicgfglaaIm1
import Derived.Test.YtmacdknicgfglaaIm2
namespace Go.Proofs.Ytmacdknicgfglaa.Gp
set_option linter.unusedVariables false
set_option linter.unusedSimpArgs false
section
variable {l : List Ed} {N : Nat}
/-- One contact is looked at. -/
def relx (g : ByteArray → Int) (c : Ed) : ByteArray → Int := if g c.2 + 1 < g c.1 then fun y => if y = c.1 then g c.2 + 1 else g y else g
theorem relx_le (g : ByteArray → Int) (c : Ed) (y : ByteArray) : relx g c y ≤ g y := by
  unfold relx
  split
  · show (if y = c.1 then g c.2 + 1 else g y) ≤ g y
    split
    · rename_i e; rw [e]; omega
    · omega
  · omega
theorem relx_at (g : ByteArray → Int) (c : Ed) : relx g c c.1 ≤ g c.2 + 1 := by
  unfold relx
  split
  · show (if c.1 = c.1 then g c.2 + 1 else g c.1) ≤ _
    rw [if_pos rfl]; omega
  · omega
theorem fold_le : ∀ (m : List Ed) (g : ByteArray → Int) (y : ByteArray), m.foldl relx g y ≤ g y
  | [], g, y => Int.le_refl _
  | c :: m, g, y => by rw [List.foldl_cons]; exact Int.le_trans (fold_le m _ y) (relx_le g c y)
theorem fold_at : ∀ (m : List Ed) (g : ByteArray → Int) (c : Ed), c ∈ m → m.foldl relx g c.1 ≤ g c.2 + 1
  | d :: m, g, c, h => by
    rw [List.foldl_cons]
    rcases List.mem_cons.1 h with rfl | h
    · exact Int.le_trans (fold_le m _ _) (relx_at g c)
    · have h1 := fold_at m (relx g d) c h
      have h2 := relx_le g d c.2
      omega
/-- Each value is the length of a walk, or too great. -/
def Snd (l : List Ed) (N : Nat) (g : ByteArray → Int) : Prop := ∀ y, (∃ k : Nat, k ≤ N ∧ g y = (k : Int) ∧ wk l k y = true) ∨ g y = (N : Int) + 1
/-- Walks of at most r contacts are known. -/
def Cpl (l : List Ed) (r : Nat) (g : ByteArray → Int) : Prop := ∀ (k : Nat) (y : ByteArray), k ≤ r → wk l k y = true → g y ≤ (k : Int)
theorem Snd.bd {g : ByteArray → Int} (h : Snd l N g) (y : ByteArray) : 0 ≤ g y ∧ g y ≤ (N : Int) + 1 := by
  rcases h y with ⟨k, h1, h2, _⟩ | h2 <;> omega
theorem Snd.relx {g : ByteArray → Int} {c : Ed} (hc : c ∈ l) (h : Snd l N g) : Snd l N (relx g c) := by
  intro y
  unfold Gp.relx
  split
  · rename_i hlt
    show (∃ k : Nat, k ≤ N ∧ (if y = c.1 then g c.2 + 1 else g y) = (k : Int) ∧ wk l k y = true) ∨ (if y = c.1 then g c.2 + 1 else g y) = (N : Int) + 1
    by_cases e : y = c.1
    · rw [if_pos e]
      have hb := (h.bd c.1).2
      rcases h c.2 with ⟨k, hk, e1, hw⟩ | e1
      · exact .inl ⟨k + 1, by omega, by omega, wk_succ.2 ⟨c, hc, e.symm, hw⟩⟩
      · exfalso; omega
    · rw [if_neg e]; exact h y
  · exact h y
theorem Snd.fold : ∀ (m : List Ed) {g : ByteArray → Int}, (∀ c ∈ m, c ∈ l) → Snd l N g → Snd l N (m.foldl Gp.relx g)
  | [], g, _, h => h
  | c :: m, g, hm, h => by rw [List.foldl_cons]; exact Snd.fold m (fun d hd => hm d (List.mem_cons_of_mem _ hd)) (Snd.relx (hm c List.mem_cons_self) h)
theorem Cpl.next {r : Nat} {g : ByteArray → Int} (h : Cpl l r g) : Cpl l (r + 1) (l.foldl relx g) := by
  intro k y hk hw
  cases k with
  | zero => exact Int.le_trans (fold_le l g y) (h 0 y (by omega) hw)
  | succ k =>
    obtain ⟨c, hc, rfl, hw'⟩ := wk_succ.1 hw
    have h1 := fold_at l g c hc
    have h2 := h k c.2 (by omega) hw'
    omega
def relN (l : List Ed) : Nat → (ByteArray → Int) → ByteArray → Int
  | 0, g => g
  | d + 1, g => relN l d (l.foldl relx g)
theorem relN_ok : ∀ (d r : Nat) (g : ByteArray → Int), Snd l N g → Cpl l r g → Snd l N (relN l d g) ∧ Cpl l (r + d) (relN l d g)
  | 0, r, g, h1, h2 => ⟨h1, h2⟩
  | d + 1, r, g, h1, h2 => by
    have := relN_ok d (r + 1) (l.foldl relx g) (Snd.fold l (fun c hc => hc) h1) h2.next
    rw [show r + 1 + d = r + (d + 1) by omega] at this
    exact this
/-- The distance, too great where there is none. -/
def farN (l : List Ed) (N : Nat) (y : ByteArray) : Int := match distL l y with | some k => (k : Int) | none => (N : Int) + 1
theorem farN_some {k : Nat} {y : ByteArray} (h : distL l y = some k) : farN l N y = (k : Int) := by unfold farN; rw [h]
theorem farN_none {y : ByteArray} (h : distL l y = none) : farN l N y = (N : Int) + 1 := by unfold farN; rw [h]
def far0 (N : Nat) (y : ByteArray) : Int := if y = sR then 0 else (N : Int) + 1
theorem snd0 : Snd l N (far0 N) := fun y => by
  unfold far0
  by_cases e : y = sR
  · rw [if_pos e]; exact .inl ⟨0, by omega, rfl, decide_eq_true e⟩
  · rw [if_neg e]; exact .inr rfl
theorem cpl0 : Cpl l 0 (far0 N) := fun k y hk hw => by
  obtain rfl : k = 0 := by omega
  have e : y = sR := of_decide_eq_true hw
  unfold far0
  rw [if_pos e]; exact Int.le_refl _
theorem far_fin (hN : N = (nodesL l).length) : relN l N (far0 N) = farN l N := by
  obtain ⟨h1, h2⟩ := relN_ok (l := l) (N := N) N 0 (far0 N) snd0 cpl0
  rw [Nat.zero_add] at h2
  funext y
  cases e : distL l y with
  | some k =>
    have hd := dist_some.1 e
    have hk := isD_lt hd
    have h3 := h2 k y (by omega) hd.1
    rw [farN_some e]
    rcases h1 y with ⟨j, hj, e1, hw⟩ | e1
    · have : ¬ j < k := fun q => by have := hd.2 j q; rw [hw] at this; cases this
      omega
    · omega
  | none =>
    rw [farN_none e]
    rcases h1 y with ⟨j, hj, e1, hw⟩ | e1
    · obtain ⟨i, _, hd⟩ := wk_isD hw
      exact absurd hd (dist_none.1 e i)
    · exact e1
theorem out_find (l : List Ed) (y : ByteArray) (Q : Int → Bool) : (outL l y).find? Q = ((List.range l.length).find? fun i => decide ((l.getD i zE).1 = y) && Q (i : Int)).map (fun (i : Nat) => (i : Int)) := by
  unfold outL idxs
  rw [List.find?_map, List.find?_filter]
  congr 2
  funext a
  simp
theorem path_least {k : Nat} {y : ByteArray} (h : IsD l (k + 1) y) : ∃ (m : Nat) (hm : m < l.length), l[m].1 = y ∧ IsD l k l[m].2 ∧ pathG l (k + 1) y = (m : Int) :: pathG l k l[m].2 ∧ ∀ (i : Nat) (hi : i < m), (l[i]'(by omega)).1 = y → distL l (l[i]'(by omega)).2 ≠ some k := by
  obtain ⟨m, j, hm, hj, e, hf, hd, hp, hy⟩ := path_pick h
  refine ⟨m, hm, hy, hd, hp, ?_⟩
  obtain ⟨i, hfi, _, _⟩ := path_next h
  have hp' : pathG l (k + 1) y = i :: pathG l k (toE l i) := by
    show (match (outL l y).find? fun i => decide (distL l (toE l i) = some k) with | some i => i :: pathG l k (toE l i) | none => []) = _
    rw [hfi]
  rw [hp] at hp'
  injection hp' with hi0 _
  subst hi0
  rw [out_find] at hfi
  cases q : ((List.range l.length).find? fun i => decide ((l.getD i zE).1 = y) && decide (distL l (toE l (i : Int)) = some k)) with
  | none => rw [q] at hfi; cases hfi
  | some m' =>
    rw [q] at hfi
    obtain rfl : m' = m := by
      have : ((m' : Int)) = (m : Int) := by simpa using hfi
      omega
    rw [List.find?_range_eq_some] at q
    intro i hi hiy hid
    have := q.2.2 i hi
    have g : l.getD i zE = l[i]'(by omega) := by rw [List.getD_eq_getElem?_getD, List.getElem?_eq_getElem (by omega)]; rfl
    have t : toE l (i : Int) = (l[i]'(by omega)).2 := by unfold toE; rw [Int.toNat_natCast, g]
    rw [g, t, hid, hiy] at this
    simp at this
end
end Go.Proofs.Ytmacdknicgfglaa.Gp
namespace Go.Proofs.Ytmacdknicgfglaa.Pe
open Go.RowKit Go.Proofs.YtmacdknicgfglaaW.PrintWords Go.Proofs.YtmacdknicgfglaaW.PrintMore Go.Proofs.Ytmacdknicgfglaa.Impl Go.Proofs.Ytmacdknicgfglaa.Gp Go.Proofs.Ytmacdknicgfglaa.Gw
set_option linter.unusedVariables false
set_option linter.unusedSimpArgs false
theorem sR_list' : sR.toList = [82] := by decide +kernel
theorem map_set {ns : List ByteArray} (hn : ns.Nodup) {a : Nat} (ha : a < ns.length) (g : ByteArray → Int) (v : Int) : (ns.map g).set a v = ns.map (fun y => if y = ns[a] then v else g y) := by
  refine List.ext_getElem (by simp) fun i h1 h2 => ?_
  rw [List.length_map] at h2
  rw [List.getElem_set, List.getElem_map, List.getElem_map]
  by_cases e : a = i
  · subst e; rw [if_pos rfl, if_pos rfl]
  · rw [if_neg e, if_neg]
    intro q
    have h3 := posL_at hn ha
    have h4 := posL_at hn h2
    rw [q] at h4
    omega
theorem place_l0 {ns : List ByteArray} {s : ByteArray} {p : Nat} (hp : p < ns.length) (hs : ns[p] = s) (hn : ns.Nodup) (hl : ns.length ≤ 9223372036854775807) : ∀ (d j : Nat), p = j + d → Ev (fun k => busbarref13_place.l0 k ns s (j : Int)) (p : Int)
  | 0, j, h => by
    obtain rfl : p = j := h
    refine ⟨1, fun k hk => ?_⟩
    obtain ⟨k, rfl⟩ : ∃ k', k = k' + 1 := ⟨k - 1, by omega⟩
    simp only [busbarref13_place.l0]
    rw [if_pos (by omega), if_pos (by omega), rdOf_lt _ _ _ hp, if_pos (by rw [hs])]
  | d + 1, j, h => by
    have hj : j < ns.length := by omega
    obtain ⟨K, hK⟩ := place_l0 hp hs hn hl d (j + 1) (by omega)
    refine ⟨K + 1, fun k hk => ?_⟩
    obtain ⟨k, rfl⟩ : ∃ k', k = k' + 1 := ⟨k - 1, by omega⟩
    simp only [busbarref13_place.l0]
    have ne : ¬ (ns[j].toList = s.toList) := fun q => by
      have q := toList_inj.1 q
      have h3 := posL_at hn hj
      have h4 := posL_at hn hp
      rw [q] at h3; rw [hs] at h4; omega
    rw [if_pos (by omega), if_pos (by omega), rdOf_lt _ _ _ hj, if_neg ne, w64 hj hl]
    exact hK k (by omega)
theorem place_ev {ns : List ByteArray} {s : ByteArray} {p : Nat} (hp : p < ns.length) (hs : ns[p] = s) (hn : ns.Nodup) (hl : ns.length ≤ 9223372036854775807) : Ev (fun k => busbarref13_place.f k ns s) (p : Int) := place_l0 hp hs hn hl p 0 (by omega)
theorem rd_map {ns : List ByteArray} (g : ByteArray → Int) {p : Nat} (hp : p < ns.length) : rd (ns.map g) (p : Int) = g ns[p] := by
  rw [rd_lt _ _ (by rw [List.length_map]; exact hp), List.getElem_map]
theorem w64i {x : Int} (h0 : -9223372036854775808 ≤ x) (h1 : x ≤ 9223372036854775807) : wrap64 x = x := by unfold wrap64; omega
section
variable {a0 a3 : ByteArray} {l1 : List S41} {l2 : List S101}
/-- The contacts, one after the other. -/
theorem sh_l2 {N : Nat} (hN : N = (nodesL (es l1)).length) (hl : l1.length ≤ 1000) (r : Nat) (res : List Int × Int) : ∀ (d j : Nat) (g : ByteArray → Int), l1.length = j + d → Snd (es l1) N g →
    Ev (fun k => busbarref13_ShortestPath.l1 k (nodesL (es l1)) ((nodesL (es l1)).map (((es l1).drop j).foldl relx g)) (wrap64 ((r : Int) + 1)) a0 l1 l2 a3) res →
    Ev (fun k => busbarref13_ShortestPath.l2 k (nodesL (es l1)) ((nodesL (es l1)).map g) (r : Int) (j : Int) a0 l1 l2 a3) res
  | 0, j, g, h, hg, hk => by
    obtain ⟨K, hK⟩ := hk
    refine ⟨K + 1, fun k hk => ?_⟩
    obtain ⟨k, rfl⟩ : ∃ k', k = k' + 1 := ⟨k - 1, by omega⟩
    simp only [busbarref13_ShortestPath.l2]
    rw [if_neg (by omega)]
    have := hK k (by omega)
    rw [List.drop_of_length_le (by rw [es_len]; omega), List.foldl_nil] at this
    exact this
  | d + 1, j, g, h, hg, hk => by
    have hj : j < l1.length := by omega
    have hje : j < (es l1).length := by rw [es_len]; exact hj
    have hlen : (nodesL (es l1)).length ≤ 3000 := by have := nodesL_len (es l1); rw [es_len] at this; omega
    have hc : (l1[j].f2, l1[j].f3) ∈ es l1 := by rw [← es_get hj]; exact List.getElem_mem _
    obtain ⟨a, ha, ea⟩ := List.getElem_of_mem (nodesL_mem.2 (.inr (.inr ⟨_, hc, .inl rfl⟩)) : l1[j].f2 ∈ nodesL (es l1))
    obtain ⟨b, hb, eb⟩ := List.getElem_of_mem (nodesL_mem.2 (.inr (.inr ⟨_, hc, .inr rfl⟩)) : l1[j].f3 ∈ nodesL (es l1))
    have hnd := nodesL_nodup (es l1)
    rw [drop_cons (es l1) j hje, List.foldl_cons, es_get hj] at hk
    obtain ⟨K3, ih⟩ := sh_l2 hN hl r res d (j + 1) (relx g (l1[j].f2, l1[j].f3)) (by omega) (hg.relx hc) hk
    obtain ⟨K1, h1⟩ : ∃ K, ∀ k, K ≤ k → busbarref13_place.f k (nodesL (es l1)) l1[j].f2 = some (a : Int) := place_ev ha ea hnd (by omega)
    obtain ⟨K2, h2⟩ : ∃ K, ∀ k, K ≤ k → busbarref13_place.f k (nodesL (es l1)) l1[j].f3 = some (b : Int) := place_ev hb eb hnd (by omega)
    have b1 := hg.bd l1[j].f2
    have b2 := hg.bd l1[j].f3
    refine ⟨K1 + K2 + K3 + 1, fun k hk => ?_⟩
    obtain ⟨k, rfl⟩ : ∃ k', k = k' + 1 := ⟨k - 1, by omega⟩
    have ih := ih k (by omega)
    simp only [busbarref13_ShortestPath.l2]
    rw [if_pos (by omega), if_pos (by omega), rd41_lt _ _ hj, h1 k (by omega), Option.bind_some, h2 k (by omega), Option.bind_some, if_pos (by omega), if_pos (by rw [List.length_map]; omega), if_pos (by omega), if_pos (by rw [List.length_map]; omega), rd_map g hb, rd_map g ha, eb, ea, w64i (x := g l1[j].f3 + 1) (by omega) (by omega), w64 hj (by omega)]
    by_cases q : g l1[j].f3 + 1 < g l1[j].f2
    · rw [if_pos q, Int.toNat_natCast, map_set hnd ha, ea]
      unfold relx at ih
      rw [if_pos q] at ih
      exact ih
    · rw [if_neg q]
      unfold relx at ih
      rw [if_neg q] at ih
      exact ih
/-- The path. -/
theorem sh_l3 {N : Nat} (hN : N = (nodesL (es l1)).length) (hl : l1.length ≤ 1000) : ∀ (c : Nat) (y : ByteArray) (out : List Int), IsD (es l1) c y → out.length + c ≤ 100000 →
    Ev (fun k => busbarref13_ShortestPath.l3 k (nodesL (es l1)) ((nodesL (es l1)).map (farN (es l1) N)) out y a0 l1 l2 a3) (out ++ pathG (es l1) c y, 0)
  | 0, y, out, hd, ho => by
    refine ⟨1, fun k hk => ?_⟩
    obtain ⟨k, rfl⟩ : ∃ k', k = k' + 1 := ⟨k - 1, by omega⟩
    simp only [busbarref13_ShortestPath.l3]
    rw [isD_zero.1 hd, if_pos sR_list', pathG_zero, List.append_nil]
  | c + 1, y, out, hd, ho => by
    obtain ⟨m, hm, hy, hdm, hp, hlt⟩ := path_least hd
    have hm1 : m < l1.length := by rw [es_len] at hm; exact hm
    have hlen : (nodesL (es l1)).length ≤ 3000 := by have := nodesL_len (es l1); rw [es_len] at this; omega
    have hnd := nodesL_nodup (es l1)
    have hcN := isD_lt hd
    obtain ⟨K0, ih⟩ := sh_l3 hN hl c (es l1)[m].2 (out ++ [(m : Int)]) hdm (by rw [List.length_append, List.length_singleton]; omega)
    rw [hp]
    rw [List.append_assoc, List.singleton_append] at ih
    obtain ⟨q, hq, eq⟩ := List.getElem_of_mem (isD_node hd)
    obtain ⟨Kq, hKq⟩ : ∃ K, ∀ k, K ≤ k → busbarref13_place.f k (nodesL (es l1)) y = some (q : Int) := place_ev hq eq hnd (by omega)
    have fy : farN (es l1) N y = ((c + 1 : Nat) : Int) := farN_some (dist_some.2 hd)
    have key : ∀ (d j : Nat), m = j + d → Ev (fun k => busbarref13_ShortestPath.l4 k (nodesL (es l1)) ((nodesL (es l1)).map (farN (es l1) N)) out y (j : Int) a0 l1 l2 a3) (out ++ (m : Int) :: pathG (es l1) c (es l1)[m].2, 0) := by
      intro d
      induction d with
      | zero =>
        intro j h
        obtain rfl : m = j := h
        have em : (es l1)[m] = (l1[m].f2, l1[m].f3) := es_get hm1
        rw [em] at hy hdm ih ⊢
        obtain ⟨p, hpp, ep⟩ := List.getElem_of_mem (isD_node hdm : l1[m].f3 ∈ nodesL (es l1))
        obtain ⟨Kp, hKp⟩ : ∃ K, ∀ k, K ≤ k → busbarref13_place.f k (nodesL (es l1)) l1[m].f3 = some (p : Int) := place_ev hpp ep hnd (by omega)
        have fm : farN (es l1) N l1[m].f3 = (c : Int) := farN_some (dist_some.2 hdm)
        refine ⟨K0 + Kp + Kq + 1, fun k hk => ?_⟩
        obtain ⟨k, rfl⟩ : ∃ k', k = k' + 1 := ⟨k - 1, by omega⟩
        simp only [busbarref13_ShortestPath.l4]
        rw [if_pos (by omega), if_pos (by omega), rd41_lt _ _ hm1, if_pos (congrArg ByteArray.toList hy), hKp k (by omega), Option.bind_some, if_pos (by omega), if_pos (by rw [List.length_map]; omega), hKq k (by omega), Option.bind_some, if_pos (by omega), if_pos (by rw [List.length_map]; omega), rd_map _ hpp, rd_map _ hq, ep, eq, fm, fy, w64i (by omega) (by omega), if_pos (by omega), if_pos (by omega)]
        exact ih k (by omega)
      | succ d ihd =>
        intro j h
        have hj : j < l1.length := by omega
        obtain ⟨K1, h1⟩ := ihd (j + 1) (by omega)
        have ej : (es l1)[j]'(by rw [es_len]; exact hj) = (l1[j].f2, l1[j].f3) := es_get hj
        have hl2 := hlt j (by omega)
        rw [ej] at hl2
        by_cases e : l1[j].f2 = y
        · have hc : (l1[j].f2, l1[j].f3) ∈ es l1 := by rw [← es_get hj]; exact List.getElem_mem _
          obtain ⟨p, hpp, ep⟩ := List.getElem_of_mem (nodesL_mem.2 (.inr (.inr ⟨_, hc, .inr rfl⟩)) : l1[j].f3 ∈ nodesL (es l1))
          obtain ⟨Kp, hKp⟩ : ∃ K, ∀ k, K ≤ k → busbarref13_place.f k (nodesL (es l1)) l1[j].f3 = some (p : Int) := place_ev hpp ep hnd (by omega)
          have ne : ¬ (farN (es l1) N l1[j].f3 = (c : Int)) := fun q => by
            refine hl2 e ?_
            show distL (es l1) l1[j].f3 = some c
            cases z : distL (es l1) l1[j].f3 with
            | none => rw [farN_none z] at q; omega
            | some k' => rw [farN_some z] at q; congr 1; omega
          refine ⟨K1 + Kp + Kq + 1, fun k hk => ?_⟩
          obtain ⟨k, rfl⟩ : ∃ k', k = k' + 1 := ⟨k - 1, by omega⟩
          simp only [busbarref13_ShortestPath.l4]
          rw [if_pos (by omega), if_pos (by omega), rd41_lt _ _ hj, if_pos (congrArg ByteArray.toList e), hKp k (by omega), Option.bind_some, if_pos (by omega), if_pos (by rw [List.length_map]; omega), hKq k (by omega), Option.bind_some, if_pos (by omega), if_pos (by rw [List.length_map]; omega), rd_map _ hpp, rd_map _ hq, ep, eq, fy, w64i (x := ((c + 1 : Nat) : Int) - 1) (by omega) (by omega), if_neg (fun q => ne (by omega)), w64 hj (by omega)]
          exact h1 k (by omega)
        · refine ⟨K1 + 1, fun k hk => ?_⟩
          obtain ⟨k, rfl⟩ : ∃ k', k = k' + 1 := ⟨k - 1, by omega⟩
          simp only [busbarref13_ShortestPath.l4]
          rw [if_pos (by omega), if_pos (by omega), rd41_lt _ _ hj, if_neg (fun q => e (toList_inj.1 q)), w64 hj (by omega)]
          exact h1 k (by omega)
    obtain ⟨K4, h4⟩ := key m 0 (by omega)
    refine ⟨K4 + 1, fun k hk => ?_⟩
    obtain ⟨k, rfl⟩ : ∃ k', k = k' + 1 := ⟨k - 1, by omega⟩
    simp only [busbarref13_ShortestPath.l3]
    rw [if_neg (fun q => isD_ne hd (toList_inj.1 (q.trans sR_list'.symm)))]
    exact h4 k (by omega)
/-- The rounds. -/
theorem sh_l1 {N : Nat} (hN : N = (nodesL (es l1)).length) (hl : l1.length ≤ 1000) (res : List Int × Int) : ∀ (d r : Nat) (g : ByteArray → Int), N = r + d → Snd (es l1) N g →
    Ev (fun k => busbarref13_ShortestPath.l1 k (nodesL (es l1)) ((nodesL (es l1)).map (relN (es l1) d g)) (N : Int) a0 l1 l2 a3) res →
    Ev (fun k => busbarref13_ShortestPath.l1 k (nodesL (es l1)) ((nodesL (es l1)).map g) (r : Int) a0 l1 l2 a3) res
  | 0, r, g, h, hg, hk => by
    obtain rfl : N = r := h
    exact hk
  | d + 1, r, g, h, hg, hk => by
    have hlen : (nodesL (es l1)).length ≤ 3000 := by have := nodesL_len (es l1); rw [es_len] at this; omega
    have ih := sh_l1 hN hl res d (r + 1) ((es l1).foldl relx g) (by omega) (Snd.fold _ (fun c hc => hc) hg) hk
    obtain ⟨K, hK⟩ := sh_l2 (a0 := a0) (a3 := a3) (l2 := l2) hN hl r res l1.length 0 g (by omega) hg (by rw [List.drop_zero, w64 (show r < N by omega) (by omega)]; exact ih)
    refine ⟨K + 1, fun k hk => ?_⟩
    obtain ⟨k, rfl⟩ : ∃ k', k = k' + 1 := ⟨k - 1, by omega⟩
    simp only [busbarref13_ShortestPath.l1]
    rw [if_pos (by omega)]
    exact hK k (by omega)
/-- The start. -/
theorem sh_l0 {N : Nat} (hN : N = (nodesL (es l1)).length) (hl : l1.length ≤ 1000) (res : List Int × Int) : ∀ (d j : Nat) (x : List Int), N = j + d → x.length = N → (∀ (i : Nat) (h1 : i < x.length) (h2 : i < (nodesL (es l1)).length), i < j → x[i] = far0 N (nodesL (es l1))[i]) →
    Ev (fun k => busbarref13_ShortestPath.l1 k (nodesL (es l1)) ((nodesL (es l1)).map (far0 N)) 0 a0 l1 l2 a3) res →
    Ev (fun k => busbarref13_ShortestPath.l0 k (nodesL (es l1)) x (j : Int) a0 l1 l2 a3) res
  | 0, j, x, h, hx, hv, hk => by
    obtain ⟨K, hK⟩ := hk
    refine ⟨K + 1, fun k hk => ?_⟩
    obtain ⟨k, rfl⟩ : ∃ k', k = k' + 1 := ⟨k - 1, by omega⟩
    simp only [busbarref13_ShortestPath.l0]
    rw [if_neg (by omega)]
    have : x = (nodesL (es l1)).map (far0 N) := List.ext_getElem (by rw [List.length_map]; omega) fun i h1 h2 => by
      rw [List.getElem_map]
      exact hv i h1 (by omega) (by omega)
    rw [this]
    exact hK k (by omega)
  | d + 1, j, x, h, hx, hv, hk => by
    have hlen : (nodesL (es l1)).length ≤ 3000 := by have := nodesL_len (es l1); rw [es_len] at this; omega
    have hj : j < (nodesL (es l1)).length := by omega
    have hjx : j < x.length := by omega
    have go : ∀ v : Int, v = far0 N (nodesL (es l1))[j] → Ev (fun k => busbarref13_ShortestPath.l0 k (nodesL (es l1)) (x.set j v) ((j + 1 : Nat) : Int) a0 l1 l2 a3) res := fun v hv' => by
      refine sh_l0 hN hl res d (j + 1) (x.set j v) (by omega) (by rw [List.length_set]; exact hx) (fun i h1 h2 hi => ?_) hk
      rw [List.getElem_set]
      by_cases e : j = i
      · subst e; rw [if_pos rfl, hv']
      · rw [if_neg e]; exact hv i (by rw [List.length_set] at h1; exact h1) h2 (by omega)
    have wn : wrap64 (((nodesL (es l1)).length : Int) + 1) = (N : Int) + 1 := by rw [w64i (by omega) (by omega), hN]
    by_cases e : (nodesL (es l1))[j] = sR
    · obtain ⟨K, hK⟩ := go 0 (by unfold far0; rw [if_pos e])
      refine ⟨K + 1, fun k hk => ?_⟩
      obtain ⟨k, rfl⟩ : ∃ k', k = k' + 1 := ⟨k - 1, by omega⟩
      simp only [busbarref13_ShortestPath.l0]
      rw [if_pos (by omega), if_pos (by omega), if_pos (by omega), Option.bind_some, rdOf_lt _ _ _ hj, if_pos (by rw [e]; exact sR_list'), Int.toNat_natCast, List.set_set, w64 hj (by omega)]
      exact hK k (by omega)
    · obtain ⟨K, hK⟩ := go ((N : Int) + 1) (by unfold far0; rw [if_neg e])
      refine ⟨K + 1, fun k hk => ?_⟩
      obtain ⟨k, rfl⟩ : ∃ k', k = k' + 1 := ⟨k - 1, by omega⟩
      simp only [busbarref13_ShortestPath.l0]
      rw [if_pos (by omega), if_pos (by omega), if_pos (by omega), Option.bind_some, rdOf_lt _ _ _ hj, if_neg (fun q => e (toList_inj.1 (q.trans sR_list'.symm))), Int.toNat_natCast, wn, w64 hj (by omega)]
      exact hK k (by omega)
theorem addN_head (s : List ByteArray) (x : ByteArray) : ∃ t, addN (sL :: s) x = sL :: t := by
  unfold addN
  split
  · exact ⟨_, rfl⟩
  · exact ⟨_, rfl⟩
theorem fold_head : ∀ (l : List Ed) (s : List ByteArray), ∃ t, l.foldl addC (sL :: s) = sL :: t
  | [], s => ⟨s, rfl⟩
  | c :: l, s => by
    rw [List.foldl_cons]
    obtain ⟨t, ht⟩ := addN_head s c.1
    obtain ⟨u, hu⟩ := addN_head t c.2
    have : addC (sL :: s) c = sL :: u := by unfold addC; rw [ht, hu]
    rw [this]
    exact fold_head l u
theorem nodes_head (l : List Ed) (h : 0 < (nodesL l).length) : (nodesL l)[0] = sL := by
  obtain ⟨t, ht⟩ := fold_head l [sR]
  have : nodesL l = sL :: t := ht
  simp only [this, List.getElem_cons_zero]
theorem rshort_ev (hl : l1.length ≤ 1000) : Ev (fun k => busbarref13_ShortestPath.f k a0 l1 l2 a3) ((shortL (es l1)).getD [], errP (shortL (es l1))) := by
  have hlen : (nodesL (es l1)).length ≤ 3000 := by have := nodesL_len (es l1); rw [es_len] at this; omega
  obtain ⟨N, hN⟩ : ∃ N, N = (nodesL (es l1)).length := ⟨_, rfl⟩
  have hpos : 0 < (nodesL (es l1)).length := List.length_pos_of_mem (nodesL_mem.2 (.inr (.inl rfl)) : sR ∈ nodesL (es l1))
  unfold busbarref13_ShortestPath.f
  refine Ev.bind (nodes_ev a0 a3 l1 l2 hl) ?_
  have main : Ev (fun k => busbarref13_ShortestPath.l1 k (nodesL (es l1)) ((nodesL (es l1)).map (farN (es l1) N)) (N : Int) a0 l1 l2 a3) ((shortL (es l1)).getD [], errP (shortL (es l1))) := by
    have hr : rd ((nodesL (es l1)).map (farN (es l1) N)) 0 = farN (es l1) N sL := by
      have := rd_map (farN (es l1) N) hpos
      rw [nodes_head _ hpos] at this
      exact this
    cases e : distL (es l1) sL with
    | none =>
      have es1 : shortL (es l1) = none := by unfold shortL; rw [e]; rfl
      refine ⟨1, fun k hk => ?_⟩
      obtain ⟨k, rfl⟩ : ∃ k', k = k' + 1 := ⟨k - 1, by omega⟩
      simp only [busbarref13_ShortestPath.l1]
      rw [if_neg (by omega), if_pos (by rw [List.length_map]; omega), hr, farN_none e, if_pos (by omega), es1]
      rfl
    | some c =>
      have hc := isD_lt (dist_some.1 e)
      have es1 : shortL (es l1) = some (pathG (es l1) c sL) := by unfold shortL; rw [e]; rfl
      obtain ⟨K, hK⟩ := sh_l3 (a0 := a0) (a3 := a3) (l2 := l2) hN hl c sL [] (dist_some.1 e) (by simp; omega)
      refine ⟨K + 1, fun k hk => ?_⟩
      obtain ⟨k, rfl⟩ : ∃ k', k = k' + 1 := ⟨k - 1, by omega⟩
      simp only [busbarref13_ShortestPath.l1]
      rw [if_neg (by omega), if_pos (by rw [List.length_map]; omega), hr, farN_some e, if_neg (by omega), es1]
      exact hK k (by omega)
  rw [← far_fin hN] at main
  have h1 := sh_l1 hN hl _ N 0 (far0 N) (by omega) snd0 main
  have h0 := sh_l0 (a0 := a0) (a3 := a3) (l2 := l2) hN hl _ N 0 (List.replicate N 0) (by omega) (by simp) (fun i _ _ hi => by omega) h1
  obtain ⟨K, hK⟩ := h0
  refine ⟨K, fun k hk => ?_⟩
  show (if 0 ≤ ((nodesL (es l1)).length : Int) then (if (((nodesL (es l1)).length : Int)).toNat ≤ 35184372088832 then _ else none) else none) = _
  rw [if_pos (by omega), if_pos (by omega), Int.toNat_natCast, ← hN]
  exact hK k hk
end
end Go.Proofs.Ytmacdknicgfglaa.Pe
