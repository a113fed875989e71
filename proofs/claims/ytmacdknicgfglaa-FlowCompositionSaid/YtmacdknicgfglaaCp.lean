/- Counting ways through a graph, plainly. -/
import Derived.Test.YtmacdknicgfglaaPa
namespace Go.Proofs.Ytmacdknicgfglaa.Gp
set_option linter.unusedVariables false
set_option linter.unusedSimpArgs false
/-- A sum over the contacts. -/
def sumE (l : List Ed) (f : Ed → Nat) : Nat := (l.map f).sum
theorem sumE_nil (f : Ed → Nat) : sumE [] f = 0 := rfl
theorem sumE_cons (c : Ed) (l : List Ed) (f : Ed → Nat) : sumE (c :: l) f = f c + sumE l f := by simp [sumE]
theorem sumE_append : ∀ (l m : List Ed) (f : Ed → Nat), sumE (l ++ m) f = sumE l f + sumE m f
  | [], m, f => by rw [List.nil_append, sumE_nil, Nat.zero_add]
  | c :: l, m, f => by rw [List.cons_append, sumE_cons, sumE_cons, sumE_append l m f, Nat.add_assoc]
theorem sumE_congr : ∀ {l : List Ed} {f g : Ed → Nat}, (∀ c ∈ l, f c = g c) → sumE l f = sumE l g
  | [], f, g, _ => rfl
  | c :: l, f, g, h => by rw [sumE_cons, sumE_cons, h c List.mem_cons_self, sumE_congr (fun d hd => h d (List.mem_cons_of_mem _ hd))]
theorem sumE_le : ∀ {l : List Ed} {f g : Ed → Nat}, (∀ c ∈ l, f c ≤ g c) → sumE l f ≤ sumE l g
  | [], f, g, _ => Nat.le_refl _
  | c :: l, f, g, h => by rw [sumE_cons, sumE_cons]; exact Nat.add_le_add (h c List.mem_cons_self) (sumE_le (fun d hd => h d (List.mem_cons_of_mem _ hd)))
theorem sumE_zero {l : List Ed} {f : Ed → Nat} (h : ∀ c ∈ l, f c = 0) : sumE l f = 0 := by
  rw [sumE_congr (g := fun _ => 0) h]
  induction l with
  | nil => rfl
  | cons c l ih => rw [sumE_cons, ih (fun d hd => h d (List.mem_cons_of_mem _ hd))]
theorem sumE_add : ∀ (l : List Ed) (f g : Ed → Nat), sumE l (fun c => f c + g c) = sumE l f + sumE l g
  | [], f, g => rfl
  | c :: l, f, g => by rw [sumE_cons, sumE_cons, sumE_cons, sumE_add l f g]; omega
theorem sumE_mul (k : Nat) : ∀ (l : List Ed) (f : Ed → Nat), sumE l (fun c => k * f c) = k * sumE l f
  | [], f => rfl
  | c :: l, f => by rw [sumE_cons, sumE_cons, sumE_mul k l f, Nat.mul_add]
theorem sumE_swap (m : List Ed) (f : Ed → Ed → Nat) : ∀ (l : List Ed), sumE l (fun c => sumE m (fun d => f c d)) = sumE m (fun d => sumE l (fun c => f c d))
  | [] => by rw [sumE_nil]; exact (sumE_zero (fun _ _ => rfl)).symm
  | c :: l => by
    rw [sumE_cons, sumE_swap m f l, ← sumE_add]
    exact sumE_congr (fun d _ => by rw [sumE_cons])
theorem sumE_if (p : Prop) [Decidable p] (l : List Ed) (f : Ed → Nat) : (if p then sumE l f else 0) = sumE l (fun c => if p then f c else 0) := by
  by_cases h : p
  · rw [if_pos h]; exact sumE_congr (fun c _ => by rw [if_pos h])
  · rw [if_neg h]; exact (sumE_zero (fun c _ => by rw [if_neg h])).symm
theorem sumE_mem {l : List Ed} {f : Ed → Nat} {c : Ed} (h : c ∈ l) : f c ≤ sumE l f := by
  obtain ⟨a, b, rfl⟩ := List.append_of_mem h
  rw [sumE_append, sumE_cons]
  omega
/-- The ways of at most k steps from x to t. -/
def bw (l : List Ed) (t : ByteArray) : Nat → ByteArray → Nat
  | 0, x => if x = t then 1 else 0
  | k + 1, x => (if x = t then 1 else 0) + sumE l (fun c => if c.1 = x then bw l t k c.2 else 0)
/-- The same, told from the other end. -/
def fw (l : List Ed) (s : ByteArray) : Nat → ByteArray → Nat
  | 0, y => if s = y then 1 else 0
  | k + 1, y => (if s = y then 1 else 0) + sumE l (fun c => if c.2 = y then fw l s k c.1 else 0)
theorem fw_head (l : List Ed) : ∀ (k : Nat) (s t : ByteArray), fw l s (k + 1) t = (if s = t then 1 else 0) + sumE l (fun c => if c.1 = s then fw l c.2 k t else 0)
  | 0, s, t => by
    show (if s = t then 1 else 0) + sumE l (fun c => if c.2 = t then (if s = c.1 then 1 else 0) else 0) = (if s = t then 1 else 0) + sumE l (fun c => if c.1 = s then (if c.2 = t then 1 else 0) else 0)
    congr 1
    refine sumE_congr (fun c _ => ?_)
    by_cases h1 : c.2 = t <;> by_cases h2 : c.1 = s
    · rw [if_pos h1, if_pos h2, if_pos h2.symm, if_pos h1]
    · rw [if_pos h1, if_neg h2, if_neg (fun e => h2 e.symm)]
    · rw [if_neg h1, if_pos h2, if_neg h1]
    · rw [if_neg h1, if_neg h2]
  | k + 1, s, t => by
    have L : fw l s (k + 2) t = (if s = t then 1 else 0) + sumE l (fun d => if d.2 = t then fw l s (k + 1) d.1 else 0) := rfl
    have e1 : sumE l (fun d => if d.2 = t then fw l s (k + 1) d.1 else 0) = sumE l (fun d => if d.2 = t then (if s = d.1 then 1 else 0) else 0) + sumE l (fun d => sumE l (fun c => if d.2 = t then (if c.1 = s then fw l c.2 k d.1 else 0) else 0)) := by
      rw [← sumE_add]
      refine sumE_congr (fun d _ => ?_)
      rw [← sumE_if]
      by_cases h : d.2 = t
      · rw [if_pos h, if_pos h, if_pos h, fw_head l k s d.1]
      · rw [if_neg h, if_neg h, if_neg h]
    have e2 : sumE l (fun c => if c.1 = s then fw l c.2 (k + 1) t else 0) = sumE l (fun c => if c.1 = s then (if c.2 = t then 1 else 0) else 0) + sumE l (fun c => sumE l (fun d => if d.2 = t then (if c.1 = s then fw l c.2 k d.1 else 0) else 0)) := by
      rw [← sumE_add]
      refine sumE_congr (fun c _ => ?_)
      by_cases h : c.1 = s
      · rw [if_pos h, if_pos h]
        show (if c.2 = t then 1 else 0) + sumE l (fun d => if d.2 = t then fw l c.2 k d.1 else 0) = _
        congr 1
        exact sumE_congr (fun d _ => by rw [if_pos h])
      · rw [if_neg h, if_neg h, Nat.zero_add]
        exact (sumE_zero (fun d _ => by rw [if_neg h]; split <;> rfl)).symm
    have e3 : sumE l (fun d => if d.2 = t then (if s = d.1 then 1 else 0) else 0) = sumE l (fun c => if c.1 = s then (if c.2 = t then 1 else 0) else 0) := by
      refine sumE_congr (fun c _ => ?_)
      by_cases h1 : c.2 = t <;> by_cases h2 : c.1 = s
      · rw [if_pos h1, if_pos h2, if_pos h2.symm, if_pos h1]
      · rw [if_pos h1, if_neg h2, if_neg (fun e => h2 e.symm)]
      · rw [if_neg h1, if_pos h2, if_neg h1]
      · rw [if_neg h1, if_neg h2]
    rw [L, e1, e2, e3, sumE_swap]
theorem bw_fw (l : List Ed) : ∀ (k : Nat) (s t : ByteArray), bw l t k s = fw l s k t
  | 0, s, t => rfl
  | k + 1, s, t => by
    rw [fw_head]
    show _ + _ = _ + _
    congr 1
    exact sumE_congr (fun c _ => by rw [bw_fw l k c.2 t])
/-! ### In an order -/
theorem posL_le (r : List ByteArray) (x : ByteArray) : posL r x ≤ r.length := by
  unfold posL
  cases h : r.findIdx? (fun y => decide (y = x)) with
  | none => exact Nat.le_refl _
  | some i =>
    obtain ⟨h1, _⟩ := List.findIdx?_eq_some_iff_getElem.1 h
    exact Nat.le_of_lt h1
section
variable {l : List Ed} {r : List ByteArray}
theorem bw_after (h : topo l = some r) (t : ByteArray) : ∀ (k : Nat) (x : ByteArray), posL r t < posL r x → bw l t k x = 0
  | 0, x, hx => if_neg (fun e => by rw [e] at hx; omega)
  | k + 1, x, hx => by
    show _ + _ = 0
    rw [if_neg (fun e => by rw [e] at hx; omega), Nat.zero_add]
    refine sumE_zero (fun c hc => ?_)
    by_cases e : c.1 = x
    · rw [if_pos e]
      have := ord_lt h hc
      rw [e] at this
      exact bw_after h t k c.2 (by omega)
    · exact if_neg e
theorem bw_stable (h : topo l = some r) (t : ByteArray) : ∀ (k : Nat) (x : ByteArray), r.length ≤ posL r x + k → bw l t (k + 1) x = bw l t k x
  | 0, x, hx => by
    show _ + _ = _
    rw [sumE_zero, Nat.add_zero]
    · rfl
    · intro c hc
      refine if_neg (fun e => ?_)
      have h1 := ord_lt h hc
      have h2 := posL_le r c.2
      rw [e] at h1
      omega
  | k + 1, x, hx => by
    show _ + _ = _ + _
    congr 1
    refine sumE_congr (fun c hc => ?_)
    by_cases e : c.1 = x
    · rw [if_pos e, if_pos e]
      have h1 := ord_lt h hc
      rw [e] at h1
      exact bw_stable h t k c.2 (by omega)
    · rw [if_neg e, if_neg e]
/-- All ways from x to t. -/
def Bw (l : List Ed) (t x : ByteArray) : Nat := bw l t (2 * l.length + 2) x
theorem topoE_len (h : topo l = some r) : r.length ≤ 2 * l.length + 2 := by
  have h1 := (topo_ord h).2
  have h2 := nodesL_len l
  omega
theorem Bw_ge (h : topo l = some r) (t : ByteArray) {k : Nat} (hk : 2 * l.length + 2 ≤ k) (x : ByteArray) : bw l t k x = Bw l t x := by
  obtain ⟨d, rfl⟩ : ∃ d, k = 2 * l.length + 2 + d := ⟨k - (2 * l.length + 2), by omega⟩
  induction d with
  | zero => rfl
  | succ d ih =>
    rw [← ih (by omega)]
    exact bw_stable h t (2 * l.length + 2 + d) x (by have := topoE_len h; omega)
theorem Bw_eq (h : topo l = some r) (t x : ByteArray) : Bw l t x = (if x = t then 1 else 0) + sumE l (fun c => if c.1 = x then Bw l t c.2 else 0) := (Bw_ge h t (k := 2 * l.length + 3) (by omega) x).symm
theorem Bw_after (h : topo l = some r) {t x : ByteArray} (hx : posL r t < posL r x) : Bw l t x = 0 := bw_after h t _ x hx
theorem Bw_self (h : topo l = some r) (t : ByteArray) : Bw l t t = 1 := by
  rw [Bw_eq h, if_pos rfl, sumE_zero]
  intro c hc
  by_cases e : c.1 = t
  · rw [if_pos e]
    have h1 := ord_lt h hc
    rw [e] at h1
    exact Bw_after h h1
  · exact if_neg e
theorem Bw_other (h : topo l = some r) {t x : ByteArray} (hx : x ≠ t) : Bw l t x = sumE l (fun c => if c.1 = x then Bw l t c.2 else 0) := by
  rw [Bw_eq h, if_neg hx, Nat.zero_add]
theorem Bw_fw (h : topo l = some r) (s t : ByteArray) {k : Nat} (hk : 2 * l.length + 2 ≤ k) : fw l s k t = Bw l t s := by
  rw [← bw_fw, Bw_ge h t hk]
/-- One solution alone. -/
theorem Bw_only (h : topo l = some r) (t : ByteArray) (g : Nat) {G : ByteArray → Nat} (hG : ∀ x, G x = (if x = t then g else 0) + sumE l (fun c => if c.1 = x then G c.2 else 0)) : ∀ (d : Nat) (x : ByteArray), r.length ≤ posL r x + d → G x = g * Bw l t x
  | d, x, hd => by
    rw [hG x, Bw_eq h t x, Nat.mul_add, ← sumE_mul]
    congr 1
    · split <;> simp
    · refine sumE_congr (fun c hc => ?_)
      by_cases e : c.1 = x
      · rw [if_pos e, if_pos e]
        have h1 := ord_lt h hc
        have h2 := posL_le r c.2
        rw [e] at h1
        cases d with
        | zero => omega
        | succ d => exact Bw_only h t g hG d c.2 (by omega)
      · rw [if_neg e, if_neg e, Nat.mul_zero]
theorem Bw_uniq (h : topo l = some r) (t : ByteArray) (g : Nat) {G : ByteArray → Nat} (hG : ∀ x, G x = (if x = t then g else 0) + sumE l (fun c => if c.1 = x then G c.2 else 0)) (x : ByteArray) : G x = g * Bw l t x := Bw_only h t g hG r.length x (by omega)
/-- How many contacts leave names from a place of the order on. -/
def behind (l : List Ed) (r : List ByteArray) (p : Nat) : Nat := sumE l (fun c => if p ≤ posL r c.1 then 1 else 0)
theorem behind_le (l : List Ed) (r : List ByteArray) (p : Nat) : behind l r p ≤ l.length := by
  unfold behind
  induction l with
  | nil => exact Nat.le_refl _
  | cons c l ih => rw [sumE_cons, List.length_cons]; split <;> omega
theorem sumE_lt2 {l : List Ed} {f : Ed → Nat} {M : Nat} {p : Ed → Prop} [DecidablePred p] (h : ∀ c ∈ l, f c ≤ if p c then M else 0) : sumE l f ≤ sumE l (fun c => if p c then 1 else 0) * M := by
  refine Nat.le_trans (sumE_le h) ?_
  rw [Nat.mul_comm, ← sumE_mul]
  refine Nat.le_of_eq (sumE_congr (fun c _ => ?_))
  split <;> simp
theorem le_two_pow (n : Nat) : n ≤ 2 ^ n := Nat.le_of_lt Nat.lt_two_pow_self
theorem bw_pow (h : topo l = some r) (t : ByteArray) : ∀ (k : Nat) (x : ByteArray), bw l t k x ≤ 2 ^ behind l r (posL r x)
  | 0, x => by
    have : 1 ≤ 2 ^ behind l r (posL r x) := Nat.one_le_two_pow
    show (if x = t then 1 else 0) ≤ _
    split <;> omega
  | k + 1, x => by
    by_cases e : x = t
    · have h1 : bw l t (k + 1) x = 1 := by
        show _ + _ = 1
        rw [if_pos e, sumE_zero]
        intro c hc
        by_cases e2 : c.1 = x
        · rw [if_pos e2]
          have h1 := ord_lt h hc
          rw [e2, e] at h1
          exact bw_after h t k c.2 h1
        · exact if_neg e2
      rw [h1]
      exact Nat.one_le_two_pow
    · show (if x = t then 1 else 0) + _ ≤ _
      rw [if_neg e, Nat.zero_add]
      have h1 := sumE_lt2 (l := l) (f := fun c => if c.1 = x then bw l t k c.2 else 0) (M := 2 ^ behind l r (posL r x + 1)) (p := fun c => c.1 = x) (fun c hc => by
        by_cases e2 : c.1 = x
        · simp only [if_pos e2]
          refine Nat.le_trans (bw_pow h t k c.2) (Nat.pow_le_pow_right (by omega) ?_)
          unfold behind
          refine sumE_le (fun d _ => ?_)
          have h2 := ord_lt h hc
          rw [e2] at h2
          by_cases h3 : posL r c.2 ≤ posL r d.1
          · rw [if_pos h3, if_pos (by omega)]; exact Nat.le_refl _
          · rw [if_neg h3]; exact Nat.zero_le _
        · simp only [if_neg e2]; exact Nat.le_refl _)
      refine Nat.le_trans h1 (Nat.le_trans (Nat.mul_le_mul_right _ (le_two_pow _)) ?_)
      rw [← Nat.pow_add]
      refine Nat.pow_le_pow_right (by omega) ?_
      unfold behind
      rw [← sumE_add]
      refine sumE_le (fun d _ => ?_)
      by_cases e2 : d.1 = x
      · rw [if_pos e2, e2, if_neg (by omega), if_pos (Nat.le_refl _)]; exact Nat.le_refl _
      · rw [if_neg e2, Nat.zero_add]
        by_cases h3 : posL r x + 1 ≤ posL r d.1
        · rw [if_pos h3, if_pos (by omega)]; exact Nat.le_refl _
        · rw [if_neg h3]; exact Nat.zero_le _
theorem Bw_pow (h : topo l = some r) (t x : ByteArray) : Bw l t x ≤ 2 ^ l.length := Nat.le_trans (bw_pow h t _ x) (Nat.pow_le_pow_right (by omega) (behind_le _ _ _))
theorem Bw_pos (h : topo l = some r) {t x : ByteArray} (hr : Rch (sucL l) x t) : 0 < Bw l t x := by
  have key : ∀ y, Rch (sucL l) x y → 0 < Bw l t y → 0 < Bw l t x := by
    intro y hy
    induction hy with
    | refl => exact id
    | @step y z _ hx ih =>
      intro h1
      refine ih ?_
      obtain ⟨c, hc, e1, e2⟩ := suc_mem.1 hx
      rw [Bw_eq h]
      have := sumE_mem (f := fun c => if c.1 = y then Bw l t c.2 else 0) hc
      simp only [if_pos e1, e2] at this
      omega
  exact key t hr (by rw [Bw_self h]; omega)
end
end Go.Proofs.Ytmacdknicgfglaa.Gp
/- CountPaths' table, plainly: what it holds is the number of ways, bounded. -/
namespace Go.Proofs.Ytmacdknicgfglaa.Gp
set_option linter.unusedVariables false
set_option linter.unusedSimpArgs false
/-- One contact is reckoned in. -/
def updT (x : ByteArray) (n : ByteArray → Option Int) (t : ByteArray) : ByteArray → Option Int := if x = sR then n else fun y => if y = x then some (min 1073741824 ((n x).getD 0 + (n t).getD 0)) else n y
def nodeN (l : List Ed) (n : ByteArray → Option Int) (x : ByteArray) : ByteArray → Option Int := (sucL l x).foldl (updT x) n
def ntab0 : ByteArray → Option Int := fun y => if y = sR then some 1 else none
def ntab (l : List Ed) (xs : List ByteArray) : ByteArray → Option Int := xs.foldl (nodeN l) ntab0
theorem map_range {α : Type} (l : List α) (z : α) : (List.range l.length).map (fun i => l.getD i z) = l := by
  apply List.ext_getElem
  · simp
  · intro i h1 h2
    simp [List.getD_eq_getElem?_getD, List.getElem?_eq_getElem h2]
theorem suc_eq (l : List Ed) (s : ByteArray) : sucL l s = (l.filter fun c => decide (c.1 = s)).map fun c => c.2 := by
  have h := map_range l zE
  unfold sucL outL idxs
  rw [List.map_map]
  conv => rhs; rw [← h]
  rw [List.filter_map, List.map_map]
  rfl
theorem suc_sum (l : List Ed) (s : ByteArray) (f : ByteArray → Nat) : ((sucL l s).map f).sum = sumE l (fun c => if c.1 = s then f c.2 else 0) := by
  rw [suc_eq]
  induction l with
  | nil => rfl
  | cons c l ih =>
    rw [sumE_cons, List.filter_cons]
    by_cases e : c.1 = s
    · rw [if_pos (by simpa using e), if_pos e, List.map_cons, List.map_cons, List.sum_cons, ih]
    · rw [if_neg (by simpa using e), if_neg e, ih, Nat.zero_add]
/-- The bounded number. -/
def capN (n : Nat) : Int := ((min 1073741824 n : Nat) : Int)
theorem capN_add (a b : Nat) : min 1073741824 (capN a + capN b) = capN (a + b) := by unfold capN; omega
theorem capN_cap (a : Nat) : min 1073741824 (capN a) = capN a := by unfold capN; omega
theorem capN_bd (a : Nat) : 0 ≤ capN a ∧ capN a ≤ 1073741824 := by unfold capN; omega
theorem capN_small {a : Nat} (h : a ≤ 1073741824) : capN a = (a : Int) := by unfold capN; omega
theorem foldT {x : ByteArray} (hx : x ≠ sR) (B : ByteArray → Nat) : ∀ (ts : List ByteArray) (n : ByteArray → Option Int) (a : Nat), x ∉ ts → (n x).getD 0 = capN a → (∀ t ∈ ts, (n t).getD 0 = capN (B t)) →
    ((ts.foldl (updT x) n) x).getD 0 = capN (a + (ts.map B).sum) ∧ ∀ y, y ≠ x → (ts.foldl (updT x) n) y = n y
  | [], n, a, _, ha, _ => ⟨by simpa using ha, fun y _ => rfl⟩
  | t :: ts, n, a, hn, ha, hB => by
    have ht : t ≠ x := fun e => hn (by rw [e]; exact List.mem_cons_self)
    have h1 : (updT x n t x).getD 0 = capN (a + B t) := by
      unfold updT
      rw [if_neg hx, if_pos rfl, Option.getD_some, ha, hB t List.mem_cons_self, capN_add]
    have h2 : ∀ y, y ≠ x → updT x n t y = n y := fun y hy => by
      unfold updT
      rw [if_neg hx, if_neg hy]
    obtain ⟨h3, h4⟩ := foldT hx B ts (updT x n t) (a + B t) (fun h => hn (List.mem_cons_of_mem _ h)) h1 (fun u hu => by
      rw [h2 u (fun e => hn (by rw [← e]; exact List.mem_cons_of_mem _ hu))]
      exact hB u (List.mem_cons_of_mem _ hu))
    rw [List.foldl_cons, List.map_cons, List.sum_cons, ← Nat.add_assoc]
    exact ⟨h3, fun y hy => (h4 y hy).trans (h2 y hy)⟩
theorem foldR (ts : List ByteArray) (n : ByteArray → Option Int) : ts.foldl (updT sR) n = n := by
  induction ts generalizing n with
  | nil => rfl
  | cons t ts ih => rw [List.foldl_cons, ih]; exact if_pos rfl
/-- Where an order stands, a contact's target comes behind its source. -/
theorem ord_behind {l : List Ed} {r A B : List ByteArray} {x : ByteArray} (h : topo l = some r) (e : r = A ++ x :: B) {c : Ed} (hc : c ∈ l) (hx : c.1 = x) : c.2 ∈ B ∧ x ∉ B ∧ x ∉ A := by
  obtain ⟨ho, hl⟩ := topo_ord h
  have hnd := ho.nd
  rw [e, List.nodup_append, List.nodup_cons] at hnd
  have hA : x ∉ A := fun hm => hnd.2.2 x hm x List.mem_cons_self rfl
  refine ⟨?_, hnd.2.1.1, hA⟩
  have hm := full ho.nd ho.sub hl c.2 (nodes_2 hc)
  obtain ⟨i, hi, q⟩ := List.getElem_of_mem hm
  have h1 := ho.ord i hi c hc q.symm
  rw [hx] at h1
  have hAi : A.length < i := by
    refine Nat.lt_of_not_le fun hle => hA ?_
    subst e
    rw [List.take_append_of_le_length hle] at h1
    exact List.mem_of_mem_take h1
  subst e
  rw [List.getElem_append_right (by omega), List.getElem_cons, dif_neg (by omega)] at q
  rw [← q]
  exact List.getElem_mem _
theorem ntab_inv {l : List Ed} {r : List ByteArray} (h : topo l = some r) : ∀ (B A : List ByteArray), r = A ++ B → ∀ y, (ntab l B.reverse y).getD 0 = if y ∈ B ∨ y = sR then capN (Bw l sR y) else 0
  | [], A, e, y => by
    show (ntab0 y).getD 0 = _
    unfold ntab0
    by_cases hy : y = sR
    · rw [if_pos hy, if_pos (.inr hy), hy, Bw_self h]; rfl
    · rw [if_neg hy, if_neg (by simp [hy])]; rfl
  | x :: B, A, e, y => by
    have ih := ntab_inv h B (A ++ [x]) (by rw [e]; simp)
    have hs : ntab l (x :: B).reverse = nodeN l (ntab l B.reverse) x := by
      unfold ntab
      rw [List.reverse_cons, List.foldl_append]
      rfl
    rw [hs]
    by_cases hx : x = sR
    · have : nodeN l (ntab l B.reverse) x = ntab l B.reverse := by unfold nodeN; rw [hx]; exact foldR _ _
      rw [this, ih y]
      by_cases hy : y = sR
      · rw [if_pos (.inr hy), if_pos (.inr hy)]
      · have : (y ∈ x :: B ∨ y = sR) ↔ (y ∈ B ∨ y = sR) := by rw [List.mem_cons, hx]; simp [hy]
        by_cases hB : y ∈ B
        · rw [if_pos (.inl hB), if_pos (.inl (List.mem_cons_of_mem _ hB))]
        · rw [if_neg (by simp [hB, hy]), if_neg (by rw [this]; simp [hB, hy])]
    · obtain ⟨ho, hl⟩ := topo_ord h
      have hxB : x ∉ B := by
        have hnd := ho.nd
        rw [e, List.nodup_append, List.nodup_cons] at hnd
        exact hnd.2.1.1
      obtain ⟨h1, h2⟩ := foldT hx (Bw l sR) (sucL l x) (ntab l B.reverse) 0 (fun hm => by
        obtain ⟨c, hc, q1, q2⟩ := suc_mem.1 hm
        have := (ord_behind h e hc q1).1
        rw [q2] at this
        exact hxB this) (by rw [ih x, if_neg (by simp [hxB, hx])]; rfl) (fun t ht => by
        obtain ⟨c, hc, q1, q2⟩ := suc_mem.1 ht
        have := (ord_behind h e hc q1).1
        rw [q2] at this
        rw [ih t, if_pos (.inl this)])
      by_cases hy : y = x
      · rw [hy, if_pos (.inl List.mem_cons_self)]
        show ((sucL l x).foldl (updT x) (ntab l B.reverse) x).getD 0 = _
        rw [h1, Nat.zero_add, suc_sum, ← Bw_other h hx]
      · show ((sucL l x).foldl (updT x) (ntab l B.reverse) y).getD 0 = _
        rw [h2 y hy, ih y]
        by_cases hB : y ∈ B ∨ y = sR
        · rw [if_pos hB, if_pos (hB.imp (List.mem_cons_of_mem _) id)]
        · rw [if_neg hB, if_neg (fun q => hB (q.imp (fun h => (List.mem_cons.1 h).resolve_left hy) id))]
/-- What CountPaths answers. -/
theorem ntab_all {l : List Ed} {r : List ByteArray} (h : topo l = some r) : (ntab l r.reverse sL).getD 0 = capN (Bw l sR sL) := by
  rw [ntab_inv h r [] rfl]
  obtain ⟨ho, hl⟩ := topo_ord h
  exact if_pos (.inl (full ho.nd ho.sub hl sL (nodesL_mem.2 (.inl rfl))))
/-- All numbers in the table lie within bounds. -/
theorem updT_bd {x : ByteArray} {n : ByteArray → Option Int} (hn : ∀ y, 0 ≤ (n y).getD 0 ∧ (n y).getD 0 ≤ 1073741824) (t : ByteArray) : ∀ y, 0 ≤ (updT x n t y).getD 0 ∧ (updT x n t y).getD 0 ≤ 1073741824 := by
  intro y
  unfold updT
  have h1 := hn x
  have h2 := hn t
  by_cases hx : x = sR
  · rw [if_pos hx]; exact hn y
  · rw [if_neg hx]
    by_cases hy : y = x
    · rw [if_pos hy, Option.getD_some]; omega
    · rw [if_neg hy]; exact hn y
theorem foldT_bd {x : ByteArray} : ∀ (ts : List ByteArray) (n : ByteArray → Option Int), (∀ y, 0 ≤ (n y).getD 0 ∧ (n y).getD 0 ≤ 1073741824) → ∀ y, 0 ≤ (ts.foldl (updT x) n y).getD 0 ∧ (ts.foldl (updT x) n y).getD 0 ≤ 1073741824
  | [], n, hn => hn
  | t :: ts, n, hn => foldT_bd ts _ (updT_bd hn t)
theorem ntab_bd (l : List Ed) (xs : List ByteArray) : ∀ y, 0 ≤ (ntab l xs y).getD 0 ∧ (ntab l xs y).getD 0 ≤ 1073741824 := by
  unfold ntab
  have h0 : ∀ y, 0 ≤ (ntab0 y).getD 0 ∧ (ntab0 y).getD 0 ≤ 1073741824 := by
    intro y
    unfold ntab0
    split <;> simp
  generalize ntab0 = n at h0 ⊢
  induction xs generalizing n with
  | nil => exact h0
  | cons x xs ih => exact ih _ (foldT_bd (sucL l x) n h0)
/-- What CountPaths answers: how many, the error. -/
def countL (l : List Ed) : Int × Int := if errT (topo l) = 0 then (capN (Bw l sR sL), 0) else (0, errT (topo l))
end Go.Proofs.Ytmacdknicgfglaa.Gp
