/- graph.gather's visit, walked. -/
import Derived.Test.YtmacdknicgfglaaSu
namespace Go.Proofs.Ytmacdknicgfglaa.Gw
open Go.RowKit Go.Shelf Go.Proofs.YtmacdknicgfglaaW.PrintWords Go.Proofs.YtmacdknicgfglaaW.PrintMore Go.Proofs.YtmacdknicgfglaaW.PrintLast Go.Proofs.Ytmacdknicgfglaa.Chg Go.Proofs.Ytmacdknicgfglaa.Evt Go.Proofs.Ytmacdknicgfglaa.Impl Go.Proofs.Ytmacdknicgfglaa.Gp Go.Proofs.Ytmacdknicgfglaa.Mp
set_option linter.unusedVariables false
set_option linter.unusedSimpArgs false
set_option maxRecDepth 100000
/-- A visit at hand: what is seen (behind gt), the steps (gs), itself (gv). -/
structure Vs (Ok : World → Prop) (gt gs gv b : Nat) (kf : Nat) (lb : Array Value) (seen : List ByteArray) (w : World) : Prop where
  bt : Bk w gt 65 #[.map (some b)]
  bs : Bk w gs 75 #[.func (.func kf) #[] lb]
  bv : Bk w gv 82 #[.func (.func 63) #[] #[.pointer (some ⟨gt, 0, none⟩), .pointer (some ⟨gs, 0, none⟩), .pointer (some ⟨gv, 0, none⟩)]]
  m : MB w b seen.length (fun s => decide (s ∈ seen))
  ok : Ok w
/-- What the visit leans on. -/
structure Vh (Ok : World → Prop) (b : Nat) (kf : Nat) (lb : Array Value) (q : ByteArray → List ByteArray) (all : List ByteArray) : Prop where
  st : StepsV kf lb q Ok
  eg : ∀ args w, (callFunc kf args).run Try.prog w = .ok (.enter kf args) w
  okc : ∀ w w', Ok w → Chg (fun i => i = b) w w' → Ok w'
  al : ∀ x ∈ all, x.size ≤ 100000
  an : all.length ≤ 3000
  qn : ∀ n ∈ all, ∀ m ∈ q n, m ∈ all
  ql : ∀ n, (q n).length ≤ 1000
section
variable {Ok : World → Prop} {gt gs gv b kf : Nat} {lb : Array Value} {seen : List ByteArray} {w w' : World} {q : ByteArray → List ByteArray} {all : List ByteArray}
abbrev CB (b : Nat) (w w' : World) : Prop := Chg (fun i => i = b) w w'
theorem CB.trans {w'' : World} (h : CB b w w') (k : CB b w' w'') : CB b w w'' := Chg.trans h k (fun i hi => .inl hi)
theorem CB.below (h : Below w.heap.size w w') : CB b w w' := Chg.of_below h
theorem CB.grown (h : w.grownBy w' (some b)) : CB b w w' := Chg.of_grown h (fun k hk => .inl (by cases hk; rfl))
theorem CB.to (h : CB b w w') : w.grownBy w' (some b) := ⟨h.os, h.tape, h.output, h.size, fun k hk hne => h.block k hk (fun e => hne (by rw [e]))⟩
theorem Vs.turn (h : Vs Ok gt gs gv b kf lb seen w) (hh : Vh Ok b kf lb q all) (hc : CB b w w') {seen' : List ByteArray} (hm : MB w' b seen'.length (fun s => decide (s ∈ seen'))) : Vs Ok gt gs gv b kf lb seen' w' :=
  ⟨h.bt.mput h.m hc.to, h.bs.mput h.m hc.to, h.bv.mput h.m hc.to, hm, hh.okc _ _ h.ok hc⟩
theorem Vs.below (h : Vs Ok gt gs gv b kf lb seen w) (hh : Vh Ok b kf lb q all) (hb : Below w.heap.size w w') : Vs Ok gt gs gv b kf lb seen w' := h.turn hh (CB.below hb) (h.m.below hb)
theorem Vs.put {w1 : World} (h : Vs Ok gt gs gv b kf lb seen w) (hh : Vh Ok b kf lb q all) {s : ByteArray} (hm : MB w1 b (seen.length + 1) (fun z => if z = s then true else decide (z ∈ seen))) (hg : w.grownBy w1 (some b)) : Vs Ok gt gs gv b kf lb (seen ++ [s]) w1 := by
  refine h.turn hh (CB.grown hg) ?_
  rw [List.length_append, List.length_singleton]
  refine hm.congr (fun z => ?_)
  by_cases e : z = s
  · subst e; simp
  · simp [e]
/-- A row that is not the map stays. -/
theorem Ro.cb {w0 : World} {v : Value} {xs : List ByteArray} {n : Nat} {p : ByteArray → Bool} (h : Ro Kd.string 9 w0 w v xs) (hm : MB w b n p) (hc : CB b w w') : Ro Kd.string 9 w0 w' v xs := ⟨R_other h.row hc.to (.inl (hm.row h.row))⟩
/-- One visit, its depth told. -/
def VisitOk (Ok : World → Prop) (gt gs gv b kf : Nat) (lb : Array Value) (q : ByteArray → List ByteArray) (all : List ByteArray) (k : Nat) : Prop :=
  ∀ (seen : List ByteArray) (W : World) (n : ByteArray), n ∈ all → unseen all seen ≤ k → (∀ x ∈ seen, x ∈ all) → seen.Nodup → Vs Ok gt gs gv b kf lb seen W →
    Calls Try.prog 63 #[.string n, .pointer (some ⟨gt, 0, none⟩), .pointer (some ⟨gs, 0, none⟩), .pointer (some ⟨gv, 0, none⟩)] W fun e W' => e = .returned (.tuple #[]) ∧ Vs Ok gt gs gv b kf lb (visitG q k seen n) W' ∧ CB b W W'
set_option maxHeartbeats 1000000 in
theorem visit_old (hh : Vh Ok b kf lb q all) (n : ByteArray) (hn : n ∈ all) (hs : n ∈ seen) (h : Vs Ok gt gs gv b kf lb seen w) :
    Calls Try.prog 63 #[.string n, .pointer (some ⟨gt, 0, none⟩), .pointer (some ⟨gs, 0, none⟩), .pointer (some ⟨gv, 0, none⟩)] w fun e W' => e = .returned (.tuple #[]) ∧ Vs Ok gt gs gv b kf lb seen W' ∧ CB b w W' := by
  have V := Aside0.mk h
  have x0 := h.bt.blk.cell 0 rfl
  have SZ := Aside0.mk (hh.al n hn)
  have HS := Aside0.mk (decide_eq_true hs)
  clear h
  go_enter Try.func63, Try.ntmps63
  go_wp2_with (refine Mp.getB_ev rfl rfl (s := n) (v := true) rfl rfl (by have := SZ.out; unfold maxLen; omega) V.out.m HS.out ?_)
  refine bodyPost_ret (results_none rfl _ _ _) rfl ?_
  exact ⟨rfl, V.out, Chg.refl _ _⟩
theorem eg_v : ∀ args w, (callFunc 63 args).run Try.prog w = .ok (.enter 63 args) w := enters_of Try.func63 (by kernel_rfl) rfl
set_option maxHeartbeats 4000000 in
theorem visit_new (hh : Vh Ok b kf lb q all) (k : Nat) (ih : VisitOk Ok gt gs gv b kf lb q all k) (n : ByteArray) (hn : n ∈ all) (hs : n ∉ seen) (hu : unseen all seen ≤ k + 1) (hi : ∀ x ∈ seen, x ∈ all) (hd : seen.Nodup) (h : Vs Ok gt gs gv b kf lb seen w) :
    Calls Try.prog 63 #[.string n, .pointer (some ⟨gt, 0, none⟩), .pointer (some ⟨gs, 0, none⟩), .pointer (some ⟨gv, 0, none⟩)] w fun e W' => e = .returned (.tuple #[]) ∧ Vs Ok gt gs gv b kf lb ((q n).foldl (visitG q k) (seen ++ [n])) W' ∧ CB b w W' := by
  have HH := Aside0.mk hh
  have IH := Aside0.mk ih
  have V := Aside0.mk h
  have x0 := h.bt.blk.cell 0 rfl
  have SZ := Aside0.mk (hh.al n hn)
  have HS := Aside0.mk (decide_eq_false hs)
  have QL := Aside0.mk (hh.ql n)
  have QN := Aside0.mk (hh.qn n hn)
  have SL : Aside0 (seen.length ≤ 3000) := Aside0.mk (Nat.le_trans (nodup_len hd hi) hh.an)
  have I0 : Aside0 ((∀ x ∈ seen ++ [n], x ∈ all) ∧ (seen ++ [n]).Nodup) := Aside0.mk (by
    have := visitG_in (q := fun _ => []) (all := all) (fun _ _ m hm => by cases hm) 1 seen n ⟨hi, hd⟩ hn
    unfold visitG at this
    rw [if_neg hs] at this
    exact this)
  have U0 : Aside0 (unseen all (seen ++ [n]) ≤ k) := Aside0.mk (by have := unseen_lt hn hs; omega)
  clear h hh ih hs hu hi hd hn
  have HB := Aside0.mk (Below.refl w.heap.size w)
  go_enter Try.func63, Try.ntmps63
  go_wp2_with (first | (refine Mp.getB_ev rfl rfl (s := n) (v := false) rfl rfl (by have := SZ.out; unfold maxLen; omega) V.out.m HS.out ?_) | (refine Mp.putB_ev rfl (.inl rfl) (s := n) (v := true) rfl rfl rfl (by have := SZ.out; unfold maxLen; omega) (by have := SL.out; unfold maxLen; omega) V.out.m ?_; intro wj hM hg_; have V1 := Aside0.mk (V.out.put HH.out hM hg_); have C1 := Aside0.mk (CB.grown hg_); clear hM hg_; have y0 := V1.out.bs.blk.cell 0 rfl; have eg := HH.out.eg) | (go_at_fn kf; refine (HH.out.st.out wj n V1.out.ok).mono ?_; rintro e W2 ⟨v, rfl, ho, hb⟩; obtain ⟨A_, c_, rfl, RW⟩ := Ro.sliceS ho; have V2 := Aside0.mk (V1.out.below HH.out hb); have C2 := Aside0.mk (C1.out.trans (CB.below hb)); have RO := Aside0.mk ho; clear ho hb))
  have LP : Aside0 (Vs Ok gt gs gv b kf lb (((q n).take 0).foldl (visitG q k) (seen ++ [n])) W2 ∧ CB b w W2 ∧ Ro Kd.string 9 wj W2 (.slice A_ (q n).length c_) (q n)) := Aside0.mk ⟨V2.out, C2.out, RO.out⟩
  clear V V1 V2 C1 C2 RO RW y0 x0 HB
  go_loopg [16] (q n).length (fun kq v16 wr => ∃ j : Nat, v16 = .int .i64 j ∧ Aside0 (j + kq = (q n).length) ∧ Aside0 (Vs Ok gt gs gv b kf lb (((q n).take j).foldl (visitG q k) (seen ++ [n])) wr ∧ CB b w wr ∧ Ro Kd.string 9 wj wr (.slice A_ (q n).length c_) (q n)))
  case atStart => exact ⟨0, rfl, ⟨by omega⟩, LP⟩
  case round =>
    clear LP
    obtain ⟨j, rfl, hj, LP⟩ := hrel
    cases gk with
    | zero =>
      have e0 : j = (q n).length := by have := hj.out; omega
      have q0 : decide (j < (q n).length) = false := decide_eq_false (by omega)
      have q1 : decide ((j : Int) < ((q n).length : Int)) = false := decide_eq_false (by omega)
      have NE := Aside0.mk e0
      clear e0 hj
      go_wp2
      (try simp only [Exit.inBlock, Exit.then])
      refine bodyPost_end (results_none rfl _ _ _) rfl ?_
      have h1 := LP.out.1
      rw [List.take_of_length_le (by rw [NE.out]; exact Nat.le_refl _)] at h1
      exact ⟨rfl, h1, LP.out.2.1⟩
    | succ k1 =>
      have hjl : j < (q n).length := by have := hj.out; omega
      have q0 : decide (j < (q n).length) = true := decide_eq_true (by omega)
      have q1 : decide ((j : Int) < ((q n).length : Int)) = true := decide_eq_true (by omega)
      obtain ⟨x, hx⟩ : ∃ x, Aside0 ((q n)[j] = x) := ⟨_, ⟨rfl⟩⟩
      have ST := Aside0.mk (show ((q n).take (j + 1)).foldl (visitG q k) (seen ++ [n]) = visitG q k (((q n).take j).foldl (visitG q k) (seen ++ [n])) x by rw [List.take_succ_eq_append_getElem hjl, List.foldl_append, hx.out]; rfl)
      obtain ⟨ad, rfl, x0⟩ := Kd.at_string (Rw.of_R LP.out.2.2.row).row (j : Int) (by omega) (by omega)
      rw [Int.toNat_natCast, show rdOf ByteArray.empty (q n) (j : Int) = x by rw [← hx.out]; simp [rdOf, List.getD_eq_getElem?_getD, List.getElem?_eq_getElem hjl]] at x0
      have XA := Aside0.mk (QN.out x (by rw [← hx.out]; exact List.getElem_mem hjl))
      have IN := Aside0.mk (foldl_len (all := all) (Q := fun s => (∀ y ∈ s, y ∈ all) ∧ s.Nodup) (fun s m hQ hm => visitG_in HH.out.qn k s m hQ hm) ((q n).take j) (seen ++ [n]) I0.out (fun m hm => QN.out m (List.mem_of_mem_take hm)))
      have UN := Aside0.mk (Nat.le_trans (unseen_le (all := all) (fun y hy => foldl_ge (visitG_ge q k) ((q n).take j) (seen ++ [n]) y hy)) U0.out)
      have z0 := LP.out.1.bv.blk.cell 0 rfl
      have ev := eg_v
      generalize hse : ((q n).take j).foldl (visitG q k) (seen ++ [n]) = se at LP ST IN UN
      clear hse
      go_wp2_with (go_at_call 63; (refine (IH.out se wr x XA.out UN.out IN.out.1 IN.out.2 LP.out.1).mono ?_; rintro e W3 ⟨rfl, hv, hc⟩; have LQ := Aside0.mk (And.intro hv (And.intro (LP.out.2.1.trans hc) (Ro.cb LP.out.2.2 LP.out.1.m hc))); clear hv hc LP))
      go_roundg k1
      case measure => omega
      case rel => exact ⟨j + 1, (by have := QL.out; have hw : wrap64 ((j : Int) + 1) = ((j + 1 : Nat) : Int) := (by unfold wrap64; omega); show Value.int .i64 (wrap64 ((j : Int) + 1)) = _; rw [hw]), ⟨by have := hj.out; omega⟩, ⟨by rw [ST.out]; exact LQ.out⟩⟩
theorem visit_any (hh : Vh Ok b kf lb q all) : ∀ k, VisitOk Ok gt gs gv b kf lb q all k
  | 0 => fun seen W n hn hu hi hd hv => by
    have hs : n ∈ seen := by
      refine Decidable.byContradiction fun hs => ?_
      have := unseen_lt hn hs
      omega
    exact visit_old hh n hn hs hv
  | k + 1 => fun seen W n hn hu hi hd hv => by
    unfold visitG
    by_cases hs : n ∈ seen
    · rw [if_pos hs]; exact visit_old hh n hn hs hv
    · rw [if_neg hs]; exact visit_new hh k (visit_any hh k) n hn hs hu hi hd hv
theorem visit_go (hh : Vh Ok b kf lb q all) (k : Nat) (seen : List ByteArray) (W : World) (n : ByteArray) (hn : n ∈ all) (hu : unseen all seen ≤ k) (hi : ∀ x ∈ seen, x ∈ all) (hd : seen.Nodup) (hv : Vs Ok gt gs gv b kf lb seen W) :
    Calls Try.prog 63 #[.string n, .pointer (some ⟨gt, 0, none⟩), .pointer (some ⟨gs, 0, none⟩), .pointer (some ⟨gv, 0, none⟩)] W fun e W' => e = .returned (.tuple #[]) ∧ Vs Ok gt gs gv b kf lb (visitG q k seen n) W' ∧ CB b W W' := visit_any hh k seen W n hn hu hi hd hv
end
end Go.Proofs.Ytmacdknicgfglaa.Gw
