/- Plain laws of chapter 12: what the statements say, of the closure. -/
import Derived.Test.YtmacdknicgfglaaPr
namespace Go.Proofs.Ytmacdknicgfglaa.Gp
set_option linter.unusedVariables false
set_option linter.unusedSimpArgs false
theorem rch_turn {l : List Ed} {a b : ByteArray} (h : Rch (sucL l) a b) : Rch (preL l) b a := by
  induction h with
  | refl => exact .refl
  | step _ hx ih =>
    obtain ⟨c, hc, rfl, rfl⟩ := suc_mem.1 hx
    exact .head (pre_mem.2 ⟨c, hc, rfl, rfl⟩) ih
theorem rch_turn' {l : List Ed} {a b : ByteArray} (h : Rch (preL l) a b) : Rch (sucL l) b a := by
  induction h with
  | refl => exact .refl
  | step _ hx ih =>
    obtain ⟨c, hc, rfl, rfl⟩ := pre_mem.1 hx
    exact .head (suc_mem.2 ⟨c, hc, rfl, rfl⟩) ih
theorem reach_self {l : List Ed} {a : ByteArray} (h : a ∈ nodesL l) : a ∈ reachL l a := reach_mem.2 ⟨h, .refl⟩
theorem reach_anc {l : List Ed} {a b : ByteArray} (ha : a ∈ nodesL l) (hb : b ∈ nodesL l) : a ∈ ancL l b ↔ b ∈ reachL l a := by
  rw [reach_mem, anc_mem]
  exact ⟨fun h => ⟨ha, rch_turn' h.2⟩, fun h => ⟨hb, rch_turn h.2⟩⟩
theorem reach_step {l : List Ed} {a b : ByteArray} (h : b ∈ reachL l a) {i : Int} (hi : i ∈ outL l b) : toE l i ∈ reachL l a := by
  rw [reach_mem] at h ⊢
  exact ⟨h.1, h.2.step (List.mem_map.2 ⟨i, hi, rfl⟩)⟩
end Go.Proofs.Ytmacdknicgfglaa.Gp
