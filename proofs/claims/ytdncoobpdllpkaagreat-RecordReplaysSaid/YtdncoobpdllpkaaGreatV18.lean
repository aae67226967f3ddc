/- Contracts of calls in the model's own words, as contracts over abstract states. No program is named here. -/
import Derived.Test.YtdncoobpdllpkaaGreatV17
import Derived.Test.YtdncoobpdllpkaaGreatBase
set_option linter.unusedVariables false
set_option linter.unusedSimpArgs false
namespace Go.Proofs.YtdncoobpdllpkaaGreat.V
open Go Go.RowKit
theorem vals_one {g : Ghost} {x : AV} {vs : Array Value} (h : ValsRel g [x] vs) : ∃ v, vs = #[v] ∧ VRel g x v := by
  have hl : vs.toList.length = 1 := h.1.symm
  obtain ⟨v, hv⟩ := List.length_eq_one_iff.1 hl
  have := h.2 0 (by simp) (by simp [hv])
  refine ⟨v, by rw [← Array.toArray_toList (xs := vs), hv], ?_⟩
  simpa [hv] using this
theorem vals_two {g : Ghost} {x y : AV} {vs : Array Value} (h : ValsRel g [x, y] vs) : ∃ v u, vs = #[v, u] ∧ VRel g x v ∧ VRel g y u := by
  have hl : vs.toList.length = 2 := h.1.symm
  match hq : vs.toList, hl with
  | [v, u], _ =>
    have h0 := h.2 0 (by simp) (by simp [hq])
    have h1 := h.2 1 (by simp) (by simp [hq])
    refine ⟨v, u, by rw [← Array.toArray_toList (xs := vs), hq], ?_, ?_⟩
    · simpa [hq] using h0
    · simpa [hq] using h1
end Go.Proofs.YtdncoobpdllpkaaGreat.V
