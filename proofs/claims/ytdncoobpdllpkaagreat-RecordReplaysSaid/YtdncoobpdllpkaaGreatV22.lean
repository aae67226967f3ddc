/- How structs of plain data that came in stand as abstract values. No program is named here. -/
import Derived.Test.YtdncoobpdllpkaaGreatV21
set_option linter.unusedVariables false
set_option linter.unusedSimpArgs false
namespace Go.Proofs.YtdncoobpdllpkaaGreat.V
open Go Go.RowKit Go.WideShapes
section
variable {P : Program} {t e : TypeId}
theorem cells_join {g : Ghost} {a b : List AV} {x y : List Value} (h1 : CellsRel g a x) (h2 : CellsRel g b y) : CellsRel g (a ++ b) (x ++ y) := by
  refine ⟨by simp [h1.1, h2.1], fun i hi hj => ?_⟩
  have hl := h1.1
  by_cases h : i < a.length
  · rw [List.getElem_append_left h, List.getElem_append_left (by omega)]
    exact h1.2 i h (by omega)
  · simp only [List.length_append] at hi hj
    rw [List.getElem_append_right (by omega), List.getElem_append_right (by omega)]
    simp only [hl]
    exact h2.2 (i - x.length) (by omega) (by omega)
end
end Go.Proofs.YtdncoobpdllpkaaGreat.V
