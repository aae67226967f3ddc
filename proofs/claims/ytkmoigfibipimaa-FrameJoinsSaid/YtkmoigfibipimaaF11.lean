/- Frames: the walk of the law on frames one behind another. -/
import Derived.Test.YtkmoigfibipimaaF8
import Derived.Test.YtkmoigfibipimaaF10
set_option linter.unusedVariables false
set_option linter.unusedSimpArgs false
namespace Go.Proofs.Ytkmoigfibipimaa.F
open Go Go.Proofs.Ytkmoigfibipimaa.V Go.RowKit
theorem walk_FrameJoins (x0 : Came) {w : World} (f0 : StrsAt w x0.v) (x1 : Came) (f1 : StrsAt w x1.v) (a2 : ByteArray) (w2 : a2.size ≤ maxLen) :
    Calls Try.prog 8 #[x0.v, x1.v, .string a2] w fun e w' => e = .returned (.bool true) ∧ Below w.heap.size w w' := by
  obtain ⟨l, ⟨hl, _⟩, hr⟩ := f0
  obtain ⟨k, ⟨hk, _⟩, hs⟩ := f1
  exact (joins l k .no .no a2.data.toList hl hk).calls w (vals_of (cells_cons hr (cells_cons hs (cells_cons (rel_str _ _) (cells_nil _)))))
end Go.Proofs.Ytkmoigfibipimaa.F
