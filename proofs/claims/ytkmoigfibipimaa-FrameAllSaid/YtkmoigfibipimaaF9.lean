/- Frames: the laws' walks. -/
import Derived.Test.YtkmoigfibipimaaF6
set_option linter.unusedVariables false
set_option linter.unusedSimpArgs false
namespace Go.Proofs.Ytkmoigfibipimaa.F
open Go Go.Proofs.Ytkmoigfibipimaa.V Go.RowKit
theorem walk_FramePuts (a0 : ByteArray) (w0 : a0.size ≤ maxLen) (a1 : ByteArray) (w1 : a1.size ≤ maxLen) (w : World) :
    Calls Try.prog 3 #[.string a0, .string a1] w fun e w' => e = .returned (.bool true) ∧ Below w.heap.size w w' :=
  (puts a0.data.toList a1.data.toList (by unfold maxLen at w0; have : a0.data.toList.length = a0.size := rfl; omega)).calls w (vals_of (cells_cons (rel_str _ _) (cells_cons (rel_str _ _) (cells_nil _))))
theorem walk_FrameFirst (a0 : ByteArray) (w0 : a0.size ≤ maxLen) (w : World) :
    Calls Try.prog 6 #[.string a0] w fun e w' => e = .returned (.bool true) ∧ Below w.heap.size w w' :=
  (first a0.data.toList).calls w (vals_of (cells_cons (rel_str _ _) (cells_nil _)))
theorem walk_FrameAll (a0 : ByteArray) (w0 : a0.size ≤ maxLen) (w : World) :
    Calls Try.prog 4 #[.string a0] w fun e w' => e = .returned (.bool true) ∧ Below w.heap.size w w' :=
  (alls a0.data.toList).calls w (vals_of (cells_cons (rel_str _ _) (cells_nil _)))
end Go.Proofs.Ytkmoigfibipimaa.F
