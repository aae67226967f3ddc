/- Numbers as bytes: the walks of the laws NumSizes, NumOnce. -/
import Derived.Test.YtfcfkbaikkkibaaN11
set_option linter.unusedVariables false
set_option linter.unusedSimpArgs false
namespace Go.Proofs.Ytfcfkbaikkkibaa.N
open Go Go.Proofs.Ytfcfkbaikkkibaa.V Go.RowKit
theorem walk_NumSizes (a0 : Int) (w0 : (Lit.int .i64 a0).wf = true) (a1 : Int) (w1 : (Lit.int .i64 a1).wf = true) (w : World) :
    Calls Try.prog 6 #[.int .i64 a0, .int .i64 a1] w fun e w' => e = .returned (.bool true) ∧ Below w.heap.size w w' :=
  Law.calls (sizes a0 a1 []) w (vals_of (cells_cons (.int _ _) (cells_cons (.int _ _) (cells_nil _))))
theorem walk_NumOnce (a0 : ByteArray) (w0 : a0.size ≤ maxLen) (w : World) :
    Calls Try.prog 5 #[.string a0] w fun e w' => e = .returned (.bool true) ∧ Below w.heap.size w w' :=
  Law.calls (once a0.data.toList []) w (vals_of (cells_cons (rel_str _ _) (cells_nil _)))
end Go.Proofs.Ytfcfkbaikkkibaa.N
