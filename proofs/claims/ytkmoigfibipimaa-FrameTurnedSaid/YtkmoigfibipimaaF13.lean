/- Frames: the walk of the law FrameTurned. -/
import Derived.Test.YtkmoigfibipimaaF12
set_option linter.unusedVariables false
set_option linter.unusedSimpArgs false
namespace Go.Proofs.Ytkmoigfibipimaa.F
open Go Go.Proofs.Ytkmoigfibipimaa.V Go.RowKit
theorem walk_FrameTurned (a0 : ByteArray) (w0 : a0.size ≤ maxLen) (a1 : Int) (w1 : (Lit.int .i64 a1).wf = true) (a2 : Int) (w2 : (Lit.int .u8 a2).wf = true) (w : World) :
    Calls Try.prog 5 #[.string a0, .int .i64 a1, .int .u8 a2] w fun e w' => e = .returned (.bool true) ∧ Below w.heap.size w w' := by
  have hx : -9223372036854775808 ≤ a1 ∧ a1 ≤ 9223372036854775807 := by simp [Lit.wf, IntKind.min, IntKind.max, IntKind.signed, IntKind.bits] at w1; omega
  have hy2 : 0 ≤ a2 ∧ a2 < 256 := by simp [Lit.wf, IntKind.min, IntKind.max, IntKind.signed, IntKind.bits] at w2; omega
  obtain ⟨y, rfl⟩ : ∃ y : UInt8, a2 = (y.toNat : Int) := ⟨UInt8.ofNat a2.toNat, by simp; omega⟩
  exact (turned a0.data.toList a1 y hx (by unfold maxLen at w0; have : a0.data.toList.length = a0.size := rfl; omega)).calls w (vals_of (cells_cons (rel_str _ _) (cells_cons (.int _ _) (cells_cons (.int _ _) (cells_nil _)))))
end Go.Proofs.Ytkmoigfibipimaa.F
