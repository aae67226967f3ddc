/- Frames: the walks of the laws over lists of texts. -/
import Derived.Test.YtkmoigfibipimaaF7
import Derived.Test.YtkmoigfibipimaaV21
set_option linter.unusedVariables false
set_option linter.unusedSimpArgs false
namespace Go.Proofs.Ytkmoigfibipimaa.F
open Go Go.Proofs.Ytkmoigfibipimaa.V Go.RowKit
def StrsAt (w : World) (x : Value) : Prop := ∃ l : List (List UInt8), (l.length ≤ 9223372036854775807 ∧ ∀ a ∈ l, a.length ≤ 9223372036854775807) ∧ VRel (g0 w) (.list (l.map .str) .no) x
/-- A value that came in, as data. -/
structure Came where
  v : Value
theorem open_Sl_string {H : Type} {enc : TypeId × Value → H} {w : World} {v : Value} {d : DataW H} {p : List MemPlace} {r : Reach} {b0 : Nat} (hv : Value.okWide Try.prog w r b0 36 v) (h : DataW.Trod enc Try.prog w 0 (fun _ => true) true 36 v d p) : ∃ x : Came, v = x.v ∧ StrsAt w x.v :=
  ⟨⟨v⟩, rfl, vopen_sl Try.underlying36 (vopens_sl Try.underlying36 (by kernel_rfl) (by decide) (vopens_str Try.underlying9) AV.str (fun _ => rfl) (fun _ => rfl)) hv h⟩
theorem walk_FrameBack (x0 : Came) {w : World} (f0 : StrsAt w x0.v) (a1 : Int) (w1 : (Lit.int .i64 a1).wf = true) :
    Calls Try.prog 7 #[x0.v, .int .i64 a1] w fun e w' => e = .returned (.bool true) ∧ Below w.heap.size w w' := by
  obtain ⟨l, ⟨hl, _⟩, hr⟩ := f0
  have hx : -9223372036854775808 ≤ a1 ∧ a1 ≤ 9223372036854775807 := by simp [Lit.wf, IntKind.min, IntKind.max, IntKind.signed, IntKind.bits] at w1; omega
  exact (back l .no a1 hx.1 hx.2 hl).calls w (vals_of (cells_cons hr (cells_cons (.int _ _) (cells_nil _))))
end Go.Proofs.Ytkmoigfibipimaa.F
