/- A struct of plain data that came in. No program is named here. -/
import Derived.Test.YtajgeofhlgoifaaV22
set_option linter.unusedVariables false
set_option linter.unusedSimpArgs false
namespace Go.Proofs.Ytajgeofhlgoifaa.V
open Go Go.RowKit Go.WideShapes
section
variable {P : Program} {t e : TypeId}
theorem vopen_st {α : Type} {fs : Array Field} {f : α → List AV} {G : α → Prop} (ht : P.underlying t = some (.struct fs)) (ho : VOpens P t f G) {H : Type} {enc : TypeId × Value → H} {w : World} {v : Value} {d : DataW H} {p : List MemPlace} {r : Reach} {b0 : Nat}
    (hv : Value.okWide P w r b0 t v) (h : DataW.Trod enc P w 0 (fun _ => true) true t v d p) (hnf : w.noneFrozen p) : ∃ a, G a ∧ VRel (g0 w) (.agg (f a)) v := by
  obtain ⟨fuel, h⟩ := h
  obtain ⟨cs, rfl, _⟩ := okWide_struct ht hv
  obtain ⟨a, hg, hr⟩ := ho H enc w fuel _ _ h hnf
  exact ⟨a, hg, .agg _ _ (by simpa [Value.cells] using hr.1) fun i h1 h2 => by simpa [Value.cells] using hr.2 i h1 (by simpa [Value.cells] using h2)⟩
theorem int_in {a : Int} (w : (Lit.int .i64 a).wf = true) : -9223372036854775808 ≤ a ∧ a ≤ 9223372036854775807 := by
  simp [Lit.wf, IntKind.min, IntKind.max, IntKind.signed, IntKind.bits] at w; omega
end
/-- A value that came in, as data. -/
structure Came where
  v : Value
end Go.Proofs.Ytajgeofhlgoifaa.V
