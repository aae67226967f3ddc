import Derived.Test.YtdncoobpdllpkaaQC
import Derived.Test.YtdncoobpdllpkaaDD
import Derived.Test.YtdncoobpdllpkaaV21
/- The law RecordParts: its walk. -/
set_option linter.unusedVariables false
set_option linter.unusedSimpArgs false
set_option maxRecDepth 20000
namespace Go.Proofs.Ytdncoobpdllpkaa.QP
open Go Go.Proofs.Ytdncoobpdllpkaa.V Go.Proofs.Ytdncoobpdllpkaa.N Go.Proofs.Ytdncoobpdllpkaa.D Go.Proofs.Ytdncoobpdllpkaa.Q Go.RowKit Go.WideShapes
def SnapAt (w : World) (v : Value) : Prop := ∃ x : Snap, VRel (g0 w) (.agg x.c) v
def StrsAt (w : World) (v : Value) : Prop := ∃ l : List (List UInt8), VRel (g0 w) (.list (l.map .str) .no) v
theorem open_api_Snap {H : Type} {enc : TypeId × Value → H} {w : World} {v : Value} {d : DataW H} {p : List MemPlace} {r : Reach} {b0 : Nat} (hv : Value.okWide Try.prog w r b0 28 v) (h : DataW.Trod enc Try.prog w 0 (fun _ => true) true 28 v d p) (hnf : w.noneFrozen p) : ∃ x : Came, v = x.v ∧ SnapAt w x.v :=
  ⟨⟨v⟩, rfl, by
    obtain ⟨fuel, h⟩ := h
    obtain ⟨cs, rfl, _⟩ := okWide_struct Try.underlying28 hv
    obtain ⟨a, _, _, hr⟩ := bo_snap H enc w fuel _ _ h hnf
    exact ⟨a, .agg _ _ (by simpa [Value.cells] using hr.1) fun i h1 h2 => by simpa [Value.cells] using hr.2 i h1 (by simpa [Value.cells] using h2)⟩⟩
theorem open_Sl_string {H : Type} {enc : TypeId × Value → H} {w : World} {v : Value} {d : DataW H} {p : List MemPlace} {r : Reach} {b0 : Nat} (hv : Value.okWide Try.prog w r b0 29 v) (h : DataW.Trod enc Try.prog w 0 (fun _ => true) true 29 v d p) (hnf : w.noneFrozen p) : ∃ x : Came, v = x.v ∧ StrsAt w x.v :=
  ⟨⟨v⟩, rfl, by
    obtain ⟨l, _, hr⟩ := vopen_sl Try.underlying29 (vopens_sl (sz := 1) Try.underlying29 (by kernel_rfl) (by decide) (vopens_str Try.underlying9) AV.str (fun _ => rfl) (fun _ => rfl)) hv h hnf
    exact ⟨l, hr⟩⟩
theorem walk_RecordParts (x0 : Came) {w : World} (f0 : SnapAt w x0.v) (x1 : Came) (f1 : StrsAt w x1.v) (x2 : Came) (f2 : StrsAt w x2.v) :
    Calls Try.prog 3 #[x0.v, x1.v, x2.v] w fun e w' => e = .returned (.bool true) ∧ Below w.heap.size w w' := by
  obtain ⟨x, h0⟩ := f0
  obtain ⟨a, h1⟩ := f1
  obtain ⟨b, h2⟩ := f2
  exact Law.calls (recordParts x a b .no .no []) w (vals_of (cells_cons h0 (cells_cons h1 (cells_cons h2 (cells_nil _)))))
end Go.Proofs.Ytdncoobpdllpkaa.QP
