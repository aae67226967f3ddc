/- Numbers as bytes: the walks of the laws over lists of things. -/
import Derived.Test.YtfcfkbaikkkibaaN15
import Derived.Test.YtfcfkbaikkkibaaV22
set_option linter.unusedVariables false
set_option linter.unusedSimpArgs false
namespace Go.Proofs.Ytfcfkbaikkkibaa.N
open Go Go.Proofs.Ytfcfkbaikkkibaa.V Go.RowKit
def ThingsAt (w : World) (x : Value) : Prop := ∃ l : List Th, l.length ≤ 9223372036854775807 ∧ VRel (g0 w) (.list (l.map Th.av) .no) x
/-- A value that came in, as data. -/
structure Came where
  v : Value
theorem vopens_thing : VOpens Try.prog 27 (fun x : Th => [.bool x.txt, .int .i64 x.n, .str x.s]) (fun _ => True) :=
  vopens_map (fun p : Bool × Int × List UInt8 × Unit => Th.mk p.1 p.2.1 p.2.2.1)
    (vopens_struct Try.underlying27 (by kernel_rfl) (fopens_cons (k := 1) rfl (by kernel_rfl) (vopens_bool Try.underlying4) (fopens_cons (k := 1) rfl (by kernel_rfl) (vopens_int Try.underlying3) (fopens_cons (k := 1) rfl (by kernel_rfl) (vopens_str Try.underlying9) fopens_nil))))
    (fun _ => rfl) (fun _ _ => trivial)
theorem open_Sl_syndiclaw01_Thing {H : Type} {enc : TypeId × Value → H} {w : World} {v : Value} {d : DataW H} {p : List MemPlace} {r : Reach} {b0 : Nat} (hv : Value.okWide Try.prog w r b0 22 v) (h : DataW.Trod enc Try.prog w 0 (fun _ => true) true 22 v d p) : ∃ x : Came, v = x.v ∧ ThingsAt w x.v :=
  ⟨⟨v⟩, rfl, by
    obtain ⟨l, hg, hr⟩ := vopen_sl Try.underlying22 (vopens_sl (sz := 3) Try.underlying22 (by kernel_rfl) (by decide) vopens_thing Th.av (fun _ => rfl) (fun _ => rfl)) hv h
    exact ⟨l, hg.1, hr⟩⟩
theorem walk_NumWrites (x0 : Came) {w : World} (f0 : ThingsAt w x0.v) :
    Calls Try.prog 3 #[x0.v] w fun e w' => e = .returned (.bool true) ∧ Below w.heap.size w w' := by
  obtain ⟨l, hl, hr⟩ := f0
  exact Law.calls (writes l hl []) w (vals_of (cells_cons hr (cells_nil _)))
theorem walk_NumBack (x0 : Came) {w : World} (f0 : ThingsAt w x0.v) :
    Calls Try.prog 4 #[x0.v] w fun e w' => e = .returned (.bool true) ∧ Below w.heap.size w w' := by
  obtain ⟨l, hl, hr⟩ := f0
  exact Law.calls (backs l hl []) w (vals_of (cells_cons hr (cells_nil _)))
theorem walk_NumSpoilt (x0 : Came) {w : World} (f0 : ThingsAt w x0.v) (x1 : Came) (f1 : ThingsAt w x1.v) :
    Calls Try.prog 7 #[x0.v, x1.v] w fun e w' => e = .returned (.bool true) ∧ Below w.heap.size w w' := by
  obtain ⟨l, hl, hr⟩ := f0
  obtain ⟨l1, hl1, hr1⟩ := f1
  exact Law.calls (spoilts l l1 hl hl1 []) w (vals_of (cells_cons hr (cells_cons hr1 (cells_nil _))))
end Go.Proofs.Ytfcfkbaikkkibaa.N
