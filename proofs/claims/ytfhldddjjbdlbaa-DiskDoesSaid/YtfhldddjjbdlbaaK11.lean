/- Disks: the walk of the law DiskDoes. -/
import Derived.Test.YtfhldddjjbdlbaaK10
import Derived.Test.YtfhldddjjbdlbaaV22
set_option linter.unusedVariables false
set_option linter.unusedSimpArgs false
namespace Go.Proofs.Ytfhldddjjbdlbaa.K
open Go Go.Proofs.Ytfhldddjjbdlbaa.V Go.RowKit
def ActsAt (w : World) (x : Value) : Prop := ∃ l : List Ac, l.length ≤ 9223372036854775807 ∧ (∀ a ∈ l, -9223372036854775808 ≤ a.n ∧ a.n ≤ 9223372036854775807) ∧ VRel (g0 w) (.list (l.map Ac.av) .no) x
/-- A value that came in, as data. -/
structure Came2 where
  v : Value
theorem int_in2 {a : Int} (w : (Lit.int .i64 a).wf = true) : -9223372036854775808 ≤ a ∧ a ≤ 9223372036854775807 := by
  simp [Lit.wf, IntKind.min, IntKind.max, IntKind.signed, IntKind.bits] at w; omega
theorem vopens_act : VOpens Try.prog 45 (fun x : Ac => [.int .i64 x.k, .str x.body, .int .i64 x.n]) (fun x => -9223372036854775808 ≤ x.n ∧ x.n ≤ 9223372036854775807) :=
  vopens_map (fun p : Int × List UInt8 × Int × Unit => Ac.mk p.1 p.2.1 p.2.2.1)
    (vopens_struct Try.underlying45 (by kernel_rfl) (fopens_cons (k := 1) rfl (by kernel_rfl) (vopens_int Try.underlying3) (fopens_cons (k := 1) rfl (by kernel_rfl) (vopens_str Try.underlying9) (fopens_cons (k := 1) rfl (by kernel_rfl) (vopens_int Try.underlying3) fopens_nil))))
    (fun _ => rfl) (fun _ h => int_in2 h.2.2.1)
theorem open_Sl_syndiclaw14_Act {H : Type} {enc : TypeId × Value → H} {w : World} {v : Value} {d : DataW H} {p : List MemPlace} {r : Reach} {b0 : Nat} (hv : Value.okWide Try.prog w r b0 38 v) (h : DataW.Trod enc Try.prog w 0 (fun _ => true) true 38 v d p) : ∃ x : Came2, v = x.v ∧ ActsAt w x.v :=
  ⟨⟨v⟩, rfl, by
    obtain ⟨l, hg, hr⟩ := vopen_sl Try.underlying38 (vopens_sl (sz := 3) Try.underlying38 (by kernel_rfl) (by decide) vopens_act Ac.av (fun _ => rfl) (fun _ => rfl)) hv h
    exact ⟨l, hg.1, hg.2, hr⟩⟩
theorem walk_DiskDoes (a0 : ByteArray) (w0 : a0.size ≤ maxLen) (x1 : Came2) {w : World} (f1 : ActsAt w x1.v) :
    Calls Try.prog 6 #[.string a0, x1.v] w fun e w' => e = .returned (.bool true) ∧ Below w.heap.size w w' := by
  obtain ⟨l, hl, hn, hr⟩ := f1
  exact Law.calls (does a0.data.toList l hn hl []) w (vals_of (cells_cons (rel_str _ _) (cells_cons hr (cells_nil _))))
end Go.Proofs.Ytfhldddjjbdlbaa.K
