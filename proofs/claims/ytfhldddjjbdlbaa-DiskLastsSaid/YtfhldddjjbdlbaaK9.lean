/- Disks: the walks of the laws DiskSyncs, DiskOf, DiskLasts, DiskGoes. -/
import Derived.Test.YtfhldddjjbdlbaaK7
import Derived.Test.YtfhldddjjbdlbaaV22
set_option linter.unusedVariables false
set_option linter.unusedSimpArgs false
namespace Go.Proofs.Ytfhldddjjbdlbaa.K
open Go Go.Proofs.Ytfhldddjjbdlbaa.V Go.RowKit
def StrsAt (w : World) (x : Value) : Prop := ∃ l : List (List UInt8), l.length ≤ 9223372036854775807 ∧ VRel (g0 w) (.list (l.map .str) .no) x
/-- A value that came in, as data. -/
structure Came where
  v : Value
theorem open_Sl_string {H : Type} {enc : TypeId × Value → H} {w : World} {v : Value} {d : DataW H} {p : List MemPlace} {r : Reach} {b0 : Nat} (hv : Value.okWide Try.prog w r b0 22 v) (h : DataW.Trod enc Try.prog w 0 (fun _ => true) true 22 v d p) : ∃ x : Came, v = x.v ∧ StrsAt w x.v :=
  ⟨⟨v⟩, rfl, by
    obtain ⟨l, hg, hr⟩ := vopen_sl Try.underlying22 (vopens_sl Try.underlying22 (by kernel_rfl) (by decide) (vopens_str Try.underlying9) AV.str (fun _ => rfl) (fun _ => rfl)) hv h
    exact ⟨l, hg.1, hr⟩⟩
theorem int_in {a : Int} (w : (Lit.int .i64 a).wf = true) : -9223372036854775808 ≤ a ∧ a ≤ 9223372036854775807 := by
  simp [Lit.wf, IntKind.min, IntKind.max, IntKind.signed, IntKind.bits] at w; omega
theorem walk_DiskSyncs (x0 : Came) {w : World} (f0 : StrsAt w x0.v) (a1 : Int) (w1 : (Lit.int .i64 a1).wf = true) :
    Calls Try.prog 5 #[x0.v, .int .i64 a1] w fun e w' => e = .returned (.bool true) ∧ Below w.heap.size w w' := by
  obtain ⟨l, hl, hr⟩ := f0
  exact Law.calls (syncs l a1 (int_in w1) hl []) w (vals_of (cells_cons hr (cells_cons (.int _ _) (cells_nil _))))
theorem walk_DiskOf (a0 : ByteArray) (w0 : a0.size ≤ maxLen) (x1 : Came) {w : World} (f1 : StrsAt w x1.v) :
    Calls Try.prog 7 #[.string a0, x1.v] w fun e w' => e = .returned (.bool true) ∧ Below w.heap.size w w' := by
  obtain ⟨l, hl, hr⟩ := f1
  exact Law.calls (ofs a0.data.toList l hl []) w (vals_of (cells_cons (rel_str _ _) (cells_cons hr (cells_nil _))))
theorem walk_DiskLasts (x0 : Came) {w : World} (f0 : StrsAt w x0.v) (x1 : Came) (f1 : StrsAt w x1.v) (a2 : Int) (w2 : (Lit.int .i64 a2).wf = true) :
    Calls Try.prog 3 #[x0.v, x1.v, .int .i64 a2] w fun e w' => e = .returned (.bool true) ∧ Below w.heap.size w w' := by
  obtain ⟨l, hl, hr⟩ := f0
  obtain ⟨l1, hl1, hr1⟩ := f1
  exact Law.calls (lasts l l1 a2 (int_in w2) hl hl1 []) w (vals_of (cells_cons hr (cells_cons hr1 (cells_cons (.int _ _) (cells_nil _)))))
theorem walk_DiskGoes (x0 : Came) {w : World} (f0 : StrsAt w x0.v) (a1 : Int) (w1 : (Lit.int .i64 a1).wf = true) (x2 : Came) (f2 : StrsAt w x2.v) :
    Calls Try.prog 4 #[x0.v, .int .i64 a1, x2.v] w fun e w' => e = .returned (.bool true) ∧ Below w.heap.size w w' := by
  obtain ⟨l, hl, hr⟩ := f0
  obtain ⟨l2, hl2, hr2⟩ := f2
  exact Law.calls (goes l l2 a1 (int_in w1) hl hl2 []) w (vals_of (cells_cons hr (cells_cons (.int _ _) (cells_cons hr2 (cells_nil _)))))
end Go.Proofs.Ytfhldddjjbdlbaa.K
