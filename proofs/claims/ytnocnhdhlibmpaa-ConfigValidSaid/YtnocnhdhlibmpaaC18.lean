/- Configurations: the walks of the laws. -/
import Derived.Test.YtnocnhdhlibmpaaC17
import Derived.Test.YtnocnhdhlibmpaaV28
set_option linter.unusedVariables false
set_option linter.unusedSimpArgs false
namespace Go.Proofs.Ytnocnhdhlibmpaa.C
open Go Go.Proofs.Ytnocnhdhlibmpaa.V Go.RowKit
def ConfigAt (w : World) (x : Value) : Prop := ∃ e : Int, ∃ l : List Int, l.length ≤ 9223372036854775807 ∧ VRel (g0 w) (cv e l) x
def CommandAt (w : World) (x : Value) : Prop := ∃ c : Cm, VRel (g0 w) c.av x
def CommandsAt (w : World) (x : Value) : Prop := ∃ l : List Cm, l.length ≤ 9223372036854775807 ∧ VRel (g0 w) (.list (l.map cmV) .no) x
theorem vopens_config : VOpens Try.prog 24 (fun p : Int × List Int => [.int .i64 p.1, .list (p.2.map iv) .no]) (fun p => p.2.length ≤ 9223372036854775807) :=
  vopens_map (fun p : Int × List Int × Unit => (p.1, p.2.1))
    (vopens_struct Try.underlying24 (by kernel_rfl) (fopens_cons (k := 1) rfl (by kernel_rfl) (vopens_int Try.underlying3) (fopens_cons (k := 1) rfl (by kernel_rfl) (vopens_sl (sz := 1) Try.underlying22 (by kernel_rfl) (by decide) (vopens_int Try.underlying3) iv (fun _ => rfl) (fun _ => rfl)) fopens_nil)))
    (fun _ => rfl) (fun _ h => h.2.1.1)
theorem vopens_command : VOpens Try.prog 27 (fun x : Cm => [.int .i64 x.client, .int .i64 x.seq, .int .i64 x.op, .str x.path, .str x.value, .int .i64 x.version, .int .i64 x.a, .int .i64 x.b]) (fun x => True) :=
  vopens_map (fun p : Int × Int × Int × List UInt8 × List UInt8 × Int × Int × Int × Unit => Cm.mk p.1 p.2.1 p.2.2.1 p.2.2.2.1 p.2.2.2.2.1 p.2.2.2.2.2.1 p.2.2.2.2.2.2.1 p.2.2.2.2.2.2.2.1)
    (vopens_struct Try.underlying27 (by kernel_rfl) (fopens_cons (k := 1) rfl (by kernel_rfl) (vopens_int Try.underlying3) (fopens_cons (k := 1) rfl (by kernel_rfl) (vopens_int Try.underlying3) (fopens_cons (k := 1) rfl (by kernel_rfl) (vopens_int Try.underlying25) (fopens_cons (k := 1) rfl (by kernel_rfl) (vopens_str Try.underlying9) (fopens_cons (k := 1) rfl (by kernel_rfl) (vopens_str Try.underlying9) (fopens_cons (k := 1) rfl (by kernel_rfl) (vopens_int Try.underlying3) (fopens_cons (k := 1) rfl (by kernel_rfl) (vopens_int Try.underlying3) (fopens_cons (k := 1) rfl (by kernel_rfl) (vopens_int Try.underlying3) fopens_nil)))))))))
    (fun _ => rfl) (fun _ h => trivial)
theorem open_api_Config {H : Type} {enc : TypeId × Value → H} {w : World} {v : Value} {d : DataW H} {p : List MemPlace} {r : Reach} {b0 : Nat} (hv : Value.okWide Try.prog w r b0 24 v) (h : DataW.Trod enc Try.prog w 0 (fun _ => true) true 24 v d p) : ∃ x : Came, v = x.v ∧ ConfigAt w x.v :=
  ⟨⟨v⟩, rfl, by
    obtain ⟨⟨e, l⟩, hg, hr⟩ := vopen_st Try.underlying24 vopens_config hv h
    exact ⟨e, l, hg, hr⟩⟩
theorem open_api_Command {H : Type} {enc : TypeId × Value → H} {w : World} {v : Value} {d : DataW H} {p : List MemPlace} {r : Reach} {b0 : Nat} (hv : Value.okWide Try.prog w r b0 27 v) (h : DataW.Trod enc Try.prog w 0 (fun _ => true) true 27 v d p) : ∃ x : Came, v = x.v ∧ CommandAt w x.v :=
  ⟨⟨v⟩, rfl, by
    obtain ⟨c, _, hr⟩ := vopen_st Try.underlying27 vopens_command hv h
    exact ⟨c, hr⟩⟩
theorem open_Sl_api_Command {H : Type} {enc : TypeId × Value → H} {w : World} {v : Value} {d : DataW H} {p : List MemPlace} {r : Reach} {b0 : Nat} (hv : Value.okWide Try.prog w r b0 38 v) (h : DataW.Trod enc Try.prog w 0 (fun _ => true) true 38 v d p) : ∃ x : Came, v = x.v ∧ CommandsAt w x.v :=
  ⟨⟨v⟩, rfl, by
    obtain ⟨l, hg, hr⟩ := vopen_sl Try.underlying38 (vopens_sl (sz := 8) Try.underlying38 (by kernel_rfl) (by decide) vopens_command cmV (fun _ => rfl) (fun _ => rfl)) hv h
    exact ⟨l, hg.1, hr⟩⟩
theorem walk_ConfigChanges (x0 : Came) {w : World} (f0 : ConfigAt w x0.v) (x1 : Came) (f1 : CommandAt w x1.v) :
    Calls Try.prog 3 #[x0.v, x1.v] w fun e w' => e = .returned (.bool true) ∧ Below w.heap.size w w' := by
  obtain ⟨e, l, hl, hr⟩ := f0
  obtain ⟨c, hc⟩ := f1
  exact Law.calls (changes e l c hl []) w (vals_of (cells_cons hr (cells_cons hc (cells_nil _))))
theorem walk_ConfigFollows (x0 : Came) {w : World} (f0 : ConfigAt w x0.v) (x1 : Came) (f1 : ConfigAt w x1.v) :
    Calls Try.prog 4 #[x0.v, x1.v] w fun e w' => e = .returned (.bool true) ∧ Below w.heap.size w w' := by
  obtain ⟨e, l, hl, hr⟩ := f0
  obtain ⟨f, m, hm, hc⟩ := f1
  exact Law.calls (follow e f l m hl hm []) w (vals_of (cells_cons hr (cells_cons hc (cells_nil _))))
theorem walk_ConfigOne (x0 : Came) {w : World} (f0 : ConfigAt w x0.v) (x1 : Came) (f1 : CommandAt w x1.v) :
    Calls Try.prog 5 #[x0.v, x1.v] w fun e w' => e = .returned (.bool true) ∧ Below w.heap.size w w' := by
  obtain ⟨e, l, hl, hr⟩ := f0
  obtain ⟨c, hc⟩ := f1
  exact Law.calls (one e l c hl []) w (vals_of (cells_cons hr (cells_cons hc (cells_nil _))))
theorem walk_ConfigBack (x0 : Came) {w : World} (f0 : ConfigAt w x0.v) (a1 : Int) (w1 : (Lit.int .i64 a1).wf = true) (a2 : Int) (w2 : (Lit.int .i64 a2).wf = true) :
    Calls Try.prog 6 #[x0.v, .int .i64 a1, .int .i64 a2] w fun e w' => e = .returned (.bool true) ∧ Below w.heap.size w w' := by
  obtain ⟨e, l, hl, hr⟩ := f0
  exact Law.calls (back e l a1 a2 hl []) w (vals_of (cells_cons hr (cells_cons (.int _ _) (cells_cons (.int _ _) (cells_nil _)))))
theorem walk_ConfigOrder (x0 : Came) {w : World} (f0 : ConfigAt w x0.v) (a1 : Int) (w1 : (Lit.int .i64 a1).wf = true) (a2 : Int) (w2 : (Lit.int .i64 a2).wf = true) :
    Calls Try.prog 8 #[x0.v, .int .i64 a1, .int .i64 a2] w fun e w' => e = .returned (.bool true) ∧ Below w.heap.size w w' := by
  obtain ⟨e, l, hl, hr⟩ := f0
  exact Law.calls (ordered e l a1 a2 hl []) w (vals_of (cells_cons hr (cells_cons (.int _ _) (cells_cons (.int _ _) (cells_nil _)))))
theorem walk_ConfigValid (x0 : Came) {w : World} (f0 : ConfigAt w x0.v) (x1 : Came) (f1 : CommandsAt w x1.v) :
    Calls Try.prog 7 #[x0.v, x1.v] w fun e w' => e = .returned (.bool true) ∧ Below w.heap.size w w' := by
  obtain ⟨e, l, hl, hr⟩ := f0
  obtain ⟨q, hq, hc⟩ := f1
  exact Law.calls (valids e l q hl hq []) w (vals_of (cells_cons hr (cells_cons hc (cells_nil _))))
end Go.Proofs.Ytnocnhdhlibmpaa.C
