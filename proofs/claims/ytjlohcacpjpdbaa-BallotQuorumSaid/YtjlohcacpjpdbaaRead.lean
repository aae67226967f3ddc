/- How plain data that came in reads: whole numbers, bools, strings, slices and structs of these, nested in any way: one relation a type, opened out of the row's own reading, and kept while the world grows. -/
import Derived.Test.YtjlohcacpjpdbaaBase
import Derived.Deep.Slices
import Derived.ChangeArms
import Derived.ProofKit
set_option linter.unusedVariables false
set_option linter.unusedSimpArgs false
namespace Go.Proofs.Ytjlohcacpjpdbaa.Read
open Go.RowKit Go.WideShapes

/-- What the cells of a value hold, in a world. -/
abbrev Rel (α : Type) := World → List Value → α → Prop
def rInt (k : IntKind) : Rel Int := fun _ cs n => cs = [.int k n] ∧ (Lit.int k n).wf = true
def rBool : Rel Bool := fun _ cs b => cs = [.bool b]
def rStr : Rel ByteArray := fun _ cs s => cs = [.string s] ∧ s.size ≤ maxLen
/-- Elements in a row, sz cells each. -/
def Row {α : Type} (sz : Nat) (R : Rel α) (w : World) (A : Option Addr) (l : List α) : Prop :=
  l.length ≤ maxLen ∧ (0 < l.length → ∃ b off, A = some ⟨b, off, none⟩ ∧ ∀ i (h : i < l.length), ∃ ecs : List Value, ecs.length = sz ∧ (∀ j (hj : j < ecs.length), w.cell? ⟨b, off + i * sz + j, none⟩ = some ecs[j]) ∧ R w ecs l[i])
def rSl {α : Type} (sz : Nat) (R : Rel α) : Rel (List α) := fun w cs l => ∃ A cap, cs = [.slice A l.length cap] ∧ Row sz R w A l
/-- A struct, field by field. -/
def rPure {α : Type} (n : Nat) (c : α) : Rel α := fun _ cs a => cs.length = n ∧ a = c
def rAp {α β : Type} (off n : Nat) (Rf : Rel (α → β)) (R : Rel α) : Rel β := fun w cs b => ∃ f a, b = f a ∧ Rf w cs f ∧ R w ((cs.drop off).take n) a

/-- What was read stays while the world grows. -/
def Stays {α : Type} (R : Rel α) : Prop := ∀ w w1 cs a, R w cs a → Below w.heap.size w w1 → R w1 cs a
theorem stays_int (k : IntKind) : Stays (rInt k) := fun _ _ _ _ h _ => h
theorem stays_bool : Stays rBool := fun _ _ _ _ h _ => h
theorem stays_str : Stays rStr := fun _ _ _ _ h _ => h
theorem Row.below {α : Type} {sz : Nat} {R : Rel α} (hR : Stays R) {w w1 : World} {A : Option Addr} {l : List α} (h : Row sz R w A l) (hb : Below w.heap.size w w1) : Row sz R w1 A l :=
  ⟨h.1, fun hn => by
    obtain ⟨b, off, e, hc⟩ := h.2 hn
    refine ⟨b, off, e, fun i hi => ?_⟩
    obtain ⟨ecs, hl, he, hr⟩ := hc i hi
    refine ⟨ecs, hl, fun j hj => ?_, hR _ _ _ _ hr hb⟩
    have := he j hj
    rw [hb.cell (World.block_lt_of_cell? w _ this)]; exact this⟩
theorem stays_sl {α : Type} {sz : Nat} {R : Rel α} (hR : Stays R) : Stays (rSl sz R) := fun _ _ _ _ ⟨A, cap, e, h⟩ hb => ⟨A, cap, e, h.below hR hb⟩
theorem stays_pure {α : Type} (n : Nat) (c : α) : Stays (rPure n c) := fun _ _ _ _ h _ => h
theorem stays_ap {α β : Type} {off n : Nat} {Rf : Rel (α → β)} {R : Rel α} (hf : Stays Rf) (hR : Stays R) : Stays (rAp off n Rf R) :=
  fun _ _ _ _ ⟨f, a, e, h1, h2⟩ hb => ⟨f, a, e, hf _ _ _ _ h1 hb, hR _ _ _ _ h2 hb⟩

/-- Every value of the type that the row reads is one of these. -/
def Opens {α : Type} (P : Program) (t : TypeId) (R : Rel α) : Prop :=
  ∀ (H : Type) (enc : TypeId × Value → H) (w : World) (fuel : Nat) (cs : List Value) (x : DataW H × List MemPlace), DataW.trod enc P w 0 (fun _ => true) true fuel t cs = some x → ∃ a, R w cs a
section
variable {P : Program} {t e : TypeId}
theorem opens_int {k : IntKind} (ht : P.underlying t = some (.int k)) : Opens P t (rInt k) := fun H enc w fuel cs x h => by
  obtain ⟨n, h1, _, hw⟩ := DataW.trod_int ht h
  exact ⟨n, h1, hw⟩
theorem opens_bool (ht : P.underlying t = some .bool) : Opens P t rBool := fun H enc w fuel cs x h => by
  obtain ⟨b, h1, _⟩ := DataW.trod_bool ht h
  exact ⟨b, h1⟩
theorem opens_str (ht : P.underlying t = some .string) : Opens P t rStr := fun H enc w fuel cs x h => by
  obtain ⟨s, h1, _, hs⟩ := DataW.trod_string ht h
  exact ⟨s, h1, hs⟩
theorem opens_sl {α : Type} {sz : Nat} {R : Rel α} (ht : P.underlying t = some (.slice e)) (hs : P.cellsOf e = sz) (hs0 : 0 < sz) (he : Opens P e R) : Opens P t (rSl sz R) := fun H enc w fuel cs x h => by
  rcases Deep.open_slice ht h with ⟨h1, _⟩ | ⟨a, len, cap, m, n, D, Pl, h1, _, hl, hm, hmd, _, hel⟩
  · exact ⟨[], none, 0, h1, by simp, fun h => absurd h (by simp)⟩
  · obtain rfl : m = cap := by simpa using hmd
    have hx : ∀ i, i < len → ∃ y : α, ∃ ecs : List Value, w.cells? 0 (a.add (i * sz)) sz = some ecs ∧ R w ecs y := fun i hi => by
      obtain ⟨cs', hc, ht'⟩ := hel i (by omega)
      rw [hs] at hc
      obtain ⟨y, hy⟩ := he H enc w n cs' _ ht'
      exact ⟨y, cs', hc, hy⟩
    have hspot : 0 < len → a.spot = none := fun h0 => by
      obtain ⟨y, ecs, hc, _⟩ := hx 0 h0
      obtain ⟨_, hlen, hcell⟩ := World.cells?_some hc
      have h2 := hcell 0 hs0
      have h3 : ecs[0]? = some ecs[0] := List.getElem?_eq_getElem (by omega)
      rw [h3] at h2
      have := World.cell?_spot h2
      simpa [Addr.add] using this
    let f : (i : Nat) → i < len → α := fun i hi => Classical.choose (hx i hi)
    have hf : ∀ i (hi : i < len), ∃ ecs : List Value, w.cells? 0 (a.add (i * sz)) sz = some ecs ∧ R w ecs (f i hi) := fun i hi => Classical.choose_spec (hx i hi)
    refine ⟨List.ofFn (n := len) (fun i => f i.1 i.2), some a, m, by simpa using h1, by simp; omega, fun h0 => ?_⟩
    simp only [List.length_ofFn] at h0
    obtain ⟨b, off, spot⟩ := a
    have hsp : spot = none := hspot h0
    subst hsp
    refine ⟨b, off, rfl, fun i hi => ?_⟩
    simp only [List.length_ofFn] at hi
    obtain ⟨ecs, hc, hr⟩ := hf i hi
    obtain ⟨_, hlen, hcell⟩ := World.cells?_some hc
    refine ⟨ecs, hlen, fun j hj => ?_, by simpa using hr⟩
    have h2 := hcell j (by omega)
    rw [List.getElem?_eq_getElem hj] at h2
    rw [Base.add_off, Base.add_off] at h2
    exact h2
/-- A struct's first word, and one field more. -/
def OpensS {α : Type} (P : Program) (t : TypeId) (R : Rel α) : Prop := Opens P t R
theorem opens_pure {α : Type} {fs : Array Field} {n : Nat} (ht : P.underlying t = some (.struct fs)) (hn : P.cellsOf t = n) (c : α) : Opens P t (rPure n c) := fun H enc w fuel cs x h => by
  obtain ⟨xs, m, _, _, hl, _, _⟩ := DataW.trod_struct ht h
  exact ⟨c, by rw [hl, hn], rfl⟩
theorem opens_ap {α β : Type} {fs : Array Field} {Rf : Rel (α → β)} {R : Rel α} (ht : P.underlying t = some (.struct fs)) (i : Nat) (f : Field) (hi : fs[i]? = some f) {off n : Nat} (ho : f.offset = off) (hn : P.cellsOf f.type = n)
    (hf : Opens P t Rf) (hR : Opens P f.type R) : Opens P t (rAp off n Rf R) := fun H enc w fuel cs x h => by
  obtain ⟨g, hg⟩ := hf H enc w fuel cs x h
  obtain ⟨xs, m, _, _, hl, hlen, hx⟩ := DataW.trod_struct ht h
  have h1 := hx i f hi
  have hix : i < xs.length := by
    rw [hlen]
    exact (Array.getElem?_eq_some_iff.1 hi).1
  rw [List.getElem?_eq_getElem hix, ho, hn] at h1
  obtain ⟨a, ha⟩ := hR H enc w m _ _ h1
  exact ⟨g a, g, a, rfl, hg, ha⟩
theorem open_val {α : Type} {R : Rel α} (ho : Opens P t R) {H : Type} {enc : TypeId × Value → H} {w : World} {v : Value} {d : DataW H} {p : List MemPlace} (h : DataW.Trod enc P w 0 (fun _ => true) true t v d p) : ∃ a, R w v.cells.toList a := by
  obtain ⟨fuel, h⟩ := h
  exact ho H enc w fuel _ _ h
theorem open_slv {α : Type} {sz : Nat} {R : Rel α} (ht : P.underlying t = some (.slice e)) (ho : Opens P t (rSl sz R)) {H : Type} {enc : TypeId × Value → H} {w : World} {v : Value} {d : DataW H} {p : List MemPlace} {r : Reach} {b0 : Nat}
    (hv : Value.okWide P w r b0 t v) (h : DataW.Trod enc P w 0 (fun _ => true) true t v d p) : ∃ A cap l, v = .slice A l.length cap ∧ Row sz R w A l := by
  obtain ⟨l, A, cap, h1, h2⟩ := open_val ho h
  obtain ⟨a, n, c, rfl⟩ := okWide_slice ht hv
  simp [Value.cells] at h1
  obtain ⟨rfl, rfl, rfl⟩ := h1
  exact ⟨_, _, l, rfl, h2⟩
theorem open_stv {α : Type} {fs : Array Field} {R : Rel α} (ht : P.underlying t = some (.struct fs)) (ho : Opens P t R) {H : Type} {enc : TypeId × Value → H} {w : World} {v : Value} {d : DataW H} {p : List MemPlace} {r : Reach} {b0 : Nat}
    (hv : Value.okWide P w r b0 t v) (h : DataW.Trod enc P w 0 (fun _ => true) true t v d p) : ∃ cs a, v = .agg cs ∧ R w cs.toList a := by
  obtain ⟨a, h1⟩ := open_val ho h
  obtain ⟨cs, rfl, _⟩ := okWide_struct ht hv
  exact ⟨cs, a, rfl, by simpa [Value.cells] using h1⟩
end
/-- A row of whole numbers, cell by cell. -/
theorem Row.ints {k : IntKind} {w : World} {A : Option Addr} {l : List Int} (h : Row 1 (rInt k) w A l) (hn : 0 < l.length) :
    ∃ b off, A = some ⟨b, off, none⟩ ∧ ∀ i (hi : i < l.length), w.cell? ⟨b, off + i, none⟩ = some (.int k l[i]) := by
  obtain ⟨b, off, e, hc⟩ := h.2 hn
  refine ⟨b, off, e, fun i hi => ?_⟩
  obtain ⟨ecs, hl, he, hr, _⟩ := hc i hi
  subst hr
  have := he 0 (by simp)
  simpa using this
theorem Row.of_ints {k : IntKind} {w : World} {b off : Nat} {l : List Int} (hl : l.length ≤ maxLen) (hw : ∀ n ∈ l, (Lit.int k n).wf = true) (hc : ∀ i (hi : i < l.length), w.cell? ⟨b, off + i, none⟩ = some (.int k l[i])) :
    Row 1 (rInt k) w (some ⟨b, off, none⟩) l :=
  ⟨hl, fun _ => ⟨b, off, rfl, fun i hi => ⟨[.int k l[i]], rfl, fun j hj => by
    obtain rfl : j = 0 := by simpa using hj
    simpa using hc i hi, rfl, hw _ (List.getElem_mem hi)⟩⟩⟩
theorem Row.nil {α : Type} {sz : Nat} {R : Rel α} {w : World} (A : Option Addr) : Row sz R w A [] := ⟨by simp, fun h => absurd h (by simp)⟩
def intsV (k : IntKind) (l : List Int) : Array Value := (l.map fun n => Value.int k n).toArray
theorem Row.alloc {k : IntKind} (w : World) (cs : Array Value) (t : TypeId) (fr : Nat × Nat) (l : List Int) (h : cs = intsV k l) (hl : l.length ≤ maxLen) (hw : ∀ n ∈ l, (Lit.int k n).wf = true) :
    Row 1 (rInt k) (w.alloc (.cells cs t fr)) (some ⟨w.heap.size, 0, none⟩) l := by
  subst h
  refine Row.of_ints hl hw fun i hi => ?_
  rw [cell_of_row _ _ _ _ _ _ (heap_alloc_new _ _)]
  simp [intsV, hi]
end Go.Proofs.Ytjlohcacpjpdbaa.Read
