/- How plain data that came in stands as abstract values. No program is named here. -/
import Derived.Test.YtajgeofhlgoifaaV20
import Derived.Deep.Slices
import Derived.ChangeArms
import Derived.ProofKit
set_option linter.unusedVariables false
set_option linter.unusedSimpArgs false
namespace Go.Proofs.Ytajgeofhlgoifaa.V
open Go Go.RowKit Go.WideShapes
/-- Every value of the type that the row reads stands as one of these. -/
def VOpens {α : Type} (P : Program) (t : TypeId) (f : α → List AV) (G : α → Prop) : Prop :=
  ∀ (H : Type) (enc : TypeId × Value → H) (w : World) (fuel : Nat) (cs : List Value) (x : DataW H × List MemPlace), DataW.trod enc P w 0 (fun _ => true) true fuel t cs = some x → w.noneFrozen x.2 → ∃ a, G a ∧ CellsRel (g0 w) (f a) cs
section
variable {P : Program} {t e : TypeId}
theorem vopens_int {k : IntKind} (ht : P.underlying t = some (.int k)) : VOpens P t (fun n : Int => [.int k n]) (fun n => (Lit.int k n).wf = true) := fun H enc w fuel cs x h hnf => by
  obtain ⟨n, rfl, _, hw⟩ := DataW.trod_int ht h
  exact ⟨n, hw, cells_cons (.int _ _) (cells_nil _)⟩
theorem vopens_bool (ht : P.underlying t = some .bool) : VOpens P t (fun b : Bool => [.bool b]) (fun _ => True) := fun H enc w fuel cs x h hnf => by
  obtain ⟨b, rfl, _⟩ := DataW.trod_bool ht h
  exact ⟨b, trivial, cells_cons (.bool _) (cells_nil _)⟩
theorem vopens_str (ht : P.underlying t = some .string) : VOpens P t (fun l : List UInt8 => [.str l]) (fun l => l.length ≤ 9223372036854775807) := fun H enc w fuel cs x h hnf => by
  obtain ⟨s, rfl, _, hs⟩ := DataW.trod_string ht h
  refine ⟨s.data.toList, ?_, cells_cons (rel_str _ _) (cells_nil _)⟩
  have : s.data.toList.length = s.size := rfl
  unfold maxLen at hs; omega
theorem vopens_sl {α : Type} {f : α → List AV} {G : α → Prop} {sz : Nat} (ht : P.underlying t = some (.slice e)) (hs : P.cellsOf e = sz) (hs0 : 0 < sz) (he : VOpens P e f G) (el : α → AV) (hel : ∀ a, (el a).cells = f a) (hlen : ∀ a, (f a).length = sz) :
    VOpens P t (fun l : List α => [.list (l.map el) .no]) (fun l => l.length ≤ 9223372036854775807 ∧ ∀ a ∈ l, G a) := fun H enc w fuel cs x h hnf => by
  rcases Deep.open_slice ht h with ⟨rfl, _⟩ | ⟨a, len, cap, m, n, D, Pl, rfl, _, hl, hm, hmd, hxe, hx⟩
  · refine ⟨[], ⟨by simp, fun a h => by simp at h⟩, cells_cons ?_ (cells_nil _)⟩
    exact VRel.list [] .no none 0 0 0 0 (fun _ => .nilIface) (by simp) (by simp) (fun _ => rfl) (fun j h => by simp at h) (fun h => by simp at h) (fun j h => by simp at h) (fun j h => by simp at h) trivial
  · obtain rfl : m = cap := by simpa using hmd
    have hrow : ∀ i, i < m * sz → w.frozen? ⟨a.block, a.off + i, none⟩ = false := fun i hi => hnf _ _ (by
      rw [hxe]
      refine List.mem_append_left _ ?_
      unfold MemPlace.row
      rw [hs]
      exact List.mem_map.2 ⟨i, List.mem_range.2 hi, rfl⟩)
    have hy : ∀ i, i < len → ∃ y : α, ∃ ecs : List Value, w.cells? 0 (a.add (i * sz)) sz = some ecs ∧ G y ∧ CellsRel (g0 w) (f y) ecs := fun i hi => by
      obtain ⟨cs', hc, ht'⟩ := hx i (by omega)
      rw [hs] at hc
      obtain ⟨y, hy⟩ := he H enc w n cs' _ ht' (fun b off hm' => hnf b off (by
        rw [hxe]
        exact List.mem_append_right _ (List.mem_flatMap.2 ⟨i, List.mem_range.2 (by omega), hm'⟩)))
      exact ⟨y, cs', hc, hy⟩
    have hspot : 0 < len → a.spot = none := fun h0 => by
      obtain ⟨y, ecs, hc, _⟩ := hy 0 h0
      obtain ⟨_, hlen', hcell⟩ := World.cells?_some hc
      have h2 := hcell 0 hs0
      have h3 : ecs[0]? = some ecs[0] := List.getElem?_eq_getElem (by omega)
      rw [h3] at h2
      have := World.cell?_spot h2
      simpa [Addr.add] using this
    let F : (i : Nat) → i < len → α := fun i hi => Classical.choose (hy i hi)
    have hF : ∀ i (hi : i < len), ∃ ecs : List Value, w.cells? 0 (a.add (i * sz)) sz = some ecs ∧ G (F i hi) ∧ CellsRel (g0 w) (f (F i hi)) ecs := fun i hi => Classical.choose_spec (hy i hi)
    let l : List α := List.ofFn (n := len) fun i => F i.1 i.2
    have hll : l.length = len := by simp [l]
    have hli : ∀ i (hi : i < len), l[i]'(by rw [hll]; exact hi) = F i hi := fun i hi => by simp [l]
    refine ⟨l, ⟨by rw [hll]; unfold maxLen at hm; omega, fun y hy' => ?_⟩, cells_cons ?_ (cells_nil _)⟩
    · obtain ⟨i, hi, rfl⟩ := List.getElem_of_mem hy'
      rw [hli i (by rw [← hll]; exact hi)]
      obtain ⟨_, _, hg, _⟩ := hF i (by rw [← hll]; exact hi)
      exact hg
    · have hlm : (l.map el).length = len := by simp [hll]
      have hmi : ∀ j (hj : j < (l.map el).length), (l.map el)[j] = el (F j (by rw [← hlm]; exact hj)) := fun j hj => by
        have hj' : j < len := by rw [← hlm]; exact hj
        rw [List.getElem_map, hli j hj']
      obtain ⟨b, off, spot⟩ := a
      have V := VRel.list (g := g0 w) (l.map el) .no (some ⟨b, off, spot⟩) m sz b off (fun q => (w.cell? ⟨b, off + q, none⟩).getD .nilIface) (by rw [hlm]; exact hl) hm (fun h => by cases h)
        (fun j hj => by rw [hmi j hj, hel, hlen]) (fun h0 => by rw [hlm] at h0; have := hspot h0; simp only at this; rw [this])
        (fun j hj i hi => by
          have hj' : j < len := by rw [← hlm]; exact hj
          obtain ⟨ecs, hc, _, hr⟩ := hF j hj'
          rw [hmi j hj, hel] at hi
          obtain ⟨_, hlen', hcell⟩ := World.cells?_some hc
          have hsp : spot = none := hspot (by omega)
          subst hsp
          have hi2 : i < ecs.length := by rw [← hr.1]; exact hi
          have h2 := hcell i (by omega)
          rw [List.getElem?_eq_getElem hi2, Base.add_off, Base.add_off] at h2
          have e : off + j * sz + i = off + (j * sz + i) := by omega
          rw [e] at h2
          show imm0 w b (off + (j * sz + i)) = _
          rw [h2]
          refine imm0_of h2 (hrow (j * sz + i) ?_)
          have h3 : (j + 1) * sz ≤ m * sz := Nat.mul_le_mul_right sz (by omega)
          rw [Nat.add_mul, Nat.one_mul] at h3
          omega)
        (fun j hj i hi => by
          have hj' : j < len := by rw [← hlm]; exact hj
          obtain ⟨ecs, hc, _, hr⟩ := hF j hj'
          have e1 : (l.map el)[j].cells = f (F j hj') := by rw [hmi j hj, hel]
          have hi1 : i < (f (F j hj')).length := by rw [← e1]; exact hi
          obtain ⟨_, hlen', hcell⟩ := World.cells?_some hc
          have hsp : spot = none := hspot (by omega)
          subst hsp
          have hi2 : i < ecs.length := by rw [← hr.1]; exact hi1
          have h2 := hcell i (by omega)
          rw [List.getElem?_eq_getElem hi2, Base.add_off, Base.add_off] at h2
          have e : off + j * sz + i = off + (j * sz + i) := by omega
          rw [e] at h2
          have h3 := hr.2 i hi1 hi2
          have e2 : (l.map el)[j].cells[i] = (f (F j hj'))[i] := by simp only [e1]
          show VRel _ _ ((w.cell? ⟨b, off + (j * sz + i), none⟩).getD .nilIface)
          rw [e2, h2]; exact h3) trivial
      rw [hlm] at V
      exact V
/-- A slice that came in. -/
theorem vopen_sl {α : Type} {el : α → AV} {G : List α → Prop} (ht : P.underlying t = some (.slice e)) (ho : VOpens P t (fun l : List α => [.list (l.map el) .no]) G) {H : Type} {enc : TypeId × Value → H} {w : World} {v : Value} {d : DataW H} {p : List MemPlace} {r : Reach} {b0 : Nat}
    (hv : Value.okWide P w r b0 t v) (h : DataW.Trod enc P w 0 (fun _ => true) true t v d p) (hnf : w.noneFrozen p) : ∃ l, G l ∧ VRel (g0 w) (.list (l.map el) .no) v := by
  obtain ⟨fuel, h⟩ := h
  obtain ⟨a, n, c, rfl⟩ := okWide_slice ht hv
  obtain ⟨l, hg, hr⟩ := ho H enc w fuel _ _ h hnf
  refine ⟨l, hg, ?_⟩
  have := hr.2 0 (by simp) (by have := hr.1; simp at this ⊢; omega)
  simpa [Value.cells] using this
end
end Go.Proofs.Ytajgeofhlgoifaa.V
