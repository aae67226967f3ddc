/- How structs of plain data that came in stand as abstract values. No program is named here. -/
import Derived.Test.YtajgeofhlgoifaaV21
set_option linter.unusedVariables false
set_option linter.unusedSimpArgs false
namespace Go.Proofs.Ytajgeofhlgoifaa.V
open Go Go.RowKit Go.WideShapes
section
variable {P : Program} {t e : TypeId}
theorem cells_join {g : Ghost} {a b : List AV} {x y : List Value} (h1 : CellsRel g a x) (h2 : CellsRel g b y) : CellsRel g (a ++ b) (x ++ y) := by
  refine ⟨by simp [h1.1, h2.1], fun i hi hj => ?_⟩
  have hl := h1.1
  by_cases h : i < a.length
  · rw [List.getElem_append_left h, List.getElem_append_left (by omega)]
    exact h1.2 i h (by omega)
  · simp only [List.length_append] at hi hj
    rw [List.getElem_append_right (by omega), List.getElem_append_right (by omega)]
    simp only [hl]
    exact h2.2 (i - x.length) (by omega) (by omega)
/-- What the fields from a place on are. -/
def FOpens {α : Type} (P : Program) (fs : List Field) (off tot : Nat) (f : α → List AV) (G : α → Prop) : Prop :=
  ∀ (H : Type) (enc : TypeId × Value → H) (w : World) (n : Nat) (cs : List Value), (∀ fd ∈ fs, ∃ y, DataW.trod enc P w 0 (fun _ => true) true n fd.type ((cs.drop fd.offset).take (P.cellsOf fd.type)) = some y ∧ w.noneFrozen y.2) → ∃ a, G a ∧ CellsRel (g0 w) (f a) ((cs.drop off).take tot)
theorem fopens_nil {off : Nat} : FOpens P [] off 0 (fun _ : Unit => []) (fun _ => True) := fun H enc w n cs h => ⟨(), trivial, by simpa using cells_nil _⟩
theorem fopens_cons {α β : Type} {fd : Field} {fs : List Field} {off k tot : Nat} {f1 : α → List AV} {G1 : α → Prop} {f2 : β → List AV} {G2 : β → Prop} (ho : fd.offset = off) (hk : P.cellsOf fd.type = k)
    (he : VOpens P fd.type f1 G1) (hr : FOpens P fs (off + k) tot f2 G2) : FOpens P (fd :: fs) off (k + tot) (fun p : α × β => f1 p.1 ++ f2 p.2) (fun p => G1 p.1 ∧ G2 p.2) := fun H enc w n cs h => by
  obtain ⟨y, hy, hnf⟩ := h fd (by simp)
  rw [ho, hk] at hy
  obtain ⟨a, ga, ca⟩ := he H enc w n _ y hy hnf
  obtain ⟨b, gb, cb⟩ := hr H enc w n cs fun fd' hm => h fd' (by simp [hm])
  refine ⟨(a, b), ⟨ga, gb⟩, ?_⟩
  rw [List.take_add, List.drop_drop]
  exact cells_join ca cb
theorem vopens_struct {α : Type} {fs : Array Field} {sz : Nat} {f : α → List AV} {G : α → Prop} (ht : P.underlying t = some (.struct fs)) (hs : P.cellsOf t = sz) (hf : FOpens P fs.toList 0 sz f G) : VOpens P t f G := fun H enc w fuel cs x h hnf => by
  obtain ⟨xs, n, _, hxe, hl, hxl, hx⟩ := DataW.trod_struct ht h
  obtain ⟨a, ga, ca⟩ := hf H enc w n cs fun fd hm => by
    obtain ⟨i, hi, rfl⟩ := List.getElem_of_mem hm
    have hi' : i < fs.size := by simpa using hi
    refine ⟨xs[i]'(by omega), ?_, fun b off hm' => hnf b off (by rw [hxe]; exact List.mem_flatMap.2 ⟨xs[i]'(by omega), List.getElem_mem _, hm'⟩)⟩
    rw [hx i fs.toList[i] (by simp [hi']), List.getElem?_eq_getElem]
  refine ⟨a, ga, ?_⟩
  rw [List.drop_zero, List.take_of_length_le (by omega)] at ca
  exact ca
theorem vopens_map {α β : Type} {f : α → List AV} {G : α → Prop} {f' : β → List AV} {G' : β → Prop} (g : α → β) (he : VOpens P t f G) (hf : ∀ a, f' (g a) = f a) (hG : ∀ a, G a → G' (g a)) : VOpens P t f' G' := fun H enc w fuel cs x h hnf => by
  obtain ⟨a, ga, ca⟩ := he H enc w fuel cs x h hnf
  exact ⟨g a, hG a ga, by rw [hf]; exact ca⟩
end
end Go.Proofs.Ytajgeofhlgoifaa.V
