/- Contracts of calls in the model's own words, as contracts over abstract states. No program is named here. -/
import Derived.Test.YtajgeofhlgoifaaV17
import Derived.Test.YtajgeofhlgoifaaBase
set_option linter.unusedVariables false
set_option linter.unusedSimpArgs false
namespace Go.Proofs.Ytajgeofhlgoifaa.V
open Go Go.RowKit
theorem acalls_pure {P : Program} {f : FuncId} {xs : List AV} {h : AHeap} {x : AV} (hc : ∀ w0 g w vs, ValsRel g xs vs → Sim w0 g h w → ∃ v, VRel g x v ∧ Calls P f vs w fun e w' => e = .returned v ∧ Below w.heap.size w w' ∧ w.drawn ≤ w'.drawn) :
    ACalls P f xs h fun r h' => r = x ∧ h' = h := fun w0 g w vs hv S => by
  obtain ⟨v, hx, hcall⟩ := hc w0 g w vs hv S
  refine hcall.mono ?_
  rintro e w' ⟨rfl, hb, hd⟩
  exact ⟨x, v, h, g, rfl, .refl g, hx, S.keep hb hd, rfl, rfl⟩
theorem vals_one {g : Ghost} {x : AV} {vs : Array Value} (h : ValsRel g [x] vs) : ∃ v, vs = #[v] ∧ VRel g x v := by
  have hl : vs.toList.length = 1 := h.1.symm
  obtain ⟨v, hv⟩ := List.length_eq_one_iff.1 hl
  have := h.2 0 (by simp) (by simp [hv])
  refine ⟨v, by rw [← Array.toArray_toList (xs := vs), hv], ?_⟩
  simpa [hv] using this
theorem vals_two {g : Ghost} {x y : AV} {vs : Array Value} (h : ValsRel g [x, y] vs) : ∃ v u, vs = #[v, u] ∧ VRel g x v ∧ VRel g y u := by
  have hl : vs.toList.length = 2 := h.1.symm
  match hq : vs.toList, hl with
  | [v, u], _ =>
    have h0 := h.2 0 (by simp) (by simp [hq])
    have h1 := h.2 1 (by simp) (by simp [hq])
    refine ⟨v, u, by rw [← Array.toArray_toList (xs := vs), hq], ?_, ?_⟩
    · simpa [hq] using h0
    · simpa [hq] using h1
/-- A slice of bytes that can be read. -/
theorem bytes_rd {w0 w : World} {g : Ghost} {h : AHeap} (S : Sim w0 g h w) {l : List UInt8} {t : Tok} {v : Value} (r : VRel g (.list (l.map b8) t) v) (hl : l.length ≤ 140737488355328) :
    ∃ a c, v = .slice a l.length c ∧ l.length ≤ c ∧ Base.Rd w a l := by
  obtain ⟨a, c, rfl, hc, hm, hn, _, hL⟩ := r.list_eq
  obtain ⟨b, o, u, L⟩ := hL 1 (uni_b8 l)
  have e : (l.map b8).length = l.length := by simp
  refine ⟨a, c, by rw [e], by rw [e] at hc; exact hc, hl, fun h0 => ?_⟩
  refine ⟨b, o, L.ha (by rw [e]; exact h0), fun j hj => ?_⟩
  have h2 := S.imm _ _ _ (L.cell j (by rw [e]; exact hj) 0 (by omega))
  have h3 := L.rel j (by rw [e]; exact hj) 0 (by simp [b8, AV.cells])
  have h4 : (List.map b8 l)[j]'(by simpa using hj) = b8 l[j] := by simp
  simp only [h4, b8, AV.cells, List.getElem_cons_zero] at h3
  simp only [Nat.mul_one, Nat.add_zero] at h2 h3
  rw [h2, h3.int_eq]
end Go.Proofs.Ytajgeofhlgoifaa.V
