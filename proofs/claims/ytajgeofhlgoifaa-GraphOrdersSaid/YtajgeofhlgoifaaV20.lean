/- A law: from its contract over abstract states to the call in the model's own words. No program is named here. -/
import Derived.Test.YtajgeofhlgoifaaV19
set_option linter.unusedVariables false
set_option linter.unusedSimpArgs false
namespace Go.Proofs.Ytajgeofhlgoifaa.V
open Go Go.RowKit
/-- What is known at the start: all cells, but for numbers that bytes of a text may share. -/
def imm0 (w : World) (b o : Nat) : Option Value :=
  match w.cell? ⟨b, o, none⟩ with
  | some (.int .i64 n) => bif w.frozen? ⟨b, o, none⟩ then none else some (.int .i64 n)
  | r => r
theorem imm0_le {w : World} {b o : Nat} {v : Value} (e : imm0 w b o = some v) : w.cell? ⟨b, o, none⟩ = some v := by
  unfold imm0 at e
  split at e
  · rename_i n hc
    cases hf : w.frozen? ⟨b, o, none⟩ with
    | true => rw [hf] at e; cases e
    | false => rw [hf] at e; rw [hc]; exact e
  · exact e
theorem imm0_soft {w : World} {b o : Nat} {n : Int} (e : imm0 w b o = some (.int .i64 n)) : w.frozen? ⟨b, o, none⟩ = false := by
  unfold imm0 at e
  split at e
  · cases hf : w.frozen? ⟨b, o, none⟩ with
    | true => rw [hf] at e; cases e
    | false => rfl
  · rename_i h; exact absurd e (h n)
theorem imm0_of {w : World} {b o : Nat} {v : Value} (e : w.cell? ⟨b, o, none⟩ = some v) (hf : w.frozen? ⟨b, o, none⟩ = false) : imm0 w b o = some v := by
  unfold imm0
  rw [e]
  cases v with
  | int k n => cases k <;> simp [hf]
  | _ => rfl
/-- The start: nothing is owned; all that there is stays as it is. -/
def g0 (w : World) : Ghost := ⟨0, fun _ => .blk 0, imm0 w, fun _ => none, 0⟩
theorem sim0 (w : World) : Sim w (g0 w) [] w :=
  ⟨Below.refl _ _, rfl, fun b o v e => imm0_le e, fun b o n e => imm0_soft e, (fun id o e => by simp at e), (fun i j oi oj b e => by simp at e), (fun b o e => by cases e), (fun id o b e => by simp at e), Nat.zero_le _, Nat.le_refl _⟩
def Law (P : Program) (f : FuncId) (xs : List AV) : Prop := ACalls P f xs [] fun r h' => r = .bool true ∧ h' = []
theorem Law.calls {P : Program} {f : FuncId} {xs : List AV} (L : Law P f xs) (w : World) {vs : Array Value} (hv : ValsRel (g0 w) xs vs) : Calls P f vs w fun e w' => e = .returned (.bool true) ∧ Below w.heap.size w w' :=
  (L w (g0 w) w vs hv (sim0 w)).mono fun e w' ⟨r, v, h', g', he, l, hr, S, hr1, _⟩ => by
    subst hr1
    exact ⟨by rw [he, hr.bool_eq], S.below⟩
theorem rel_str (g : Ghost) (a : ByteArray) : VRel g (.str a.data.toList) (.string a) := by
  have := VRel.str (g := g) a.data.toList
  simpa using this
theorem vals_nil (g : Ghost) : ValsRel g [] #[] := ⟨rfl, fun i h => absurd h (by simp)⟩
theorem cells_cons {g : Ghost} {x : AV} {xs : List AV} {v : Value} {vs : List Value} (h : VRel g x v) (k : CellsRel g xs vs) : CellsRel g (x :: xs) (v :: vs) :=
  ⟨by simp [k.1], fun i a b => by
    cases i with
    | zero => exact h
    | succ i => simpa using k.2 i (by simpa using a) (by simpa using b)⟩
theorem cells_nil (g : Ghost) : CellsRel g [] [] := ⟨rfl, fun i h => absurd h (by simp)⟩
theorem vals_of {g : Ghost} {xs : List AV} {vs : List Value} (h : CellsRel g xs vs) : ValsRel g xs vs.toArray := by simpa [ValsRel] using h
end Go.Proofs.Ytajgeofhlgoifaa.V
