/- Maps by numbers: a literal of a few entries, and a look into one of three. No program is named here. -/
import Derived.Test.YtdncoobpdllpkaaGreatV25
set_option linter.unusedVariables false
set_option linter.unusedSimpArgs false
namespace Go.Proofs.YtdncoobpdllpkaaGreat.V
open Go Go.RowKit Go.MapKept
section
variable {P : Program} {E : Env P} {w0 w : World} {g : Ghost} {h : AHeap}
theorem new_map (S : Sim w0 g h w) : g.le (g.push (.blk w.heap.size)) ∧ Sim w0 (g.push (.blk w.heap.size)) (h ++ [.map [] 0]) (w.alloc (.map #[] 0)) ∧ VRel (g.push (.blk w.heap.size)) (.map h.length) (.map (some w.heap.size)) := by
  have S1 := S.keep (alloc_below w (.map #[] 0))
  have l := Ghost.push_le g (.blk w.heap.size)
  refine ⟨l, S1.push ⟨S.below.size, #[], heap_alloc_new w _, rfl, fun i h => absurd h (by simp)⟩ (fun id o' ho hd b hb e => ?_) (fun b hb => ?_), ?_⟩
  · injection hb with hb
    subst hb
    exact S.fresh (Nat.le_refl _) id o' ho hd e
  · injection hb with hb
    subst hb
    exact S.fresh_pin (Nat.le_refl _)
  · refine .map _ _ ?_ ?_
    · rw [S.n]; exact Nat.lt_succ_self _
    · rw [S.n]; exact Ghost.push_at g _
theorem aops_makeMap {ops : Array Oper} {o : Oper} {r : List Oper} {n : Nat} {s : Slots} {h : AHeap} {K : ASt → Prop} {t : TypeId} (hop : o.op = .makeMap t none) (hg : o.guard = none)
    (k : AOps E ops r ⟨n, Slots.put n s o.dst (.map h.length), h ++ [.map [] 0]⟩ K) : AOps E ops (o :: r) ⟨n, s, h⟩ K :=
  aops_one hg (aope_of_gives (s := fun a => Instr.makeMap t none) (fun a => by simp [execOp, hop]) (fun c => by rw [hop]; simp) fun w0 g w a ra S => by
    obtain ⟨l, S', r'⟩ := new_map S
    exact ⟨_, _, k, _, _, _, by simp [Instr.makeMap], l, r', S'⟩)
theorem map_eq {id : Nat} {v : Value} (h : VRel g (.map id) v) : id < g.n ∧ ∃ b, g.at_ id = .blk b ∧ v = .map (some b) := by
  cases h with
  | map _ b hi hb => exact ⟨hi, b, hb, rfl⟩
theorem map_block {es : List (AV × AV × Nat)} {clock : Nat} (S : Sim w0 g h w) {id b : Nat} (ho : h[id]? = some (.map es clock)) (hb : g.at_ id = .blk b) : w0.heap.size ≤ b ∧ ∃ ces, w.heap[b]? = some (.map ces clock) ∧ es.length = ces.size ∧ ∀ i (h : i < es.length) (h' : i < ces.size), EntryRel g es[i] ces[i] := by
  have := S.obj id _ ho
  rw [hb] at this
  exact this
end
end Go.Proofs.YtdncoobpdllpkaaGreat.V
