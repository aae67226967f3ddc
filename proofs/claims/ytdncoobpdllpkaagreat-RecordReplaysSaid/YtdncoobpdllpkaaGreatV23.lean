/- Slices whose cells turn: made by append or make, written, copied into, and fixed at last. No program is named here. -/
import Derived.Test.YtdncoobpdllpkaaGreatV20
import Derived.Laws.CopyRow
set_option linter.unusedVariables false
set_option linter.unusedSimpArgs false
namespace Go.Proofs.YtdncoobpdllpkaaGreat.V
open Go Go.RowKit
section
variable {P : Program} {E : Env P} {w0 w : World} {g : Ghost} {h : AHeap}
theorem AV.one_cells {x : AV} (h : x.one = true) : x.cells = [x] := by cases x <;> first | rfl | cases h
/-! Operations of a region, one by one. -/
theorem aope_of_gives {o : Oper} {st : ASt} {K : AV → AHeap → Prop} {s : Act → Sem Value} (hex : ∀ a : Act, execOp a.eval o = (do let r ← s a; pure (Next.value r) : Sem Next)) (hd : ∀ c, o.op ≠ .defer c)
    (hg : ∀ w0 g w a, StRel g st a → Sim w0 g st.h w → ∃ x h', K x h' ∧ Gives P w0 g w x h' (s a)) : AOpE E o st K := fun m w0 g w a hC r S next Q hn => by
  refine opwp_rf hd ?_
  obtain ⟨x, h', hk, v, w', g', hr, l, hv, S'⟩ := hg w0 g w a r S
  unfold Oper.wp
  rw [hex a, Sem.run_bind, hr]
  exact hn v w' g' x h' l hv S' hk
theorem aops_run {ops : Array Oper} {n : Nat} {l2 : List Oper} {K : ASt → Prop} : ∀ {l1 : List Oper} {s : Slots} {h : AHeap}, ARun E ops n l1 s h (fun s' h' => AOps E ops l2 ⟨n, s', h'⟩ K) → AOps E ops (l1 ++ l2) ⟨n, s, h⟩ K
  | [], s, h, k => by unfold ARun at k; exact k
  | o :: l, s, h, k => by
    unfold ARun at k
    exact wantedThen_mono (fun k => (astepE_sound (o := o) (st := ⟨n, s, h⟩) k).mono fun x h' k' => aops_run k') (fun k => aops_run k) k
theorem aops_one {ops : Array Oper} {o : Oper} {r : List Oper} {st : ASt} {K : ASt → Prop} (hg : o.guard = none) (k : AOpE E o st fun x h => AOps E ops r ⟨st.n, Slots.put st.n st.s o.dst x, h⟩ K) : AOps E ops (o :: r) st K := by
  unfold AOps
  have : guardB ops st.s o = .bool true := by unfold guardB; rw [hg]
  rw [this]
  exact k
theorem aops_end {ops : Array Oper} {n : Nat} {l : List Oper} {s : Slots} {h : AHeap} {Q : Post} (k : ARun E ops n l s h fun s h => Q .normal ⟨n, s, h⟩) : AOps E ops l ⟨n, s, h⟩ (fun st => st.n = n ∧ Q .normal ⟨n, st.s, st.h⟩) := arun_ops k
/-- A region, walked up to an operation that has a rule of its own. -/
theorem awp_region_at {id : Nat} {l l1 l2 : List Oper} {Q : Post} {n : Nat} {s : Slots} {h : AHeap} (k0 : Nat) (h1 : l.take k0 = l1) (h2 : l.drop k0 = l2)
    (k : ARun E l.toArray n l1 s h fun s' h' => AOps E l.toArray l2 ⟨n, s', h'⟩ fun st => st.n = n ∧ Q .normal ⟨n, st.s, st.h⟩) : AWP E (.region id l.toArray false) Q ⟨n, s, h⟩ := by
  have k2 : AOps E l.toArray l ⟨n, s, h⟩ (fun st => st.n = n ∧ Q .normal ⟨n, st.s, st.h⟩) := by
    have := aops_run k
    rwa [← h1, ← h2, List.take_append_drop] at this
  exact AWP.mono (Q := fun e st => e = .normal ∧ st.n = n ∧ Q .normal ⟨n, st.s, st.h⟩) (fun m w0 g w a hC r S => wpIn_region_lit (aops_sound l _ _ k2 m w0 g w a hC r S fun st g' a' w' l' r' S' q => ⟨st, g', l', r', S', rfl, q⟩)) (fun e st ⟨h1, h2, h3⟩ => by subst h1; subst h2; exact h3)
/-! New ones. -/
/-! What was turned is fixed. -/
def AV.thaw (id n c : Nat) (l : AV) : AV → AV
  | .arr i o m k => if i = id ∧ o = 0 ∧ m = n ∧ k = c then l else .arr i o m k
  | x => x
def Slots.thaw (id n c : Nat) (l : AV) : Slots → Slots
  | [] => []
  | (k, v) :: s => (k, AV.thaw id n c l v) :: Slots.thaw id n c l s
theorem thaw_get (id n c : Nat) (l : AV) : ∀ (s : Slots) (t : Nat), Slots.get (Slots.thaw id n c l s) t = AV.thaw id n c l (Slots.get s t)
  | [], t => rfl
  | (k, v) :: s, t => by
    simp only [Slots.thaw, Slots.get]
    split
    · rfl
    · exact thaw_get id n c l s t
/-! The operations' rules in a region. -/
end
end Go.Proofs.YtdncoobpdllpkaaGreat.V
