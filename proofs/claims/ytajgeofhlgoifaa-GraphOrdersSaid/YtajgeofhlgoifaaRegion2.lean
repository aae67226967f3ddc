/- As XRegion, where at some place either of two operations may come up: then both ways are walked. -/
import Derived.Test.YtajgeofhlgoifaaRegion
import Derived.Deep.DeepCutAuto
set_option linter.unusedVariables false
namespace Go.Proofs.Ytajgeofhlgoifaa.Reg
open Go
inductive Tree
  | done
  | q (i : Nat) (r : Tree)
  | a (i : Nat) (r : Tree)
  | two (i j : Nat) (r s : Tree)
  | three (i j k : Nat) (r s t : Tree)
section
variable {P : Program} {ops : Array Oper} {S : World → Prop} {Q : Exit → Act → World → Prop}
def wpAt (P : Program) (ops : Array Oper) (Q : Exit → Act → World → Prop) (i : Nat) (K : Act → World → Prop) (a : Act) (w : World) : Prop :=
  ∃ o, ops[i]? = some o ∧ if Region.wanted o (yielded ops a.tmps) then o.wp P a w K Q else K (a.put o.dst undef) w
def wpTree (P : Program) (ops : Array Oper) (S : World → Prop) (Q : Exit → Act → World → Prop) : Tree → Act → World → Prop
  | .done, a, w => Q .normal a w
  | .a i r, a, w => wpAt P ops Q i (fun a' w' => S w' ∧ wpTree P ops S Q r a' w') a w
  | .q i r, a, w => ∃ o, ops[i]? = some o ∧ if Region.wanted o (yielded ops a.tmps) then (∃ v, (∀ w', S w' → (execOp a.eval o).run P w' = .ok (.value v) w') ∧ wpTree P ops S Q r (a.put o.dst v) w) else wpTree P ops S Q r (a.put o.dst undef) w
  | .two i j r s, a, w => wpAt P ops Q i (fun a' w' => S w' ∧ wpTree P ops S Q r a' w') a w ∧ wpAt P ops Q j (fun a' w' => S w' ∧ wpTree P ops S Q s a' w') a w
  | .three i j k r s t, a, w => wpAt P ops Q i (fun a' w' => S w' ∧ wpTree P ops S Q r a' w') a w ∧ wpAt P ops Q j (fun a' w' => S w' ∧ wpTree P ops S Q s a' w') a w ∧ wpAt P ops Q k (fun a' w' => S w' ∧ wpTree P ops S Q t a' w') a w
def treeB (ops : Array Oper) : Tree → Nat → Array Bool → Bool
  | .done, n, listed => n == 0 && (Region.ready .any ops listed).isEmpty
  | .a i r, n + 1, listed => (Region.ready .any ops listed == [i]) && treeB ops r n (listed.setIfInBounds i true)
  | .q i r, n + 1, listed => (Region.ready .any ops listed).contains i && Region.free .any ops listed i && treeB ops r n (listed.setIfInBounds i true)
  | .two i j r s, n + 1, listed => (Region.ready .any ops listed == [i, j]) && treeB ops r n (listed.setIfInBounds i true) && treeB ops s n (listed.setIfInBounds j true)
  | .three i j k r s t, n + 1, listed => (Region.ready .any ops listed == [i, j, k]) && treeB ops r n (listed.setIfInBounds i true) && treeB ops s n (listed.setIfInBounds j true) && treeB ops t n (listed.setIfInBounds k true)
  | _, 0, _ => false
theorem wpOp_at {i : Nat} {K K' : Act → World → Prop} {a : Act} {w : World} (hK : ∀ a w, K a w → K' a w) (h : wpAt P ops Q i K a w) : wpOp P ops Q i K' a w := by
  obtain ⟨o, ho, h⟩ := h
  unfold wpOp
  simp only [ho]
  split
  · rename_i hw
    rw [if_pos hw] at h
    exact .inl (Oper.wp_mono hK h)
  · rename_i hw
    rw [if_neg hw] at h
    exact hK _ _ h
theorem wpAnyH_tree (hs : Region.noSelect ops = true) (hQ : ∀ d c a v w, Q (.panic c) (a.put d v) w → Q (.panic c) a w) :
    ∀ (t : Tree) (n : Nat) (listed : Array Bool) (a : Act) (w : World), treeB ops t n listed = true → S w → wpTree P ops S Q t a w → wpAnyH P .any ops Q S n listed a w
  | .done, n, listed, a, w, hB, _, h => by
    simp only [treeB, Bool.and_eq_true, beq_iff_eq] at hB
    exact wpAnyH_done (by simpa using hB.2) h _
  | .a i r, 0, listed, a, w, hB, hS, h => by simp [treeB] at hB
  | .a i r, n + 1, listed, a, w, hB, hS, h => by
    simp only [treeB, Bool.and_eq_true, beq_iff_eq] at hB
    refine wpAnyH_all (rs := [i]) hB.1 (by simp) fun j hj => ?_
    obtain rfl : j = i := by simpa using hj
    exact wpOp_at (fun a' w' h' => ⟨h'.1, wpAnyH_tree hs hQ r n _ a' w' hB.2 h'.1 h'.2⟩) h
  | .q i r, 0, listed, a, w, hB, hS, h => by simp [treeB] at hB
  | .q i r, n + 1, listed, a, w, hB, hS, h => by
    simp only [treeB, Bool.and_eq_true] at hB
    obtain ⟨o, ho, h⟩ := h
    by_cases hw : Region.wanted o (yielded ops a.tmps) = true
    · rw [if_pos hw] at h
      obtain ⟨v, hv, h⟩ := h
      exact wpAnyH_take ho hs hB.1.2 hB.1.1 (fun c a' w' h' => hQ _ c a' _ w' h') (.inl ⟨hw, hv⟩) hS (wpAnyH_tree hs hQ r n _ _ _ hB.2 hS h)
    · rw [if_neg hw] at h
      exact wpAnyH_take ho hs hB.1.2 hB.1.1 (fun c a' w' h' => hQ _ c a' _ w' h') (.inr ⟨by simpa using hw, rfl⟩) hS (wpAnyH_tree hs hQ r n _ _ _ hB.2 hS h)
  | .two i j r s, 0, listed, a, w, hB, hS, h => by simp [treeB] at hB
  | .two i j r s, n + 1, listed, a, w, hB, hS, h => by
    simp only [treeB, Bool.and_eq_true, beq_iff_eq] at hB
    refine wpAnyH_all (rs := [i, j]) hB.1.1 (by simp) fun k hk => ?_
    have hk : k = i ∨ k = j := by simpa using hk
    rcases hk with rfl | rfl
    · exact wpOp_at (fun a' w' h' => ⟨h'.1, wpAnyH_tree hs hQ r n _ a' w' hB.1.2 h'.1 h'.2⟩) h.1
    · exact wpOp_at (fun a' w' h' => ⟨h'.1, wpAnyH_tree hs hQ s n _ a' w' hB.2 h'.1 h'.2⟩) h.2
  | .three i j k r s t, 0, listed, a, w, hB, hS, h => by simp [treeB] at hB
  | .three i j k r s t, n + 1, listed, a, w, hB, hS, h => by
    simp only [treeB, Bool.and_eq_true, beq_iff_eq] at hB
    refine wpAnyH_all (rs := [i, j, k]) hB.1.1.1 (by simp) fun q hq => ?_
    have hq : q = i ∨ q = j ∨ q = k := by simpa using hq
    rcases hq with rfl | rfl | rfl
    · exact wpOp_at (fun a' w' h' => ⟨h'.1, wpAnyH_tree hs hQ r n _ a' w' hB.1.1.2 h'.1 h'.2⟩) h.1
    · exact wpOp_at (fun a' w' h' => ⟨h'.1, wpAnyH_tree hs hQ s n _ a' w' hB.1.2 h'.1 h'.2⟩) h.2.1
    · exact wpOp_at (fun a' w' h' => ⟨h'.1, wpAnyH_tree hs hQ t n _ a' w' hB.2 h'.1 h'.2⟩) h.2.2
theorem wp_region_tree {id : Nat} {a : Act} {w : World} {l : List Oper} (t : Tree) (S : World → Prop) (hm : P.follows .mixedOrders = true)
    (hB : (Region.noSelect l.toArray && treeB l.toArray t l.length (Array.replicate l.length false)) = true)
    (hQ : ∀ d c a v w, Q (.panic c) (a.put d v) w → Q (.panic c) a w) (hS : S w.drew)
    (h : wpTree P l.toArray S Q t a w.drew) : (Code.region id l.toArray true).wp P Q a w := by
  simp only [Bool.and_eq_true] at hB
  refine wp_region_held (S := S) hm ?_
  have := wpAnyH_tree hB.1 hQ t _ _ a w.drew hB.2 hS h
  simpa using this
theorem tree_done {a : Act} {w : World} (h : Q .normal a w) : wpTree P ops S Q .done a w := h
theorem at_skip {i : Nat} {K : Act → World → Prop} {a : Act} {w : World} {o : Oper} (ho : ops[i]? = some o) (hg : Region.wanted o (yielded ops a.tmps) = false)
    (h : K (a.put o.dst undef) w) : wpAt P ops Q i K a w := ⟨o, ho, by rw [if_neg (by simp [hg])]; exact h⟩
theorem tree_skip {i : Nat} {r : Tree} {a : Act} {w : World} {o : Oper} (ho : ops[i]? = some o) (hg : Region.wanted o (yielded ops a.tmps) = false)
    (h : ∀ K : Act → Prop, (∀ a, wpTree P ops S Q r a w → K a) → K (a.put o.dst undef)) : wpTree P ops S Q (.q i r) a w :=
  ⟨o, ho, by rw [if_neg (by simp [hg])]; exact h (fun a => wpTree P ops S Q r a w) (fun _ h => h)⟩
theorem tree_skip' {i : Nat} {r : Tree} {a : Act} {w : World} {o : Oper} (hS : S w) (ho : ops[i]? = some o) (hg : Region.wanted o (yielded ops a.tmps) = false)
    (h : ∀ K : Act → Prop, (∀ a, wpTree P ops S Q r a w → K a) → K (a.put o.dst undef)) : wpTree P ops S Q (.a i r) a w :=
  ⟨o, ho, by rw [if_neg (by simp [hg])]; exact ⟨hS, h (fun a => wpTree P ops S Q r a w) (fun _ h => h)⟩⟩
theorem tree_quiet {i : Nat} {r : Tree} {a : Act} {w : World} {o : Oper} (ho : ops[i]? = some o) (hg : Region.wanted o (yielded ops a.tmps) = true)
    (h : ∃ v, (∀ w', S w' → (execOp a.eval o).run P w' = .ok (.value v) w') ∧ ∀ K : Act → Prop, (∀ a, wpTree P ops S Q r a w → K a) → K (a.put o.dst v)) : wpTree P ops S Q (.q i r) a w := by
  obtain ⟨v, hv, h⟩ := h
  exact ⟨o, ho, by rw [if_pos hg]; exact ⟨v, hv, h (fun a => wpTree P ops S Q r a w) (fun _ h => h)⟩⟩
theorem tree_alone {i : Nat} {r : Tree} {a : Act} {w : World} {o : Oper} (ho : ops[i]? = some o) (hg : Region.wanted o (yielded ops a.tmps) = true)
    (h : ∀ K : Act → World → Prop, (∀ a w, S w → wpTree P ops S Q r a w → K a w) → o.wp P a w K Q) : wpTree P ops S Q (.a i r) a w :=
  ⟨o, ho, by rw [if_pos hg]; exact h _ (fun _ _ h1 h2 => ⟨h1, h2⟩)⟩
theorem tree_two {i j : Nat} {r s : Tree} {a : Act} {w : World} (h1 : wpTree P ops S Q (.a i r) a w) (h2 : wpTree P ops S Q (.a j s) a w) : wpTree P ops S Q (.two i j r s) a w := ⟨h1, h2⟩
end
end Go.Proofs.Ytajgeofhlgoifaa.Reg
