/-
  A region that draws its order, walked in ONE order that is written out: each operation is either QUIET (it yields one value in every world that meets S: a move, a sum, a load of a cell that S tells of), or it is THE ONLY ONE that may come up where it stands.
  No program is named here.
-/
import Derived.OrdersHeld
import Derived.Still
import Derived.Deep.QuietTactic
import Derived.KernelRfl
import Derived.Below
set_option linter.unusedVariables false
set_option linter.unusedSimpArgs false
namespace Go.Proofs.Ytajgeofhlgoifaa.Reg
open Go
section
variable {P : Program} {ops : Array Oper} {S : World → Prop} {Q : Exit → Act → World → Prop}

/-- The walk in the order 'ord': (true, i): number i, alone; (false, i): number i, quiet. -/
def wpOrd (P : Program) (ops : Array Oper) (S : World → Prop) (Q : Exit → Act → World → Prop) : List (Bool × Nat) → Act → World → Prop
  | [], a, w => Q .normal a w
  | (true, i) :: r, a, w => ∃ o, ops[i]? = some o ∧ if Region.wanted o (yielded ops a.tmps) then o.wp P a w (fun a' w' => S w' ∧ wpOrd P ops S Q r a' w') Q else wpOrd P ops S Q r (a.put o.dst undef) w
  | (false, i) :: r, a, w => ∃ o, ops[i]? = some o ∧ if Region.wanted o (yielded ops a.tmps) then (∃ v, (∀ w', S w' → (execOp a.eval o).run P w' = .ok (.value v) w') ∧ wpOrd P ops S Q r (a.put o.dst v) w) else wpOrd P ops S Q r (a.put o.dst undef) w

/-- Is the order one that serves? -/
def ordB (ops : Array Oper) : List (Bool × Nat) → Array Bool → Bool
  | [], listed => (Region.ready .any ops listed).isEmpty
  | (true, i) :: r, listed => (Region.ready .any ops listed == [i]) && ordB ops r (listed.setIfInBounds i true)
  | (false, i) :: r, listed => (Region.ready .any ops listed).contains i && Region.free .any ops listed i && ordB ops r (listed.setIfInBounds i true)

theorem wpAnyH_ord (hs : Region.noSelect ops = true) (hQ : ∀ d c a v w, Q (.panic c) (a.put d v) w → Q (.panic c) a w) :
    ∀ (ord : List (Bool × Nat)) (listed : Array Bool) (a : Act) (w : World), ordB ops ord listed = true → S w → wpOrd P ops S Q ord a w → wpAnyH P .any ops Q S ord.length listed a w
  | [], listed, a, w, hB, _, h => wpAnyH_done (by simpa [ordB] using hB) h _
  | (true, i) :: r, listed, a, w, hB, hS, h => by
    simp only [ordB, Bool.and_eq_true, beq_iff_eq] at hB
    obtain ⟨o, ho, h⟩ := h
    refine wpAnyH_all (rs := [i]) hB.1 (by simp) fun j hj => ?_
    obtain rfl : j = i := by simpa using hj
    unfold wpOp
    simp only [ho]
    split
    · rename_i hw
      rw [if_pos hw] at h
      exact .inl (Oper.wp_mono (fun a' w' h' => ⟨h'.1, wpAnyH_ord hs hQ r _ a' w' hB.2 h'.1 h'.2⟩) h)
    · rename_i hw
      rw [if_neg hw] at h
      exact ⟨hS, wpAnyH_ord hs hQ r _ _ _ hB.2 hS h⟩
  | (false, i) :: r, listed, a, w, hB, hS, h => by
    simp only [ordB, Bool.and_eq_true] at hB
    obtain ⟨o, ho, h⟩ := h
    by_cases hw : Region.wanted o (yielded ops a.tmps) = true
    · rw [if_pos hw] at h
      obtain ⟨v, hv, h⟩ := h
      exact wpAnyH_take ho hs hB.1.2 hB.1.1 (fun c a' w' h' => hQ _ c a' _ w' h') (.inl ⟨hw, hv⟩) hS (wpAnyH_ord hs hQ r _ _ _ hB.2 hS h)
    · rw [if_neg hw] at h
      exact wpAnyH_take ho hs hB.1.2 hB.1.1 (fun c a' w' h' => hQ _ c a' _ w' h') (.inr ⟨by simpa using hw, rfl⟩) hS (wpAnyH_ord hs hQ r _ _ _ hB.2 hS h)

/-- THE REGION. -/
theorem wp_region_ord {id : Nat} {a : Act} {w : World} {l : List Oper} (ord : List (Bool × Nat)) (S : World → Prop) (hm : P.follows .mixedOrders = true)
    (hB : (Region.noSelect l.toArray && decide (ord.length = l.length) && ordB l.toArray ord (Array.replicate l.length false)) = true)
    (hQ : ∀ d c a v w, Q (.panic c) (a.put d v) w → Q (.panic c) a w) (hS : S w.drew)
    (h : wpOrd P l.toArray S Q ord a w.drew) : (Code.region id l.toArray true).wp P Q a w := by
  simp only [Bool.and_eq_true, decide_eq_true_eq] at hB
  refine wp_region_held (S := S) hm ?_
  have := wpAnyH_ord hB.1.1 hQ ord _ a w.drew hB.2 hS h
  rw [hB.1.2] at this
  simpa using this

theorem ord_nil {a : Act} {w : World} (h : Q .normal a w) : wpOrd P ops S Q [] a w := h
/-- Passed over. -/
theorem ord_skip {b : Bool} {i : Nat} {r : List (Bool × Nat)} {a : Act} {w : World} {o : Oper} (ho : ops[i]? = some o) (hg : Region.wanted o (yielded ops a.tmps) = false)
    (h : ∀ K : Act → Prop, (∀ a, wpOrd P ops S Q r a w → K a) → K (a.put o.dst undef)) : wpOrd P ops S Q ((b, i) :: r) a w := by
  have h := h (fun a => wpOrd P ops S Q r a w) (fun _ h => h)
  cases b
  · exact ⟨o, ho, by rw [if_neg (by simp [hg])]; exact h⟩
  · exact ⟨o, ho, by rw [if_neg (by simp [hg])]; exact h⟩
/-- Quiet. -/
theorem ord_quiet {i : Nat} {r : List (Bool × Nat)} {a : Act} {w : World} {o : Oper} (ho : ops[i]? = some o) (hg : Region.wanted o (yielded ops a.tmps) = true)
    (h : ∃ v, (∀ w', S w' → (execOp a.eval o).run P w' = .ok (.value v) w') ∧ ∀ K : Act → Prop, (∀ a, wpOrd P ops S Q r a w → K a) → K (a.put o.dst v)) : wpOrd P ops S Q ((false, i) :: r) a w := by
  obtain ⟨v, hv, h⟩ := h
  exact ⟨o, ho, by rw [if_pos hg]; exact ⟨v, hv, h (fun a => wpOrd P ops S Q r a w) (fun _ h => h)⟩⟩
/-- Alone. -/
theorem ord_alone {i : Nat} {r : List (Bool × Nat)} {a : Act} {w : World} {o : Oper} (ho : ops[i]? = some o) (hg : Region.wanted o (yielded ops a.tmps) = true)
    (h : ∀ K : Act → World → Prop, (∀ a w, S w → wpOrd P ops S Q r a w → K a w) → o.wp P a w K Q) : wpOrd P ops S Q ((true, i) :: r) a w :=
  ⟨o, ho, by rw [if_pos hg]; exact h _ (fun _ _ h1 h2 => ⟨h1, h2⟩)⟩
end
/-! The common S: the world has grown out of W, and these cells hold what they held. -/
def CellsAt : List (Addr × Value) → World → Prop
  | [], _ => True
  | p :: l, w => w.cell? p.1 = some p.2 ∧ CellsAt l w
def Held (W : World) (l : List (Addr × Value)) (w' : World) : Prop := RowKit.Below W.heap.size W w' ∧ CellsAt l w'
theorem cell_keep {w1 w2 : World} (hb : RowKit.Below w1.heap.size w1 w2) {a : Addr} {v : Value} (h : w1.cell? a = some v) : w2.cell? a = some v := by
  rw [hb.cell (World.block_lt_of_cell? w1 _ h)]; exact h
theorem CellsAt.keep {l : List (Addr × Value)} {w1 w2 : World} (h : CellsAt l w1) (hb : RowKit.Below w1.heap.size w1 w2) : CellsAt l w2 := by
  induction l with
  | nil => trivial
  | cons p l ih => exact ⟨cell_keep hb h.1, ih h.2⟩
theorem Held.keep {W : World} {l : List (Addr × Value)} {w1 w2 : World} (h : Held W l w1) (hb : RowKit.Below w1.heap.size w1 w2) : Held W l w2 :=
  ⟨h.1.trans (hb.mono h.1.size), h.2.keep hb⟩
theorem Held.start {W : World} {l : List (Addr × Value)} (h : CellsAt l W) : Held W l W.drew := ⟨(RowKit.Below.refl _ _).drew, h.keep (RowKit.Below.refl _ _).drew⟩
theorem Held.bel {W : World} {l : List (Addr × Value)} {w1 : World} (h : Held W l w1) : RowKit.Below W.heap.size W w1 := h.1
theorem Held.from {w W : World} {l : List (Addr × Value)} {w1 : World} (h : Held W l w1) (hb : RowKit.Below w.heap.size w W) : RowKit.Below w.heap.size w w1 := hb.trans (h.1.mono hb.size)
end Go.Proofs.Ytajgeofhlgoifaa.Reg
