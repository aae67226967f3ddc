/-
  A region that draws its order, walked in ONE order that is written out: each operation is either QUIET (it yields one value in every world that meets S: a move, a sum, a load of a cell that S tells of), or it is THE ONLY ONE that may come up where it stands.
  No program is named here.
-/
import Derived.OrdersHeld
import Derived.Still
import Derived.Deep.QuietTactic
import Derived.KernelRfl
import Derived.Below
set_option linter.unusedVariables false
set_option linter.unusedSimpArgs false
namespace Go.Proofs.YtdncoobpdllpkaaGreat.Reg
open Go
section
variable {P : Program} {ops : Array Oper} {S : World → Prop} {Q : Exit → Act → World → Prop}

end
/-! The common S: the world has grown out of W, and these cells hold what they held. -/
def CellsAt : List (Addr × Value) → World → Prop
  | [], _ => True
  | p :: l, w => w.cell? p.1 = some p.2 ∧ CellsAt l w
def Held (W : World) (l : List (Addr × Value)) (w' : World) : Prop := RowKit.Below W.heap.size W w' ∧ CellsAt l w'
theorem cell_keep {w1 w2 : World} (hb : RowKit.Below w1.heap.size w1 w2) {a : Addr} {v : Value} (h : w1.cell? a = some v) : w2.cell? a = some v := by
  rw [hb.cell (World.block_lt_of_cell? w1 _ h)]; exact h
theorem CellsAt.keep {l : List (Addr × Value)} {w1 w2 : World} (h : CellsAt l w1) (hb : RowKit.Below w1.heap.size w1 w2) : CellsAt l w2 := by
  induction l with
  | nil => trivial
  | cons p l ih => exact ⟨cell_keep hb h.1, ih h.2⟩
theorem Held.keep {W : World} {l : List (Addr × Value)} {w1 w2 : World} (h : Held W l w1) (hb : RowKit.Below w1.heap.size w1 w2) : Held W l w2 :=
  ⟨h.1.trans (hb.mono h.1.size), h.2.keep hb⟩
theorem Held.start {W : World} {l : List (Addr × Value)} (h : CellsAt l W) : Held W l W.drew := ⟨(RowKit.Below.refl _ _).drew, h.keep (RowKit.Below.refl _ _).drew⟩
theorem Held.bel {W : World} {l : List (Addr × Value)} {w1 : World} (h : Held W l w1) : RowKit.Below W.heap.size W w1 := h.1
theorem Held.from {w W : World} {l : List (Addr × Value)} {w1 : World} (h : Held W l w1) (hb : RowKit.Below w.heap.size w W) : RowKit.Below w.heap.size w w1 := hb.trans (h.1.mono hb.size)
end Go.Proofs.YtdncoobpdllpkaaGreat.Reg
