/- append(s, x...): a row of the call's own grows by a row that can be read, nil or not. -/
import Derived.Test.YtjlohcacpjpdbaaBase
import Derived.OwnWalk
import Derived.Laws.AppendOwnNone
set_option linter.unusedVariables false
set_option linter.unusedSimpArgs false
namespace Go.Proofs.Ytjlohcacpjpdbaa.App
open Go Go.RowKit
/-- Cells in a row at an address. -/
def CellsIn (w : World) (A : Option Addr) (ys : List Value) : Prop := 0 < ys.length → ∃ b off, A = some ⟨b, off, none⟩ ∧ ∀ j (hj : j < ys.length), w.cell? ⟨b, off + j, none⟩ = some ys[j]
section
variable {P : Program} {ops : Array Oper} {rest : List Oper} {o : Oper} {a : Act} {Q : Exit → Act → World → Prop}
theorem append_row {w : World} (hgd : o.guard = none) (s x : Operand) (t : TypeId)
    (ho : o.op = .call { callee := .builtin .append, args := #[s, x], argTypes := #[t, t] })
    (base : Nat) (e : TypeId) (z : Value) (size bytes : Nat) (ht : P.underlying t = some (.slice e)) (hinfo : (P.info? e).map (fun i => (i.zero, i.size, i.bytes)) = some (some z, size, bytes)) (hz : z.cells.size = size) (hsz : 0 < size)
    (v : Value) (n : Nat) (xs : List Value) (hs : a.eval s = v) (hown : w.ownsRow base e size v n xs)
    (A : Option Addr) (m c : Nat) (ys : List Value) (hx : a.eval x = .slice A m c) (hl : ys.length = m * size) (hA : CellsIn w A ys) (hc : A = none → c = 0) (h1 : ∀ u ∈ ys, u.oneCell' = true)
    (h63 : n + m ≤ maxLen) (hbytes : (n + m) * bytes ≤ 140737488355328) (hbase : base ≤ w.heap.size)
    (h : ∀ v' w', w'.ownsRow base e size v' (n + m) (xs ++ ys) → w.grownBy w' v.ownBlock → wpList P ops Q rest (a.put o.dst v') w') : wpList P ops Q (o :: rest) a w := by
  obtain ⟨i, hi, hz0, hz1, hz2⟩ := info_parts hinfo
  cases A with
  | none =>
    have hm : m = 0 := by
      rcases Nat.eq_zero_or_pos m with h0 | h0
      · exact h0
      · obtain ⟨b, off, e, _⟩ := hA (by rw [hl]; exact Nat.mul_pos h0 hsz)
        cases e
    subst hm
    obtain rfl : c = 0 := hc rfl
    have hy : ys = [] := List.eq_nil_of_length_eq_zero (by simpa using hl)
    subst hy
    refine wpList_append_own_none hgd s x t ho base e i size ht hi v n xs hs hown hx ?_
    exact h v w (by simpa using hown) (World.grownBy.refl _ _)
  | some ad =>
    refine wpList_append_own w hgd s x t ho base e i z size bytes ht hi hz0 hz1 hz2 hz hsz v n xs hs hown ad m c ys hx hl ?_ h1 h63 hbytes hbase (fun v' w' h2 h3 _ => h v' w' h2 h3)
    intro j u hj
    have hjl : j < ys.length := (List.getElem?_eq_some_iff.1 hj).1
    obtain ⟨b, off, e, hcs⟩ := hA (by omega)
    injection e with e
    subst e
    rw [Base.add_off, hcs j hjl]
    rw [List.getElem?_eq_getElem hjl] at hj
    exact hj
end
end Go.Proofs.Ytjlohcacpjpdbaa.App
