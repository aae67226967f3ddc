/- Small lemmas of any program: slices of bytes that can be read, '[]byte(s)', 'string(b)', worlds that grow. -/
import Derived.WalkKit
import Derived.WalkSpells
import Derived.WalkLawsBesides
import Derived.Outline
import Derived.Laws.BitsAllLaws
import Derived.Deep.WholeRow
import Derived.Lib.Hide
import Derived.Lib.SlBytesConst
import Derived.Laws.IdiomStrings
import Derived.Laws.BytesArg
import Derived.IntWalk
import Derived.KernelRfl
set_option linter.unusedVariables false
set_option linter.unusedSimpArgs false
namespace Go.Proofs.YtdncoobpdllpkaaGreat.Base
open Go.RowKit
/-- A slice of bytes that can be read. -/
def Rd (w : World) (A : Option Addr) (l : List UInt8) : Prop :=
  l.length ≤ 140737488355328 ∧ (0 < l.length → ∃ b off, A = some ⟨b, off, none⟩ ∧ ∀ j (h : j < l.length), w.cell? ⟨b, off + j, none⟩ = some (.int .u8 (l[j].toNat : Int)))
theorem Rd.below {w w1 : World} {A : Option Addr} {l : List UInt8} (h : Rd w A l) (hb : Below w.heap.size w w1) : Rd w1 A l :=
  ⟨h.1, fun hn => by
    obtain ⟨b, off, e, hc⟩ := h.2 hn
    refine ⟨b, off, e, fun j hj => ?_⟩
    have := hc j hj
    rw [hb.cell (World.block_lt_of_cell? w _ this)]; exact this⟩

/-! '[]byte(s)': the new row, and the world behind it. -/
theorem add_off (b off j : Nat) : (⟨b, off, none⟩ : Addr).add j = ⟨b, off + j, none⟩ := by unfold Addr.add; split <;> simp_all
end Go.Proofs.YtdncoobpdllpkaaGreat.Base
