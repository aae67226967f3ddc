/- Comparing a list with nil; clear; maps of three entries. No program is named here. -/
import Derived.Test.YtdncoobpdllpkaaGreatV24
import Derived.MapKept
set_option linter.unusedVariables false
set_option linter.unusedSimpArgs false
namespace Go.Proofs.YtdncoobpdllpkaaGreat.V
open Go Go.RowKit
section
variable {P : Program} {E : Env P} {w0 w : World} {g : Ghost} {h : AHeap}
/-! clear. -/
end
end Go.Proofs.YtdncoobpdllpkaaGreat.V
