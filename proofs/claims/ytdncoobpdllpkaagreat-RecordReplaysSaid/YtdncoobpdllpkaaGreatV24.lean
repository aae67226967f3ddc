/- A literal's bytes that are turned into bytes. No program is named here. -/
import Derived.Test.YtdncoobpdllpkaaGreatV23
set_option linter.unusedVariables false
set_option linter.unusedSimpArgs false
namespace Go.Proofs.YtdncoobpdllpkaaGreat.V
open Go Go.RowKit
section
variable {P : Program} {E : Env P} {w0 w : World} {g : Ghost} {h : AHeap}
end
end Go.Proofs.YtdncoobpdllpkaaGreat.V
