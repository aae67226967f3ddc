/- A struct of plain data that came in. No program is named here. -/
import Derived.Test.YtdncoobpdllpkaaGreatV22
set_option linter.unusedVariables false
set_option linter.unusedSimpArgs false
namespace Go.Proofs.YtdncoobpdllpkaaGreat.V
open Go Go.RowKit Go.WideShapes
section
variable {P : Program} {t e : TypeId}
end
/-- A value that came in, as data. -/
structure Came where
  v : Value
end Go.Proofs.YtdncoobpdllpkaaGreat.V
