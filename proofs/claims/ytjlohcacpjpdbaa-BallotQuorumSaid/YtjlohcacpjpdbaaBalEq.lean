/- '==' and '!=' of ballots. -/
import Derived.Test.YtjlohcacpjpdbaaLTells
set_option linter.unusedVariables false
namespace Go.Proofs.Ytjlohcacpjpdbaa.Bal
open Go.RowKit
theorem eql_bal (p q n d : Int) (w : World) : (binOp .eql 23 (.agg #[.int .i64 p, .int .i64 q]) (.agg #[.int .i64 n, .int .i64 d])).run Try.prog w = .ok (.bool ((p == n) && (q == d))) w := by
  by_cases h1 : p = n
  · subst h1
    by_cases h2 : q = d
    · subst h2; go_simp
    · have : (q == d) = false := by simpa using h2
      go_simp
  · have : (p == n) = false := by simpa using h1
    go_simp
theorem neq_bal (p q n d : Int) (w : World) : (binOp .neq 23 (.agg #[.int .i64 p, .int .i64 q]) (.agg #[.int .i64 n, .int .i64 d])).run Try.prog w = .ok (.bool (!((p == n) && (q == d)))) w := by
  by_cases h1 : p = n
  · subst h1
    by_cases h2 : q = d
    · subst h2; go_simp
    · have : (q == d) = false := by simpa using h2
      go_simp
  · have : (p == n) = false := by simpa using h1
    go_simp
end Go.Proofs.Ytjlohcacpjpdbaa.Bal
