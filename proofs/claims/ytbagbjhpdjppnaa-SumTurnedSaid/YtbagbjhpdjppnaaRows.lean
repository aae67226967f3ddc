/-
  No cell of these rows narrows 'for every input' (looked for: loops, veiled, ifaces, maps, wideKeys, modest, calm, conditions, laid).
  DERIVED. THE GIVEN ROWS OF THIS SEAT. 6 by the template 'for every input the law returns true; each argument reads behind the call as it read before'; 0 by the template 'total and deterministic' (their statements: YtbagbjhpdjppnaaTotals.lean).
  GIVEN WITH THE SEED: the statements are not yours to turn. If you find one false, say at which input.
  Laid BY PROGRAM, IN A SANDBOX (cutbox-rows.mjs): the forced cells as the released guide's own fill.sh prints them over the translation 8462d2787fd36a44… (all of the seat's roots in one cut). By AI agents, Wed Nov 11 2026. No macro, syntax, notation, axiom, sorry.
-/
import Derived.Test.YtbagbjhpdjppnaaChecked
import GoSem.Claim
import GoSem.ClaimJoined
import GoSem.ClaimMapViews
import Derived.JoinedTies
import Derived.KernelRfl
namespace Go.Proofs.Ytbagbjhpdjppnaa
/- THE CELL 'sum', in the pinned program and in every row, IS THE sha256 OF THE DUMP (.gsa) THAT YtbagbjhpdjppnaaProg.lean LOADS. Nothing in Lean hashes anything: it is a label: what it is worth is what the hold of that sum in a sandbox is worth. -/
noncomputable def Try.pinned : Pinned := { name := "ytbagbjhpdjppnaa", sum := "8462d2787fd36a44895069d96305b40f4792117e47f156964a8db84392eeee51", checked := Try.checked }
namespace Rows
def none {H : Type} : Left H := { results := [], args := [] }

/-- 'syndiclaw02.SumSums': WHATEVER THE INPUT: true; the input reads as it did. -/
def sumSumsSpec : ChangeSpec := { name := "sumSums", fn := fun _ => fun
  | [d1, d2, d3] => { results := [.lit (.bool true)], args := [d1, d2, d3] }
  | _ => none }
def sumSumsRow : OpenClaim := { program := "ytbagbjhpdjppnaa", sum := "8462d2787fd36a44895069d96305b40f4792117e47f156964a8db84392eeee51", func := "syndic/syndiclaw02.SumSums", spec := "sumSums", apart := false }
def SumSumsSaid : Prop := sumSumsRow.holds Try.pinned (OpenSpec.ofChange sumSumsSpec)

/-- ITS FALSE NEIGHBOUR: 'it returns false'. Refute it at one input. -/
def sumSumsWrong : ChangeSpec := { name := "sumSums", fn := fun _ => fun
  | [d1, d2, d3] => { results := [.lit (.bool false)], args := [d1, d2, d3] }
  | _ => none }
def SumSumsWrongFalsely : Prop := sumSumsRow.holds Try.pinned (OpenSpec.ofChange sumSumsWrong)

/-- 'syndiclaw02.SumParts': WHATEVER THE INPUT: true; the input reads as it did. -/
def sumPartsSpec : ChangeSpec := { name := "sumParts", fn := fun _ => fun
  | [d1, d2, d3] => { results := [.lit (.bool true)], args := [d1, d2, d3] }
  | _ => none }
def sumPartsRow : OpenClaim := { program := "ytbagbjhpdjppnaa", sum := "8462d2787fd36a44895069d96305b40f4792117e47f156964a8db84392eeee51", func := "syndic/syndiclaw02.SumParts", spec := "sumParts", apart := false }
def SumPartsSaid : Prop := sumPartsRow.holds Try.pinned (OpenSpec.ofChange sumPartsSpec)

/-- ITS FALSE NEIGHBOUR: 'it returns false'. Refute it at one input. -/
def sumPartsWrong : ChangeSpec := { name := "sumParts", fn := fun _ => fun
  | [d1, d2, d3] => { results := [.lit (.bool false)], args := [d1, d2, d3] }
  | _ => none }
def SumPartsWrongFalsely : Prop := sumPartsRow.holds Try.pinned (OpenSpec.ofChange sumPartsWrong)

/-- 'syndiclaw02.SumTurned': WHATEVER THE INPUT: true; the input reads as it did. -/
def sumTurnedSpec : ChangeSpec := { name := "sumTurned", fn := fun _ => fun
  | [d1, d2, d3] => { results := [.lit (.bool true)], args := [d1, d2, d3] }
  | _ => none }
def sumTurnedRow : OpenClaim := { program := "ytbagbjhpdjppnaa", sum := "8462d2787fd36a44895069d96305b40f4792117e47f156964a8db84392eeee51", func := "syndic/syndiclaw02.SumTurned", spec := "sumTurned", apart := false }
def SumTurnedSaid : Prop := sumTurnedRow.holds Try.pinned (OpenSpec.ofChange sumTurnedSpec)

/-- ITS FALSE NEIGHBOUR: 'it returns false'. Refute it at one input. -/
def sumTurnedWrong : ChangeSpec := { name := "sumTurned", fn := fun _ => fun
  | [d1, d2, d3] => { results := [.lit (.bool false)], args := [d1, d2, d3] }
  | _ => none }
def SumTurnedWrongFalsely : Prop := sumTurnedRow.holds Try.pinned (OpenSpec.ofChange sumTurnedWrong)

/-- 'syndiclaw02.SumSwap': WHATEVER THE INPUT: true; the input reads as it did. -/
def sumSwapSpec : ChangeSpec := { name := "sumSwap", fn := fun _ => fun
  | [d1, d2] => { results := [.lit (.bool true)], args := [d1, d2] }
  | _ => none }
def sumSwapRow : OpenClaim := { program := "ytbagbjhpdjppnaa", sum := "8462d2787fd36a44895069d96305b40f4792117e47f156964a8db84392eeee51", func := "syndic/syndiclaw02.SumSwap", spec := "sumSwap", apart := false }
def SumSwapSaid : Prop := sumSwapRow.holds Try.pinned (OpenSpec.ofChange sumSwapSpec)

/-- ITS FALSE NEIGHBOUR: 'it returns false'. Refute it at one input. -/
def sumSwapWrong : ChangeSpec := { name := "sumSwap", fn := fun _ => fun
  | [d1, d2] => { results := [.lit (.bool false)], args := [d1, d2] }
  | _ => none }
def SumSwapWrongFalsely : Prop := sumSwapRow.holds Try.pinned (OpenSpec.ofChange sumSwapWrong)

/-- 'syndiclaw02.SumTable': WHATEVER THE INPUT: true; the input reads as it did. -/
def sumTableSpec : ChangeSpec := { name := "sumTable", fn := fun _ => fun
  | [d1, d2] => { results := [.lit (.bool true)], args := [d1, d2] }
  | _ => none }
def sumTableRow : OpenClaim := { program := "ytbagbjhpdjppnaa", sum := "8462d2787fd36a44895069d96305b40f4792117e47f156964a8db84392eeee51", func := "syndic/syndiclaw02.SumTable", spec := "sumTable", apart := false }
def SumTableSaid : Prop := sumTableRow.holds Try.pinned (OpenSpec.ofChange sumTableSpec)

/-- ITS FALSE NEIGHBOUR: 'it returns false'. Refute it at one input. -/
def sumTableWrong : ChangeSpec := { name := "sumTable", fn := fun _ => fun
  | [d1, d2] => { results := [.lit (.bool false)], args := [d1, d2] }
  | _ => none }
def SumTableWrongFalsely : Prop := sumTableRow.holds Try.pinned (OpenSpec.ofChange sumTableWrong)

/-- 'syndiclaw02.SumLast': WHATEVER THE INPUT: true; the input reads as it did. -/
def sumLastSpec : ChangeSpec := { name := "sumLast", fn := fun _ => fun
  | [d1, d2, d3, d4] => { results := [.lit (.bool true)], args := [d1, d2, d3, d4] }
  | _ => none }
def sumLastRow : OpenClaim := { program := "ytbagbjhpdjppnaa", sum := "8462d2787fd36a44895069d96305b40f4792117e47f156964a8db84392eeee51", func := "syndic/syndiclaw02.SumLast", spec := "sumLast", apart := false }
def SumLastSaid : Prop := sumLastRow.holds Try.pinned (OpenSpec.ofChange sumLastSpec)

/-- ITS FALSE NEIGHBOUR: 'it returns false'. Refute it at one input. -/
def sumLastWrong : ChangeSpec := { name := "sumLast", fn := fun _ => fun
  | [d1, d2, d3, d4] => { results := [.lit (.bool false)], args := [d1, d2, d3, d4] }
  | _ => none }
def SumLastWrongFalsely : Prop := sumLastRow.holds Try.pinned (OpenSpec.ofChange sumLastWrong)

/- THE SECOND FORM. 'bulk': how many values and letters a reading holds, each counted each time it is reached (what is shared counts as often as it is met; a slice's spare places count too). A statement '..UptoSaid' is the law's where the arguments, and the package variables that the reading takes, are together of bulk at most 1048576: NARROWER than '..Said'. Prove '..Said' where nothing that the law and all that it calls make is longer than what came in: it says more and counts as full. Else prove '..UptoSaid'. A law counts once. -/
mutual
def uptoBulk {H : Type} : DataW H → Nat
  | .lit (.string bytes) => bytes.length + 1
  | .lit _ => 1
  | .nil => 1
  | .ptr d => uptoBulk d + 1
  | .slice elems spare => uptoBulkAll elems + uptoBulkAll spare + 1
  | .agg parts => uptoBulkAll parts + 1
  | .iface _ d => uptoBulk d + 1
  | .map entries => uptoBulkEntries entries + 1
  | .held _ => 1
def uptoBulkAll {H : Type} : List (DataW H) → Nat
  | [] => 0
  | d :: r => uptoBulk d + uptoBulkAll r
def uptoBulkEntries {H : Type} : List (Lit × DataW H) → Nat
  | [] => 0
  | x :: r => uptoBulkEntry x + uptoBulkEntries r
def uptoBulkEntry {H : Type} : Lit × DataW H → Nat
  | (.string bytes, d) => bytes.length + uptoBulk d + 1
  | (_, d) => uptoBulk d + 1
 end
def uptoSmall : (H : Type) → List (DataW H) → Bool := fun _ ds => decide (uptoBulkAll ds ≤ 1048576)
def OpenSpec.upto (s : _root_.Go.ChangeSpec) : _root_.Go.OpenSpec := { _root_.Go.OpenSpec.ofChange s with cond := some uptoSmall }

/-- 'syndiclaw02.SumSums', WHERE WHAT IT READS IS OF BULK AT MOST 1048576: true; the input reads as it did. -/
def sumSumsUptoRow : OpenClaim := { program := "ytbagbjhpdjppnaa", sum := "8462d2787fd36a44895069d96305b40f4792117e47f156964a8db84392eeee51", func := "syndic/syndiclaw02.SumSums", spec := "sumSums", apart := false, narrowed := true }
def SumSumsUptoSaid : Prop := sumSumsUptoRow.holds Try.pinned (OpenSpec.upto sumSumsSpec)

/-- 'syndiclaw02.SumParts', WHERE WHAT IT READS IS OF BULK AT MOST 1048576: true; the input reads as it did. -/
def sumPartsUptoRow : OpenClaim := { program := "ytbagbjhpdjppnaa", sum := "8462d2787fd36a44895069d96305b40f4792117e47f156964a8db84392eeee51", func := "syndic/syndiclaw02.SumParts", spec := "sumParts", apart := false, narrowed := true }
def SumPartsUptoSaid : Prop := sumPartsUptoRow.holds Try.pinned (OpenSpec.upto sumPartsSpec)

/-- 'syndiclaw02.SumTurned', WHERE WHAT IT READS IS OF BULK AT MOST 1048576: true; the input reads as it did. -/
def sumTurnedUptoRow : OpenClaim := { program := "ytbagbjhpdjppnaa", sum := "8462d2787fd36a44895069d96305b40f4792117e47f156964a8db84392eeee51", func := "syndic/syndiclaw02.SumTurned", spec := "sumTurned", apart := false, narrowed := true }
def SumTurnedUptoSaid : Prop := sumTurnedUptoRow.holds Try.pinned (OpenSpec.upto sumTurnedSpec)

/-- 'syndiclaw02.SumSwap', WHERE WHAT IT READS IS OF BULK AT MOST 1048576: true; the input reads as it did. -/
def sumSwapUptoRow : OpenClaim := { program := "ytbagbjhpdjppnaa", sum := "8462d2787fd36a44895069d96305b40f4792117e47f156964a8db84392eeee51", func := "syndic/syndiclaw02.SumSwap", spec := "sumSwap", apart := false, narrowed := true }
def SumSwapUptoSaid : Prop := sumSwapUptoRow.holds Try.pinned (OpenSpec.upto sumSwapSpec)

/-- 'syndiclaw02.SumTable', WHERE WHAT IT READS IS OF BULK AT MOST 1048576: true; the input reads as it did. -/
def sumTableUptoRow : OpenClaim := { program := "ytbagbjhpdjppnaa", sum := "8462d2787fd36a44895069d96305b40f4792117e47f156964a8db84392eeee51", func := "syndic/syndiclaw02.SumTable", spec := "sumTable", apart := false, narrowed := true }
def SumTableUptoSaid : Prop := sumTableUptoRow.holds Try.pinned (OpenSpec.upto sumTableSpec)

/-- 'syndiclaw02.SumLast', WHERE WHAT IT READS IS OF BULK AT MOST 1048576: true; the input reads as it did. -/
def sumLastUptoRow : OpenClaim := { program := "ytbagbjhpdjppnaa", sum := "8462d2787fd36a44895069d96305b40f4792117e47f156964a8db84392eeee51", func := "syndic/syndiclaw02.SumLast", spec := "sumLast", apart := false, narrowed := true }
def SumLastUptoSaid : Prop := sumLastUptoRow.holds Try.pinned (OpenSpec.upto sumLastSpec)

end Rows
end Go.Proofs.Ytbagbjhpdjppnaa
