/- As XRegion, where at some place either of two operations may come up: then both ways are walked. -/
import Derived.Test.YtdncoobpdllpkaaGreatRegion
import Derived.Deep.DeepCutAuto
set_option linter.unusedVariables false
namespace Go.Proofs.YtdncoobpdllpkaaGreat.Reg
open Go
inductive Tree
  | done
  | q (i : Nat) (r : Tree)
  | a (i : Nat) (r : Tree)
  | two (i j : Nat) (r s : Tree)
  | three (i j k : Nat) (r s t : Tree)
section
variable {P : Program} {ops : Array Oper} {S : World → Prop} {Q : Exit → Act → World → Prop}
def treeB (ops : Array Oper) : Tree → Nat → Array Bool → Bool
  | .done, n, listed => n == 0 && (Region.ready .any ops listed).isEmpty
  | .a i r, n + 1, listed => (Region.ready .any ops listed == [i]) && treeB ops r n (listed.setIfInBounds i true)
  | .q i r, n + 1, listed => (Region.ready .any ops listed).contains i && Region.free .any ops listed i && treeB ops r n (listed.setIfInBounds i true)
  | .two i j r s, n + 1, listed => (Region.ready .any ops listed == [i, j]) && treeB ops r n (listed.setIfInBounds i true) && treeB ops s n (listed.setIfInBounds j true)
  | .three i j k r s t, n + 1, listed => (Region.ready .any ops listed == [i, j, k]) && treeB ops r n (listed.setIfInBounds i true) && treeB ops s n (listed.setIfInBounds j true) && treeB ops t n (listed.setIfInBounds k true)
  | _, 0, _ => false
end
end Go.Proofs.YtdncoobpdllpkaaGreat.Reg
