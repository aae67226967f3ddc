/-
  No cell of these rows narrows 'for every input' (looked for: loops, veiled, ifaces, maps, wideKeys, modest, calm, conditions, laid).
  DERIVED. THE GIVEN ROWS OF THIS SEAT. 6 by the template 'for every input the law returns true; each argument reads behind the call as it read before'; 0 by the template 'total and deterministic' (their statements: YtjlohcacpjpdbaaTotals.lean).
  GIVEN WITH THE SEED: the statements are not yours to turn. If you find one false, say at which input.
  Laid BY PROGRAM, IN A SANDBOX (cutbox-rows.mjs): the forced cells as the released guide's own fill.sh prints them over the translation 97c464ff741e76db… (all of the seat's roots in one cut). By AI agents, Wed Nov 11 2026. No macro, syntax, notation, axiom, sorry.
-/
import Derived.Test.YtjlohcacpjpdbaaChecked
import GoSem.Claim
import GoSem.ClaimJoined
import GoSem.ClaimMapViews
import Derived.JoinedTies
import Derived.KernelRfl
namespace Go.Proofs.Ytjlohcacpjpdbaa
/- THE CELL 'sum', in the pinned program and in every row, IS THE sha256 OF THE DUMP (.gsa) THAT YtjlohcacpjpdbaaProg.lean LOADS. Nothing in Lean hashes anything: it is a label: what it is worth is what the hold of that sum in a sandbox is worth. -/
noncomputable def Try.pinned : Pinned := { name := "ytjlohcacpjpdbaa", sum := "97c464ff741e76dbecb98815c172039ea70609ae9263b582ecf48a51346f22cc", checked := Try.checked }
namespace Rows
def none {H : Type} : Left H := { results := [], args := [] }

/-- 'syndiclaw05.BallotTells': WHATEVER THE INPUT: true; the input reads as it did. -/
def ballotTellsSpec : ChangeSpec := { name := "ballotTells", fn := fun _ => fun
  | [d1, d2, d3, d4] => { results := [.lit (.bool true)], args := [d1, d2, d3, d4] }
  | _ => none }
def ballotTellsRow : OpenClaim := { program := "ytjlohcacpjpdbaa", sum := "97c464ff741e76dbecb98815c172039ea70609ae9263b582ecf48a51346f22cc", func := "syndic/syndiclaw05.BallotTells", spec := "ballotTells", unfollowed := true, recurses := true, apart := false }
def BallotTellsSaid : Prop := ballotTellsRow.holds Try.pinned (OpenSpec.ofChange ballotTellsSpec)

/-- ITS FALSE NEIGHBOUR: 'it returns false'. Refute it at one input. -/
def ballotTellsWrong : ChangeSpec := { name := "ballotTells", fn := fun _ => fun
  | [d1, d2, d3, d4] => { results := [.lit (.bool false)], args := [d1, d2, d3, d4] }
  | _ => none }
def BallotTellsWrongFalsely : Prop := ballotTellsRow.holds Try.pinned (OpenSpec.ofChange ballotTellsWrong)

/-- 'syndiclaw05.BallotEnough': WHATEVER THE INPUT: true; the input reads as it did. -/
def ballotEnoughSpec : ChangeSpec := { name := "ballotEnough", fn := fun _ => fun
  | [d1, d2, d3] => { results := [.lit (.bool true)], args := [d1, d2, d3] }
  | _ => none }
def ballotEnoughRow : OpenClaim := { program := "ytjlohcacpjpdbaa", sum := "97c464ff741e76dbecb98815c172039ea70609ae9263b582ecf48a51346f22cc", func := "syndic/syndiclaw05.BallotEnough", spec := "ballotEnough", unfollowed := true, recurses := true, apart := false }
def BallotEnoughSaid : Prop := ballotEnoughRow.holds Try.pinned (OpenSpec.ofChange ballotEnoughSpec)

/-- ITS FALSE NEIGHBOUR: 'it returns false'. Refute it at one input. -/
def ballotEnoughWrong : ChangeSpec := { name := "ballotEnough", fn := fun _ => fun
  | [d1, d2, d3] => { results := [.lit (.bool false)], args := [d1, d2, d3] }
  | _ => none }
def BallotEnoughWrongFalsely : Prop := ballotEnoughRow.holds Try.pinned (OpenSpec.ofChange ballotEnoughWrong)

/-- 'syndiclaw05.BallotCommon': WHATEVER THE INPUT: true; the input reads as it did. -/
def ballotCommonSpec : ChangeSpec := { name := "ballotCommon", fn := fun _ => fun
  | [d1, d2, d3] => { results := [.lit (.bool true)], args := [d1, d2, d3] }
  | _ => none }
def ballotCommonRow : OpenClaim := { program := "ytjlohcacpjpdbaa", sum := "97c464ff741e76dbecb98815c172039ea70609ae9263b582ecf48a51346f22cc", func := "syndic/syndiclaw05.BallotCommon", spec := "ballotCommon", unfollowed := true, recurses := true, apart := false }
def BallotCommonSaid : Prop := ballotCommonRow.holds Try.pinned (OpenSpec.ofChange ballotCommonSpec)

/-- ITS FALSE NEIGHBOUR: 'it returns false'. Refute it at one input. -/
def ballotCommonWrong : ChangeSpec := { name := "ballotCommon", fn := fun _ => fun
  | [d1, d2, d3] => { results := [.lit (.bool false)], args := [d1, d2, d3] }
  | _ => none }
def BallotCommonWrongFalsely : Prop := ballotCommonRow.holds Try.pinned (OpenSpec.ofChange ballotCommonWrong)

/-- 'syndiclaw05.BallotNext': WHATEVER THE INPUT: true; the input reads as it did. -/
def ballotNextSpec : ChangeSpec := { name := "ballotNext", fn := fun _ => fun
  | [d1, d2, d3, d4] => { results := [.lit (.bool true)], args := [d1, d2, d3, d4] }
  | _ => none }
def ballotNextRow : OpenClaim := { program := "ytjlohcacpjpdbaa", sum := "97c464ff741e76dbecb98815c172039ea70609ae9263b582ecf48a51346f22cc", func := "syndic/syndiclaw05.BallotNext", spec := "ballotNext", unfollowed := true, recurses := true, apart := false }
def BallotNextSaid : Prop := ballotNextRow.holds Try.pinned (OpenSpec.ofChange ballotNextSpec)

/-- ITS FALSE NEIGHBOUR: 'it returns false'. Refute it at one input. -/
def ballotNextWrong : ChangeSpec := { name := "ballotNext", fn := fun _ => fun
  | [d1, d2, d3, d4] => { results := [.lit (.bool false)], args := [d1, d2, d3, d4] }
  | _ => none }
def BallotNextWrongFalsely : Prop := ballotNextRow.holds Try.pinned (OpenSpec.ofChange ballotNextWrong)

/-- 'syndiclaw05.BallotQuorum': WHATEVER THE INPUT: true; the input reads as it did. -/
def ballotQuorumSpec : ChangeSpec := { name := "ballotQuorum", fn := fun _ => fun
  | [d1, d2, d3, d4] => { results := [.lit (.bool true)], args := [d1, d2, d3, d4] }
  | _ => none }
def ballotQuorumRow : OpenClaim := { program := "ytjlohcacpjpdbaa", sum := "97c464ff741e76dbecb98815c172039ea70609ae9263b582ecf48a51346f22cc", func := "syndic/syndiclaw05.BallotQuorum", spec := "ballotQuorum", unfollowed := true, recurses := true, apart := false }
def BallotQuorumSaid : Prop := ballotQuorumRow.holds Try.pinned (OpenSpec.ofChange ballotQuorumSpec)

/-- ITS FALSE NEIGHBOUR: 'it returns false'. Refute it at one input. -/
def ballotQuorumWrong : ChangeSpec := { name := "ballotQuorum", fn := fun _ => fun
  | [d1, d2, d3, d4] => { results := [.lit (.bool false)], args := [d1, d2, d3, d4] }
  | _ => none }
def BallotQuorumWrongFalsely : Prop := ballotQuorumRow.holds Try.pinned (OpenSpec.ofChange ballotQuorumWrong)

/-- 'syndiclaw05.BallotOrder': WHATEVER THE INPUT: true; the input reads as it did. -/
def ballotOrderSpec : ChangeSpec := { name := "ballotOrder", fn := fun _ => fun
  | [d1, d2, d3] => { results := [.lit (.bool true)], args := [d1, d2, d3] }
  | _ => none }
def ballotOrderRow : OpenClaim := { program := "ytjlohcacpjpdbaa", sum := "97c464ff741e76dbecb98815c172039ea70609ae9263b582ecf48a51346f22cc", func := "syndic/syndiclaw05.BallotOrder", spec := "ballotOrder", unfollowed := true, recurses := true, apart := false }
def BallotOrderSaid : Prop := ballotOrderRow.holds Try.pinned (OpenSpec.ofChange ballotOrderSpec)

/-- ITS FALSE NEIGHBOUR: 'it returns false'. Refute it at one input. -/
def ballotOrderWrong : ChangeSpec := { name := "ballotOrder", fn := fun _ => fun
  | [d1, d2, d3] => { results := [.lit (.bool false)], args := [d1, d2, d3] }
  | _ => none }
def BallotOrderWrongFalsely : Prop := ballotOrderRow.holds Try.pinned (OpenSpec.ofChange ballotOrderWrong)

/- THE SECOND FORM. 'bulk': how many values and letters a reading holds, each counted each time it is reached (what is shared counts as often as it is met; a slice's spare places count too). A statement '..UptoSaid' is the law's where the arguments, and the package variables that the reading takes, are together of bulk at most 1048576: NARROWER than '..Said'. Prove '..Said' where nothing that the law and all that it calls make is longer than what came in: it says more and counts as full. Else prove '..UptoSaid'. A law counts once. -/
mutual
def uptoBulk {H : Type} : DataW H → Nat
  | .lit (.string bytes) => bytes.length + 1
  | .lit _ => 1
  | .nil => 1
  | .ptr d => uptoBulk d + 1
  | .slice elems spare => uptoBulkAll elems + uptoBulkAll spare + 1
  | .agg parts => uptoBulkAll parts + 1
  | .iface _ d => uptoBulk d + 1
  | .map entries => uptoBulkEntries entries + 1
  | .held _ => 1
def uptoBulkAll {H : Type} : List (DataW H) → Nat
  | [] => 0
  | d :: r => uptoBulk d + uptoBulkAll r
def uptoBulkEntries {H : Type} : List (Lit × DataW H) → Nat
  | [] => 0
  | x :: r => uptoBulkEntry x + uptoBulkEntries r
def uptoBulkEntry {H : Type} : Lit × DataW H → Nat
  | (.string bytes, d) => bytes.length + uptoBulk d + 1
  | (_, d) => uptoBulk d + 1
 end
def uptoSmall : (H : Type) → List (DataW H) → Bool := fun _ ds => decide (uptoBulkAll ds ≤ 1048576)
def OpenSpec.upto (s : _root_.Go.ChangeSpec) : _root_.Go.OpenSpec := { _root_.Go.OpenSpec.ofChange s with cond := some uptoSmall }

/-- 'syndiclaw05.BallotTells', WHERE WHAT IT READS IS OF BULK AT MOST 1048576: true; the input reads as it did. -/
def ballotTellsUptoRow : OpenClaim := { program := "ytjlohcacpjpdbaa", sum := "97c464ff741e76dbecb98815c172039ea70609ae9263b582ecf48a51346f22cc", func := "syndic/syndiclaw05.BallotTells", spec := "ballotTells", unfollowed := true, recurses := true, apart := false, narrowed := true }
def BallotTellsUptoSaid : Prop := ballotTellsUptoRow.holds Try.pinned (OpenSpec.upto ballotTellsSpec)

/-- 'syndiclaw05.BallotEnough', WHERE WHAT IT READS IS OF BULK AT MOST 1048576: true; the input reads as it did. -/
def ballotEnoughUptoRow : OpenClaim := { program := "ytjlohcacpjpdbaa", sum := "97c464ff741e76dbecb98815c172039ea70609ae9263b582ecf48a51346f22cc", func := "syndic/syndiclaw05.BallotEnough", spec := "ballotEnough", unfollowed := true, recurses := true, apart := false, narrowed := true }
def BallotEnoughUptoSaid : Prop := ballotEnoughUptoRow.holds Try.pinned (OpenSpec.upto ballotEnoughSpec)

/-- 'syndiclaw05.BallotCommon', WHERE WHAT IT READS IS OF BULK AT MOST 1048576: true; the input reads as it did. -/
def ballotCommonUptoRow : OpenClaim := { program := "ytjlohcacpjpdbaa", sum := "97c464ff741e76dbecb98815c172039ea70609ae9263b582ecf48a51346f22cc", func := "syndic/syndiclaw05.BallotCommon", spec := "ballotCommon", unfollowed := true, recurses := true, apart := false, narrowed := true }
def BallotCommonUptoSaid : Prop := ballotCommonUptoRow.holds Try.pinned (OpenSpec.upto ballotCommonSpec)

/-- 'syndiclaw05.BallotNext', WHERE WHAT IT READS IS OF BULK AT MOST 1048576: true; the input reads as it did. -/
def ballotNextUptoRow : OpenClaim := { program := "ytjlohcacpjpdbaa", sum := "97c464ff741e76dbecb98815c172039ea70609ae9263b582ecf48a51346f22cc", func := "syndic/syndiclaw05.BallotNext", spec := "ballotNext", unfollowed := true, recurses := true, apart := false, narrowed := true }
def BallotNextUptoSaid : Prop := ballotNextUptoRow.holds Try.pinned (OpenSpec.upto ballotNextSpec)

/-- 'syndiclaw05.BallotQuorum', WHERE WHAT IT READS IS OF BULK AT MOST 1048576: true; the input reads as it did. -/
def ballotQuorumUptoRow : OpenClaim := { program := "ytjlohcacpjpdbaa", sum := "97c464ff741e76dbecb98815c172039ea70609ae9263b582ecf48a51346f22cc", func := "syndic/syndiclaw05.BallotQuorum", spec := "ballotQuorum", unfollowed := true, recurses := true, apart := false, narrowed := true }
def BallotQuorumUptoSaid : Prop := ballotQuorumUptoRow.holds Try.pinned (OpenSpec.upto ballotQuorumSpec)

/-- 'syndiclaw05.BallotOrder', WHERE WHAT IT READS IS OF BULK AT MOST 1048576: true; the input reads as it did. -/
def ballotOrderUptoRow : OpenClaim := { program := "ytjlohcacpjpdbaa", sum := "97c464ff741e76dbecb98815c172039ea70609ae9263b582ecf48a51346f22cc", func := "syndic/syndiclaw05.BallotOrder", spec := "ballotOrder", unfollowed := true, recurses := true, apart := false, narrowed := true }
def BallotOrderUptoSaid : Prop := ballotOrderUptoRow.holds Try.pinned (OpenSpec.upto ballotOrderSpec)

end Rows
end Go.Proofs.Ytjlohcacpjpdbaa
