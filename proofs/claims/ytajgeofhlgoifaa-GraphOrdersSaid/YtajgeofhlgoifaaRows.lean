/-
  No cell of these rows narrows 'for every input' (looked for: loops, veiled, ifaces, maps, wideKeys, modest, calm, conditions, laid).
  DERIVED. THE GIVEN ROWS OF THIS SEAT. 7 by the template 'for every input the law returns true; each argument reads behind the call as it read before'; 0 by the template 'total and deterministic' (their statements: YtajgeofhlgoifaaTotals.lean).
  GIVEN WITH THE SEED: the statements are not yours to turn. If you find one false, say at which input.
  Laid BY PROGRAM, IN A SANDBOX (cutbox-rows.mjs): the forced cells as the released guide's own fill.sh prints them over the translation c51e7c312552d029… (all of the seat's roots in one cut). By AI agents, Wed Nov 11 2026. No macro, syntax, notation, axiom, sorry.
-/
import Derived.Test.YtajgeofhlgoifaaChecked
import GoSem.Claim
import GoSem.ClaimJoined
import GoSem.ClaimMapViews
import Derived.JoinedTies
import Derived.KernelRfl
namespace Go.Proofs.Ytajgeofhlgoifaa
/- THE CELL 'sum', in the pinned program and in every row, IS THE sha256 OF THE DUMP (.gsa) THAT YtajgeofhlgoifaaProg.lean LOADS. Nothing in Lean hashes anything: it is a label: what it is worth is what the hold of that sum in a sandbox is worth. -/
noncomputable def Try.pinned : Pinned := { name := "ytajgeofhlgoifaa", sum := "c51e7c312552d029abb75c3b1648553c179124c12391ab3578091289f406bae0", checked := Try.checked }
namespace Rows
def none {H : Type} : Left H := { results := [], args := [] }

/-- 'syndiclaw12.GraphOrders': WHATEVER THE INPUT: true; the input reads as it did. -/
def graphOrdersSpec : ChangeSpec := { name := "graphOrders", fn := fun _ => fun
  | [d1, d2, d3] => { results := [.lit (.bool true)], args := [d1, d2, d3] }
  | _ => none }
def graphOrdersRow : OpenClaim := { program := "ytajgeofhlgoifaa", sum := "c51e7c312552d029abb75c3b1648553c179124c12391ab3578091289f406bae0", func := "syndic/syndiclaw12.GraphOrders", spec := "graphOrders", unfollowed := true, recurses := true, plainKeys := false, apart := false }
def GraphOrdersSaid : Prop := graphOrdersRow.holds Try.pinned (OpenSpec.ofChange graphOrdersSpec)

/-- ITS FALSE NEIGHBOUR: 'it returns false'. Refute it at one input. -/
def graphOrdersWrong : ChangeSpec := { name := "graphOrders", fn := fun _ => fun
  | [d1, d2, d3] => { results := [.lit (.bool false)], args := [d1, d2, d3] }
  | _ => none }
def GraphOrdersWrongFalsely : Prop := graphOrdersRow.holds Try.pinned (OpenSpec.ofChange graphOrdersWrong)

/-- 'syndiclaw12.GraphMore': WHATEVER THE INPUT: true; the input reads as it did. -/
def graphMoreSpec : ChangeSpec := { name := "graphMore", fn := fun _ => fun
  | [d1, d2, d3, d4] => { results := [.lit (.bool true)], args := [d1, d2, d3, d4] }
  | _ => none }
def graphMoreRow : OpenClaim := { program := "ytajgeofhlgoifaa", sum := "c51e7c312552d029abb75c3b1648553c179124c12391ab3578091289f406bae0", func := "syndic/syndiclaw12.GraphMore", spec := "graphMore", unfollowed := true, recurses := true, plainKeys := false, apart := false }
def GraphMoreSaid : Prop := graphMoreRow.holds Try.pinned (OpenSpec.ofChange graphMoreSpec)

/-- ITS FALSE NEIGHBOUR: 'it returns false'. Refute it at one input. -/
def graphMoreWrong : ChangeSpec := { name := "graphMore", fn := fun _ => fun
  | [d1, d2, d3, d4] => { results := [.lit (.bool false)], args := [d1, d2, d3, d4] }
  | _ => none }
def GraphMoreWrongFalsely : Prop := graphMoreRow.holds Try.pinned (OpenSpec.ofChange graphMoreWrong)

/-- 'syndiclaw12.GraphSteps': WHATEVER THE INPUT: true; the input reads as it did. -/
def graphStepsSpec : ChangeSpec := { name := "graphSteps", fn := fun _ => fun
  | [d1, d2] => { results := [.lit (.bool true)], args := [d1, d2] }
  | _ => none }
def graphStepsRow : OpenClaim := { program := "ytajgeofhlgoifaa", sum := "c51e7c312552d029abb75c3b1648553c179124c12391ab3578091289f406bae0", func := "syndic/syndiclaw12.GraphSteps", spec := "graphSteps", unfollowed := true, recurses := true, plainKeys := false, apart := false }
def GraphStepsSaid : Prop := graphStepsRow.holds Try.pinned (OpenSpec.ofChange graphStepsSpec)

/-- ITS FALSE NEIGHBOUR: 'it returns false'. Refute it at one input. -/
def graphStepsWrong : ChangeSpec := { name := "graphSteps", fn := fun _ => fun
  | [d1, d2] => { results := [.lit (.bool false)], args := [d1, d2] }
  | _ => none }
def GraphStepsWrongFalsely : Prop := graphStepsRow.holds Try.pinned (OpenSpec.ofChange graphStepsWrong)

/-- 'syndiclaw12.GraphReach': WHATEVER THE INPUT: true; the input reads as it did. -/
def graphReachSpec : ChangeSpec := { name := "graphReach", fn := fun _ => fun
  | [d1, d2, d3] => { results := [.lit (.bool true)], args := [d1, d2, d3] }
  | _ => none }
def graphReachRow : OpenClaim := { program := "ytajgeofhlgoifaa", sum := "c51e7c312552d029abb75c3b1648553c179124c12391ab3578091289f406bae0", func := "syndic/syndiclaw12.GraphReach", spec := "graphReach", unfollowed := true, recurses := true, plainKeys := false, apart := false }
def GraphReachSaid : Prop := graphReachRow.holds Try.pinned (OpenSpec.ofChange graphReachSpec)

/-- ITS FALSE NEIGHBOUR: 'it returns false'. Refute it at one input. -/
def graphReachWrong : ChangeSpec := { name := "graphReach", fn := fun _ => fun
  | [d1, d2, d3] => { results := [.lit (.bool false)], args := [d1, d2, d3] }
  | _ => none }
def GraphReachWrongFalsely : Prop := graphReachRow.holds Try.pinned (OpenSpec.ofChange graphReachWrong)

/-- 'syndiclaw12.GraphGroups': WHATEVER THE INPUT: true; the input reads as it did. -/
def graphGroupsSpec : ChangeSpec := { name := "graphGroups", fn := fun _ => fun
  | [d] => { results := [.lit (.bool true)], args := [d] }
  | _ => none }
def graphGroupsRow : OpenClaim := { program := "ytajgeofhlgoifaa", sum := "c51e7c312552d029abb75c3b1648553c179124c12391ab3578091289f406bae0", func := "syndic/syndiclaw12.GraphGroups", spec := "graphGroups", unfollowed := true, recurses := true, plainKeys := false, apart := false }
def GraphGroupsSaid : Prop := graphGroupsRow.holds Try.pinned (OpenSpec.ofChange graphGroupsSpec)

/-- ITS FALSE NEIGHBOUR: 'it returns false'. Refute it at one input. -/
def graphGroupsWrong : ChangeSpec := { name := "graphGroups", fn := fun _ => fun
  | [d] => { results := [.lit (.bool false)], args := [d] }
  | _ => none }
def GraphGroupsWrongFalsely : Prop := graphGroupsRow.holds Try.pinned (OpenSpec.ofChange graphGroupsWrong)

/-- 'syndiclaw12.GraphDone': WHATEVER THE INPUT: true; the input reads as it did. -/
def graphDoneSpec : ChangeSpec := { name := "graphDone", fn := fun _ => fun
  | [d1, d2] => { results := [.lit (.bool true)], args := [d1, d2] }
  | _ => none }
def graphDoneRow : OpenClaim := { program := "ytajgeofhlgoifaa", sum := "c51e7c312552d029abb75c3b1648553c179124c12391ab3578091289f406bae0", func := "syndic/syndiclaw12.GraphDone", spec := "graphDone", unfollowed := true, recurses := true, plainKeys := false, apart := false }
def GraphDoneSaid : Prop := graphDoneRow.holds Try.pinned (OpenSpec.ofChange graphDoneSpec)

/-- ITS FALSE NEIGHBOUR: 'it returns false'. Refute it at one input. -/
def graphDoneWrong : ChangeSpec := { name := "graphDone", fn := fun _ => fun
  | [d1, d2] => { results := [.lit (.bool false)], args := [d1, d2] }
  | _ => none }
def GraphDoneWrongFalsely : Prop := graphDoneRow.holds Try.pinned (OpenSpec.ofChange graphDoneWrong)

/-- 'syndiclaw12.GraphAhead': WHATEVER THE INPUT: true; the input reads as it did. -/
def graphAheadSpec : ChangeSpec := { name := "graphAhead", fn := fun _ => fun
  | [d1, d2] => { results := [.lit (.bool true)], args := [d1, d2] }
  | _ => none }
def graphAheadRow : OpenClaim := { program := "ytajgeofhlgoifaa", sum := "c51e7c312552d029abb75c3b1648553c179124c12391ab3578091289f406bae0", func := "syndic/syndiclaw12.GraphAhead", spec := "graphAhead", unfollowed := true, recurses := true, plainKeys := false, apart := false }
def GraphAheadSaid : Prop := graphAheadRow.holds Try.pinned (OpenSpec.ofChange graphAheadSpec)

/-- ITS FALSE NEIGHBOUR: 'it returns false'. Refute it at one input. -/
def graphAheadWrong : ChangeSpec := { name := "graphAhead", fn := fun _ => fun
  | [d1, d2] => { results := [.lit (.bool false)], args := [d1, d2] }
  | _ => none }
def GraphAheadWrongFalsely : Prop := graphAheadRow.holds Try.pinned (OpenSpec.ofChange graphAheadWrong)

/- THE SECOND FORM. 'bulk': how many values and letters a reading holds, each counted each time it is reached (what is shared counts as often as it is met; a slice's spare places count too). A statement '..UptoSaid' is the law's where the arguments, and the package variables that the reading takes, are together of bulk at most 1048576: NARROWER than '..Said'. Prove '..Said' where nothing that the law and all that it calls make is longer than what came in: it says more and counts as full. Else prove '..UptoSaid'. A law counts once. -/
mutual
def uptoBulk {H : Type} : DataW H → Nat
  | .lit (.string bytes) => bytes.length + 1
  | .lit _ => 1
  | .nil => 1
  | .ptr d => uptoBulk d + 1
  | .slice elems spare => uptoBulkAll elems + uptoBulkAll spare + 1
  | .agg parts => uptoBulkAll parts + 1
  | .iface _ d => uptoBulk d + 1
  | .map entries => uptoBulkEntries entries + 1
  | .held _ => 1
def uptoBulkAll {H : Type} : List (DataW H) → Nat
  | [] => 0
  | d :: r => uptoBulk d + uptoBulkAll r
def uptoBulkEntries {H : Type} : List (Lit × DataW H) → Nat
  | [] => 0
  | x :: r => uptoBulkEntry x + uptoBulkEntries r
def uptoBulkEntry {H : Type} : Lit × DataW H → Nat
  | (.string bytes, d) => bytes.length + uptoBulk d + 1
  | (_, d) => uptoBulk d + 1
 end
def uptoSmall : (H : Type) → List (DataW H) → Bool := fun _ ds => decide (uptoBulkAll ds ≤ 1048576)
def OpenSpec.upto (s : _root_.Go.ChangeSpec) : _root_.Go.OpenSpec := { _root_.Go.OpenSpec.ofChange s with cond := some uptoSmall }

/-- 'syndiclaw12.GraphOrders', WHERE WHAT IT READS IS OF BULK AT MOST 1048576: true; the input reads as it did. -/
def graphOrdersUptoRow : OpenClaim := { program := "ytajgeofhlgoifaa", sum := "c51e7c312552d029abb75c3b1648553c179124c12391ab3578091289f406bae0", func := "syndic/syndiclaw12.GraphOrders", spec := "graphOrders", unfollowed := true, recurses := true, plainKeys := false, apart := false, narrowed := true }
def GraphOrdersUptoSaid : Prop := graphOrdersUptoRow.holds Try.pinned (OpenSpec.upto graphOrdersSpec)

/-- 'syndiclaw12.GraphMore', WHERE WHAT IT READS IS OF BULK AT MOST 1048576: true; the input reads as it did. -/
def graphMoreUptoRow : OpenClaim := { program := "ytajgeofhlgoifaa", sum := "c51e7c312552d029abb75c3b1648553c179124c12391ab3578091289f406bae0", func := "syndic/syndiclaw12.GraphMore", spec := "graphMore", unfollowed := true, recurses := true, plainKeys := false, apart := false, narrowed := true }
def GraphMoreUptoSaid : Prop := graphMoreUptoRow.holds Try.pinned (OpenSpec.upto graphMoreSpec)

/-- 'syndiclaw12.GraphSteps', WHERE WHAT IT READS IS OF BULK AT MOST 1048576: true; the input reads as it did. -/
def graphStepsUptoRow : OpenClaim := { program := "ytajgeofhlgoifaa", sum := "c51e7c312552d029abb75c3b1648553c179124c12391ab3578091289f406bae0", func := "syndic/syndiclaw12.GraphSteps", spec := "graphSteps", unfollowed := true, recurses := true, plainKeys := false, apart := false, narrowed := true }
def GraphStepsUptoSaid : Prop := graphStepsUptoRow.holds Try.pinned (OpenSpec.upto graphStepsSpec)

/-- 'syndiclaw12.GraphReach', WHERE WHAT IT READS IS OF BULK AT MOST 1048576: true; the input reads as it did. -/
def graphReachUptoRow : OpenClaim := { program := "ytajgeofhlgoifaa", sum := "c51e7c312552d029abb75c3b1648553c179124c12391ab3578091289f406bae0", func := "syndic/syndiclaw12.GraphReach", spec := "graphReach", unfollowed := true, recurses := true, plainKeys := false, apart := false, narrowed := true }
def GraphReachUptoSaid : Prop := graphReachUptoRow.holds Try.pinned (OpenSpec.upto graphReachSpec)

/-- 'syndiclaw12.GraphGroups', WHERE WHAT IT READS IS OF BULK AT MOST 1048576: true; the input reads as it did. -/
def graphGroupsUptoRow : OpenClaim := { program := "ytajgeofhlgoifaa", sum := "c51e7c312552d029abb75c3b1648553c179124c12391ab3578091289f406bae0", func := "syndic/syndiclaw12.GraphGroups", spec := "graphGroups", unfollowed := true, recurses := true, plainKeys := false, apart := false, narrowed := true }
def GraphGroupsUptoSaid : Prop := graphGroupsUptoRow.holds Try.pinned (OpenSpec.upto graphGroupsSpec)

/-- 'syndiclaw12.GraphDone', WHERE WHAT IT READS IS OF BULK AT MOST 1048576: true; the input reads as it did. -/
def graphDoneUptoRow : OpenClaim := { program := "ytajgeofhlgoifaa", sum := "c51e7c312552d029abb75c3b1648553c179124c12391ab3578091289f406bae0", func := "syndic/syndiclaw12.GraphDone", spec := "graphDone", unfollowed := true, recurses := true, plainKeys := false, apart := false, narrowed := true }
def GraphDoneUptoSaid : Prop := graphDoneUptoRow.holds Try.pinned (OpenSpec.upto graphDoneSpec)

/-- 'syndiclaw12.GraphAhead', WHERE WHAT IT READS IS OF BULK AT MOST 1048576: true; the input reads as it did. -/
def graphAheadUptoRow : OpenClaim := { program := "ytajgeofhlgoifaa", sum := "c51e7c312552d029abb75c3b1648553c179124c12391ab3578091289f406bae0", func := "syndic/syndiclaw12.GraphAhead", spec := "graphAhead", unfollowed := true, recurses := true, plainKeys := false, apart := false, narrowed := true }
def GraphAheadUptoSaid : Prop := graphAheadUptoRow.holds Try.pinned (OpenSpec.upto graphAheadSpec)

end Rows
end Go.Proofs.Ytajgeofhlgoifaa
