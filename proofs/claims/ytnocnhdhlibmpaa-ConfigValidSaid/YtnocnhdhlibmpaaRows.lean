/-
  No cell of these rows narrows 'for every input' (looked for: loops, veiled, ifaces, maps, wideKeys, modest, calm, conditions, laid).
  DERIVED. THE GIVEN ROWS OF THIS SEAT. 6 by the template 'for every input the law returns true; each argument reads behind the call as it read before'; 0 by the template 'total and deterministic' (their statements: YtnocnhdhlibmpaaTotals.lean).
  GIVEN WITH THE SEED: the statements are not yours to turn. If you find one false, say at which input.
  Laid BY PROGRAM, IN A SANDBOX (cutbox-rows.mjs): the forced cells as the released guide's own fill.sh prints them over the translation 9b9ca3e4b78c4584… (all of the seat's roots in one cut). By AI agents, Wed Nov 11 2026. No macro, syntax, notation, axiom, sorry.
-/
import Derived.Test.YtnocnhdhlibmpaaChecked
import GoSem.Claim
import GoSem.ClaimJoined
import GoSem.ClaimMapViews
import Derived.JoinedTies
import Derived.KernelRfl
namespace Go.Proofs.Ytnocnhdhlibmpaa
/- THE CELL 'sum', in the pinned program and in every row, IS THE sha256 OF THE DUMP (.gsa) THAT YtnocnhdhlibmpaaProg.lean LOADS. Nothing in Lean hashes anything: it is a label: what it is worth is what the hold of that sum in a sandbox is worth. -/
noncomputable def Try.pinned : Pinned := { name := "ytnocnhdhlibmpaa", sum := "9b9ca3e4b78c4584a71fd04d675fbe92e2f2bbe0e720d6667c713dac025c9196", checked := Try.checked }
namespace Rows
def none {H : Type} : Left H := { results := [], args := [] }

/-- 'syndiclaw10.ConfigChanges': WHATEVER THE INPUT: true; the input reads as it did. -/
def configChangesSpec : ChangeSpec := { name := "configChanges", fn := fun _ => fun
  | [d1, d2] => { results := [.lit (.bool true)], args := [d1, d2] }
  | _ => none }
def configChangesRow : OpenClaim := { program := "ytnocnhdhlibmpaa", sum := "9b9ca3e4b78c4584a71fd04d675fbe92e2f2bbe0e720d6667c713dac025c9196", func := "syndic/syndiclaw10.ConfigChanges", spec := "configChanges", unfollowed := true, recurses := true, apart := false }
def ConfigChangesSaid : Prop := configChangesRow.holds Try.pinned (OpenSpec.ofChange configChangesSpec)

/-- ITS FALSE NEIGHBOUR: 'it returns false'. Refute it at one input. -/
def configChangesWrong : ChangeSpec := { name := "configChanges", fn := fun _ => fun
  | [d1, d2] => { results := [.lit (.bool false)], args := [d1, d2] }
  | _ => none }
def ConfigChangesWrongFalsely : Prop := configChangesRow.holds Try.pinned (OpenSpec.ofChange configChangesWrong)

/-- 'syndiclaw10.ConfigFollows': WHATEVER THE INPUT: true; the input reads as it did. -/
def configFollowsSpec : ChangeSpec := { name := "configFollows", fn := fun _ => fun
  | [d1, d2] => { results := [.lit (.bool true)], args := [d1, d2] }
  | _ => none }
def configFollowsRow : OpenClaim := { program := "ytnocnhdhlibmpaa", sum := "9b9ca3e4b78c4584a71fd04d675fbe92e2f2bbe0e720d6667c713dac025c9196", func := "syndic/syndiclaw10.ConfigFollows", spec := "configFollows", unfollowed := true, recurses := true, apart := false }
def ConfigFollowsSaid : Prop := configFollowsRow.holds Try.pinned (OpenSpec.ofChange configFollowsSpec)

/-- ITS FALSE NEIGHBOUR: 'it returns false'. Refute it at one input. -/
def configFollowsWrong : ChangeSpec := { name := "configFollows", fn := fun _ => fun
  | [d1, d2] => { results := [.lit (.bool false)], args := [d1, d2] }
  | _ => none }
def ConfigFollowsWrongFalsely : Prop := configFollowsRow.holds Try.pinned (OpenSpec.ofChange configFollowsWrong)

/-- 'syndiclaw10.ConfigOne': WHATEVER THE INPUT: true; the input reads as it did. -/
def configOneSpec : ChangeSpec := { name := "configOne", fn := fun _ => fun
  | [d1, d2] => { results := [.lit (.bool true)], args := [d1, d2] }
  | _ => none }
def configOneRow : OpenClaim := { program := "ytnocnhdhlibmpaa", sum := "9b9ca3e4b78c4584a71fd04d675fbe92e2f2bbe0e720d6667c713dac025c9196", func := "syndic/syndiclaw10.ConfigOne", spec := "configOne", unfollowed := true, recurses := true, apart := false }
def ConfigOneSaid : Prop := configOneRow.holds Try.pinned (OpenSpec.ofChange configOneSpec)

/-- ITS FALSE NEIGHBOUR: 'it returns false'. Refute it at one input. -/
def configOneWrong : ChangeSpec := { name := "configOne", fn := fun _ => fun
  | [d1, d2] => { results := [.lit (.bool false)], args := [d1, d2] }
  | _ => none }
def ConfigOneWrongFalsely : Prop := configOneRow.holds Try.pinned (OpenSpec.ofChange configOneWrong)

/-- 'syndiclaw10.ConfigBack': WHATEVER THE INPUT: true; the input reads as it did. -/
def configBackSpec : ChangeSpec := { name := "configBack", fn := fun _ => fun
  | [d1, d2, d3] => { results := [.lit (.bool true)], args := [d1, d2, d3] }
  | _ => none }
def configBackRow : OpenClaim := { program := "ytnocnhdhlibmpaa", sum := "9b9ca3e4b78c4584a71fd04d675fbe92e2f2bbe0e720d6667c713dac025c9196", func := "syndic/syndiclaw10.ConfigBack", spec := "configBack", unfollowed := true, recurses := true, apart := false }
def ConfigBackSaid : Prop := configBackRow.holds Try.pinned (OpenSpec.ofChange configBackSpec)

/-- ITS FALSE NEIGHBOUR: 'it returns false'. Refute it at one input. -/
def configBackWrong : ChangeSpec := { name := "configBack", fn := fun _ => fun
  | [d1, d2, d3] => { results := [.lit (.bool false)], args := [d1, d2, d3] }
  | _ => none }
def ConfigBackWrongFalsely : Prop := configBackRow.holds Try.pinned (OpenSpec.ofChange configBackWrong)

/-- 'syndiclaw10.ConfigValid': WHATEVER THE INPUT: true; the input reads as it did. -/
def configValidSpec : ChangeSpec := { name := "configValid", fn := fun _ => fun
  | [d1, d2] => { results := [.lit (.bool true)], args := [d1, d2] }
  | _ => none }
def configValidRow : OpenClaim := { program := "ytnocnhdhlibmpaa", sum := "9b9ca3e4b78c4584a71fd04d675fbe92e2f2bbe0e720d6667c713dac025c9196", func := "syndic/syndiclaw10.ConfigValid", spec := "configValid", unfollowed := true, recurses := true, apart := false }
def ConfigValidSaid : Prop := configValidRow.holds Try.pinned (OpenSpec.ofChange configValidSpec)

/-- ITS FALSE NEIGHBOUR: 'it returns false'. Refute it at one input. -/
def configValidWrong : ChangeSpec := { name := "configValid", fn := fun _ => fun
  | [d1, d2] => { results := [.lit (.bool false)], args := [d1, d2] }
  | _ => none }
def ConfigValidWrongFalsely : Prop := configValidRow.holds Try.pinned (OpenSpec.ofChange configValidWrong)

/-- 'syndiclaw10.ConfigOrder': WHATEVER THE INPUT: true; the input reads as it did. -/
def configOrderSpec : ChangeSpec := { name := "configOrder", fn := fun _ => fun
  | [d1, d2, d3] => { results := [.lit (.bool true)], args := [d1, d2, d3] }
  | _ => none }
def configOrderRow : OpenClaim := { program := "ytnocnhdhlibmpaa", sum := "9b9ca3e4b78c4584a71fd04d675fbe92e2f2bbe0e720d6667c713dac025c9196", func := "syndic/syndiclaw10.ConfigOrder", spec := "configOrder", unfollowed := true, recurses := true, apart := false }
def ConfigOrderSaid : Prop := configOrderRow.holds Try.pinned (OpenSpec.ofChange configOrderSpec)

/-- ITS FALSE NEIGHBOUR: 'it returns false'. Refute it at one input. -/
def configOrderWrong : ChangeSpec := { name := "configOrder", fn := fun _ => fun
  | [d1, d2, d3] => { results := [.lit (.bool false)], args := [d1, d2, d3] }
  | _ => none }
def ConfigOrderWrongFalsely : Prop := configOrderRow.holds Try.pinned (OpenSpec.ofChange configOrderWrong)

/- THE SECOND FORM. 'bulk': how many values and letters a reading holds, each counted each time it is reached (what is shared counts as often as it is met; a slice's spare places count too). A statement '..UptoSaid' is the law's where the arguments, and the package variables that the reading takes, are together of bulk at most 1048576: NARROWER than '..Said'. Prove '..Said' where nothing that the law and all that it calls make is longer than what came in: it says more and counts as full. Else prove '..UptoSaid'. A law counts once. -/
mutual
def uptoBulk {H : Type} : DataW H → Nat
  | .lit (.string bytes) => bytes.length + 1
  | .lit _ => 1
  | .nil => 1
  | .ptr d => uptoBulk d + 1
  | .slice elems spare => uptoBulkAll elems + uptoBulkAll spare + 1
  | .agg parts => uptoBulkAll parts + 1
  | .iface _ d => uptoBulk d + 1
  | .map entries => uptoBulkEntries entries + 1
  | .held _ => 1
def uptoBulkAll {H : Type} : List (DataW H) → Nat
  | [] => 0
  | d :: r => uptoBulk d + uptoBulkAll r
def uptoBulkEntries {H : Type} : List (Lit × DataW H) → Nat
  | [] => 0
  | x :: r => uptoBulkEntry x + uptoBulkEntries r
def uptoBulkEntry {H : Type} : Lit × DataW H → Nat
  | (.string bytes, d) => bytes.length + uptoBulk d + 1
  | (_, d) => uptoBulk d + 1
 end
def uptoSmall : (H : Type) → List (DataW H) → Bool := fun _ ds => decide (uptoBulkAll ds ≤ 1048576)
def OpenSpec.upto (s : _root_.Go.ChangeSpec) : _root_.Go.OpenSpec := { _root_.Go.OpenSpec.ofChange s with cond := some uptoSmall }

/-- 'syndiclaw10.ConfigChanges', WHERE WHAT IT READS IS OF BULK AT MOST 1048576: true; the input reads as it did. -/
def configChangesUptoRow : OpenClaim := { program := "ytnocnhdhlibmpaa", sum := "9b9ca3e4b78c4584a71fd04d675fbe92e2f2bbe0e720d6667c713dac025c9196", func := "syndic/syndiclaw10.ConfigChanges", spec := "configChanges", unfollowed := true, recurses := true, apart := false, narrowed := true }
def ConfigChangesUptoSaid : Prop := configChangesUptoRow.holds Try.pinned (OpenSpec.upto configChangesSpec)

/-- 'syndiclaw10.ConfigFollows', WHERE WHAT IT READS IS OF BULK AT MOST 1048576: true; the input reads as it did. -/
def configFollowsUptoRow : OpenClaim := { program := "ytnocnhdhlibmpaa", sum := "9b9ca3e4b78c4584a71fd04d675fbe92e2f2bbe0e720d6667c713dac025c9196", func := "syndic/syndiclaw10.ConfigFollows", spec := "configFollows", unfollowed := true, recurses := true, apart := false, narrowed := true }
def ConfigFollowsUptoSaid : Prop := configFollowsUptoRow.holds Try.pinned (OpenSpec.upto configFollowsSpec)

/-- 'syndiclaw10.ConfigOne', WHERE WHAT IT READS IS OF BULK AT MOST 1048576: true; the input reads as it did. -/
def configOneUptoRow : OpenClaim := { program := "ytnocnhdhlibmpaa", sum := "9b9ca3e4b78c4584a71fd04d675fbe92e2f2bbe0e720d6667c713dac025c9196", func := "syndic/syndiclaw10.ConfigOne", spec := "configOne", unfollowed := true, recurses := true, apart := false, narrowed := true }
def ConfigOneUptoSaid : Prop := configOneUptoRow.holds Try.pinned (OpenSpec.upto configOneSpec)

/-- 'syndiclaw10.ConfigBack', WHERE WHAT IT READS IS OF BULK AT MOST 1048576: true; the input reads as it did. -/
def configBackUptoRow : OpenClaim := { program := "ytnocnhdhlibmpaa", sum := "9b9ca3e4b78c4584a71fd04d675fbe92e2f2bbe0e720d6667c713dac025c9196", func := "syndic/syndiclaw10.ConfigBack", spec := "configBack", unfollowed := true, recurses := true, apart := false, narrowed := true }
def ConfigBackUptoSaid : Prop := configBackUptoRow.holds Try.pinned (OpenSpec.upto configBackSpec)

/-- 'syndiclaw10.ConfigValid', WHERE WHAT IT READS IS OF BULK AT MOST 1048576: true; the input reads as it did. -/
def configValidUptoRow : OpenClaim := { program := "ytnocnhdhlibmpaa", sum := "9b9ca3e4b78c4584a71fd04d675fbe92e2f2bbe0e720d6667c713dac025c9196", func := "syndic/syndiclaw10.ConfigValid", spec := "configValid", unfollowed := true, recurses := true, apart := false, narrowed := true }
def ConfigValidUptoSaid : Prop := configValidUptoRow.holds Try.pinned (OpenSpec.upto configValidSpec)

/-- 'syndiclaw10.ConfigOrder', WHERE WHAT IT READS IS OF BULK AT MOST 1048576: true; the input reads as it did. -/
def configOrderUptoRow : OpenClaim := { program := "ytnocnhdhlibmpaa", sum := "9b9ca3e4b78c4584a71fd04d675fbe92e2f2bbe0e720d6667c713dac025c9196", func := "syndic/syndiclaw10.ConfigOrder", spec := "configOrder", unfollowed := true, recurses := true, apart := false, narrowed := true }
def ConfigOrderUptoSaid : Prop := configOrderUptoRow.holds Try.pinned (OpenSpec.upto configOrderSpec)

end Rows
end Go.Proofs.Ytnocnhdhlibmpaa
