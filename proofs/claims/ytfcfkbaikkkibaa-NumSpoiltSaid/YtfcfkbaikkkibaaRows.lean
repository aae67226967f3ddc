/-
  No cell of these rows narrows 'for every input' (looked for: loops, veiled, ifaces, maps, wideKeys, modest, calm, conditions, laid).
  DERIVED. THE GIVEN ROWS OF THIS SEAT. 5 by the template 'for every input the law returns true; each argument reads behind the call as it read before'; 0 by the template 'total and deterministic' (their statements: YtfcfkbaikkkibaaTotals.lean).
  GIVEN WITH THE SEED: the statements are not yours to turn. If you find one false, say at which input.
  Laid BY PROGRAM, IN A SANDBOX (cutbox-rows.mjs): the forced cells as the released guide's own fill.sh prints them over the translation e943a405de38514d… (all of the seat's roots in one cut). By AI agents, Wed Nov 11 2026. No macro, syntax, notation, axiom, sorry.
-/
import Derived.Test.YtfcfkbaikkkibaaChecked
import GoSem.Claim
import GoSem.ClaimJoined
import GoSem.ClaimMapViews
import Derived.JoinedTies
import Derived.KernelRfl
namespace Go.Proofs.Ytfcfkbaikkkibaa
/- THE CELL 'sum', in the pinned program and in every row, IS THE sha256 OF THE DUMP (.gsa) THAT YtfcfkbaikkkibaaProg.lean LOADS. Nothing in Lean hashes anything: it is a label: what it is worth is what the hold of that sum in a sandbox is worth. -/
noncomputable def Try.pinned : Pinned := { name := "ytfcfkbaikkkibaa", sum := "e943a405de38514dba57b27092c7369dcf2a49940c1513412005f6917f17df5e", checked := Try.checked }
namespace Rows
def none {H : Type} : Left H := { results := [], args := [] }

/-- 'syndiclaw01.NumWrites': WHATEVER THE INPUT: true; the input reads as it did. -/
def numWritesSpec : ChangeSpec := { name := "numWrites", fn := fun _ => fun
  | [d] => { results := [.lit (.bool true)], args := [d] }
  | _ => none }
def numWritesRow : OpenClaim := { program := "ytfcfkbaikkkibaa", sum := "e943a405de38514dba57b27092c7369dcf2a49940c1513412005f6917f17df5e", func := "syndic/syndiclaw01.NumWrites", spec := "numWrites", recurses := true, apart := false }
def NumWritesSaid : Prop := numWritesRow.holds Try.pinned (OpenSpec.ofChange numWritesSpec)

/-- ITS FALSE NEIGHBOUR: 'it returns false'. Refute it at one input. -/
def numWritesWrong : ChangeSpec := { name := "numWrites", fn := fun _ => fun
  | [d] => { results := [.lit (.bool false)], args := [d] }
  | _ => none }
def NumWritesWrongFalsely : Prop := numWritesRow.holds Try.pinned (OpenSpec.ofChange numWritesWrong)

/-- 'syndiclaw01.NumBack': WHATEVER THE INPUT: true; the input reads as it did. -/
def numBackSpec : ChangeSpec := { name := "numBack", fn := fun _ => fun
  | [d] => { results := [.lit (.bool true)], args := [d] }
  | _ => none }
def numBackRow : OpenClaim := { program := "ytfcfkbaikkkibaa", sum := "e943a405de38514dba57b27092c7369dcf2a49940c1513412005f6917f17df5e", func := "syndic/syndiclaw01.NumBack", spec := "numBack", apart := false }
def NumBackSaid : Prop := numBackRow.holds Try.pinned (OpenSpec.ofChange numBackSpec)

/-- ITS FALSE NEIGHBOUR: 'it returns false'. Refute it at one input. -/
def numBackWrong : ChangeSpec := { name := "numBack", fn := fun _ => fun
  | [d] => { results := [.lit (.bool false)], args := [d] }
  | _ => none }
def NumBackWrongFalsely : Prop := numBackRow.holds Try.pinned (OpenSpec.ofChange numBackWrong)

/-- 'syndiclaw01.NumOnce': WHATEVER THE INPUT: true; the input reads as it did. -/
def numOnceSpec : ChangeSpec := { name := "numOnce", fn := fun _ => fun
  | [d] => { results := [.lit (.bool true)], args := [d] }
  | _ => none }
def numOnceRow : OpenClaim := { program := "ytfcfkbaikkkibaa", sum := "e943a405de38514dba57b27092c7369dcf2a49940c1513412005f6917f17df5e", func := "syndic/syndiclaw01.NumOnce", spec := "numOnce", apart := false }
def NumOnceSaid : Prop := numOnceRow.holds Try.pinned (OpenSpec.ofChange numOnceSpec)

/-- ITS FALSE NEIGHBOUR: 'it returns false'. Refute it at one input. -/
def numOnceWrong : ChangeSpec := { name := "numOnce", fn := fun _ => fun
  | [d] => { results := [.lit (.bool false)], args := [d] }
  | _ => none }
def NumOnceWrongFalsely : Prop := numOnceRow.holds Try.pinned (OpenSpec.ofChange numOnceWrong)

/-- 'syndiclaw01.NumSizes': WHATEVER THE INPUT: true; the input reads as it did. -/
def numSizesSpec : ChangeSpec := { name := "numSizes", fn := fun _ => fun
  | [d1, d2] => { results := [.lit (.bool true)], args := [d1, d2] }
  | _ => none }
def numSizesRow : OpenClaim := { program := "ytfcfkbaikkkibaa", sum := "e943a405de38514dba57b27092c7369dcf2a49940c1513412005f6917f17df5e", func := "syndic/syndiclaw01.NumSizes", spec := "numSizes", apart := false }
def NumSizesSaid : Prop := numSizesRow.holds Try.pinned (OpenSpec.ofChange numSizesSpec)

/-- ITS FALSE NEIGHBOUR: 'it returns false'. Refute it at one input. -/
def numSizesWrong : ChangeSpec := { name := "numSizes", fn := fun _ => fun
  | [d1, d2] => { results := [.lit (.bool false)], args := [d1, d2] }
  | _ => none }
def NumSizesWrongFalsely : Prop := numSizesRow.holds Try.pinned (OpenSpec.ofChange numSizesWrong)

/-- 'syndiclaw01.NumSpoilt': WHATEVER THE INPUT: true; the input reads as it did. -/
def numSpoiltSpec : ChangeSpec := { name := "numSpoilt", fn := fun _ => fun
  | [d1, d2] => { results := [.lit (.bool true)], args := [d1, d2] }
  | _ => none }
def numSpoiltRow : OpenClaim := { program := "ytfcfkbaikkkibaa", sum := "e943a405de38514dba57b27092c7369dcf2a49940c1513412005f6917f17df5e", func := "syndic/syndiclaw01.NumSpoilt", spec := "numSpoilt", apart := false }
def NumSpoiltSaid : Prop := numSpoiltRow.holds Try.pinned (OpenSpec.ofChange numSpoiltSpec)

/-- ITS FALSE NEIGHBOUR: 'it returns false'. Refute it at one input. -/
def numSpoiltWrong : ChangeSpec := { name := "numSpoilt", fn := fun _ => fun
  | [d1, d2] => { results := [.lit (.bool false)], args := [d1, d2] }
  | _ => none }
def NumSpoiltWrongFalsely : Prop := numSpoiltRow.holds Try.pinned (OpenSpec.ofChange numSpoiltWrong)

/- THE SECOND FORM. 'bulk': how many values and letters a reading holds, each counted each time it is reached (what is shared counts as often as it is met; a slice's spare places count too). A statement '..UptoSaid' is the law's where the arguments, and the package variables that the reading takes, are together of bulk at most 1048576: NARROWER than '..Said'. Prove '..Said' where nothing that the law and all that it calls make is longer than what came in: it says more and counts as full. Else prove '..UptoSaid'. A law counts once. -/
mutual
def uptoBulk {H : Type} : DataW H → Nat
  | .lit (.string bytes) => bytes.length + 1
  | .lit _ => 1
  | .nil => 1
  | .ptr d => uptoBulk d + 1
  | .slice elems spare => uptoBulkAll elems + uptoBulkAll spare + 1
  | .agg parts => uptoBulkAll parts + 1
  | .iface _ d => uptoBulk d + 1
  | .map entries => uptoBulkEntries entries + 1
  | .held _ => 1
def uptoBulkAll {H : Type} : List (DataW H) → Nat
  | [] => 0
  | d :: r => uptoBulk d + uptoBulkAll r
def uptoBulkEntries {H : Type} : List (Lit × DataW H) → Nat
  | [] => 0
  | x :: r => uptoBulkEntry x + uptoBulkEntries r
def uptoBulkEntry {H : Type} : Lit × DataW H → Nat
  | (.string bytes, d) => bytes.length + uptoBulk d + 1
  | (_, d) => uptoBulk d + 1
 end
def uptoSmall : (H : Type) → List (DataW H) → Bool := fun _ ds => decide (uptoBulkAll ds ≤ 1048576)
def OpenSpec.upto (s : _root_.Go.ChangeSpec) : _root_.Go.OpenSpec := { _root_.Go.OpenSpec.ofChange s with cond := some uptoSmall }

/-- 'syndiclaw01.NumWrites', WHERE WHAT IT READS IS OF BULK AT MOST 1048576: true; the input reads as it did. -/
def numWritesUptoRow : OpenClaim := { program := "ytfcfkbaikkkibaa", sum := "e943a405de38514dba57b27092c7369dcf2a49940c1513412005f6917f17df5e", func := "syndic/syndiclaw01.NumWrites", spec := "numWrites", recurses := true, apart := false, narrowed := true }
def NumWritesUptoSaid : Prop := numWritesUptoRow.holds Try.pinned (OpenSpec.upto numWritesSpec)

/-- 'syndiclaw01.NumBack', WHERE WHAT IT READS IS OF BULK AT MOST 1048576: true; the input reads as it did. -/
def numBackUptoRow : OpenClaim := { program := "ytfcfkbaikkkibaa", sum := "e943a405de38514dba57b27092c7369dcf2a49940c1513412005f6917f17df5e", func := "syndic/syndiclaw01.NumBack", spec := "numBack", apart := false, narrowed := true }
def NumBackUptoSaid : Prop := numBackUptoRow.holds Try.pinned (OpenSpec.upto numBackSpec)

/-- 'syndiclaw01.NumOnce', WHERE WHAT IT READS IS OF BULK AT MOST 1048576: true; the input reads as it did. -/
def numOnceUptoRow : OpenClaim := { program := "ytfcfkbaikkkibaa", sum := "e943a405de38514dba57b27092c7369dcf2a49940c1513412005f6917f17df5e", func := "syndic/syndiclaw01.NumOnce", spec := "numOnce", apart := false, narrowed := true }
def NumOnceUptoSaid : Prop := numOnceUptoRow.holds Try.pinned (OpenSpec.upto numOnceSpec)

/-- 'syndiclaw01.NumSizes', WHERE WHAT IT READS IS OF BULK AT MOST 1048576: true; the input reads as it did. -/
def numSizesUptoRow : OpenClaim := { program := "ytfcfkbaikkkibaa", sum := "e943a405de38514dba57b27092c7369dcf2a49940c1513412005f6917f17df5e", func := "syndic/syndiclaw01.NumSizes", spec := "numSizes", apart := false, narrowed := true }
def NumSizesUptoSaid : Prop := numSizesUptoRow.holds Try.pinned (OpenSpec.upto numSizesSpec)

/-- 'syndiclaw01.NumSpoilt', WHERE WHAT IT READS IS OF BULK AT MOST 1048576: true; the input reads as it did. -/
def numSpoiltUptoRow : OpenClaim := { program := "ytfcfkbaikkkibaa", sum := "e943a405de38514dba57b27092c7369dcf2a49940c1513412005f6917f17df5e", func := "syndic/syndiclaw01.NumSpoilt", spec := "numSpoilt", apart := false, narrowed := true }
def NumSpoiltUptoSaid : Prop := numSpoiltUptoRow.holds Try.pinned (OpenSpec.upto numSpoiltSpec)

end Rows
end Go.Proofs.Ytfcfkbaikkkibaa
