/-
  No cell of these rows narrows 'for every input' (looked for: loops, veiled, ifaces, maps, wideKeys, modest, calm, conditions, laid).
  DERIVED. THE GIVEN ROWS OF THIS SEAT. 5 by the template 'for every input the law returns true; each argument reads behind the call as it read before'; 0 by the template 'total and deterministic' (their statements: YtfhldddjjbdlbaaTotals.lean).
  GIVEN WITH THE SEED: the statements are not yours to turn. If you find one false, say at which input.
  Laid BY PROGRAM, IN A SANDBOX (cutbox-rows.mjs): the forced cells as the released guide's own fill.sh prints them over the translation ed30e3323158cb07… (all of the seat's roots in one cut). By AI agents, Wed Nov 11 2026. No macro, syntax, notation, axiom, sorry.
-/
import Derived.Test.YtfhldddjjbdlbaaChecked
import GoSem.Claim
import GoSem.ClaimJoined
import GoSem.ClaimMapViews
import Derived.JoinedTies
import Derived.KernelRfl
namespace Go.Proofs.Ytfhldddjjbdlbaa
/- THE CELL 'sum', in the pinned program and in every row, IS THE sha256 OF THE DUMP (.gsa) THAT YtfhldddjjbdlbaaProg.lean LOADS. Nothing in Lean hashes anything: it is a label: what it is worth is what the hold of that sum in a sandbox is worth. -/
noncomputable def Try.pinned : Pinned := { name := "ytfhldddjjbdlbaa", sum := "ed30e3323158cb07c0c6b888b464a204a923bfb4864630de2cbca756d2bd2ac0", checked := Try.checked }
namespace Rows
def none {H : Type} : Left H := { results := [], args := [] }

/-- 'syndiclaw14.DiskLasts': WHATEVER THE INPUT: true; the input reads as it did. -/
def diskLastsSpec : ChangeSpec := { name := "diskLasts", fn := fun _ => fun
  | [d1, d2, d3] => { results := [.lit (.bool true)], args := [d1, d2, d3] }
  | _ => none }
def diskLastsRow : OpenClaim := { program := "ytfhldddjjbdlbaa", sum := "ed30e3323158cb07c0c6b888b464a204a923bfb4864630de2cbca756d2bd2ac0", func := "syndic/syndiclaw14.DiskLasts", spec := "diskLasts", unfollowed := true, recurses := true, apart := false }
def DiskLastsSaid : Prop := diskLastsRow.holds Try.pinned (OpenSpec.ofChange diskLastsSpec)

/-- ITS FALSE NEIGHBOUR: 'it returns false'. Refute it at one input. -/
def diskLastsWrong : ChangeSpec := { name := "diskLasts", fn := fun _ => fun
  | [d1, d2, d3] => { results := [.lit (.bool false)], args := [d1, d2, d3] }
  | _ => none }
def DiskLastsWrongFalsely : Prop := diskLastsRow.holds Try.pinned (OpenSpec.ofChange diskLastsWrong)

/-- 'syndiclaw14.DiskGoes': WHATEVER THE INPUT: true; the input reads as it did. -/
def diskGoesSpec : ChangeSpec := { name := "diskGoes", fn := fun _ => fun
  | [d1, d2, d3] => { results := [.lit (.bool true)], args := [d1, d2, d3] }
  | _ => none }
def diskGoesRow : OpenClaim := { program := "ytfhldddjjbdlbaa", sum := "ed30e3323158cb07c0c6b888b464a204a923bfb4864630de2cbca756d2bd2ac0", func := "syndic/syndiclaw14.DiskGoes", spec := "diskGoes", unfollowed := true, recurses := true, apart := false }
def DiskGoesSaid : Prop := diskGoesRow.holds Try.pinned (OpenSpec.ofChange diskGoesSpec)

/-- ITS FALSE NEIGHBOUR: 'it returns false'. Refute it at one input. -/
def diskGoesWrong : ChangeSpec := { name := "diskGoes", fn := fun _ => fun
  | [d1, d2, d3] => { results := [.lit (.bool false)], args := [d1, d2, d3] }
  | _ => none }
def DiskGoesWrongFalsely : Prop := diskGoesRow.holds Try.pinned (OpenSpec.ofChange diskGoesWrong)

/-- 'syndiclaw14.DiskSyncs': WHATEVER THE INPUT: true; the input reads as it did. -/
def diskSyncsSpec : ChangeSpec := { name := "diskSyncs", fn := fun _ => fun
  | [d1, d2] => { results := [.lit (.bool true)], args := [d1, d2] }
  | _ => none }
def diskSyncsRow : OpenClaim := { program := "ytfhldddjjbdlbaa", sum := "ed30e3323158cb07c0c6b888b464a204a923bfb4864630de2cbca756d2bd2ac0", func := "syndic/syndiclaw14.DiskSyncs", spec := "diskSyncs", unfollowed := true, recurses := true, apart := false }
def DiskSyncsSaid : Prop := diskSyncsRow.holds Try.pinned (OpenSpec.ofChange diskSyncsSpec)

/-- ITS FALSE NEIGHBOUR: 'it returns false'. Refute it at one input. -/
def diskSyncsWrong : ChangeSpec := { name := "diskSyncs", fn := fun _ => fun
  | [d1, d2] => { results := [.lit (.bool false)], args := [d1, d2] }
  | _ => none }
def DiskSyncsWrongFalsely : Prop := diskSyncsRow.holds Try.pinned (OpenSpec.ofChange diskSyncsWrong)

/-- 'syndiclaw14.DiskDoes': WHATEVER THE INPUT: true; the input reads as it did. -/
def diskDoesSpec : ChangeSpec := { name := "diskDoes", fn := fun _ => fun
  | [d1, d2] => { results := [.lit (.bool true)], args := [d1, d2] }
  | _ => none }
def diskDoesRow : OpenClaim := { program := "ytfhldddjjbdlbaa", sum := "ed30e3323158cb07c0c6b888b464a204a923bfb4864630de2cbca756d2bd2ac0", func := "syndic/syndiclaw14.DiskDoes", spec := "diskDoes", unfollowed := true, recurses := true, apart := false }
def DiskDoesSaid : Prop := diskDoesRow.holds Try.pinned (OpenSpec.ofChange diskDoesSpec)

/-- ITS FALSE NEIGHBOUR: 'it returns false'. Refute it at one input. -/
def diskDoesWrong : ChangeSpec := { name := "diskDoes", fn := fun _ => fun
  | [d1, d2] => { results := [.lit (.bool false)], args := [d1, d2] }
  | _ => none }
def DiskDoesWrongFalsely : Prop := diskDoesRow.holds Try.pinned (OpenSpec.ofChange diskDoesWrong)

/-- 'syndiclaw14.DiskOf': WHATEVER THE INPUT: true; the input reads as it did. -/
def diskOfSpec : ChangeSpec := { name := "diskOf", fn := fun _ => fun
  | [d1, d2] => { results := [.lit (.bool true)], args := [d1, d2] }
  | _ => none }
def diskOfRow : OpenClaim := { program := "ytfhldddjjbdlbaa", sum := "ed30e3323158cb07c0c6b888b464a204a923bfb4864630de2cbca756d2bd2ac0", func := "syndic/syndiclaw14.DiskOf", spec := "diskOf", unfollowed := true, recurses := true, apart := false }
def DiskOfSaid : Prop := diskOfRow.holds Try.pinned (OpenSpec.ofChange diskOfSpec)

/-- ITS FALSE NEIGHBOUR: 'it returns false'. Refute it at one input. -/
def diskOfWrong : ChangeSpec := { name := "diskOf", fn := fun _ => fun
  | [d1, d2] => { results := [.lit (.bool false)], args := [d1, d2] }
  | _ => none }
def DiskOfWrongFalsely : Prop := diskOfRow.holds Try.pinned (OpenSpec.ofChange diskOfWrong)

/- THE SECOND FORM. 'bulk': how many values and letters a reading holds, each counted each time it is reached (what is shared counts as often as it is met; a slice's spare places count too). A statement '..UptoSaid' is the law's where the arguments, and the package variables that the reading takes, are together of bulk at most 1048576: NARROWER than '..Said'. Prove '..Said' where nothing that the law and all that it calls make is longer than what came in: it says more and counts as full. Else prove '..UptoSaid'. A law counts once. -/
mutual
def uptoBulk {H : Type} : DataW H → Nat
  | .lit (.string bytes) => bytes.length + 1
  | .lit _ => 1
  | .nil => 1
  | .ptr d => uptoBulk d + 1
  | .slice elems spare => uptoBulkAll elems + uptoBulkAll spare + 1
  | .agg parts => uptoBulkAll parts + 1
  | .iface _ d => uptoBulk d + 1
  | .map entries => uptoBulkEntries entries + 1
  | .held _ => 1
def uptoBulkAll {H : Type} : List (DataW H) → Nat
  | [] => 0
  | d :: r => uptoBulk d + uptoBulkAll r
def uptoBulkEntries {H : Type} : List (Lit × DataW H) → Nat
  | [] => 0
  | x :: r => uptoBulkEntry x + uptoBulkEntries r
def uptoBulkEntry {H : Type} : Lit × DataW H → Nat
  | (.string bytes, d) => bytes.length + uptoBulk d + 1
  | (_, d) => uptoBulk d + 1
 end
def uptoSmall : (H : Type) → List (DataW H) → Bool := fun _ ds => decide (uptoBulkAll ds ≤ 1048576)
def OpenSpec.upto (s : _root_.Go.ChangeSpec) : _root_.Go.OpenSpec := { _root_.Go.OpenSpec.ofChange s with cond := some uptoSmall }

/-- 'syndiclaw14.DiskLasts', WHERE WHAT IT READS IS OF BULK AT MOST 1048576: true; the input reads as it did. -/
def diskLastsUptoRow : OpenClaim := { program := "ytfhldddjjbdlbaa", sum := "ed30e3323158cb07c0c6b888b464a204a923bfb4864630de2cbca756d2bd2ac0", func := "syndic/syndiclaw14.DiskLasts", spec := "diskLasts", unfollowed := true, recurses := true, apart := false, narrowed := true }
def DiskLastsUptoSaid : Prop := diskLastsUptoRow.holds Try.pinned (OpenSpec.upto diskLastsSpec)

/-- 'syndiclaw14.DiskGoes', WHERE WHAT IT READS IS OF BULK AT MOST 1048576: true; the input reads as it did. -/
def diskGoesUptoRow : OpenClaim := { program := "ytfhldddjjbdlbaa", sum := "ed30e3323158cb07c0c6b888b464a204a923bfb4864630de2cbca756d2bd2ac0", func := "syndic/syndiclaw14.DiskGoes", spec := "diskGoes", unfollowed := true, recurses := true, apart := false, narrowed := true }
def DiskGoesUptoSaid : Prop := diskGoesUptoRow.holds Try.pinned (OpenSpec.upto diskGoesSpec)

/-- 'syndiclaw14.DiskSyncs', WHERE WHAT IT READS IS OF BULK AT MOST 1048576: true; the input reads as it did. -/
def diskSyncsUptoRow : OpenClaim := { program := "ytfhldddjjbdlbaa", sum := "ed30e3323158cb07c0c6b888b464a204a923bfb4864630de2cbca756d2bd2ac0", func := "syndic/syndiclaw14.DiskSyncs", spec := "diskSyncs", unfollowed := true, recurses := true, apart := false, narrowed := true }
def DiskSyncsUptoSaid : Prop := diskSyncsUptoRow.holds Try.pinned (OpenSpec.upto diskSyncsSpec)

/-- 'syndiclaw14.DiskDoes', WHERE WHAT IT READS IS OF BULK AT MOST 1048576: true; the input reads as it did. -/
def diskDoesUptoRow : OpenClaim := { program := "ytfhldddjjbdlbaa", sum := "ed30e3323158cb07c0c6b888b464a204a923bfb4864630de2cbca756d2bd2ac0", func := "syndic/syndiclaw14.DiskDoes", spec := "diskDoes", unfollowed := true, recurses := true, apart := false, narrowed := true }
def DiskDoesUptoSaid : Prop := diskDoesUptoRow.holds Try.pinned (OpenSpec.upto diskDoesSpec)

/-- 'syndiclaw14.DiskOf', WHERE WHAT IT READS IS OF BULK AT MOST 1048576: true; the input reads as it did. -/
def diskOfUptoRow : OpenClaim := { program := "ytfhldddjjbdlbaa", sum := "ed30e3323158cb07c0c6b888b464a204a923bfb4864630de2cbca756d2bd2ac0", func := "syndic/syndiclaw14.DiskOf", spec := "diskOf", unfollowed := true, recurses := true, apart := false, narrowed := true }
def DiskOfUptoSaid : Prop := diskOfUptoRow.holds Try.pinned (OpenSpec.upto diskOfSpec)

end Rows
end Go.Proofs.Ytfhldddjjbdlbaa
