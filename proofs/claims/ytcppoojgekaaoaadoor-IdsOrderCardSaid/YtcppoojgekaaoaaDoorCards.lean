/-
  DERIVED. GIVEN WITH THE SEED: THE CARDS: each row of YtcppoojgekaaoaaDoorRows.lean that lists a variable, with what it lists TIED to the program's text (the seventh form; the later family's looks); each row that meets fmt, with fmt's text TOLD by the authors' own Lean function (tested against real Go, not proved from fmt's source: count such statements apart). THE CARD IS WHAT COUNTS. Prove the row's statement (the work); the ties are given (YtcppoojgekaaoaaDoorTie.lean); close each card by the builder's one call (the guide's Derived/Test/ToyasCard.lean, 'card_holds'). Laid BY PROGRAM, IN A SANDBOX (cutbox-door.mjs). By AI agents, Wed Nov 11 2026. No macro, syntax, notation, axiom, sorry.
-/
import Derived.Test.YtcppoojgekaaoaaDoorRows
import GoSem.ClaimSeven
namespace Go.Proofs.YtcppoojgekaaoaaDoor
namespace Rows

/-- THE TIED CARD OF 'syndiclaw04.IdsTells'. -/
def idsTellsCard : Claim7 := { stood := { row := idsTellsRow, standIns := [], harness := (true, "ddf414ff30e61b4ea482bcc592e274f7a955133f2559c093b8339d23649de0d6"), looks := false }, kinds := [], alts := [], laidByText := true, laidKinds := [.data, .data, .data], laidTests := true, laidLooks := .later }
def IdsTellsCardSaid : Prop := Claim7.holds Tryd.pinned (.plain (OpenSpec.ofChange idsTellsSpec)) idsTellsCard

/-- THE TIED CARD OF 'syndiclaw04.IdsSets'. -/
def idsSetsCard : Claim7 := { stood := { row := idsSetsRow, standIns := [], harness := (true, "ddf414ff30e61b4ea482bcc592e274f7a955133f2559c093b8339d23649de0d6"), looks := false }, kinds := [], alts := [], laidByText := true, laidKinds := [.data, .data, .data], laidTests := true, laidLooks := .later }
def IdsSetsCardSaid : Prop := Claim7.holds Tryd.pinned (.plain (OpenSpec.ofChange idsSetsSpec)) idsSetsCard

/-- THE TIED CARD OF 'syndiclaw04.IdsUnions'. -/
def idsUnionsCard : Claim7 := { stood := { row := idsUnionsRow, standIns := [], harness := (true, "ddf414ff30e61b4ea482bcc592e274f7a955133f2559c093b8339d23649de0d6"), looks := false }, kinds := [], alts := [], laidByText := true, laidKinds := [.data, .data, .data], laidTests := true, laidLooks := .later }
def IdsUnionsCardSaid : Prop := Claim7.holds Tryd.pinned (.plain (OpenSpec.ofChange idsUnionsSpec)) idsUnionsCard

/-- THE TIED CARD OF 'syndiclaw04.IdsOrder'. -/
def idsOrderCard : Claim7 := { stood := { row := idsOrderRow, standIns := [], harness := (true, "ddf414ff30e61b4ea482bcc592e274f7a955133f2559c093b8339d23649de0d6"), looks := false }, kinds := [], alts := [], laidByText := true, laidKinds := [.data, .data, .data], laidTests := true, laidLooks := .later }
def IdsOrderCardSaid : Prop := Claim7.holds Tryd.pinned (.plain (OpenSpec.ofChange idsOrderSpec)) idsOrderCard

/-- THE TIED CARD OF 'syndiclaw04.IdsCuts'. -/
def idsCutsCard : Claim7 := { stood := { row := idsCutsRow, standIns := [], harness := (true, "ddf414ff30e61b4ea482bcc592e274f7a955133f2559c093b8339d23649de0d6"), looks := false }, kinds := [], alts := [], laidByText := true, laidKinds := [.data, .data, .data], laidTests := true, laidLooks := .later }
def IdsCutsCardSaid : Prop := Claim7.holds Tryd.pinned (.plain (OpenSpec.ofChange idsCutsSpec)) idsCutsCard

/-- THE SECOND FORM's CARD OF 'syndiclaw04.IdsTells'. -/
def idsTellsUptoCard : Claim7 := { stood := { row := idsTellsUptoRow, standIns := [], harness := (true, "ddf414ff30e61b4ea482bcc592e274f7a955133f2559c093b8339d23649de0d6"), looks := false }, kinds := [], alts := [], laidByText := true, laidKinds := [.data, .data, .data], laidTests := true, laidLooks := .later }
def IdsTellsUptoCardSaid : Prop := Claim7.holds Tryd.pinned (.plain (OpenSpec.upto idsTellsSpec)) idsTellsUptoCard

/-- THE SECOND FORM's CARD OF 'syndiclaw04.IdsSets'. -/
def idsSetsUptoCard : Claim7 := { stood := { row := idsSetsUptoRow, standIns := [], harness := (true, "ddf414ff30e61b4ea482bcc592e274f7a955133f2559c093b8339d23649de0d6"), looks := false }, kinds := [], alts := [], laidByText := true, laidKinds := [.data, .data, .data], laidTests := true, laidLooks := .later }
def IdsSetsUptoCardSaid : Prop := Claim7.holds Tryd.pinned (.plain (OpenSpec.upto idsSetsSpec)) idsSetsUptoCard

/-- THE SECOND FORM's CARD OF 'syndiclaw04.IdsUnions'. -/
def idsUnionsUptoCard : Claim7 := { stood := { row := idsUnionsUptoRow, standIns := [], harness := (true, "ddf414ff30e61b4ea482bcc592e274f7a955133f2559c093b8339d23649de0d6"), looks := false }, kinds := [], alts := [], laidByText := true, laidKinds := [.data, .data, .data], laidTests := true, laidLooks := .later }
def IdsUnionsUptoCardSaid : Prop := Claim7.holds Tryd.pinned (.plain (OpenSpec.upto idsUnionsSpec)) idsUnionsUptoCard

/-- THE SECOND FORM's CARD OF 'syndiclaw04.IdsOrder'. -/
def idsOrderUptoCard : Claim7 := { stood := { row := idsOrderUptoRow, standIns := [], harness := (true, "ddf414ff30e61b4ea482bcc592e274f7a955133f2559c093b8339d23649de0d6"), looks := false }, kinds := [], alts := [], laidByText := true, laidKinds := [.data, .data, .data], laidTests := true, laidLooks := .later }
def IdsOrderUptoCardSaid : Prop := Claim7.holds Tryd.pinned (.plain (OpenSpec.upto idsOrderSpec)) idsOrderUptoCard

/-- THE SECOND FORM's CARD OF 'syndiclaw04.IdsCuts'. -/
def idsCutsUptoCard : Claim7 := { stood := { row := idsCutsUptoRow, standIns := [], harness := (true, "ddf414ff30e61b4ea482bcc592e274f7a955133f2559c093b8339d23649de0d6"), looks := false }, kinds := [], alts := [], laidByText := true, laidKinds := [.data, .data, .data], laidTests := true, laidLooks := .later }
def IdsCutsUptoCardSaid : Prop := Claim7.holds Tryd.pinned (.plain (OpenSpec.upto idsCutsSpec)) idsCutsUptoCard
end Rows
end Go.Proofs.YtcppoojgekaaoaaDoor
