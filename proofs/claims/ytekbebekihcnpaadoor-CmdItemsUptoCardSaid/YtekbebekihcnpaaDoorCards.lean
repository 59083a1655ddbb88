/-
  DERIVED. GIVEN WITH THE SEED: THE CARDS: each row of YtekbebekihcnpaaDoorRows.lean that lists a variable, with what it lists TIED to the program's text (the seventh form; the later family's looks); each row that meets fmt, with fmt's text TOLD by the authors' own Lean function (tested against real Go, not proved from fmt's source: count such statements apart). THE CARD IS WHAT COUNTS. Prove the row's statement (the work); the ties are given (YtekbebekihcnpaaDoorTie.lean); close each card by the builder's one call (the guide's Derived/Test/ToyasCard.lean, 'card_holds'). Laid BY PROGRAM, IN A SANDBOX (cutbox-door.mjs). By AI agents, Wed Nov 11 2026. No macro, syntax, notation, axiom, sorry.
-/
import Derived.Test.YtekbebekihcnpaaDoorRows
import GoSem.ClaimSeven
namespace Go.Proofs.YtekbebekihcnpaaDoor
namespace Rows

/-- THE TIED CARD OF 'stonecroplaw06.CmdChecks'. -/
def cmdChecksCard : Claim7 := { stood := { row := cmdChecksRow, standIns := [], harness := (true, "9d729163651955e8be9aaf487ce52a64d589a27baea1497c1c9bbc769d067f81"), looks := false }, kinds := [], alts := [], laidByText := true, laidKinds := [.data, .pinned], laidTests := true, laidLooks := .later }
def CmdChecksCardSaid : Prop := Claim7.holds Tryd.pinned (.plain (OpenSpec.ofChange cmdChecksSpec)) cmdChecksCard

/-- THE TIED CARD OF 'stonecroplaw06.CmdMeets'. -/
def cmdMeetsCard : Claim7 := { stood := { row := cmdMeetsRow, standIns := [], harness := (true, "9d729163651955e8be9aaf487ce52a64d589a27baea1497c1c9bbc769d067f81"), looks := false }, kinds := [], alts := [], laidByText := true, laidKinds := [.data, .pinned], laidTests := true, laidLooks := .later }
def CmdMeetsCardSaid : Prop := Claim7.holds Tryd.pinned (.plain (OpenSpec.ofChange cmdMeetsSpec)) cmdMeetsCard

/-- THE TIED CARD OF 'stonecroplaw06.CmdItems'. -/
def cmdItemsCard : Claim7 := { stood := { row := cmdItemsRow, standIns := [], harness := (true, "9d729163651955e8be9aaf487ce52a64d589a27baea1497c1c9bbc769d067f81"), looks := false }, kinds := [], alts := [], laidByText := true, laidKinds := [.data, .pinned], laidTests := true, laidLooks := .later }
def CmdItemsCardSaid : Prop := Claim7.holds Tryd.pinned (.plain (OpenSpec.ofChange cmdItemsSpec)) cmdItemsCard

/-- THE TIED CARD OF 'stonecroplaw06.CmdReads'. -/
def cmdReadsCard : Claim7 := { stood := { row := cmdReadsRow, standIns := [], harness := (true, "9d729163651955e8be9aaf487ce52a64d589a27baea1497c1c9bbc769d067f81"), looks := false }, kinds := [], alts := [], laidByText := true, laidKinds := [.data, .pinned], laidTests := true, laidLooks := .later }
def CmdReadsCardSaid : Prop := Claim7.holds Tryd.pinned (.plain (OpenSpec.ofChange cmdReadsSpec)) cmdReadsCard

/-- THE TIED CARD OF 'stonecroplaw05.IdsItems'. -/
def idsItemsCard : Claim7 := { stood := { row := idsItemsRow, standIns := [], harness := (true, "9d729163651955e8be9aaf487ce52a64d589a27baea1497c1c9bbc769d067f81"), looks := false }, kinds := [], alts := [], laidByText := true, laidKinds := [.data, .data, .data], laidTests := true, laidLooks := .later }
def IdsItemsCardSaid : Prop := Claim7.holds Tryd.pinned (.plain (OpenSpec.ofChange idsItemsSpec)) idsItemsCard

/-- THE SECOND FORM's CARD OF 'stonecroplaw06.CmdChecks'. -/
def cmdChecksUptoCard : Claim7 := { stood := { row := cmdChecksUptoRow, standIns := [], harness := (true, "9d729163651955e8be9aaf487ce52a64d589a27baea1497c1c9bbc769d067f81"), looks := false }, kinds := [], alts := [], laidByText := true, laidKinds := [.data, .pinned], laidTests := true, laidLooks := .later }
def CmdChecksUptoCardSaid : Prop := Claim7.holds Tryd.pinned (.plain (OpenSpec.upto cmdChecksSpec)) cmdChecksUptoCard

/-- THE SECOND FORM's CARD OF 'stonecroplaw06.CmdMeets'. -/
def cmdMeetsUptoCard : Claim7 := { stood := { row := cmdMeetsUptoRow, standIns := [], harness := (true, "9d729163651955e8be9aaf487ce52a64d589a27baea1497c1c9bbc769d067f81"), looks := false }, kinds := [], alts := [], laidByText := true, laidKinds := [.data, .pinned], laidTests := true, laidLooks := .later }
def CmdMeetsUptoCardSaid : Prop := Claim7.holds Tryd.pinned (.plain (OpenSpec.upto cmdMeetsSpec)) cmdMeetsUptoCard

/-- THE SECOND FORM's CARD OF 'stonecroplaw06.CmdItems'. -/
def cmdItemsUptoCard : Claim7 := { stood := { row := cmdItemsUptoRow, standIns := [], harness := (true, "9d729163651955e8be9aaf487ce52a64d589a27baea1497c1c9bbc769d067f81"), looks := false }, kinds := [], alts := [], laidByText := true, laidKinds := [.data, .pinned], laidTests := true, laidLooks := .later }
def CmdItemsUptoCardSaid : Prop := Claim7.holds Tryd.pinned (.plain (OpenSpec.upto cmdItemsSpec)) cmdItemsUptoCard

/-- THE SECOND FORM's CARD OF 'stonecroplaw06.CmdReads'. -/
def cmdReadsUptoCard : Claim7 := { stood := { row := cmdReadsUptoRow, standIns := [], harness := (true, "9d729163651955e8be9aaf487ce52a64d589a27baea1497c1c9bbc769d067f81"), looks := false }, kinds := [], alts := [], laidByText := true, laidKinds := [.data, .pinned], laidTests := true, laidLooks := .later }
def CmdReadsUptoCardSaid : Prop := Claim7.holds Tryd.pinned (.plain (OpenSpec.upto cmdReadsSpec)) cmdReadsUptoCard

/-- THE SECOND FORM's CARD OF 'stonecroplaw05.IdsItems'. -/
def idsItemsUptoCard : Claim7 := { stood := { row := idsItemsUptoRow, standIns := [], harness := (true, "9d729163651955e8be9aaf487ce52a64d589a27baea1497c1c9bbc769d067f81"), looks := false }, kinds := [], alts := [], laidByText := true, laidKinds := [.data, .data, .data], laidTests := true, laidLooks := .later }
def IdsItemsUptoCardSaid : Prop := Claim7.holds Tryd.pinned (.plain (OpenSpec.upto idsItemsSpec)) idsItemsUptoCard
end Rows
end Go.Proofs.YtekbebekihcnpaaDoor
