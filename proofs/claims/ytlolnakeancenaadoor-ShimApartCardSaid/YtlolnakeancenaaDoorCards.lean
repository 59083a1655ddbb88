/-
  DERIVED. GIVEN WITH THE SEED: THE CARDS: each row of YtlolnakeancenaaDoorRows.lean that lists a variable, with what it lists TIED to the program's text (the seventh form; the later family's looks); each row that meets fmt, with fmt's text TOLD by the authors' own Lean function (tested against real Go, not proved from fmt's source: count such statements apart). THE CARD IS WHAT COUNTS. Prove the row's statement (the work); the ties are given (YtlolnakeancenaaDoorTie.lean); close each card by the builder's one call (the guide's Derived/Test/ToyasCard.lean, 'card_holds'). Laid BY PROGRAM, IN A SANDBOX (cutbox-door.mjs). By AI agents, Wed Nov 11 2026. No macro, syntax, notation, axiom, sorry.
-/
import Derived.Test.YtlolnakeancenaaDoorRows
import GoSem.ClaimSeven
namespace Go.Proofs.YtlolnakeancenaaDoor
namespace Rows

/-- THE TIED CARD OF 'stonecroplaw10.MsgFrames'. -/
def msgFramesCard : Claim7 := { stood := { row := msgFramesRow, standIns := [], harness := (true, "1e3041790b6c3bcdbc5eec46805809b4c9f756d604f7a692b38e10a2ff55446b"), looks := true }, kinds := [], alts := [], laidByText := true, laidKinds := [.data, .data, .pinned], laidTests := true, laidLooks := .later }
def MsgFramesCardSaid : Prop := Claim7.holds Tryd.pinned (.plain (OpenSpec.ofChange msgFramesSpec)) msgFramesCard

/-- THE TIED CARD OF 'stonecroplaw10.MsgTurned'. -/
def msgTurnedCard : Claim7 := { stood := { row := msgTurnedRow, standIns := [], harness := (true, "1e3041790b6c3bcdbc5eec46805809b4c9f756d604f7a692b38e10a2ff55446b"), looks := true }, kinds := [], alts := [], laidByText := true, laidKinds := [.data, .data, .pinned], laidTests := true, laidLooks := .later }
def MsgTurnedCardSaid : Prop := Claim7.holds Tryd.pinned (.plain (OpenSpec.ofChange msgTurnedSpec)) msgTurnedCard

/-- THE TIED CARD OF 'stonecroplaw10.MsgApart'. -/
def msgApartCard : Claim7 := { stood := { row := msgApartRow, standIns := [], harness := (true, "1e3041790b6c3bcdbc5eec46805809b4c9f756d604f7a692b38e10a2ff55446b"), looks := true }, kinds := [], alts := [], laidByText := true, laidKinds := [.data, .data, .pinned], laidTests := true, laidLooks := .later }
def MsgApartCardSaid : Prop := Claim7.holds Tryd.pinned (.plain (OpenSpec.ofChange msgApartSpec)) msgApartCard

/-- THE TIED CARD OF 'stonecroplaw11.ShimApart'. -/
def shimApartCard : Claim7 := { stood := { row := shimApartRow, standIns := [], harness := (true, "1e3041790b6c3bcdbc5eec46805809b4c9f756d604f7a692b38e10a2ff55446b"), looks := true }, kinds := [], alts := [], laidByText := true, laidKinds := [.data, .data, .pinned], laidTests := true, laidLooks := .later }
def ShimApartCardSaid : Prop := Claim7.holds Tryd.pinned (.plain (OpenSpec.ofChange shimApartSpec)) shimApartCard

/-- THE TIED CARD OF 'stonecroplaw11.ShimCut'. -/
def shimCutCard : Claim7 := { stood := { row := shimCutRow, standIns := [], harness := (true, "1e3041790b6c3bcdbc5eec46805809b4c9f756d604f7a692b38e10a2ff55446b"), looks := true }, kinds := [], alts := [], laidByText := true, laidKinds := [.data, .data, .pinned], laidTests := true, laidLooks := .later }
def ShimCutCardSaid : Prop := Claim7.holds Tryd.pinned (.plain (OpenSpec.ofChange shimCutSpec)) shimCutCard

/-- THE SECOND FORM's CARD OF 'stonecroplaw10.MsgFrames'. -/
def msgFramesUptoCard : Claim7 := { stood := { row := msgFramesUptoRow, standIns := [], harness := (true, "1e3041790b6c3bcdbc5eec46805809b4c9f756d604f7a692b38e10a2ff55446b"), looks := true }, kinds := [], alts := [], laidByText := true, laidKinds := [.data, .data, .pinned], laidTests := true, laidLooks := .later }
def MsgFramesUptoCardSaid : Prop := Claim7.holds Tryd.pinned (.plain (OpenSpec.upto msgFramesSpec)) msgFramesUptoCard

/-- THE SECOND FORM's CARD OF 'stonecroplaw10.MsgTurned'. -/
def msgTurnedUptoCard : Claim7 := { stood := { row := msgTurnedUptoRow, standIns := [], harness := (true, "1e3041790b6c3bcdbc5eec46805809b4c9f756d604f7a692b38e10a2ff55446b"), looks := true }, kinds := [], alts := [], laidByText := true, laidKinds := [.data, .data, .pinned], laidTests := true, laidLooks := .later }
def MsgTurnedUptoCardSaid : Prop := Claim7.holds Tryd.pinned (.plain (OpenSpec.upto msgTurnedSpec)) msgTurnedUptoCard

/-- THE SECOND FORM's CARD OF 'stonecroplaw10.MsgApart'. -/
def msgApartUptoCard : Claim7 := { stood := { row := msgApartUptoRow, standIns := [], harness := (true, "1e3041790b6c3bcdbc5eec46805809b4c9f756d604f7a692b38e10a2ff55446b"), looks := true }, kinds := [], alts := [], laidByText := true, laidKinds := [.data, .data, .pinned], laidTests := true, laidLooks := .later }
def MsgApartUptoCardSaid : Prop := Claim7.holds Tryd.pinned (.plain (OpenSpec.upto msgApartSpec)) msgApartUptoCard

/-- THE SECOND FORM's CARD OF 'stonecroplaw11.ShimApart'. -/
def shimApartUptoCard : Claim7 := { stood := { row := shimApartUptoRow, standIns := [], harness := (true, "1e3041790b6c3bcdbc5eec46805809b4c9f756d604f7a692b38e10a2ff55446b"), looks := true }, kinds := [], alts := [], laidByText := true, laidKinds := [.data, .data, .pinned], laidTests := true, laidLooks := .later }
def ShimApartUptoCardSaid : Prop := Claim7.holds Tryd.pinned (.plain (OpenSpec.upto shimApartSpec)) shimApartUptoCard

/-- THE SECOND FORM's CARD OF 'stonecroplaw11.ShimCut'. -/
def shimCutUptoCard : Claim7 := { stood := { row := shimCutUptoRow, standIns := [], harness := (true, "1e3041790b6c3bcdbc5eec46805809b4c9f756d604f7a692b38e10a2ff55446b"), looks := true }, kinds := [], alts := [], laidByText := true, laidKinds := [.data, .data, .pinned], laidTests := true, laidLooks := .later }
def ShimCutUptoCardSaid : Prop := Claim7.holds Tryd.pinned (.plain (OpenSpec.upto shimCutSpec)) shimCutUptoCard
end Rows
end Go.Proofs.YtlolnakeancenaaDoor
