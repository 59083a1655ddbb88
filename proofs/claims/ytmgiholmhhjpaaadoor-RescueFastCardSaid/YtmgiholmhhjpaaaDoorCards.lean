/-
  DERIVED. GIVEN WITH THE SEED: THE CARDS: each row of YtmgiholmhhjpaaaDoorRows.lean that lists a variable, with what it lists TIED to the program's text (the seventh form; the later family's looks); each row that meets fmt, with fmt's text TOLD by the authors' own Lean function (tested against real Go, not proved from fmt's source: count such statements apart). THE CARD IS WHAT COUNTS. Prove the row's statement (the work); the ties are given (YtmgiholmhhjpaaaDoorTie.lean); close each card by the builder's one call (the guide's Derived/Test/ToyasCard.lean, 'card_holds'). Laid BY PROGRAM, IN A SANDBOX (cutbox-door.mjs). By AI agents, Wed Nov 11 2026. No macro, syntax, notation, axiom, sorry.
-/
import Derived.Test.YtmgiholmhhjpaaaDoorRows
import GoSem.ClaimSeven
namespace Go.Proofs.YtmgiholmhhjpaaaDoor
namespace Rows

/-- THE TIED CARD OF 'stonecroplaw25.RescueFast'. -/
def rescueFastCard : Claim7 := { stood := { row := rescueFastRow, standIns := [], harness := (true, "d2ff5399c252d4c5209bfdfc539cd5c59657d22ffaca1d6ce178bf5af811ab93"), looks := false }, kinds := [], alts := [], laidByText := true, laidKinds := [.data, .pinned], laidTests := true, laidLooks := .later }
def RescueFastCardSaid : Prop := Claim7.holds Tryd.pinned (.plain (OpenSpec.ofChange rescueFastSpec)) rescueFastCard

/-- THE TIED CARD OF 'stonecroplaw25.RescueAccepted'. -/
def rescueAcceptedCard : Claim7 := { stood := { row := rescueAcceptedRow, standIns := [], harness := (true, "d2ff5399c252d4c5209bfdfc539cd5c59657d22ffaca1d6ce178bf5af811ab93"), looks := false }, kinds := [], alts := [], laidByText := true, laidKinds := [.data, .pinned], laidTests := true, laidLooks := .later }
def RescueAcceptedCardSaid : Prop := Claim7.holds Tryd.pinned (.plain (OpenSpec.ofChange rescueAcceptedSpec)) rescueAcceptedCard

/-- THE TIED CARD OF 'stonecroplaw25.RescueNone'. -/
def rescueNoneCard : Claim7 := { stood := { row := rescueNoneRow, standIns := [], harness := (true, "d2ff5399c252d4c5209bfdfc539cd5c59657d22ffaca1d6ce178bf5af811ab93"), looks := false }, kinds := [], alts := [], laidByText := true, laidKinds := [.data, .pinned], laidTests := true, laidLooks := .later }
def RescueNoneCardSaid : Prop := Claim7.holds Tryd.pinned (.plain (OpenSpec.ofChange rescueNoneSpec)) rescueNoneCard

/-- THE TIED CARD OF 'stonecroplaw09.RecChecks'. -/
def recChecksCard : Claim7 := { stood := { row := recChecksRow, standIns := [], harness := (true, "d2ff5399c252d4c5209bfdfc539cd5c59657d22ffaca1d6ce178bf5af811ab93"), looks := false }, kinds := [], alts := [], laidByText := true, laidKinds := [.data, .pinned], laidTests := true, laidLooks := .later }
def RecChecksCardSaid : Prop := Claim7.holds Tryd.pinned (.plain (OpenSpec.ofChange recChecksSpec)) recChecksCard

/-- THE TIED CARD OF 'stonecroplaw09.RecGoesOn'. -/
def recGoesOnCard : Claim7 := { stood := { row := recGoesOnRow, standIns := [], harness := (true, "d2ff5399c252d4c5209bfdfc539cd5c59657d22ffaca1d6ce178bf5af811ab93"), looks := false }, kinds := [], alts := [], laidByText := true, laidKinds := [.data, .pinned], laidTests := true, laidLooks := .later }
def RecGoesOnCardSaid : Prop := Claim7.holds Tryd.pinned (.plain (OpenSpec.ofChange recGoesOnSpec)) recGoesOnCard

/-- THE TIED CARD OF 'stonecroplaw09.RecPromise'. -/
def recPromiseCard : Claim7 := { stood := { row := recPromiseRow, standIns := [], harness := (true, "d2ff5399c252d4c5209bfdfc539cd5c59657d22ffaca1d6ce178bf5af811ab93"), looks := false }, kinds := [], alts := [], laidByText := true, laidKinds := [.data, .pinned], laidTests := true, laidLooks := .later }
def RecPromiseCardSaid : Prop := Claim7.holds Tryd.pinned (.plain (OpenSpec.ofChange recPromiseSpec)) recPromiseCard

/-- THE SECOND FORM's CARD OF 'stonecroplaw25.RescueFast'. -/
def rescueFastUptoCard : Claim7 := { stood := { row := rescueFastUptoRow, standIns := [], harness := (true, "d2ff5399c252d4c5209bfdfc539cd5c59657d22ffaca1d6ce178bf5af811ab93"), looks := false }, kinds := [], alts := [], laidByText := true, laidKinds := [.data, .pinned], laidTests := true, laidLooks := .later }
def RescueFastUptoCardSaid : Prop := Claim7.holds Tryd.pinned (.plain (OpenSpec.upto rescueFastSpec)) rescueFastUptoCard

/-- THE SECOND FORM's CARD OF 'stonecroplaw25.RescueAccepted'. -/
def rescueAcceptedUptoCard : Claim7 := { stood := { row := rescueAcceptedUptoRow, standIns := [], harness := (true, "d2ff5399c252d4c5209bfdfc539cd5c59657d22ffaca1d6ce178bf5af811ab93"), looks := false }, kinds := [], alts := [], laidByText := true, laidKinds := [.data, .pinned], laidTests := true, laidLooks := .later }
def RescueAcceptedUptoCardSaid : Prop := Claim7.holds Tryd.pinned (.plain (OpenSpec.upto rescueAcceptedSpec)) rescueAcceptedUptoCard

/-- THE SECOND FORM's CARD OF 'stonecroplaw25.RescueNone'. -/
def rescueNoneUptoCard : Claim7 := { stood := { row := rescueNoneUptoRow, standIns := [], harness := (true, "d2ff5399c252d4c5209bfdfc539cd5c59657d22ffaca1d6ce178bf5af811ab93"), looks := false }, kinds := [], alts := [], laidByText := true, laidKinds := [.data, .pinned], laidTests := true, laidLooks := .later }
def RescueNoneUptoCardSaid : Prop := Claim7.holds Tryd.pinned (.plain (OpenSpec.upto rescueNoneSpec)) rescueNoneUptoCard

/-- THE SECOND FORM's CARD OF 'stonecroplaw09.RecChecks'. -/
def recChecksUptoCard : Claim7 := { stood := { row := recChecksUptoRow, standIns := [], harness := (true, "d2ff5399c252d4c5209bfdfc539cd5c59657d22ffaca1d6ce178bf5af811ab93"), looks := false }, kinds := [], alts := [], laidByText := true, laidKinds := [.data, .pinned], laidTests := true, laidLooks := .later }
def RecChecksUptoCardSaid : Prop := Claim7.holds Tryd.pinned (.plain (OpenSpec.upto recChecksSpec)) recChecksUptoCard

/-- THE SECOND FORM's CARD OF 'stonecroplaw09.RecGoesOn'. -/
def recGoesOnUptoCard : Claim7 := { stood := { row := recGoesOnUptoRow, standIns := [], harness := (true, "d2ff5399c252d4c5209bfdfc539cd5c59657d22ffaca1d6ce178bf5af811ab93"), looks := false }, kinds := [], alts := [], laidByText := true, laidKinds := [.data, .pinned], laidTests := true, laidLooks := .later }
def RecGoesOnUptoCardSaid : Prop := Claim7.holds Tryd.pinned (.plain (OpenSpec.upto recGoesOnSpec)) recGoesOnUptoCard

/-- THE SECOND FORM's CARD OF 'stonecroplaw09.RecPromise'. -/
def recPromiseUptoCard : Claim7 := { stood := { row := recPromiseUptoRow, standIns := [], harness := (true, "d2ff5399c252d4c5209bfdfc539cd5c59657d22ffaca1d6ce178bf5af811ab93"), looks := false }, kinds := [], alts := [], laidByText := true, laidKinds := [.data, .pinned], laidTests := true, laidLooks := .later }
def RecPromiseUptoCardSaid : Prop := Claim7.holds Tryd.pinned (.plain (OpenSpec.upto recPromiseSpec)) recPromiseUptoCard
end Rows
end Go.Proofs.YtmgiholmhhjpaaaDoor
