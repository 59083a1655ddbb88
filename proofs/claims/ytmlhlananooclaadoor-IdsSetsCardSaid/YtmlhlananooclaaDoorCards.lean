/-
  DERIVED. GIVEN WITH THE SEED: THE CARDS: each row of YtmlhlananooclaaDoorRows.lean that lists a variable, with what it lists TIED to the program's text (the seventh form; the later family's looks); each row that meets fmt, with fmt's text TOLD by the authors' own Lean function (tested against real Go, not proved from fmt's source: count such statements apart). THE CARD IS WHAT COUNTS. Prove the row's statement (the work); the ties are given (YtmlhlananooclaaDoorTie.lean); close each card by the builder's one call (the guide's Derived/Test/ToyasCard.lean, 'card_holds'). Laid BY PROGRAM, IN A SANDBOX (cutbox-door.mjs). By AI agents, Wed Nov 11 2026. No macro, syntax, notation, axiom, sorry.
-/
import Derived.Test.YtmlhlananooclaaDoorRows
import GoSem.ClaimSeven
namespace Go.Proofs.YtmlhlananooclaaDoor
namespace Rows

/-- THE TIED CARD OF 'stonecroplaw05.IdsOrder'. -/
def idsOrderCard : Claim7 := { stood := { row := idsOrderRow, standIns := [], harness := (true, "166225089adabdc8765db59a71dbe5dce6e8f31006468b8ecf3ace6a4348244f"), looks := false }, kinds := [], alts := [], laidByText := true, laidKinds := [.data, .data, .data], laidTests := true, laidLooks := .later }
def IdsOrderCardSaid : Prop := Claim7.holds Tryd.pinned (.plain (OpenSpec.ofChange idsOrderSpec)) idsOrderCard

/-- THE TIED CARD OF 'stonecroplaw05.IdsJoins'. -/
def idsJoinsCard : Claim7 := { stood := { row := idsJoinsRow, standIns := [], harness := (true, "166225089adabdc8765db59a71dbe5dce6e8f31006468b8ecf3ace6a4348244f"), looks := false }, kinds := [], alts := [], laidByText := true, laidKinds := [.data, .data, .data], laidTests := true, laidLooks := .later }
def IdsJoinsCardSaid : Prop := Claim7.holds Tryd.pinned (.plain (OpenSpec.ofChange idsJoinsSpec)) idsJoinsCard

/-- THE TIED CARD OF 'stonecroplaw05.IdsSets'. -/
def idsSetsCard : Claim7 := { stood := { row := idsSetsRow, standIns := [], harness := (true, "166225089adabdc8765db59a71dbe5dce6e8f31006468b8ecf3ace6a4348244f"), looks := false }, kinds := [], alts := [], laidByText := true, laidKinds := [.data, .data, .data], laidTests := true, laidLooks := .later }
def IdsSetsCardSaid : Prop := Claim7.holds Tryd.pinned (.plain (OpenSpec.ofChange idsSetsSpec)) idsSetsCard

/-- THE SECOND FORM's CARD OF 'stonecroplaw05.IdsOrder'. -/
def idsOrderUptoCard : Claim7 := { stood := { row := idsOrderUptoRow, standIns := [], harness := (true, "166225089adabdc8765db59a71dbe5dce6e8f31006468b8ecf3ace6a4348244f"), looks := false }, kinds := [], alts := [], laidByText := true, laidKinds := [.data, .data, .data], laidTests := true, laidLooks := .later }
def IdsOrderUptoCardSaid : Prop := Claim7.holds Tryd.pinned (.plain (OpenSpec.upto idsOrderSpec)) idsOrderUptoCard

/-- THE SECOND FORM's CARD OF 'stonecroplaw05.IdsJoins'. -/
def idsJoinsUptoCard : Claim7 := { stood := { row := idsJoinsUptoRow, standIns := [], harness := (true, "166225089adabdc8765db59a71dbe5dce6e8f31006468b8ecf3ace6a4348244f"), looks := false }, kinds := [], alts := [], laidByText := true, laidKinds := [.data, .data, .data], laidTests := true, laidLooks := .later }
def IdsJoinsUptoCardSaid : Prop := Claim7.holds Tryd.pinned (.plain (OpenSpec.upto idsJoinsSpec)) idsJoinsUptoCard

/-- THE SECOND FORM's CARD OF 'stonecroplaw05.IdsSets'. -/
def idsSetsUptoCard : Claim7 := { stood := { row := idsSetsUptoRow, standIns := [], harness := (true, "166225089adabdc8765db59a71dbe5dce6e8f31006468b8ecf3ace6a4348244f"), looks := false }, kinds := [], alts := [], laidByText := true, laidKinds := [.data, .data, .data], laidTests := true, laidLooks := .later }
def IdsSetsUptoCardSaid : Prop := Claim7.holds Tryd.pinned (.plain (OpenSpec.upto idsSetsSpec)) idsSetsUptoCard
end Rows
end Go.Proofs.YtmlhlananooclaaDoor
