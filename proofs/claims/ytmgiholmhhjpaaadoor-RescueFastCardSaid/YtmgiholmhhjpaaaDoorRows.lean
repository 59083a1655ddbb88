/-
  NARROWER THAN 'FOR EVERY INPUT', by the rows' own cells (each row's printed sentence says how): RescueFast: laid · RescueAccepted: laid · RescueNone: laid · RecChecks: laid · RecGoesOn: laid · RecPromise: laid.
  DERIVED. THE GIVEN ROWS OF THIS SEAT. 6 by the template 'for every input the law returns true; each argument reads behind the call as it read before'; 0 by the template 'total and deterministic' (their statements: YtmgiholmhhjpaaaDoorTotals.lean).
  GIVEN WITH THE SEED: the statements are not yours to turn. If you find one false, say at which input.
  Laid BY PROGRAM, IN A SANDBOX (cutbox-rows.mjs): the forced cells as the released guide's own fill.sh prints them over the translation 5b29dac018b4bfae… (all of the seat's roots in one cut). By AI agents, Wed Nov 11 2026. No macro, syntax, notation, axiom, sorry.
-/
import Derived.Test.YtmgiholmhhjpaaaDoorChecked
import GoSem.PinnedTables
import GoSem.Claim
import GoSem.ClaimJoined
import GoSem.ClaimMapViews
import Derived.JoinedTies
import Derived.KernelRfl
namespace Go.Proofs.YtmgiholmhhjpaaaDoor
/- THE CELL 'sum', in the pinned program and in every row, IS THE sha256 OF THE DUMP (.gsa) THAT YtmgiholmhhjpaaaDoorProg.lean LOADS. Nothing in Lean hashes anything: it is a label: what it is worth is what the hold of that sum in a sandbox is worth. -/
noncomputable def Tryd.pinned : Pinned := { name := "ytmgiholmhhjpaaadoor", sum := "5b29dac018b4bfae55b62f52145f3855affae4102e387d6e9b379f89a4ec57d0", checked := Tryd.checked }
namespace Rows
def none {H : Type} : Left H := { results := [], args := [] }

/- WHAT THE LISTED PACKAGE-LEVEL VARIABLES READ AS WHEN THE CALL BEGINS. Each datum BY PROGRAM (the guide's laid-datum.mjs) off the statement by which the dump's own 'gosem.cut.vars' lays the variable. In a bare row this is a premise. The card (YtmgiholmhhjpaaaDoorCards.lean) ties it to the program's text. -/
def laid_unicode_utf8_acceptRanges {H : Type} : DataW H := .agg [.agg [.lit (.int .u8 128), .lit (.int .u8 191)], .agg [.lit (.int .u8 160), .lit (.int .u8 191)], .agg [.lit (.int .u8 128), .lit (.int .u8 159)], .agg [.lit (.int .u8 144), .lit (.int .u8 191)], .agg [.lit (.int .u8 128), .lit (.int .u8 143)], .agg [.lit (.int .u8 0), .lit (.int .u8 0)], .agg [.lit (.int .u8 0), .lit (.int .u8 0)], .agg [.lit (.int .u8 0), .lit (.int .u8 0)], .agg [.lit (.int .u8 0), .lit (.int .u8 0)], .agg [.lit (.int .u8 0), .lit (.int .u8 0)], .agg [.lit (.int .u8 0), .lit (.int .u8 0)], .agg [.lit (.int .u8 0), .lit (.int .u8 0)], .agg [.lit (.int .u8 0), .lit (.int .u8 0)], .agg [.lit (.int .u8 0), .lit (.int .u8 0)], .agg [.lit (.int .u8 0), .lit (.int .u8 0)], .agg [.lit (.int .u8 0), .lit (.int .u8 0)]]
/-- One of Go's own tables, pinned by name: the form's constant. -/
def laid_unicode_utf8_first : DataW Unit := Go.Pinned.utf8First

/-- 'stonecroplaw25.RescueFast': WHATEVER THE INPUT: true; the input reads as it did. -/
def rescueFastSpec : ChangeSpec := { name := "rescueFast", fn := fun _ => fun
  | [d1, d2, d3, d4, d5, d6, d7] => { results := [.lit (.bool true)], args := [d1, d2, d3, d4, d5, d6, d7] }
  | _ => none }
def rescueFastRow : OpenClaim := { program := "ytmgiholmhhjpaaadoor", sum := "5b29dac018b4bfae55b62f52145f3855affae4102e387d6e9b379f89a4ec57d0", func := "stonecrop/stonecroplaw25.RescueFast", spec := "rescueFast", unfollowed := true, recurses := true, named := ["unicode/utf8.first", "unicode/utf8.acceptRanges"], apart := false, laid := [("unicode/utf8.acceptRanges", laid_unicode_utf8_acceptRanges), ("unicode/utf8.first", laid_unicode_utf8_first)] }
def RescueFastSaid : Prop := rescueFastRow.holds Tryd.pinned (OpenSpec.ofChange rescueFastSpec)

/-- ITS FALSE NEIGHBOUR: 'it returns false'. Refute it at one input. -/
def rescueFastWrong : ChangeSpec := { name := "rescueFast", fn := fun _ => fun
  | [d1, d2, d3, d4, d5, d6, d7] => { results := [.lit (.bool false)], args := [d1, d2, d3, d4, d5, d6, d7] }
  | _ => none }
def RescueFastWrongFalsely : Prop := rescueFastRow.holds Tryd.pinned (OpenSpec.ofChange rescueFastWrong)

/-- 'stonecroplaw25.RescueAccepted': WHATEVER THE INPUT: true; the input reads as it did. -/
def rescueAcceptedSpec : ChangeSpec := { name := "rescueAccepted", fn := fun _ => fun
  | [d1, d2, d3, d4, d5, d6, d7, d8, d9] => { results := [.lit (.bool true)], args := [d1, d2, d3, d4, d5, d6, d7, d8, d9] }
  | _ => none }
def rescueAcceptedRow : OpenClaim := { program := "ytmgiholmhhjpaaadoor", sum := "5b29dac018b4bfae55b62f52145f3855affae4102e387d6e9b379f89a4ec57d0", func := "stonecrop/stonecroplaw25.RescueAccepted", spec := "rescueAccepted", unfollowed := true, recurses := true, named := ["unicode/utf8.first", "unicode/utf8.acceptRanges"], apart := false, laid := [("unicode/utf8.acceptRanges", laid_unicode_utf8_acceptRanges), ("unicode/utf8.first", laid_unicode_utf8_first)] }
def RescueAcceptedSaid : Prop := rescueAcceptedRow.holds Tryd.pinned (OpenSpec.ofChange rescueAcceptedSpec)

/-- ITS FALSE NEIGHBOUR: 'it returns false'. Refute it at one input. -/
def rescueAcceptedWrong : ChangeSpec := { name := "rescueAccepted", fn := fun _ => fun
  | [d1, d2, d3, d4, d5, d6, d7, d8, d9] => { results := [.lit (.bool false)], args := [d1, d2, d3, d4, d5, d6, d7, d8, d9] }
  | _ => none }
def RescueAcceptedWrongFalsely : Prop := rescueAcceptedRow.holds Tryd.pinned (OpenSpec.ofChange rescueAcceptedWrong)

/-- 'stonecroplaw25.RescueNone': WHATEVER THE INPUT: true; the input reads as it did. -/
def rescueNoneSpec : ChangeSpec := { name := "rescueNone", fn := fun _ => fun
  | [d1, d2, d3, d4, d5, d6] => { results := [.lit (.bool true)], args := [d1, d2, d3, d4, d5, d6] }
  | _ => none }
def rescueNoneRow : OpenClaim := { program := "ytmgiholmhhjpaaadoor", sum := "5b29dac018b4bfae55b62f52145f3855affae4102e387d6e9b379f89a4ec57d0", func := "stonecrop/stonecroplaw25.RescueNone", spec := "rescueNone", unfollowed := true, recurses := true, named := ["unicode/utf8.first", "unicode/utf8.acceptRanges"], apart := false, laid := [("unicode/utf8.acceptRanges", laid_unicode_utf8_acceptRanges), ("unicode/utf8.first", laid_unicode_utf8_first)] }
def RescueNoneSaid : Prop := rescueNoneRow.holds Tryd.pinned (OpenSpec.ofChange rescueNoneSpec)

/-- ITS FALSE NEIGHBOUR: 'it returns false'. Refute it at one input. -/
def rescueNoneWrong : ChangeSpec := { name := "rescueNone", fn := fun _ => fun
  | [d1, d2, d3, d4, d5, d6] => { results := [.lit (.bool false)], args := [d1, d2, d3, d4, d5, d6] }
  | _ => none }
def RescueNoneWrongFalsely : Prop := rescueNoneRow.holds Tryd.pinned (OpenSpec.ofChange rescueNoneWrong)

/-- 'stonecroplaw09.RecChecks': WHATEVER THE INPUT: true; the input reads as it did. -/
def recChecksSpec : ChangeSpec := { name := "recChecks", fn := fun _ => fun
  | [d1, d2] => { results := [.lit (.bool true)], args := [d1, d2] }
  | _ => none }
def recChecksRow : OpenClaim := { program := "ytmgiholmhhjpaaadoor", sum := "5b29dac018b4bfae55b62f52145f3855affae4102e387d6e9b379f89a4ec57d0", func := "stonecrop/stonecroplaw09.RecChecks", spec := "recChecks", unfollowed := true, recurses := true, named := ["unicode/utf8.first", "unicode/utf8.acceptRanges"], apart := false, laid := [("unicode/utf8.acceptRanges", laid_unicode_utf8_acceptRanges), ("unicode/utf8.first", laid_unicode_utf8_first)] }
def RecChecksSaid : Prop := recChecksRow.holds Tryd.pinned (OpenSpec.ofChange recChecksSpec)

/-- ITS FALSE NEIGHBOUR: 'it returns false'. Refute it at one input. -/
def recChecksWrong : ChangeSpec := { name := "recChecks", fn := fun _ => fun
  | [d1, d2] => { results := [.lit (.bool false)], args := [d1, d2] }
  | _ => none }
def RecChecksWrongFalsely : Prop := recChecksRow.holds Tryd.pinned (OpenSpec.ofChange recChecksWrong)

/-- 'stonecroplaw09.RecGoesOn': WHATEVER THE INPUT: true; the input reads as it did. -/
def recGoesOnSpec : ChangeSpec := { name := "recGoesOn", fn := fun _ => fun
  | [d1, d2, d3] => { results := [.lit (.bool true)], args := [d1, d2, d3] }
  | _ => none }
def recGoesOnRow : OpenClaim := { program := "ytmgiholmhhjpaaadoor", sum := "5b29dac018b4bfae55b62f52145f3855affae4102e387d6e9b379f89a4ec57d0", func := "stonecrop/stonecroplaw09.RecGoesOn", spec := "recGoesOn", unfollowed := true, recurses := true, named := ["unicode/utf8.first", "unicode/utf8.acceptRanges"], apart := false, laid := [("unicode/utf8.acceptRanges", laid_unicode_utf8_acceptRanges), ("unicode/utf8.first", laid_unicode_utf8_first)] }
def RecGoesOnSaid : Prop := recGoesOnRow.holds Tryd.pinned (OpenSpec.ofChange recGoesOnSpec)

/-- ITS FALSE NEIGHBOUR: 'it returns false'. Refute it at one input. -/
def recGoesOnWrong : ChangeSpec := { name := "recGoesOn", fn := fun _ => fun
  | [d1, d2, d3] => { results := [.lit (.bool false)], args := [d1, d2, d3] }
  | _ => none }
def RecGoesOnWrongFalsely : Prop := recGoesOnRow.holds Tryd.pinned (OpenSpec.ofChange recGoesOnWrong)

/-- 'stonecroplaw09.RecPromise': WHATEVER THE INPUT: true; the input reads as it did. -/
def recPromiseSpec : ChangeSpec := { name := "recPromise", fn := fun _ => fun
  | [d1, d2] => { results := [.lit (.bool true)], args := [d1, d2] }
  | _ => none }
def recPromiseRow : OpenClaim := { program := "ytmgiholmhhjpaaadoor", sum := "5b29dac018b4bfae55b62f52145f3855affae4102e387d6e9b379f89a4ec57d0", func := "stonecrop/stonecroplaw09.RecPromise", spec := "recPromise", unfollowed := true, recurses := true, named := ["unicode/utf8.first", "unicode/utf8.acceptRanges"], apart := false, laid := [("unicode/utf8.acceptRanges", laid_unicode_utf8_acceptRanges), ("unicode/utf8.first", laid_unicode_utf8_first)] }
def RecPromiseSaid : Prop := recPromiseRow.holds Tryd.pinned (OpenSpec.ofChange recPromiseSpec)

/-- ITS FALSE NEIGHBOUR: 'it returns false'. Refute it at one input. -/
def recPromiseWrong : ChangeSpec := { name := "recPromise", fn := fun _ => fun
  | [d1, d2] => { results := [.lit (.bool false)], args := [d1, d2] }
  | _ => none }
def RecPromiseWrongFalsely : Prop := recPromiseRow.holds Tryd.pinned (OpenSpec.ofChange recPromiseWrong)

/- THE SECOND FORM. 'bulk': how many values and letters a reading holds, each counted each time it is reached (what is shared counts as often as it is met; a slice's spare places count too). A statement '..UptoSaid' is the law's where the arguments, and the package variables that the reading takes, are together of bulk at most 1048576: NARROWER than '..Said'. Prove '..Said' where nothing that the law and all that it calls make is longer than what came in: it says more and counts as full. Else prove '..UptoSaid'. A law counts once. -/
mutual
def uptoBulk {H : Type} : DataW H → Nat
  | .lit (.string bytes) => bytes.length + 1
  | .lit _ => 1
  | .nil => 1
  | .ptr d => uptoBulk d + 1
  | .slice elems spare => uptoBulkAll elems + uptoBulkAll spare + 1
  | .agg parts => uptoBulkAll parts + 1
  | .iface _ d => uptoBulk d + 1
  | .map entries => uptoBulkEntries entries + 1
  | .held _ => 1
def uptoBulkAll {H : Type} : List (DataW H) → Nat
  | [] => 0
  | d :: r => uptoBulk d + uptoBulkAll r
def uptoBulkEntries {H : Type} : List (Lit × DataW H) → Nat
  | [] => 0
  | x :: r => uptoBulkEntry x + uptoBulkEntries r
def uptoBulkEntry {H : Type} : Lit × DataW H → Nat
  | (.string bytes, d) => bytes.length + uptoBulk d + 1
  | (_, d) => uptoBulk d + 1
 end
def uptoSmall : (H : Type) → List (DataW H) → Bool := fun _ ds => decide (uptoBulkAll ds ≤ 1048576)
def OpenSpec.upto (s : _root_.Go.ChangeSpec) : _root_.Go.OpenSpec := { _root_.Go.OpenSpec.ofChange s with cond := some uptoSmall }

/-- 'stonecroplaw25.RescueFast', WHERE WHAT IT READS IS OF BULK AT MOST 1048576: true; the input reads as it did. -/
def rescueFastUptoRow : OpenClaim := { program := "ytmgiholmhhjpaaadoor", sum := "5b29dac018b4bfae55b62f52145f3855affae4102e387d6e9b379f89a4ec57d0", func := "stonecrop/stonecroplaw25.RescueFast", spec := "rescueFast", unfollowed := true, recurses := true, named := ["unicode/utf8.first", "unicode/utf8.acceptRanges"], apart := false, laid := [("unicode/utf8.acceptRanges", laid_unicode_utf8_acceptRanges), ("unicode/utf8.first", laid_unicode_utf8_first)], narrowed := true }
def RescueFastUptoSaid : Prop := rescueFastUptoRow.holds Tryd.pinned (OpenSpec.upto rescueFastSpec)

/-- 'stonecroplaw25.RescueAccepted', WHERE WHAT IT READS IS OF BULK AT MOST 1048576: true; the input reads as it did. -/
def rescueAcceptedUptoRow : OpenClaim := { program := "ytmgiholmhhjpaaadoor", sum := "5b29dac018b4bfae55b62f52145f3855affae4102e387d6e9b379f89a4ec57d0", func := "stonecrop/stonecroplaw25.RescueAccepted", spec := "rescueAccepted", unfollowed := true, recurses := true, named := ["unicode/utf8.first", "unicode/utf8.acceptRanges"], apart := false, laid := [("unicode/utf8.acceptRanges", laid_unicode_utf8_acceptRanges), ("unicode/utf8.first", laid_unicode_utf8_first)], narrowed := true }
def RescueAcceptedUptoSaid : Prop := rescueAcceptedUptoRow.holds Tryd.pinned (OpenSpec.upto rescueAcceptedSpec)

/-- 'stonecroplaw25.RescueNone', WHERE WHAT IT READS IS OF BULK AT MOST 1048576: true; the input reads as it did. -/
def rescueNoneUptoRow : OpenClaim := { program := "ytmgiholmhhjpaaadoor", sum := "5b29dac018b4bfae55b62f52145f3855affae4102e387d6e9b379f89a4ec57d0", func := "stonecrop/stonecroplaw25.RescueNone", spec := "rescueNone", unfollowed := true, recurses := true, named := ["unicode/utf8.first", "unicode/utf8.acceptRanges"], apart := false, laid := [("unicode/utf8.acceptRanges", laid_unicode_utf8_acceptRanges), ("unicode/utf8.first", laid_unicode_utf8_first)], narrowed := true }
def RescueNoneUptoSaid : Prop := rescueNoneUptoRow.holds Tryd.pinned (OpenSpec.upto rescueNoneSpec)

/-- 'stonecroplaw09.RecChecks', WHERE WHAT IT READS IS OF BULK AT MOST 1048576: true; the input reads as it did. -/
def recChecksUptoRow : OpenClaim := { program := "ytmgiholmhhjpaaadoor", sum := "5b29dac018b4bfae55b62f52145f3855affae4102e387d6e9b379f89a4ec57d0", func := "stonecrop/stonecroplaw09.RecChecks", spec := "recChecks", unfollowed := true, recurses := true, named := ["unicode/utf8.first", "unicode/utf8.acceptRanges"], apart := false, laid := [("unicode/utf8.acceptRanges", laid_unicode_utf8_acceptRanges), ("unicode/utf8.first", laid_unicode_utf8_first)], narrowed := true }
def RecChecksUptoSaid : Prop := recChecksUptoRow.holds Tryd.pinned (OpenSpec.upto recChecksSpec)

/-- 'stonecroplaw09.RecGoesOn', WHERE WHAT IT READS IS OF BULK AT MOST 1048576: true; the input reads as it did. -/
def recGoesOnUptoRow : OpenClaim := { program := "ytmgiholmhhjpaaadoor", sum := "5b29dac018b4bfae55b62f52145f3855affae4102e387d6e9b379f89a4ec57d0", func := "stonecrop/stonecroplaw09.RecGoesOn", spec := "recGoesOn", unfollowed := true, recurses := true, named := ["unicode/utf8.first", "unicode/utf8.acceptRanges"], apart := false, laid := [("unicode/utf8.acceptRanges", laid_unicode_utf8_acceptRanges), ("unicode/utf8.first", laid_unicode_utf8_first)], narrowed := true }
def RecGoesOnUptoSaid : Prop := recGoesOnUptoRow.holds Tryd.pinned (OpenSpec.upto recGoesOnSpec)

/-- 'stonecroplaw09.RecPromise', WHERE WHAT IT READS IS OF BULK AT MOST 1048576: true; the input reads as it did. -/
def recPromiseUptoRow : OpenClaim := { program := "ytmgiholmhhjpaaadoor", sum := "5b29dac018b4bfae55b62f52145f3855affae4102e387d6e9b379f89a4ec57d0", func := "stonecrop/stonecroplaw09.RecPromise", spec := "recPromise", unfollowed := true, recurses := true, named := ["unicode/utf8.first", "unicode/utf8.acceptRanges"], apart := false, laid := [("unicode/utf8.acceptRanges", laid_unicode_utf8_acceptRanges), ("unicode/utf8.first", laid_unicode_utf8_first)], narrowed := true }
def RecPromiseUptoSaid : Prop := recPromiseUptoRow.holds Tryd.pinned (OpenSpec.upto recPromiseSpec)

end Rows
end Go.Proofs.YtmgiholmhhjpaaaDoor
