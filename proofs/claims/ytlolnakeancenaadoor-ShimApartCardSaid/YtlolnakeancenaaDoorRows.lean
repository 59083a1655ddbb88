/-
  NARROWER THAN 'FOR EVERY INPUT', by the rows' own cells (each row's printed sentence says how): MsgFrames: loops, laid · MsgTurned: laid · MsgApart: laid · ShimApart: laid · ShimCut: laid.
  DERIVED. THE GIVEN ROWS OF THIS SEAT. 5 by the template 'for every input the law returns true; each argument reads behind the call as it read before'; 0 by the template 'total and deterministic' (their statements: YtlolnakeancenaaDoorTotals.lean).
  GIVEN WITH THE SEED: the statements are not yours to turn. If you find one false, say at which input.
  Laid BY PROGRAM, IN A SANDBOX (cutbox-rows.mjs): the forced cells as the released guide's own fill.sh prints them over the translation a299278d94a59774… (all of the seat's roots in one cut). By AI agents, Wed Nov 11 2026. No macro, syntax, notation, axiom, sorry.
-/
import Derived.Test.YtlolnakeancenaaDoorChecked
import GoSem.PinnedTables
import GoSem.Claim
import GoSem.ClaimJoined
import GoSem.ClaimMapViews
import Derived.JoinedTies
import Derived.KernelRfl
namespace Go.Proofs.YtlolnakeancenaaDoor
/- THE CELL 'sum', in the pinned program and in every row, IS THE sha256 OF THE DUMP (.gsa) THAT YtlolnakeancenaaDoorProg.lean LOADS. Nothing in Lean hashes anything: it is a label: what it is worth is what the hold of that sum in a sandbox is worth. -/
noncomputable def Tryd.pinned : Pinned := { name := "ytlolnakeancenaadoor", sum := "a299278d94a59774ca7c5c570ee3dee709b954b9d3f37417ce283d554b342927", checked := Tryd.checked }
namespace Rows
def none {H : Type} : Left H := { results := [], args := [] }

/- WHAT THE LISTED PACKAGE-LEVEL VARIABLES READ AS WHEN THE CALL BEGINS. Each datum BY PROGRAM (the guide's laid-datum.mjs) off the statement by which the dump's own 'gosem.cut.vars' lays the variable. In a bare row this is a premise. The card (YtlolnakeancenaaDoorCards.lean) ties it to the program's text. -/
def laid_unicode_utf8_acceptRanges {H : Type} : DataW H := .agg [.agg [.lit (.int .u8 128), .lit (.int .u8 191)], .agg [.lit (.int .u8 160), .lit (.int .u8 191)], .agg [.lit (.int .u8 128), .lit (.int .u8 159)], .agg [.lit (.int .u8 144), .lit (.int .u8 191)], .agg [.lit (.int .u8 128), .lit (.int .u8 143)], .agg [.lit (.int .u8 0), .lit (.int .u8 0)], .agg [.lit (.int .u8 0), .lit (.int .u8 0)], .agg [.lit (.int .u8 0), .lit (.int .u8 0)], .agg [.lit (.int .u8 0), .lit (.int .u8 0)], .agg [.lit (.int .u8 0), .lit (.int .u8 0)], .agg [.lit (.int .u8 0), .lit (.int .u8 0)], .agg [.lit (.int .u8 0), .lit (.int .u8 0)], .agg [.lit (.int .u8 0), .lit (.int .u8 0)], .agg [.lit (.int .u8 0), .lit (.int .u8 0)], .agg [.lit (.int .u8 0), .lit (.int .u8 0)], .agg [.lit (.int .u8 0), .lit (.int .u8 0)]]
def laid_stonecrop_msg_kinds {H : Type} : DataW H := .agg [.agg [.lit (.bool false), .lit (.bool false), .lit (.bool false), .lit (.bool false), .lit (.bool false), .lit (.bool false)], .agg [.lit (.bool true), .lit (.bool true), .lit (.bool false), .lit (.bool true), .lit (.bool true), .lit (.bool false)], .agg [.lit (.bool true), .lit (.bool true), .lit (.bool false), .lit (.bool false), .lit (.bool true), .lit (.bool false)], .agg [.lit (.bool true), .lit (.bool true), .lit (.bool false), .lit (.bool true), .lit (.bool true), .lit (.bool false)], .agg [.lit (.bool true), .lit (.bool true), .lit (.bool false), .lit (.bool false), .lit (.bool false), .lit (.bool false)], .agg [.lit (.bool true), .lit (.bool false), .lit (.bool false), .lit (.bool true), .lit (.bool true), .lit (.bool false)], .agg [.lit (.bool true), .lit (.bool true), .lit (.bool false), .lit (.bool false), .lit (.bool false), .lit (.bool false)], .agg [.lit (.bool true), .lit (.bool true), .lit (.bool true), .lit (.bool true), .lit (.bool true), .lit (.bool false)], .agg [.lit (.bool true), .lit (.bool true), .lit (.bool false), .lit (.bool false), .lit (.bool false), .lit (.bool false)], .agg [.lit (.bool false), .lit (.bool false), .lit (.bool false), .lit (.bool false), .lit (.bool false), .lit (.bool true)]]
/-- One of Go's own tables, pinned by name: the form's constant. -/
def laid_unicode_utf8_first : DataW Unit := Go.Pinned.utf8First

/-- 'stonecroplaw10.MsgFrames': WHATEVER THE INPUT: true; the input reads as it did. -/
def msgFramesSpec : ChangeSpec := { name := "msgFrames", fn := fun _ => fun
  | [d1, d2] => { results := [.lit (.bool true)], args := [d1, d2] }
  | _ => none }
def msgFramesRow : OpenClaim := { program := "ytlolnakeancenaadoor", sum := "a299278d94a59774ca7c5c570ee3dee709b954b9d3f37417ce283d554b342927", func := "stonecrop/stonecroplaw10.MsgFrames", spec := "msgFrames", unfollowed := true, recurses := true, named := ["stonecrop/msg.kinds", "unicode/utf8.first", "unicode/utf8.acceptRanges"], loops := true, apart := false, laid := [("unicode/utf8.acceptRanges", laid_unicode_utf8_acceptRanges), ("stonecrop/msg.kinds", laid_stonecrop_msg_kinds), ("unicode/utf8.first", laid_unicode_utf8_first)] }
def MsgFramesSaid : Prop := msgFramesRow.holds Tryd.pinned (OpenSpec.ofChange msgFramesSpec)

/-- ITS FALSE NEIGHBOUR: 'it returns false'. Refute it at one input. -/
def msgFramesWrong : ChangeSpec := { name := "msgFrames", fn := fun _ => fun
  | [d1, d2] => { results := [.lit (.bool false)], args := [d1, d2] }
  | _ => none }
def MsgFramesWrongFalsely : Prop := msgFramesRow.holds Tryd.pinned (OpenSpec.ofChange msgFramesWrong)

/-- 'stonecroplaw10.MsgTurned': WHATEVER THE INPUT: true; the input reads as it did. -/
def msgTurnedSpec : ChangeSpec := { name := "msgTurned", fn := fun _ => fun
  | [d1, d2, d3, d4] => { results := [.lit (.bool true)], args := [d1, d2, d3, d4] }
  | _ => none }
def msgTurnedRow : OpenClaim := { program := "ytlolnakeancenaadoor", sum := "a299278d94a59774ca7c5c570ee3dee709b954b9d3f37417ce283d554b342927", func := "stonecrop/stonecroplaw10.MsgTurned", spec := "msgTurned", unfollowed := true, recurses := true, named := ["stonecrop/msg.kinds", "unicode/utf8.first", "unicode/utf8.acceptRanges"], apart := false, laid := [("unicode/utf8.acceptRanges", laid_unicode_utf8_acceptRanges), ("stonecrop/msg.kinds", laid_stonecrop_msg_kinds), ("unicode/utf8.first", laid_unicode_utf8_first)] }
def MsgTurnedSaid : Prop := msgTurnedRow.holds Tryd.pinned (OpenSpec.ofChange msgTurnedSpec)

/-- ITS FALSE NEIGHBOUR: 'it returns false'. Refute it at one input. -/
def msgTurnedWrong : ChangeSpec := { name := "msgTurned", fn := fun _ => fun
  | [d1, d2, d3, d4] => { results := [.lit (.bool false)], args := [d1, d2, d3, d4] }
  | _ => none }
def MsgTurnedWrongFalsely : Prop := msgTurnedRow.holds Tryd.pinned (OpenSpec.ofChange msgTurnedWrong)

/-- 'stonecroplaw10.MsgApart': WHATEVER THE INPUT: true; the input reads as it did. -/
def msgApartSpec : ChangeSpec := { name := "msgApart", fn := fun _ => fun
  | [d1, d2] => { results := [.lit (.bool true)], args := [d1, d2] }
  | _ => none }
def msgApartRow : OpenClaim := { program := "ytlolnakeancenaadoor", sum := "a299278d94a59774ca7c5c570ee3dee709b954b9d3f37417ce283d554b342927", func := "stonecrop/stonecroplaw10.MsgApart", spec := "msgApart", unfollowed := true, recurses := true, named := ["stonecrop/msg.kinds", "unicode/utf8.first", "unicode/utf8.acceptRanges"], apart := false, laid := [("unicode/utf8.acceptRanges", laid_unicode_utf8_acceptRanges), ("stonecrop/msg.kinds", laid_stonecrop_msg_kinds), ("unicode/utf8.first", laid_unicode_utf8_first)] }
def MsgApartSaid : Prop := msgApartRow.holds Tryd.pinned (OpenSpec.ofChange msgApartSpec)

/-- ITS FALSE NEIGHBOUR: 'it returns false'. Refute it at one input. -/
def msgApartWrong : ChangeSpec := { name := "msgApart", fn := fun _ => fun
  | [d1, d2] => { results := [.lit (.bool false)], args := [d1, d2] }
  | _ => none }
def MsgApartWrongFalsely : Prop := msgApartRow.holds Tryd.pinned (OpenSpec.ofChange msgApartWrong)

/-- 'stonecroplaw11.ShimApart': WHATEVER THE INPUT: true; the input reads as it did. -/
def shimApartSpec : ChangeSpec := { name := "shimApart", fn := fun _ => fun
  | [d] => { results := [.lit (.bool true)], args := [d] }
  | _ => none }
def shimApartRow : OpenClaim := { program := "ytlolnakeancenaadoor", sum := "a299278d94a59774ca7c5c570ee3dee709b954b9d3f37417ce283d554b342927", func := "stonecrop/stonecroplaw11.ShimApart", spec := "shimApart", unfollowed := true, recurses := true, named := ["stonecrop/msg.kinds", "unicode/utf8.first", "unicode/utf8.acceptRanges"], apart := false, laid := [("unicode/utf8.acceptRanges", laid_unicode_utf8_acceptRanges), ("stonecrop/msg.kinds", laid_stonecrop_msg_kinds), ("unicode/utf8.first", laid_unicode_utf8_first)] }
def ShimApartSaid : Prop := shimApartRow.holds Tryd.pinned (OpenSpec.ofChange shimApartSpec)

/-- ITS FALSE NEIGHBOUR: 'it returns false'. Refute it at one input. -/
def shimApartWrong : ChangeSpec := { name := "shimApart", fn := fun _ => fun
  | [d] => { results := [.lit (.bool false)], args := [d] }
  | _ => none }
def ShimApartWrongFalsely : Prop := shimApartRow.holds Tryd.pinned (OpenSpec.ofChange shimApartWrong)

/-- 'stonecroplaw11.ShimCut': WHATEVER THE INPUT: true; the input reads as it did. -/
def shimCutSpec : ChangeSpec := { name := "shimCut", fn := fun _ => fun
  | [d1, d2] => { results := [.lit (.bool true)], args := [d1, d2] }
  | _ => none }
def shimCutRow : OpenClaim := { program := "ytlolnakeancenaadoor", sum := "a299278d94a59774ca7c5c570ee3dee709b954b9d3f37417ce283d554b342927", func := "stonecrop/stonecroplaw11.ShimCut", spec := "shimCut", unfollowed := true, recurses := true, named := ["stonecrop/msg.kinds", "unicode/utf8.first", "unicode/utf8.acceptRanges"], apart := false, laid := [("unicode/utf8.acceptRanges", laid_unicode_utf8_acceptRanges), ("stonecrop/msg.kinds", laid_stonecrop_msg_kinds), ("unicode/utf8.first", laid_unicode_utf8_first)] }
def ShimCutSaid : Prop := shimCutRow.holds Tryd.pinned (OpenSpec.ofChange shimCutSpec)

/-- ITS FALSE NEIGHBOUR: 'it returns false'. Refute it at one input. -/
def shimCutWrong : ChangeSpec := { name := "shimCut", fn := fun _ => fun
  | [d1, d2] => { results := [.lit (.bool false)], args := [d1, d2] }
  | _ => none }
def ShimCutWrongFalsely : Prop := shimCutRow.holds Tryd.pinned (OpenSpec.ofChange shimCutWrong)

/- THE SECOND FORM. 'bulk': how many values and letters a reading holds, each counted each time it is reached (what is shared counts as often as it is met; a slice's spare places count too). A statement '..UptoSaid' is the law's where the arguments, and the package variables that the reading takes, are together of bulk at most 1048576: NARROWER than '..Said'. Prove '..Said' where nothing that the law and all that it calls make is longer than what came in: it says more and counts as full. Else prove '..UptoSaid'. A law counts once. -/
mutual
def uptoBulk {H : Type} : DataW H → Nat
  | .lit (.string bytes) => bytes.length + 1
  | .lit _ => 1
  | .nil => 1
  | .ptr d => uptoBulk d + 1
  | .slice elems spare => uptoBulkAll elems + uptoBulkAll spare + 1
  | .agg parts => uptoBulkAll parts + 1
  | .iface _ d => uptoBulk d + 1
  | .map entries => uptoBulkEntries entries + 1
  | .held _ => 1
def uptoBulkAll {H : Type} : List (DataW H) → Nat
  | [] => 0
  | d :: r => uptoBulk d + uptoBulkAll r
def uptoBulkEntries {H : Type} : List (Lit × DataW H) → Nat
  | [] => 0
  | x :: r => uptoBulkEntry x + uptoBulkEntries r
def uptoBulkEntry {H : Type} : Lit × DataW H → Nat
  | (.string bytes, d) => bytes.length + uptoBulk d + 1
  | (_, d) => uptoBulk d + 1
 end
def uptoSmall : (H : Type) → List (DataW H) → Bool := fun _ ds => decide (uptoBulkAll ds ≤ 1048576)
def OpenSpec.upto (s : _root_.Go.ChangeSpec) : _root_.Go.OpenSpec := { _root_.Go.OpenSpec.ofChange s with cond := some uptoSmall }

/-- 'stonecroplaw10.MsgFrames', WHERE WHAT IT READS IS OF BULK AT MOST 1048576: true; the input reads as it did. -/
def msgFramesUptoRow : OpenClaim := { program := "ytlolnakeancenaadoor", sum := "a299278d94a59774ca7c5c570ee3dee709b954b9d3f37417ce283d554b342927", func := "stonecrop/stonecroplaw10.MsgFrames", spec := "msgFrames", unfollowed := true, recurses := true, named := ["stonecrop/msg.kinds", "unicode/utf8.first", "unicode/utf8.acceptRanges"], loops := true, apart := false, laid := [("unicode/utf8.acceptRanges", laid_unicode_utf8_acceptRanges), ("stonecrop/msg.kinds", laid_stonecrop_msg_kinds), ("unicode/utf8.first", laid_unicode_utf8_first)], narrowed := true }
def MsgFramesUptoSaid : Prop := msgFramesUptoRow.holds Tryd.pinned (OpenSpec.upto msgFramesSpec)

/-- 'stonecroplaw10.MsgTurned', WHERE WHAT IT READS IS OF BULK AT MOST 1048576: true; the input reads as it did. -/
def msgTurnedUptoRow : OpenClaim := { program := "ytlolnakeancenaadoor", sum := "a299278d94a59774ca7c5c570ee3dee709b954b9d3f37417ce283d554b342927", func := "stonecrop/stonecroplaw10.MsgTurned", spec := "msgTurned", unfollowed := true, recurses := true, named := ["stonecrop/msg.kinds", "unicode/utf8.first", "unicode/utf8.acceptRanges"], apart := false, laid := [("unicode/utf8.acceptRanges", laid_unicode_utf8_acceptRanges), ("stonecrop/msg.kinds", laid_stonecrop_msg_kinds), ("unicode/utf8.first", laid_unicode_utf8_first)], narrowed := true }
def MsgTurnedUptoSaid : Prop := msgTurnedUptoRow.holds Tryd.pinned (OpenSpec.upto msgTurnedSpec)

/-- 'stonecroplaw10.MsgApart', WHERE WHAT IT READS IS OF BULK AT MOST 1048576: true; the input reads as it did. -/
def msgApartUptoRow : OpenClaim := { program := "ytlolnakeancenaadoor", sum := "a299278d94a59774ca7c5c570ee3dee709b954b9d3f37417ce283d554b342927", func := "stonecrop/stonecroplaw10.MsgApart", spec := "msgApart", unfollowed := true, recurses := true, named := ["stonecrop/msg.kinds", "unicode/utf8.first", "unicode/utf8.acceptRanges"], apart := false, laid := [("unicode/utf8.acceptRanges", laid_unicode_utf8_acceptRanges), ("stonecrop/msg.kinds", laid_stonecrop_msg_kinds), ("unicode/utf8.first", laid_unicode_utf8_first)], narrowed := true }
def MsgApartUptoSaid : Prop := msgApartUptoRow.holds Tryd.pinned (OpenSpec.upto msgApartSpec)

/-- 'stonecroplaw11.ShimApart', WHERE WHAT IT READS IS OF BULK AT MOST 1048576: true; the input reads as it did. -/
def shimApartUptoRow : OpenClaim := { program := "ytlolnakeancenaadoor", sum := "a299278d94a59774ca7c5c570ee3dee709b954b9d3f37417ce283d554b342927", func := "stonecrop/stonecroplaw11.ShimApart", spec := "shimApart", unfollowed := true, recurses := true, named := ["stonecrop/msg.kinds", "unicode/utf8.first", "unicode/utf8.acceptRanges"], apart := false, laid := [("unicode/utf8.acceptRanges", laid_unicode_utf8_acceptRanges), ("stonecrop/msg.kinds", laid_stonecrop_msg_kinds), ("unicode/utf8.first", laid_unicode_utf8_first)], narrowed := true }
def ShimApartUptoSaid : Prop := shimApartUptoRow.holds Tryd.pinned (OpenSpec.upto shimApartSpec)

/-- 'stonecroplaw11.ShimCut', WHERE WHAT IT READS IS OF BULK AT MOST 1048576: true; the input reads as it did. -/
def shimCutUptoRow : OpenClaim := { program := "ytlolnakeancenaadoor", sum := "a299278d94a59774ca7c5c570ee3dee709b954b9d3f37417ce283d554b342927", func := "stonecrop/stonecroplaw11.ShimCut", spec := "shimCut", unfollowed := true, recurses := true, named := ["stonecrop/msg.kinds", "unicode/utf8.first", "unicode/utf8.acceptRanges"], apart := false, laid := [("unicode/utf8.acceptRanges", laid_unicode_utf8_acceptRanges), ("stonecrop/msg.kinds", laid_stonecrop_msg_kinds), ("unicode/utf8.first", laid_unicode_utf8_first)], narrowed := true }
def ShimCutUptoSaid : Prop := shimCutUptoRow.holds Tryd.pinned (OpenSpec.upto shimCutSpec)

end Rows
end Go.Proofs.YtlolnakeancenaaDoor
