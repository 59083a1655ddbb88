/-
  NARROWER THAN 'FOR EVERY INPUT', by the rows' own cells (each row's printed sentence says how): IdsItems: loops, laid · MsgFrames: loops, laid · MsgTurned: laid · MsgApart: laid · ShimApart: laid · ShimCut: laid.
  DERIVED. THE GIVEN ROWS OF THIS SEAT. 6 by the template 'for every input the law returns true; each argument reads behind the call as it read before'; 0 by the template 'total and deterministic' (their statements: YtfdfcceleaodaaaDoorTotals.lean).
  GIVEN WITH THE SEED: the statements are not yours to turn. If you find one false, say at which input.
  Laid BY PROGRAM, IN A SANDBOX (cutbox-rows.mjs): the forced cells as the released guide's own fill.sh prints them over the translation c70d450f0cab22b7… (all of the seat's roots in one cut). By AI agents, Wed Nov 11 2026. No macro, syntax, notation, axiom, sorry.
-/
import Derived.Test.YtfdfcceleaodaaaDoorChecked
import GoSem.PinnedTables
import GoSem.Claim
import GoSem.ClaimJoined
import GoSem.ClaimMapViews
import Derived.JoinedTies
import Derived.KernelRfl
namespace Go.Proofs.YtfdfcceleaodaaaDoor
/- THE CELL 'sum', in the pinned program and in every row, IS THE sha256 OF THE DUMP (.gsa) THAT YtfdfcceleaodaaaDoorProg.lean LOADS. Nothing in Lean hashes anything: it is a label: what it is worth is what the hold of that sum in a sandbox is worth. -/
noncomputable def Tryd.pinned : Pinned := { name := "ytfdfcceleaodaaadoor", sum := "c70d450f0cab22b70f1bfac70ecf621248631924a741f407801a606d23e74cff", checked := Tryd.checked }
namespace Rows
def none {H : Type} : Left H := { results := [], args := [] }

/- WHAT THE LISTED PACKAGE-LEVEL VARIABLES READ AS WHEN THE CALL BEGINS. Each datum BY PROGRAM (the guide's laid-datum.mjs) off the statement by which the dump's own 'gosem.cut.vars' lays the variable. In a bare row this is a premise. The card (YtfdfcceleaodaaaDoorCards.lean) ties it to the program's text. -/
def laid_math_bits_deBruijn32tab {H : Type} : DataW H := .agg [.lit (.int .u8 0), .lit (.int .u8 1), .lit (.int .u8 28), .lit (.int .u8 2), .lit (.int .u8 29), .lit (.int .u8 14), .lit (.int .u8 24), .lit (.int .u8 3), .lit (.int .u8 30), .lit (.int .u8 22), .lit (.int .u8 20), .lit (.int .u8 15), .lit (.int .u8 25), .lit (.int .u8 17), .lit (.int .u8 4), .lit (.int .u8 8), .lit (.int .u8 31), .lit (.int .u8 27), .lit (.int .u8 13), .lit (.int .u8 23), .lit (.int .u8 21), .lit (.int .u8 19), .lit (.int .u8 16), .lit (.int .u8 7), .lit (.int .u8 26), .lit (.int .u8 12), .lit (.int .u8 18), .lit (.int .u8 6), .lit (.int .u8 11), .lit (.int .u8 5), .lit (.int .u8 10), .lit (.int .u8 9)]
def laid_math_bits_deBruijn64tab {H : Type} : DataW H := .agg [.lit (.int .u8 0), .lit (.int .u8 1), .lit (.int .u8 56), .lit (.int .u8 2), .lit (.int .u8 57), .lit (.int .u8 49), .lit (.int .u8 28), .lit (.int .u8 3), .lit (.int .u8 61), .lit (.int .u8 58), .lit (.int .u8 42), .lit (.int .u8 50), .lit (.int .u8 38), .lit (.int .u8 29), .lit (.int .u8 17), .lit (.int .u8 4), .lit (.int .u8 62), .lit (.int .u8 47), .lit (.int .u8 59), .lit (.int .u8 36), .lit (.int .u8 45), .lit (.int .u8 43), .lit (.int .u8 51), .lit (.int .u8 22), .lit (.int .u8 53), .lit (.int .u8 39), .lit (.int .u8 33), .lit (.int .u8 30), .lit (.int .u8 24), .lit (.int .u8 18), .lit (.int .u8 12), .lit (.int .u8 5), .lit (.int .u8 63), .lit (.int .u8 55), .lit (.int .u8 48), .lit (.int .u8 27), .lit (.int .u8 60), .lit (.int .u8 41), .lit (.int .u8 37), .lit (.int .u8 16), .lit (.int .u8 46), .lit (.int .u8 35), .lit (.int .u8 44), .lit (.int .u8 21), .lit (.int .u8 52), .lit (.int .u8 32), .lit (.int .u8 23), .lit (.int .u8 11), .lit (.int .u8 54), .lit (.int .u8 26), .lit (.int .u8 40), .lit (.int .u8 15), .lit (.int .u8 34), .lit (.int .u8 20), .lit (.int .u8 31), .lit (.int .u8 10), .lit (.int .u8 25), .lit (.int .u8 14), .lit (.int .u8 19), .lit (.int .u8 9), .lit (.int .u8 13), .lit (.int .u8 8), .lit (.int .u8 7), .lit (.int .u8 6)]
def laid_internal_strconv_uint64pow10 {H : Type} : DataW H := .agg [.lit (.int .u64 1), .lit (.int .u64 10), .lit (.int .u64 100), .lit (.int .u64 1000), .lit (.int .u64 10000), .lit (.int .u64 100000), .lit (.int .u64 1000000), .lit (.int .u64 10000000), .lit (.int .u64 100000000), .lit (.int .u64 1000000000), .lit (.int .u64 10000000000), .lit (.int .u64 100000000000), .lit (.int .u64 1000000000000), .lit (.int .u64 10000000000000), .lit (.int .u64 100000000000000), .lit (.int .u64 1000000000000000), .lit (.int .u64 10000000000000000), .lit (.int .u64 100000000000000000), .lit (.int .u64 1000000000000000000), .lit (.int .u64 10000000000000000000)]
def laid_unicode_utf8_acceptRanges {H : Type} : DataW H := .agg [.agg [.lit (.int .u8 128), .lit (.int .u8 191)], .agg [.lit (.int .u8 160), .lit (.int .u8 191)], .agg [.lit (.int .u8 128), .lit (.int .u8 159)], .agg [.lit (.int .u8 144), .lit (.int .u8 191)], .agg [.lit (.int .u8 128), .lit (.int .u8 143)], .agg [.lit (.int .u8 0), .lit (.int .u8 0)], .agg [.lit (.int .u8 0), .lit (.int .u8 0)], .agg [.lit (.int .u8 0), .lit (.int .u8 0)], .agg [.lit (.int .u8 0), .lit (.int .u8 0)], .agg [.lit (.int .u8 0), .lit (.int .u8 0)], .agg [.lit (.int .u8 0), .lit (.int .u8 0)], .agg [.lit (.int .u8 0), .lit (.int .u8 0)], .agg [.lit (.int .u8 0), .lit (.int .u8 0)], .agg [.lit (.int .u8 0), .lit (.int .u8 0)], .agg [.lit (.int .u8 0), .lit (.int .u8 0)], .agg [.lit (.int .u8 0), .lit (.int .u8 0)]]
def laid_stonecrop_msg_kinds {H : Type} : DataW H := .agg [.agg [.lit (.bool false), .lit (.bool false), .lit (.bool false), .lit (.bool false), .lit (.bool false), .lit (.bool false)], .agg [.lit (.bool true), .lit (.bool true), .lit (.bool false), .lit (.bool true), .lit (.bool true), .lit (.bool false)], .agg [.lit (.bool true), .lit (.bool true), .lit (.bool false), .lit (.bool false), .lit (.bool true), .lit (.bool false)], .agg [.lit (.bool true), .lit (.bool true), .lit (.bool false), .lit (.bool true), .lit (.bool true), .lit (.bool false)], .agg [.lit (.bool true), .lit (.bool true), .lit (.bool false), .lit (.bool false), .lit (.bool false), .lit (.bool false)], .agg [.lit (.bool true), .lit (.bool false), .lit (.bool false), .lit (.bool true), .lit (.bool true), .lit (.bool false)], .agg [.lit (.bool true), .lit (.bool true), .lit (.bool false), .lit (.bool false), .lit (.bool false), .lit (.bool false)], .agg [.lit (.bool true), .lit (.bool true), .lit (.bool true), .lit (.bool true), .lit (.bool true), .lit (.bool false)], .agg [.lit (.bool true), .lit (.bool true), .lit (.bool false), .lit (.bool false), .lit (.bool false), .lit (.bool false)], .agg [.lit (.bool false), .lit (.bool false), .lit (.bool false), .lit (.bool false), .lit (.bool false), .lit (.bool true)]]
/-- One of Go's own tables, pinned by name: the form's constant. -/
def laid_unicode_utf8_first : DataW Unit := Go.Pinned.utf8First

/-- 'stonecroplaw05.IdsItems': WHATEVER THE INPUT: true; the input reads as it did. -/
def idsItemsSpec : ChangeSpec := { name := "idsItems", fn := fun _ => fun
  | [d1, d2] => { results := [.lit (.bool true)], args := [d1, d2] }
  | _ => none }
def idsItemsRow : OpenClaim := { program := "ytfdfcceleaodaaadoor", sum := "c70d450f0cab22b70f1bfac70ecf621248631924a741f407801a606d23e74cff", func := "stonecrop/stonecroplaw05.IdsItems", spec := "idsItems", unfollowed := true, recurses := true, named := ["internal/strconv.uint64pow10", "math/bits.deBruijn32tab", "math/bits.deBruijn64tab"], loops := true, apart := false, laid := [("math/bits.deBruijn32tab", laid_math_bits_deBruijn32tab), ("math/bits.deBruijn64tab", laid_math_bits_deBruijn64tab), ("internal/strconv.uint64pow10", laid_internal_strconv_uint64pow10)] }
def IdsItemsSaid : Prop := idsItemsRow.holds Tryd.pinned (OpenSpec.ofChange idsItemsSpec)

/-- ITS FALSE NEIGHBOUR: 'it returns false'. Refute it at one input. -/
def idsItemsWrong : ChangeSpec := { name := "idsItems", fn := fun _ => fun
  | [d1, d2] => { results := [.lit (.bool false)], args := [d1, d2] }
  | _ => none }
def IdsItemsWrongFalsely : Prop := idsItemsRow.holds Tryd.pinned (OpenSpec.ofChange idsItemsWrong)

/-- 'stonecroplaw10.MsgFrames': WHATEVER THE INPUT: true; the input reads as it did. -/
def msgFramesSpec : ChangeSpec := { name := "msgFrames", fn := fun _ => fun
  | [d1, d2] => { results := [.lit (.bool true)], args := [d1, d2] }
  | _ => none }
def msgFramesRow : OpenClaim := { program := "ytfdfcceleaodaaadoor", sum := "c70d450f0cab22b70f1bfac70ecf621248631924a741f407801a606d23e74cff", func := "stonecrop/stonecroplaw10.MsgFrames", spec := "msgFrames", unfollowed := true, recurses := true, named := ["stonecrop/msg.kinds", "unicode/utf8.first", "unicode/utf8.acceptRanges"], loops := true, apart := false, laid := [("unicode/utf8.acceptRanges", laid_unicode_utf8_acceptRanges), ("stonecrop/msg.kinds", laid_stonecrop_msg_kinds), ("unicode/utf8.first", laid_unicode_utf8_first)] }
def MsgFramesSaid : Prop := msgFramesRow.holds Tryd.pinned (OpenSpec.ofChange msgFramesSpec)

/-- ITS FALSE NEIGHBOUR: 'it returns false'. Refute it at one input. -/
def msgFramesWrong : ChangeSpec := { name := "msgFrames", fn := fun _ => fun
  | [d1, d2] => { results := [.lit (.bool false)], args := [d1, d2] }
  | _ => none }
def MsgFramesWrongFalsely : Prop := msgFramesRow.holds Tryd.pinned (OpenSpec.ofChange msgFramesWrong)

/-- 'stonecroplaw10.MsgTurned': WHATEVER THE INPUT: true; the input reads as it did. -/
def msgTurnedSpec : ChangeSpec := { name := "msgTurned", fn := fun _ => fun
  | [d1, d2, d3, d4] => { results := [.lit (.bool true)], args := [d1, d2, d3, d4] }
  | _ => none }
def msgTurnedRow : OpenClaim := { program := "ytfdfcceleaodaaadoor", sum := "c70d450f0cab22b70f1bfac70ecf621248631924a741f407801a606d23e74cff", func := "stonecrop/stonecroplaw10.MsgTurned", spec := "msgTurned", unfollowed := true, recurses := true, named := ["stonecrop/msg.kinds", "unicode/utf8.first", "unicode/utf8.acceptRanges"], apart := false, laid := [("unicode/utf8.acceptRanges", laid_unicode_utf8_acceptRanges), ("stonecrop/msg.kinds", laid_stonecrop_msg_kinds), ("unicode/utf8.first", laid_unicode_utf8_first)] }
def MsgTurnedSaid : Prop := msgTurnedRow.holds Tryd.pinned (OpenSpec.ofChange msgTurnedSpec)

/-- ITS FALSE NEIGHBOUR: 'it returns false'. Refute it at one input. -/
def msgTurnedWrong : ChangeSpec := { name := "msgTurned", fn := fun _ => fun
  | [d1, d2, d3, d4] => { results := [.lit (.bool false)], args := [d1, d2, d3, d4] }
  | _ => none }
def MsgTurnedWrongFalsely : Prop := msgTurnedRow.holds Tryd.pinned (OpenSpec.ofChange msgTurnedWrong)

/-- 'stonecroplaw10.MsgApart': WHATEVER THE INPUT: true; the input reads as it did. -/
def msgApartSpec : ChangeSpec := { name := "msgApart", fn := fun _ => fun
  | [d1, d2] => { results := [.lit (.bool true)], args := [d1, d2] }
  | _ => none }
def msgApartRow : OpenClaim := { program := "ytfdfcceleaodaaadoor", sum := "c70d450f0cab22b70f1bfac70ecf621248631924a741f407801a606d23e74cff", func := "stonecrop/stonecroplaw10.MsgApart", spec := "msgApart", unfollowed := true, recurses := true, named := ["stonecrop/msg.kinds", "unicode/utf8.first", "unicode/utf8.acceptRanges"], apart := false, laid := [("unicode/utf8.acceptRanges", laid_unicode_utf8_acceptRanges), ("stonecrop/msg.kinds", laid_stonecrop_msg_kinds), ("unicode/utf8.first", laid_unicode_utf8_first)] }
def MsgApartSaid : Prop := msgApartRow.holds Tryd.pinned (OpenSpec.ofChange msgApartSpec)

/-- ITS FALSE NEIGHBOUR: 'it returns false'. Refute it at one input. -/
def msgApartWrong : ChangeSpec := { name := "msgApart", fn := fun _ => fun
  | [d1, d2] => { results := [.lit (.bool false)], args := [d1, d2] }
  | _ => none }
def MsgApartWrongFalsely : Prop := msgApartRow.holds Tryd.pinned (OpenSpec.ofChange msgApartWrong)

/-- 'stonecroplaw11.ShimApart': WHATEVER THE INPUT: true; the input reads as it did. -/
def shimApartSpec : ChangeSpec := { name := "shimApart", fn := fun _ => fun
  | [d] => { results := [.lit (.bool true)], args := [d] }
  | _ => none }
def shimApartRow : OpenClaim := { program := "ytfdfcceleaodaaadoor", sum := "c70d450f0cab22b70f1bfac70ecf621248631924a741f407801a606d23e74cff", func := "stonecrop/stonecroplaw11.ShimApart", spec := "shimApart", unfollowed := true, recurses := true, named := ["stonecrop/msg.kinds", "unicode/utf8.first", "unicode/utf8.acceptRanges"], apart := false, laid := [("unicode/utf8.acceptRanges", laid_unicode_utf8_acceptRanges), ("stonecrop/msg.kinds", laid_stonecrop_msg_kinds), ("unicode/utf8.first", laid_unicode_utf8_first)] }
def ShimApartSaid : Prop := shimApartRow.holds Tryd.pinned (OpenSpec.ofChange shimApartSpec)

/-- ITS FALSE NEIGHBOUR: 'it returns false'. Refute it at one input. -/
def shimApartWrong : ChangeSpec := { name := "shimApart", fn := fun _ => fun
  | [d] => { results := [.lit (.bool false)], args := [d] }
  | _ => none }
def ShimApartWrongFalsely : Prop := shimApartRow.holds Tryd.pinned (OpenSpec.ofChange shimApartWrong)

/-- 'stonecroplaw11.ShimCut': WHATEVER THE INPUT: true; the input reads as it did. -/
def shimCutSpec : ChangeSpec := { name := "shimCut", fn := fun _ => fun
  | [d1, d2] => { results := [.lit (.bool true)], args := [d1, d2] }
  | _ => none }
def shimCutRow : OpenClaim := { program := "ytfdfcceleaodaaadoor", sum := "c70d450f0cab22b70f1bfac70ecf621248631924a741f407801a606d23e74cff", func := "stonecrop/stonecroplaw11.ShimCut", spec := "shimCut", unfollowed := true, recurses := true, named := ["stonecrop/msg.kinds", "unicode/utf8.first", "unicode/utf8.acceptRanges"], apart := false, laid := [("unicode/utf8.acceptRanges", laid_unicode_utf8_acceptRanges), ("stonecrop/msg.kinds", laid_stonecrop_msg_kinds), ("unicode/utf8.first", laid_unicode_utf8_first)] }
def ShimCutSaid : Prop := shimCutRow.holds Tryd.pinned (OpenSpec.ofChange shimCutSpec)

/-- ITS FALSE NEIGHBOUR: 'it returns false'. Refute it at one input. -/
def shimCutWrong : ChangeSpec := { name := "shimCut", fn := fun _ => fun
  | [d1, d2] => { results := [.lit (.bool false)], args := [d1, d2] }
  | _ => none }
def ShimCutWrongFalsely : Prop := shimCutRow.holds Tryd.pinned (OpenSpec.ofChange shimCutWrong)

/- THE SECOND FORM. 'bulk': how many values and letters a reading holds, each counted each time it is reached (what is shared counts as often as it is met; a slice's spare places count too). A statement '..UptoSaid' is the law's where the arguments, and the package variables that the reading takes, are together of bulk at most 1048576: NARROWER than '..Said'. Prove '..Said' where nothing that the law and all that it calls make is longer than what came in: it says more and counts as full. Else prove '..UptoSaid'. A law counts once. -/
mutual
def uptoBulk {H : Type} : DataW H → Nat
  | .lit (.string bytes) => bytes.length + 1
  | .lit _ => 1
  | .nil => 1
  | .ptr d => uptoBulk d + 1
  | .slice elems spare => uptoBulkAll elems + uptoBulkAll spare + 1
  | .agg parts => uptoBulkAll parts + 1
  | .iface _ d => uptoBulk d + 1
  | .map entries => uptoBulkEntries entries + 1
  | .held _ => 1
def uptoBulkAll {H : Type} : List (DataW H) → Nat
  | [] => 0
  | d :: r => uptoBulk d + uptoBulkAll r
def uptoBulkEntries {H : Type} : List (Lit × DataW H) → Nat
  | [] => 0
  | x :: r => uptoBulkEntry x + uptoBulkEntries r
def uptoBulkEntry {H : Type} : Lit × DataW H → Nat
  | (.string bytes, d) => bytes.length + uptoBulk d + 1
  | (_, d) => uptoBulk d + 1
 end
def uptoSmall : (H : Type) → List (DataW H) → Bool := fun _ ds => decide (uptoBulkAll ds ≤ 1048576)
def OpenSpec.upto (s : _root_.Go.ChangeSpec) : _root_.Go.OpenSpec := { _root_.Go.OpenSpec.ofChange s with cond := some uptoSmall }

/-- 'stonecroplaw05.IdsItems', WHERE WHAT IT READS IS OF BULK AT MOST 1048576: true; the input reads as it did. -/
def idsItemsUptoRow : OpenClaim := { program := "ytfdfcceleaodaaadoor", sum := "c70d450f0cab22b70f1bfac70ecf621248631924a741f407801a606d23e74cff", func := "stonecrop/stonecroplaw05.IdsItems", spec := "idsItems", unfollowed := true, recurses := true, named := ["internal/strconv.uint64pow10", "math/bits.deBruijn32tab", "math/bits.deBruijn64tab"], loops := true, apart := false, laid := [("math/bits.deBruijn32tab", laid_math_bits_deBruijn32tab), ("math/bits.deBruijn64tab", laid_math_bits_deBruijn64tab), ("internal/strconv.uint64pow10", laid_internal_strconv_uint64pow10)], narrowed := true }
def IdsItemsUptoSaid : Prop := idsItemsUptoRow.holds Tryd.pinned (OpenSpec.upto idsItemsSpec)

/-- 'stonecroplaw10.MsgFrames', WHERE WHAT IT READS IS OF BULK AT MOST 1048576: true; the input reads as it did. -/
def msgFramesUptoRow : OpenClaim := { program := "ytfdfcceleaodaaadoor", sum := "c70d450f0cab22b70f1bfac70ecf621248631924a741f407801a606d23e74cff", func := "stonecrop/stonecroplaw10.MsgFrames", spec := "msgFrames", unfollowed := true, recurses := true, named := ["stonecrop/msg.kinds", "unicode/utf8.first", "unicode/utf8.acceptRanges"], loops := true, apart := false, laid := [("unicode/utf8.acceptRanges", laid_unicode_utf8_acceptRanges), ("stonecrop/msg.kinds", laid_stonecrop_msg_kinds), ("unicode/utf8.first", laid_unicode_utf8_first)], narrowed := true }
def MsgFramesUptoSaid : Prop := msgFramesUptoRow.holds Tryd.pinned (OpenSpec.upto msgFramesSpec)

/-- 'stonecroplaw10.MsgTurned', WHERE WHAT IT READS IS OF BULK AT MOST 1048576: true; the input reads as it did. -/
def msgTurnedUptoRow : OpenClaim := { program := "ytfdfcceleaodaaadoor", sum := "c70d450f0cab22b70f1bfac70ecf621248631924a741f407801a606d23e74cff", func := "stonecrop/stonecroplaw10.MsgTurned", spec := "msgTurned", unfollowed := true, recurses := true, named := ["stonecrop/msg.kinds", "unicode/utf8.first", "unicode/utf8.acceptRanges"], apart := false, laid := [("unicode/utf8.acceptRanges", laid_unicode_utf8_acceptRanges), ("stonecrop/msg.kinds", laid_stonecrop_msg_kinds), ("unicode/utf8.first", laid_unicode_utf8_first)], narrowed := true }
def MsgTurnedUptoSaid : Prop := msgTurnedUptoRow.holds Tryd.pinned (OpenSpec.upto msgTurnedSpec)

/-- 'stonecroplaw10.MsgApart', WHERE WHAT IT READS IS OF BULK AT MOST 1048576: true; the input reads as it did. -/
def msgApartUptoRow : OpenClaim := { program := "ytfdfcceleaodaaadoor", sum := "c70d450f0cab22b70f1bfac70ecf621248631924a741f407801a606d23e74cff", func := "stonecrop/stonecroplaw10.MsgApart", spec := "msgApart", unfollowed := true, recurses := true, named := ["stonecrop/msg.kinds", "unicode/utf8.first", "unicode/utf8.acceptRanges"], apart := false, laid := [("unicode/utf8.acceptRanges", laid_unicode_utf8_acceptRanges), ("stonecrop/msg.kinds", laid_stonecrop_msg_kinds), ("unicode/utf8.first", laid_unicode_utf8_first)], narrowed := true }
def MsgApartUptoSaid : Prop := msgApartUptoRow.holds Tryd.pinned (OpenSpec.upto msgApartSpec)

/-- 'stonecroplaw11.ShimApart', WHERE WHAT IT READS IS OF BULK AT MOST 1048576: true; the input reads as it did. -/
def shimApartUptoRow : OpenClaim := { program := "ytfdfcceleaodaaadoor", sum := "c70d450f0cab22b70f1bfac70ecf621248631924a741f407801a606d23e74cff", func := "stonecrop/stonecroplaw11.ShimApart", spec := "shimApart", unfollowed := true, recurses := true, named := ["stonecrop/msg.kinds", "unicode/utf8.first", "unicode/utf8.acceptRanges"], apart := false, laid := [("unicode/utf8.acceptRanges", laid_unicode_utf8_acceptRanges), ("stonecrop/msg.kinds", laid_stonecrop_msg_kinds), ("unicode/utf8.first", laid_unicode_utf8_first)], narrowed := true }
def ShimApartUptoSaid : Prop := shimApartUptoRow.holds Tryd.pinned (OpenSpec.upto shimApartSpec)

/-- 'stonecroplaw11.ShimCut', WHERE WHAT IT READS IS OF BULK AT MOST 1048576: true; the input reads as it did. -/
def shimCutUptoRow : OpenClaim := { program := "ytfdfcceleaodaaadoor", sum := "c70d450f0cab22b70f1bfac70ecf621248631924a741f407801a606d23e74cff", func := "stonecrop/stonecroplaw11.ShimCut", spec := "shimCut", unfollowed := true, recurses := true, named := ["stonecrop/msg.kinds", "unicode/utf8.first", "unicode/utf8.acceptRanges"], apart := false, laid := [("unicode/utf8.acceptRanges", laid_unicode_utf8_acceptRanges), ("stonecrop/msg.kinds", laid_stonecrop_msg_kinds), ("unicode/utf8.first", laid_unicode_utf8_first)], narrowed := true }
def ShimCutUptoSaid : Prop := shimCutUptoRow.holds Tryd.pinned (OpenSpec.upto shimCutSpec)

end Rows
end Go.Proofs.YtfdfcceleaodaaaDoor
