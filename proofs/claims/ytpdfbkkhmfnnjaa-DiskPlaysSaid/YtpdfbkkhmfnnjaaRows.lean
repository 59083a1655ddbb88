/-
  No cell of these rows narrows 'for every input' (looked for: loops, veiled, ifaces, maps, wideKeys, modest, calm, conditions, laid).
  DERIVED. THE GIVEN ROWS OF THIS SEAT. 4 by the template 'for every input the law returns true; each argument reads behind the call as it read before'; 0 by the template 'total and deterministic' (their statements: YtpdfbkkhmfnnjaaTotals.lean).
  GIVEN WITH THE SEED: the statements are not yours to turn. If you find one false, say at which input.
  Laid BY PROGRAM, IN A SANDBOX (cutbox-rows.mjs): the forced cells as the released guide's own fill.sh prints them over the translation fc8abc13d31802fc… (all of the seat's roots in one cut). By AI agents, Wed Nov 11 2026. No macro, syntax, notation, axiom, sorry.
-/
import Derived.Test.YtpdfbkkhmfnnjaaChecked
import GoSem.Claim
import GoSem.ClaimJoined
import GoSem.ClaimMapViews
import Derived.JoinedTies
import Derived.KernelRfl
namespace Go.Proofs.Ytpdfbkkhmfnnjaa
/- THE CELL 'sum', in the pinned program and in every row, IS THE sha256 OF THE DUMP (.gsa) THAT YtpdfbkkhmfnnjaaProg.lean LOADS. Nothing in Lean hashes anything: it is a label: what it is worth is what the hold of that sum in a sandbox is worth. -/
noncomputable def Try.pinned : Pinned := { name := "ytpdfbkkhmfnnjaa", sum := "fc8abc13d31802fc45f5a6720cfb3bd6f7ce5754a8a7d95752314513c4b90797", checked := Try.checked }
namespace Rows
def none {H : Type} : Left H := { results := [], args := [] }

/-- 'stonecroplaw17.IndexPlays': WHATEVER THE INPUT: true; the input reads as it did. -/
def indexPlaysSpec : ChangeSpec := { name := "indexPlays", fn := fun _ => fun
  | [d1, d2, d3] => { results := [.lit (.bool true)], args := [d1, d2, d3] }
  | _ => none }
def indexPlaysRow : OpenClaim := { program := "ytpdfbkkhmfnnjaa", sum := "fc8abc13d31802fc45f5a6720cfb3bd6f7ce5754a8a7d95752314513c4b90797", func := "stonecrop/stonecroplaw17.IndexPlays", spec := "indexPlays", unfollowed := true, recurses := true, plainKeys := false, apart := false }
def IndexPlaysSaid : Prop := indexPlaysRow.holds Try.pinned (OpenSpec.ofChange indexPlaysSpec)

/-- ITS FALSE NEIGHBOUR: 'it returns false'. Refute it at one input. -/
def indexPlaysWrong : ChangeSpec := { name := "indexPlays", fn := fun _ => fun
  | [d1, d2, d3] => { results := [.lit (.bool false)], args := [d1, d2, d3] }
  | _ => none }
def IndexPlaysWrongFalsely : Prop := indexPlaysRow.holds Try.pinned (OpenSpec.ofChange indexPlaysWrong)

/-- 'stonecroplaw17.IndexAll': WHATEVER THE INPUT: true; the input reads as it did. -/
def indexAllSpec : ChangeSpec := { name := "indexAll", fn := fun _ => fun
  | [d1, d2] => { results := [.lit (.bool true)], args := [d1, d2] }
  | _ => none }
def indexAllRow : OpenClaim := { program := "ytpdfbkkhmfnnjaa", sum := "fc8abc13d31802fc45f5a6720cfb3bd6f7ce5754a8a7d95752314513c4b90797", func := "stonecrop/stonecroplaw17.IndexAll", spec := "indexAll", unfollowed := true, recurses := true, plainKeys := false, apart := false }
def IndexAllSaid : Prop := indexAllRow.holds Try.pinned (OpenSpec.ofChange indexAllSpec)

/-- ITS FALSE NEIGHBOUR: 'it returns false'. Refute it at one input. -/
def indexAllWrong : ChangeSpec := { name := "indexAll", fn := fun _ => fun
  | [d1, d2] => { results := [.lit (.bool false)], args := [d1, d2] }
  | _ => none }
def IndexAllWrongFalsely : Prop := indexAllRow.holds Try.pinned (OpenSpec.ofChange indexAllWrong)

/-- 'stonecroplaw17.IndexMeets': WHATEVER THE INPUT: true; the input reads as it did. -/
def indexMeetsSpec : ChangeSpec := { name := "indexMeets", fn := fun _ => fun
  | [d1, d2, d3, d4, d5] => { results := [.lit (.bool true)], args := [d1, d2, d3, d4, d5] }
  | _ => none }
def indexMeetsRow : OpenClaim := { program := "ytpdfbkkhmfnnjaa", sum := "fc8abc13d31802fc45f5a6720cfb3bd6f7ce5754a8a7d95752314513c4b90797", func := "stonecrop/stonecroplaw17.IndexMeets", spec := "indexMeets", unfollowed := true, recurses := true, plainKeys := false, apart := false }
def IndexMeetsSaid : Prop := indexMeetsRow.holds Try.pinned (OpenSpec.ofChange indexMeetsSpec)

/-- ITS FALSE NEIGHBOUR: 'it returns false'. Refute it at one input. -/
def indexMeetsWrong : ChangeSpec := { name := "indexMeets", fn := fun _ => fun
  | [d1, d2, d3, d4, d5] => { results := [.lit (.bool false)], args := [d1, d2, d3, d4, d5] }
  | _ => none }
def IndexMeetsWrongFalsely : Prop := indexMeetsRow.holds Try.pinned (OpenSpec.ofChange indexMeetsWrong)

/-- 'stonecroplaw12.DiskPlays': WHATEVER THE INPUT: true; the input reads as it did. -/
def diskPlaysSpec : ChangeSpec := { name := "diskPlays", fn := fun _ => fun
  | [d1, d2] => { results := [.lit (.bool true)], args := [d1, d2] }
  | _ => none }
def diskPlaysRow : OpenClaim := { program := "ytpdfbkkhmfnnjaa", sum := "fc8abc13d31802fc45f5a6720cfb3bd6f7ce5754a8a7d95752314513c4b90797", func := "stonecrop/stonecroplaw12.DiskPlays", spec := "diskPlays", unfollowed := true, recurses := true, plainKeys := false, apart := false }
def DiskPlaysSaid : Prop := diskPlaysRow.holds Try.pinned (OpenSpec.ofChange diskPlaysSpec)

/-- ITS FALSE NEIGHBOUR: 'it returns false'. Refute it at one input. -/
def diskPlaysWrong : ChangeSpec := { name := "diskPlays", fn := fun _ => fun
  | [d1, d2] => { results := [.lit (.bool false)], args := [d1, d2] }
  | _ => none }
def DiskPlaysWrongFalsely : Prop := diskPlaysRow.holds Try.pinned (OpenSpec.ofChange diskPlaysWrong)

/- THE SECOND FORM. 'bulk': how many values and letters a reading holds, each counted each time it is reached (what is shared counts as often as it is met; a slice's spare places count too). A statement '..UptoSaid' is the law's where the arguments, and the package variables that the reading takes, are together of bulk at most 1048576: NARROWER than '..Said'. Prove '..Said' where nothing that the law and all that it calls make is longer than what came in: it says more and counts as full. Else prove '..UptoSaid'. A law counts once. -/
mutual
def uptoBulk {H : Type} : DataW H → Nat
  | .lit (.string bytes) => bytes.length + 1
  | .lit _ => 1
  | .nil => 1
  | .ptr d => uptoBulk d + 1
  | .slice elems spare => uptoBulkAll elems + uptoBulkAll spare + 1
  | .agg parts => uptoBulkAll parts + 1
  | .iface _ d => uptoBulk d + 1
  | .map entries => uptoBulkEntries entries + 1
  | .held _ => 1
def uptoBulkAll {H : Type} : List (DataW H) → Nat
  | [] => 0
  | d :: r => uptoBulk d + uptoBulkAll r
def uptoBulkEntries {H : Type} : List (Lit × DataW H) → Nat
  | [] => 0
  | x :: r => uptoBulkEntry x + uptoBulkEntries r
def uptoBulkEntry {H : Type} : Lit × DataW H → Nat
  | (.string bytes, d) => bytes.length + uptoBulk d + 1
  | (_, d) => uptoBulk d + 1
 end
def uptoSmall : (H : Type) → List (DataW H) → Bool := fun _ ds => decide (uptoBulkAll ds ≤ 1048576)
def OpenSpec.upto (s : _root_.Go.ChangeSpec) : _root_.Go.OpenSpec := { _root_.Go.OpenSpec.ofChange s with cond := some uptoSmall }

/-- 'stonecroplaw17.IndexPlays', WHERE WHAT IT READS IS OF BULK AT MOST 1048576: true; the input reads as it did. -/
def indexPlaysUptoRow : OpenClaim := { program := "ytpdfbkkhmfnnjaa", sum := "fc8abc13d31802fc45f5a6720cfb3bd6f7ce5754a8a7d95752314513c4b90797", func := "stonecrop/stonecroplaw17.IndexPlays", spec := "indexPlays", unfollowed := true, recurses := true, plainKeys := false, apart := false, narrowed := true }
def IndexPlaysUptoSaid : Prop := indexPlaysUptoRow.holds Try.pinned (OpenSpec.upto indexPlaysSpec)

/-- 'stonecroplaw17.IndexAll', WHERE WHAT IT READS IS OF BULK AT MOST 1048576: true; the input reads as it did. -/
def indexAllUptoRow : OpenClaim := { program := "ytpdfbkkhmfnnjaa", sum := "fc8abc13d31802fc45f5a6720cfb3bd6f7ce5754a8a7d95752314513c4b90797", func := "stonecrop/stonecroplaw17.IndexAll", spec := "indexAll", unfollowed := true, recurses := true, plainKeys := false, apart := false, narrowed := true }
def IndexAllUptoSaid : Prop := indexAllUptoRow.holds Try.pinned (OpenSpec.upto indexAllSpec)

/-- 'stonecroplaw17.IndexMeets', WHERE WHAT IT READS IS OF BULK AT MOST 1048576: true; the input reads as it did. -/
def indexMeetsUptoRow : OpenClaim := { program := "ytpdfbkkhmfnnjaa", sum := "fc8abc13d31802fc45f5a6720cfb3bd6f7ce5754a8a7d95752314513c4b90797", func := "stonecrop/stonecroplaw17.IndexMeets", spec := "indexMeets", unfollowed := true, recurses := true, plainKeys := false, apart := false, narrowed := true }
def IndexMeetsUptoSaid : Prop := indexMeetsUptoRow.holds Try.pinned (OpenSpec.upto indexMeetsSpec)

/-- 'stonecroplaw12.DiskPlays', WHERE WHAT IT READS IS OF BULK AT MOST 1048576: true; the input reads as it did. -/
def diskPlaysUptoRow : OpenClaim := { program := "ytpdfbkkhmfnnjaa", sum := "fc8abc13d31802fc45f5a6720cfb3bd6f7ce5754a8a7d95752314513c4b90797", func := "stonecrop/stonecroplaw12.DiskPlays", spec := "diskPlays", unfollowed := true, recurses := true, plainKeys := false, apart := false, narrowed := true }
def DiskPlaysUptoSaid : Prop := diskPlaysUptoRow.holds Try.pinned (OpenSpec.upto diskPlaysSpec)

end Rows
end Go.Proofs.Ytpdfbkkhmfnnjaa
