/-
  No cell of these rows narrows 'for every input' (looked for: loops, veiled, ifaces, maps, wideKeys, modest, calm, conditions, laid).
  DERIVED. THE GIVEN ROWS OF THIS SEAT. 11 by the template 'for every input the law returns true; each argument reads behind the call as it read before'; 0 by the template 'total and deterministic' (their statements: YtpdlhcfepafjeaaTotals.lean).
  GIVEN WITH THE SEED: the statements are not yours to turn. If you find one false, say at which input.
  Laid BY PROGRAM, IN A SANDBOX (cutbox-rows.mjs): the forced cells as the released guide's own fill.sh prints them over the translation 25ea0506ada6a362… (all of the seat's roots in one cut). By AI agents, Wed Nov 11 2026. No macro, syntax, notation, axiom, sorry.
-/
import Derived.Test.YtpdlhcfepafjeaaChecked
import GoSem.Claim
import GoSem.ClaimJoined
import GoSem.ClaimMapViews
import Derived.JoinedTies
import Derived.KernelRfl
namespace Go.Proofs.Ytpdlhcfepafjeaa
/- THE CELL 'sum', in the pinned program and in every row, IS THE sha256 OF THE DUMP (.gsa) THAT YtpdlhcfepafjeaaProg.lean LOADS. Nothing in Lean hashes anything: it is a label: what it is worth is what the hold of that sum in a sandbox is worth. -/
noncomputable def Try.pinned : Pinned := { name := "ytpdlhcfepafjeaa", sum := "25ea0506ada6a362a509b2fa8696eb247232385d2cbb3b7cf26989fcd33e5ba1", checked := Try.checked }
namespace Rows
def none {H : Type} : Left H := { results := [], args := [] }

/-- 'stonecroplaw13.LogParts': WHATEVER THE INPUT: true; the input reads as it did. -/
def logPartsSpec : ChangeSpec := { name := "logParts", fn := fun _ => fun
  | [d1, d2] => { results := [.lit (.bool true)], args := [d1, d2] }
  | _ => none }
def logPartsRow : OpenClaim := { program := "ytpdlhcfepafjeaa", sum := "25ea0506ada6a362a509b2fa8696eb247232385d2cbb3b7cf26989fcd33e5ba1", func := "stonecrop/stonecroplaw13.LogParts", spec := "logParts", unfollowed := true, recurses := true, plainKeys := false, apart := false }
def LogPartsSaid : Prop := logPartsRow.holds Try.pinned (OpenSpec.ofChange logPartsSpec)

/-- ITS FALSE NEIGHBOUR: 'it returns false'. Refute it at one input. -/
def logPartsWrong : ChangeSpec := { name := "logParts", fn := fun _ => fun
  | [d1, d2] => { results := [.lit (.bool false)], args := [d1, d2] }
  | _ => none }
def LogPartsWrongFalsely : Prop := logPartsRow.holds Try.pinned (OpenSpec.ofChange logPartsWrong)

/-- 'stonecroplaw16.WheelAll': WHATEVER THE INPUT: true; the input reads as it did. -/
def wheelAllSpec : ChangeSpec := { name := "wheelAll", fn := fun _ => fun
  | [d1, d2] => { results := [.lit (.bool true)], args := [d1, d2] }
  | _ => none }
def wheelAllRow : OpenClaim := { program := "ytpdlhcfepafjeaa", sum := "25ea0506ada6a362a509b2fa8696eb247232385d2cbb3b7cf26989fcd33e5ba1", func := "stonecrop/stonecroplaw16.WheelAll", spec := "wheelAll", unfollowed := true, recurses := true, plainKeys := false, apart := false }
def WheelAllSaid : Prop := wheelAllRow.holds Try.pinned (OpenSpec.ofChange wheelAllSpec)

/-- ITS FALSE NEIGHBOUR: 'it returns false'. Refute it at one input. -/
def wheelAllWrong : ChangeSpec := { name := "wheelAll", fn := fun _ => fun
  | [d1, d2] => { results := [.lit (.bool false)], args := [d1, d2] }
  | _ => none }
def WheelAllWrongFalsely : Prop := wheelAllRow.holds Try.pinned (OpenSpec.ofChange wheelAllWrong)

/-- 'stonecroplaw16.WheelPlays': WHATEVER THE INPUT: true; the input reads as it did. -/
def wheelPlaysSpec : ChangeSpec := { name := "wheelPlays", fn := fun _ => fun
  | [d] => { results := [.lit (.bool true)], args := [d] }
  | _ => none }
def wheelPlaysRow : OpenClaim := { program := "ytpdlhcfepafjeaa", sum := "25ea0506ada6a362a509b2fa8696eb247232385d2cbb3b7cf26989fcd33e5ba1", func := "stonecrop/stonecroplaw16.WheelPlays", spec := "wheelPlays", unfollowed := true, recurses := true, plainKeys := false, apart := false }
def WheelPlaysSaid : Prop := wheelPlaysRow.holds Try.pinned (OpenSpec.ofChange wheelPlaysSpec)

/-- ITS FALSE NEIGHBOUR: 'it returns false'. Refute it at one input. -/
def wheelPlaysWrong : ChangeSpec := { name := "wheelPlays", fn := fun _ => fun
  | [d] => { results := [.lit (.bool false)], args := [d] }
  | _ => none }
def WheelPlaysWrongFalsely : Prop := wheelPlaysRow.holds Try.pinned (OpenSpec.ofChange wheelPlaysWrong)

/-- 'stonecroplaw16.WheelOnce': WHATEVER THE INPUT: true; the input reads as it did. -/
def wheelOnceSpec : ChangeSpec := { name := "wheelOnce", fn := fun _ => fun
  | [d1, d2, d3, d4] => { results := [.lit (.bool true)], args := [d1, d2, d3, d4] }
  | _ => none }
def wheelOnceRow : OpenClaim := { program := "ytpdlhcfepafjeaa", sum := "25ea0506ada6a362a509b2fa8696eb247232385d2cbb3b7cf26989fcd33e5ba1", func := "stonecrop/stonecroplaw16.WheelOnce", spec := "wheelOnce", unfollowed := true, recurses := true, plainKeys := false, apart := false }
def WheelOnceSaid : Prop := wheelOnceRow.holds Try.pinned (OpenSpec.ofChange wheelOnceSpec)

/-- ITS FALSE NEIGHBOUR: 'it returns false'. Refute it at one input. -/
def wheelOnceWrong : ChangeSpec := { name := "wheelOnce", fn := fun _ => fun
  | [d1, d2, d3, d4] => { results := [.lit (.bool false)], args := [d1, d2, d3, d4] }
  | _ => none }
def WheelOnceWrongFalsely : Prop := wheelOnceRow.holds Try.pinned (OpenSpec.ofChange wheelOnceWrong)

/-- 'stonecroplaw12.DiskKeeps': WHATEVER THE INPUT: true; the input reads as it did. -/
def diskKeepsSpec : ChangeSpec := { name := "diskKeeps", fn := fun _ => fun
  | [d1, d2, d3, d4] => { results := [.lit (.bool true)], args := [d1, d2, d3, d4] }
  | _ => none }
def diskKeepsRow : OpenClaim := { program := "ytpdlhcfepafjeaa", sum := "25ea0506ada6a362a509b2fa8696eb247232385d2cbb3b7cf26989fcd33e5ba1", func := "stonecrop/stonecroplaw12.DiskKeeps", spec := "diskKeeps", unfollowed := true, recurses := true, plainKeys := false, apart := false }
def DiskKeepsSaid : Prop := diskKeepsRow.holds Try.pinned (OpenSpec.ofChange diskKeepsSpec)

/-- ITS FALSE NEIGHBOUR: 'it returns false'. Refute it at one input. -/
def diskKeepsWrong : ChangeSpec := { name := "diskKeeps", fn := fun _ => fun
  | [d1, d2, d3, d4] => { results := [.lit (.bool false)], args := [d1, d2, d3, d4] }
  | _ => none }
def DiskKeepsWrongFalsely : Prop := diskKeepsRow.holds Try.pinned (OpenSpec.ofChange diskKeepsWrong)

/-- 'stonecroplaw12.DiskCuts': WHATEVER THE INPUT: true; the input reads as it did. -/
def diskCutsSpec : ChangeSpec := { name := "diskCuts", fn := fun _ => fun
  | [d1, d2, d3, d4] => { results := [.lit (.bool true)], args := [d1, d2, d3, d4] }
  | _ => none }
def diskCutsRow : OpenClaim := { program := "ytpdlhcfepafjeaa", sum := "25ea0506ada6a362a509b2fa8696eb247232385d2cbb3b7cf26989fcd33e5ba1", func := "stonecrop/stonecroplaw12.DiskCuts", spec := "diskCuts", unfollowed := true, recurses := true, plainKeys := false, apart := false }
def DiskCutsSaid : Prop := diskCutsRow.holds Try.pinned (OpenSpec.ofChange diskCutsSpec)

/-- ITS FALSE NEIGHBOUR: 'it returns false'. Refute it at one input. -/
def diskCutsWrong : ChangeSpec := { name := "diskCuts", fn := fun _ => fun
  | [d1, d2, d3, d4] => { results := [.lit (.bool false)], args := [d1, d2, d3, d4] }
  | _ => none }
def DiskCutsWrongFalsely : Prop := diskCutsRow.holds Try.pinned (OpenSpec.ofChange diskCutsWrong)

/-- 'stonecroplaw12.DiskMoves': WHATEVER THE INPUT: true; the input reads as it did. -/
def diskMovesSpec : ChangeSpec := { name := "diskMoves", fn := fun _ => fun
  | [d1, d2, d3] => { results := [.lit (.bool true)], args := [d1, d2, d3] }
  | _ => none }
def diskMovesRow : OpenClaim := { program := "ytpdlhcfepafjeaa", sum := "25ea0506ada6a362a509b2fa8696eb247232385d2cbb3b7cf26989fcd33e5ba1", func := "stonecrop/stonecroplaw12.DiskMoves", spec := "diskMoves", unfollowed := true, recurses := true, plainKeys := false, apart := false }
def DiskMovesSaid : Prop := diskMovesRow.holds Try.pinned (OpenSpec.ofChange diskMovesSpec)

/-- ITS FALSE NEIGHBOUR: 'it returns false'. Refute it at one input. -/
def diskMovesWrong : ChangeSpec := { name := "diskMoves", fn := fun _ => fun
  | [d1, d2, d3] => { results := [.lit (.bool false)], args := [d1, d2, d3] }
  | _ => none }
def DiskMovesWrongFalsely : Prop := diskMovesRow.holds Try.pinned (OpenSpec.ofChange diskMovesWrong)

/-- 'stonecroplaw12.DiskRoom': WHATEVER THE INPUT: true; the input reads as it did. -/
def diskRoomSpec : ChangeSpec := { name := "diskRoom", fn := fun _ => fun
  | [d1, d2] => { results := [.lit (.bool true)], args := [d1, d2] }
  | _ => none }
def diskRoomRow : OpenClaim := { program := "ytpdlhcfepafjeaa", sum := "25ea0506ada6a362a509b2fa8696eb247232385d2cbb3b7cf26989fcd33e5ba1", func := "stonecrop/stonecroplaw12.DiskRoom", spec := "diskRoom", unfollowed := true, recurses := true, plainKeys := false, apart := false }
def DiskRoomSaid : Prop := diskRoomRow.holds Try.pinned (OpenSpec.ofChange diskRoomSpec)

/-- ITS FALSE NEIGHBOUR: 'it returns false'. Refute it at one input. -/
def diskRoomWrong : ChangeSpec := { name := "diskRoom", fn := fun _ => fun
  | [d1, d2] => { results := [.lit (.bool false)], args := [d1, d2] }
  | _ => none }
def DiskRoomWrongFalsely : Prop := diskRoomRow.holds Try.pinned (OpenSpec.ofChange diskRoomWrong)

/-- 'stonecroplaw12.DiskPlays': WHATEVER THE INPUT: true; the input reads as it did. -/
def diskPlaysSpec : ChangeSpec := { name := "diskPlays", fn := fun _ => fun
  | [d1, d2] => { results := [.lit (.bool true)], args := [d1, d2] }
  | _ => none }
def diskPlaysRow : OpenClaim := { program := "ytpdlhcfepafjeaa", sum := "25ea0506ada6a362a509b2fa8696eb247232385d2cbb3b7cf26989fcd33e5ba1", func := "stonecrop/stonecroplaw12.DiskPlays", spec := "diskPlays", unfollowed := true, recurses := true, plainKeys := false, apart := false }
def DiskPlaysSaid : Prop := diskPlaysRow.holds Try.pinned (OpenSpec.ofChange diskPlaysSpec)

/-- ITS FALSE NEIGHBOUR: 'it returns false'. Refute it at one input. -/
def diskPlaysWrong : ChangeSpec := { name := "diskPlays", fn := fun _ => fun
  | [d1, d2] => { results := [.lit (.bool false)], args := [d1, d2] }
  | _ => none }
def DiskPlaysWrongFalsely : Prop := diskPlaysRow.holds Try.pinned (OpenSpec.ofChange diskPlaysWrong)

/-- 'stonecroplaw13.LogKeeps': WHATEVER THE INPUT: true; the input reads as it did. -/
def logKeepsSpec : ChangeSpec := { name := "logKeeps", fn := fun _ => fun
  | [d1, d2, d3, d4] => { results := [.lit (.bool true)], args := [d1, d2, d3, d4] }
  | _ => none }
def logKeepsRow : OpenClaim := { program := "ytpdlhcfepafjeaa", sum := "25ea0506ada6a362a509b2fa8696eb247232385d2cbb3b7cf26989fcd33e5ba1", func := "stonecrop/stonecroplaw13.LogKeeps", spec := "logKeeps", unfollowed := true, recurses := true, plainKeys := false, apart := false }
def LogKeepsSaid : Prop := logKeepsRow.holds Try.pinned (OpenSpec.ofChange logKeepsSpec)

/-- ITS FALSE NEIGHBOUR: 'it returns false'. Refute it at one input. -/
def logKeepsWrong : ChangeSpec := { name := "logKeeps", fn := fun _ => fun
  | [d1, d2, d3, d4] => { results := [.lit (.bool false)], args := [d1, d2, d3, d4] }
  | _ => none }
def LogKeepsWrongFalsely : Prop := logKeepsRow.holds Try.pinned (OpenSpec.ofChange logKeepsWrong)

/-- 'stonecroplaw13.LogWrites': WHATEVER THE INPUT: true; the input reads as it did. -/
def logWritesSpec : ChangeSpec := { name := "logWrites", fn := fun _ => fun
  | [d1, d2, d3, d4] => { results := [.lit (.bool true)], args := [d1, d2, d3, d4] }
  | _ => none }
def logWritesRow : OpenClaim := { program := "ytpdlhcfepafjeaa", sum := "25ea0506ada6a362a509b2fa8696eb247232385d2cbb3b7cf26989fcd33e5ba1", func := "stonecrop/stonecroplaw13.LogWrites", spec := "logWrites", unfollowed := true, recurses := true, plainKeys := false, apart := false }
def LogWritesSaid : Prop := logWritesRow.holds Try.pinned (OpenSpec.ofChange logWritesSpec)

/-- ITS FALSE NEIGHBOUR: 'it returns false'. Refute it at one input. -/
def logWritesWrong : ChangeSpec := { name := "logWrites", fn := fun _ => fun
  | [d1, d2, d3, d4] => { results := [.lit (.bool false)], args := [d1, d2, d3, d4] }
  | _ => none }
def LogWritesWrongFalsely : Prop := logWritesRow.holds Try.pinned (OpenSpec.ofChange logWritesWrong)

/- THE SECOND FORM. 'bulk': how many values and letters a reading holds, each counted each time it is reached (what is shared counts as often as it is met; a slice's spare places count too). A statement '..UptoSaid' is the law's where the arguments, and the package variables that the reading takes, are together of bulk at most 1048576: NARROWER than '..Said'. Prove '..Said' where nothing that the law and all that it calls make is longer than what came in: it says more and counts as full. Else prove '..UptoSaid'. A law counts once. -/
mutual
def uptoBulk {H : Type} : DataW H → Nat
  | .lit (.string bytes) => bytes.length + 1
  | .lit _ => 1
  | .nil => 1
  | .ptr d => uptoBulk d + 1
  | .slice elems spare => uptoBulkAll elems + uptoBulkAll spare + 1
  | .agg parts => uptoBulkAll parts + 1
  | .iface _ d => uptoBulk d + 1
  | .map entries => uptoBulkEntries entries + 1
  | .held _ => 1
def uptoBulkAll {H : Type} : List (DataW H) → Nat
  | [] => 0
  | d :: r => uptoBulk d + uptoBulkAll r
def uptoBulkEntries {H : Type} : List (Lit × DataW H) → Nat
  | [] => 0
  | x :: r => uptoBulkEntry x + uptoBulkEntries r
def uptoBulkEntry {H : Type} : Lit × DataW H → Nat
  | (.string bytes, d) => bytes.length + uptoBulk d + 1
  | (_, d) => uptoBulk d + 1
 end
def uptoSmall : (H : Type) → List (DataW H) → Bool := fun _ ds => decide (uptoBulkAll ds ≤ 1048576)
def OpenSpec.upto (s : _root_.Go.ChangeSpec) : _root_.Go.OpenSpec := { _root_.Go.OpenSpec.ofChange s with cond := some uptoSmall }

/-- 'stonecroplaw13.LogParts', WHERE WHAT IT READS IS OF BULK AT MOST 1048576: true; the input reads as it did. -/
def logPartsUptoRow : OpenClaim := { program := "ytpdlhcfepafjeaa", sum := "25ea0506ada6a362a509b2fa8696eb247232385d2cbb3b7cf26989fcd33e5ba1", func := "stonecrop/stonecroplaw13.LogParts", spec := "logParts", unfollowed := true, recurses := true, plainKeys := false, apart := false, narrowed := true }
def LogPartsUptoSaid : Prop := logPartsUptoRow.holds Try.pinned (OpenSpec.upto logPartsSpec)

/-- 'stonecroplaw16.WheelAll', WHERE WHAT IT READS IS OF BULK AT MOST 1048576: true; the input reads as it did. -/
def wheelAllUptoRow : OpenClaim := { program := "ytpdlhcfepafjeaa", sum := "25ea0506ada6a362a509b2fa8696eb247232385d2cbb3b7cf26989fcd33e5ba1", func := "stonecrop/stonecroplaw16.WheelAll", spec := "wheelAll", unfollowed := true, recurses := true, plainKeys := false, apart := false, narrowed := true }
def WheelAllUptoSaid : Prop := wheelAllUptoRow.holds Try.pinned (OpenSpec.upto wheelAllSpec)

/-- 'stonecroplaw16.WheelPlays', WHERE WHAT IT READS IS OF BULK AT MOST 1048576: true; the input reads as it did. -/
def wheelPlaysUptoRow : OpenClaim := { program := "ytpdlhcfepafjeaa", sum := "25ea0506ada6a362a509b2fa8696eb247232385d2cbb3b7cf26989fcd33e5ba1", func := "stonecrop/stonecroplaw16.WheelPlays", spec := "wheelPlays", unfollowed := true, recurses := true, plainKeys := false, apart := false, narrowed := true }
def WheelPlaysUptoSaid : Prop := wheelPlaysUptoRow.holds Try.pinned (OpenSpec.upto wheelPlaysSpec)

/-- 'stonecroplaw16.WheelOnce', WHERE WHAT IT READS IS OF BULK AT MOST 1048576: true; the input reads as it did. -/
def wheelOnceUptoRow : OpenClaim := { program := "ytpdlhcfepafjeaa", sum := "25ea0506ada6a362a509b2fa8696eb247232385d2cbb3b7cf26989fcd33e5ba1", func := "stonecrop/stonecroplaw16.WheelOnce", spec := "wheelOnce", unfollowed := true, recurses := true, plainKeys := false, apart := false, narrowed := true }
def WheelOnceUptoSaid : Prop := wheelOnceUptoRow.holds Try.pinned (OpenSpec.upto wheelOnceSpec)

/-- 'stonecroplaw12.DiskKeeps', WHERE WHAT IT READS IS OF BULK AT MOST 1048576: true; the input reads as it did. -/
def diskKeepsUptoRow : OpenClaim := { program := "ytpdlhcfepafjeaa", sum := "25ea0506ada6a362a509b2fa8696eb247232385d2cbb3b7cf26989fcd33e5ba1", func := "stonecrop/stonecroplaw12.DiskKeeps", spec := "diskKeeps", unfollowed := true, recurses := true, plainKeys := false, apart := false, narrowed := true }
def DiskKeepsUptoSaid : Prop := diskKeepsUptoRow.holds Try.pinned (OpenSpec.upto diskKeepsSpec)

/-- 'stonecroplaw12.DiskCuts', WHERE WHAT IT READS IS OF BULK AT MOST 1048576: true; the input reads as it did. -/
def diskCutsUptoRow : OpenClaim := { program := "ytpdlhcfepafjeaa", sum := "25ea0506ada6a362a509b2fa8696eb247232385d2cbb3b7cf26989fcd33e5ba1", func := "stonecrop/stonecroplaw12.DiskCuts", spec := "diskCuts", unfollowed := true, recurses := true, plainKeys := false, apart := false, narrowed := true }
def DiskCutsUptoSaid : Prop := diskCutsUptoRow.holds Try.pinned (OpenSpec.upto diskCutsSpec)

/-- 'stonecroplaw12.DiskMoves', WHERE WHAT IT READS IS OF BULK AT MOST 1048576: true; the input reads as it did. -/
def diskMovesUptoRow : OpenClaim := { program := "ytpdlhcfepafjeaa", sum := "25ea0506ada6a362a509b2fa8696eb247232385d2cbb3b7cf26989fcd33e5ba1", func := "stonecrop/stonecroplaw12.DiskMoves", spec := "diskMoves", unfollowed := true, recurses := true, plainKeys := false, apart := false, narrowed := true }
def DiskMovesUptoSaid : Prop := diskMovesUptoRow.holds Try.pinned (OpenSpec.upto diskMovesSpec)

/-- 'stonecroplaw12.DiskRoom', WHERE WHAT IT READS IS OF BULK AT MOST 1048576: true; the input reads as it did. -/
def diskRoomUptoRow : OpenClaim := { program := "ytpdlhcfepafjeaa", sum := "25ea0506ada6a362a509b2fa8696eb247232385d2cbb3b7cf26989fcd33e5ba1", func := "stonecrop/stonecroplaw12.DiskRoom", spec := "diskRoom", unfollowed := true, recurses := true, plainKeys := false, apart := false, narrowed := true }
def DiskRoomUptoSaid : Prop := diskRoomUptoRow.holds Try.pinned (OpenSpec.upto diskRoomSpec)

/-- 'stonecroplaw12.DiskPlays', WHERE WHAT IT READS IS OF BULK AT MOST 1048576: true; the input reads as it did. -/
def diskPlaysUptoRow : OpenClaim := { program := "ytpdlhcfepafjeaa", sum := "25ea0506ada6a362a509b2fa8696eb247232385d2cbb3b7cf26989fcd33e5ba1", func := "stonecrop/stonecroplaw12.DiskPlays", spec := "diskPlays", unfollowed := true, recurses := true, plainKeys := false, apart := false, narrowed := true }
def DiskPlaysUptoSaid : Prop := diskPlaysUptoRow.holds Try.pinned (OpenSpec.upto diskPlaysSpec)

/-- 'stonecroplaw13.LogKeeps', WHERE WHAT IT READS IS OF BULK AT MOST 1048576: true; the input reads as it did. -/
def logKeepsUptoRow : OpenClaim := { program := "ytpdlhcfepafjeaa", sum := "25ea0506ada6a362a509b2fa8696eb247232385d2cbb3b7cf26989fcd33e5ba1", func := "stonecrop/stonecroplaw13.LogKeeps", spec := "logKeeps", unfollowed := true, recurses := true, plainKeys := false, apart := false, narrowed := true }
def LogKeepsUptoSaid : Prop := logKeepsUptoRow.holds Try.pinned (OpenSpec.upto logKeepsSpec)

/-- 'stonecroplaw13.LogWrites', WHERE WHAT IT READS IS OF BULK AT MOST 1048576: true; the input reads as it did. -/
def logWritesUptoRow : OpenClaim := { program := "ytpdlhcfepafjeaa", sum := "25ea0506ada6a362a509b2fa8696eb247232385d2cbb3b7cf26989fcd33e5ba1", func := "stonecrop/stonecroplaw13.LogWrites", spec := "logWrites", unfollowed := true, recurses := true, plainKeys := false, apart := false, narrowed := true }
def LogWritesUptoSaid : Prop := logWritesUptoRow.holds Try.pinned (OpenSpec.upto logWritesSpec)

end Rows
end Go.Proofs.Ytpdlhcfepafjeaa
