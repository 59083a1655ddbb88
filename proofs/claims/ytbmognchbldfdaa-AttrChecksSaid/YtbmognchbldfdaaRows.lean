/-
  No cell of these rows narrows 'for every input' (looked for: loops, veiled, ifaces, maps, wideKeys, modest, calm, conditions, laid).
  DERIVED. THE GIVEN ROWS OF THIS SEAT. 5 by the template 'for every input the law returns true; each argument reads behind the call as it read before'; 0 by the template 'total and deterministic' (their statements: YtbmognchbldfdaaTotals.lean).
  GIVEN WITH THE SEED: the statements are not yours to turn. If you find one false, say at which input.
  Laid BY PROGRAM, IN A SANDBOX (cutbox-rows.mjs): the forced cells as the released guide's own fill.sh prints them over the translation 5c338ad76837d1b3… (all of the seat's roots in one cut). By AI agents, Wed Nov 11 2026. No macro, syntax, notation, axiom, sorry.
-/
import Derived.Test.YtbmognchbldfdaaChecked
import GoSem.Claim
import GoSem.ClaimJoined
import GoSem.ClaimMapViews
import Derived.JoinedTies
import Derived.KernelRfl
namespace Go.Proofs.Ytbmognchbldfdaa
/- THE CELL 'sum', in the pinned program and in every row, IS THE sha256 OF THE DUMP (.gsa) THAT YtbmognchbldfdaaProg.lean LOADS. Nothing in Lean hashes anything: it is a label: what it is worth is what the hold of that sum in a sandbox is worth. -/
noncomputable def Try.pinned : Pinned := { name := "ytbmognchbldfdaa", sum := "5c338ad76837d1b347e00b1fc81f3c3e28057391020772cfe7f709f33990acb2", checked := Try.checked }
namespace Rows
def none {H : Type} : Left H := { results := [], args := [] }

/-- 'stonecroplaw24.TallyMeets': WHATEVER THE INPUT: true; the input reads as it did. -/
def tallyMeetsSpec : ChangeSpec := { name := "tallyMeets", fn := fun _ => fun
  | [d1, d2, d3] => { results := [.lit (.bool true)], args := [d1, d2, d3] }
  | _ => none }
def tallyMeetsRow : OpenClaim := { program := "ytbmognchbldfdaa", sum := "5c338ad76837d1b347e00b1fc81f3c3e28057391020772cfe7f709f33990acb2", func := "stonecrop/stonecroplaw24.TallyMeets", spec := "tallyMeets", unfollowed := true, recurses := true, apart := false }
def TallyMeetsSaid : Prop := tallyMeetsRow.holds Try.pinned (OpenSpec.ofChange tallyMeetsSpec)

/-- ITS FALSE NEIGHBOUR: 'it returns false'. Refute it at one input. -/
def tallyMeetsWrong : ChangeSpec := { name := "tallyMeets", fn := fun _ => fun
  | [d1, d2, d3] => { results := [.lit (.bool false)], args := [d1, d2, d3] }
  | _ => none }
def TallyMeetsWrongFalsely : Prop := tallyMeetsRow.holds Try.pinned (OpenSpec.ofChange tallyMeetsWrong)

/-- 'stonecroplaw24.TallyLate': WHATEVER THE INPUT: true; the input reads as it did. -/
def tallyLateSpec : ChangeSpec := { name := "tallyLate", fn := fun _ => fun
  | [d1, d2, d3] => { results := [.lit (.bool true)], args := [d1, d2, d3] }
  | _ => none }
def tallyLateRow : OpenClaim := { program := "ytbmognchbldfdaa", sum := "5c338ad76837d1b347e00b1fc81f3c3e28057391020772cfe7f709f33990acb2", func := "stonecrop/stonecroplaw24.TallyLate", spec := "tallyLate", unfollowed := true, recurses := true, apart := false }
def TallyLateSaid : Prop := tallyLateRow.holds Try.pinned (OpenSpec.ofChange tallyLateSpec)

/-- ITS FALSE NEIGHBOUR: 'it returns false'. Refute it at one input. -/
def tallyLateWrong : ChangeSpec := { name := "tallyLate", fn := fun _ => fun
  | [d1, d2, d3] => { results := [.lit (.bool false)], args := [d1, d2, d3] }
  | _ => none }
def TallyLateWrongFalsely : Prop := tallyLateRow.holds Try.pinned (OpenSpec.ofChange tallyLateWrong)

/-- 'stonecroplaw07.AttrChecks': WHATEVER THE INPUT: true; the input reads as it did. -/
def attrChecksSpec : ChangeSpec := { name := "attrChecks", fn := fun _ => fun
  | [d1, d2] => { results := [.lit (.bool true)], args := [d1, d2] }
  | _ => none }
def attrChecksRow : OpenClaim := { program := "ytbmognchbldfdaa", sum := "5c338ad76837d1b347e00b1fc81f3c3e28057391020772cfe7f709f33990acb2", func := "stonecrop/stonecroplaw07.AttrChecks", spec := "attrChecks", unfollowed := true, recurses := true, apart := false }
def AttrChecksSaid : Prop := attrChecksRow.holds Try.pinned (OpenSpec.ofChange attrChecksSpec)

/-- ITS FALSE NEIGHBOUR: 'it returns false'. Refute it at one input. -/
def attrChecksWrong : ChangeSpec := { name := "attrChecks", fn := fun _ => fun
  | [d1, d2] => { results := [.lit (.bool false)], args := [d1, d2] }
  | _ => none }
def AttrChecksWrongFalsely : Prop := attrChecksRow.holds Try.pinned (OpenSpec.ofChange attrChecksWrong)

/-- 'stonecroplaw07.AttrThree': WHATEVER THE INPUT: true; the input reads as it did. -/
def attrThreeSpec : ChangeSpec := { name := "attrThree", fn := fun _ => fun
  | [d1, d2, d3] => { results := [.lit (.bool true)], args := [d1, d2, d3] }
  | _ => none }
def attrThreeRow : OpenClaim := { program := "ytbmognchbldfdaa", sum := "5c338ad76837d1b347e00b1fc81f3c3e28057391020772cfe7f709f33990acb2", func := "stonecrop/stonecroplaw07.AttrThree", spec := "attrThree", unfollowed := true, recurses := true, apart := false }
def AttrThreeSaid : Prop := attrThreeRow.holds Try.pinned (OpenSpec.ofChange attrThreeSpec)

/-- ITS FALSE NEIGHBOUR: 'it returns false'. Refute it at one input. -/
def attrThreeWrong : ChangeSpec := { name := "attrThree", fn := fun _ => fun
  | [d1, d2, d3] => { results := [.lit (.bool false)], args := [d1, d2, d3] }
  | _ => none }
def AttrThreeWrongFalsely : Prop := attrThreeRow.holds Try.pinned (OpenSpec.ofChange attrThreeWrong)

/-- 'stonecroplaw07.AttrJoins': WHATEVER THE INPUT: true; the input reads as it did. -/
def attrJoinsSpec : ChangeSpec := { name := "attrJoins", fn := fun _ => fun
  | [d1, d2] => { results := [.lit (.bool true)], args := [d1, d2] }
  | _ => none }
def attrJoinsRow : OpenClaim := { program := "ytbmognchbldfdaa", sum := "5c338ad76837d1b347e00b1fc81f3c3e28057391020772cfe7f709f33990acb2", func := "stonecrop/stonecroplaw07.AttrJoins", spec := "attrJoins", unfollowed := true, recurses := true, apart := false }
def AttrJoinsSaid : Prop := attrJoinsRow.holds Try.pinned (OpenSpec.ofChange attrJoinsSpec)

/-- ITS FALSE NEIGHBOUR: 'it returns false'. Refute it at one input. -/
def attrJoinsWrong : ChangeSpec := { name := "attrJoins", fn := fun _ => fun
  | [d1, d2] => { results := [.lit (.bool false)], args := [d1, d2] }
  | _ => none }
def AttrJoinsWrongFalsely : Prop := attrJoinsRow.holds Try.pinned (OpenSpec.ofChange attrJoinsWrong)

/- THE SECOND FORM. 'bulk': how many values and letters a reading holds, each counted each time it is reached (what is shared counts as often as it is met; a slice's spare places count too). A statement '..UptoSaid' is the law's where the arguments, and the package variables that the reading takes, are together of bulk at most 1048576: NARROWER than '..Said'. Prove '..Said' where nothing that the law and all that it calls make is longer than what came in: it says more and counts as full. Else prove '..UptoSaid'. A law counts once. -/
mutual
def uptoBulk {H : Type} : DataW H → Nat
  | .lit (.string bytes) => bytes.length + 1
  | .lit _ => 1
  | .nil => 1
  | .ptr d => uptoBulk d + 1
  | .slice elems spare => uptoBulkAll elems + uptoBulkAll spare + 1
  | .agg parts => uptoBulkAll parts + 1
  | .iface _ d => uptoBulk d + 1
  | .map entries => uptoBulkEntries entries + 1
  | .held _ => 1
def uptoBulkAll {H : Type} : List (DataW H) → Nat
  | [] => 0
  | d :: r => uptoBulk d + uptoBulkAll r
def uptoBulkEntries {H : Type} : List (Lit × DataW H) → Nat
  | [] => 0
  | x :: r => uptoBulkEntry x + uptoBulkEntries r
def uptoBulkEntry {H : Type} : Lit × DataW H → Nat
  | (.string bytes, d) => bytes.length + uptoBulk d + 1
  | (_, d) => uptoBulk d + 1
 end
def uptoSmall : (H : Type) → List (DataW H) → Bool := fun _ ds => decide (uptoBulkAll ds ≤ 1048576)
def OpenSpec.upto (s : _root_.Go.ChangeSpec) : _root_.Go.OpenSpec := { _root_.Go.OpenSpec.ofChange s with cond := some uptoSmall }

/-- 'stonecroplaw24.TallyMeets', WHERE WHAT IT READS IS OF BULK AT MOST 1048576: true; the input reads as it did. -/
def tallyMeetsUptoRow : OpenClaim := { program := "ytbmognchbldfdaa", sum := "5c338ad76837d1b347e00b1fc81f3c3e28057391020772cfe7f709f33990acb2", func := "stonecrop/stonecroplaw24.TallyMeets", spec := "tallyMeets", unfollowed := true, recurses := true, apart := false, narrowed := true }
def TallyMeetsUptoSaid : Prop := tallyMeetsUptoRow.holds Try.pinned (OpenSpec.upto tallyMeetsSpec)

/-- 'stonecroplaw24.TallyLate', WHERE WHAT IT READS IS OF BULK AT MOST 1048576: true; the input reads as it did. -/
def tallyLateUptoRow : OpenClaim := { program := "ytbmognchbldfdaa", sum := "5c338ad76837d1b347e00b1fc81f3c3e28057391020772cfe7f709f33990acb2", func := "stonecrop/stonecroplaw24.TallyLate", spec := "tallyLate", unfollowed := true, recurses := true, apart := false, narrowed := true }
def TallyLateUptoSaid : Prop := tallyLateUptoRow.holds Try.pinned (OpenSpec.upto tallyLateSpec)

/-- 'stonecroplaw07.AttrChecks', WHERE WHAT IT READS IS OF BULK AT MOST 1048576: true; the input reads as it did. -/
def attrChecksUptoRow : OpenClaim := { program := "ytbmognchbldfdaa", sum := "5c338ad76837d1b347e00b1fc81f3c3e28057391020772cfe7f709f33990acb2", func := "stonecrop/stonecroplaw07.AttrChecks", spec := "attrChecks", unfollowed := true, recurses := true, apart := false, narrowed := true }
def AttrChecksUptoSaid : Prop := attrChecksUptoRow.holds Try.pinned (OpenSpec.upto attrChecksSpec)

/-- 'stonecroplaw07.AttrThree', WHERE WHAT IT READS IS OF BULK AT MOST 1048576: true; the input reads as it did. -/
def attrThreeUptoRow : OpenClaim := { program := "ytbmognchbldfdaa", sum := "5c338ad76837d1b347e00b1fc81f3c3e28057391020772cfe7f709f33990acb2", func := "stonecrop/stonecroplaw07.AttrThree", spec := "attrThree", unfollowed := true, recurses := true, apart := false, narrowed := true }
def AttrThreeUptoSaid : Prop := attrThreeUptoRow.holds Try.pinned (OpenSpec.upto attrThreeSpec)

/-- 'stonecroplaw07.AttrJoins', WHERE WHAT IT READS IS OF BULK AT MOST 1048576: true; the input reads as it did. -/
def attrJoinsUptoRow : OpenClaim := { program := "ytbmognchbldfdaa", sum := "5c338ad76837d1b347e00b1fc81f3c3e28057391020772cfe7f709f33990acb2", func := "stonecrop/stonecroplaw07.AttrJoins", spec := "attrJoins", unfollowed := true, recurses := true, apart := false, narrowed := true }
def AttrJoinsUptoSaid : Prop := attrJoinsUptoRow.holds Try.pinned (OpenSpec.upto attrJoinsSpec)

end Rows
end Go.Proofs.Ytbmognchbldfdaa
