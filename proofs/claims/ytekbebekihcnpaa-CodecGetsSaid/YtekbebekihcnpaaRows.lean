/-
  NARROWER THAN 'FOR EVERY INPUT', by the rows' own cells (each row's printed sentence says how): CodecPuts: loops · CodecSame: loops · CodecBack: loops.
  DERIVED. THE GIVEN ROWS OF THIS SEAT. 7 by the template 'for every input the law returns true; each argument reads behind the call as it read before'; 0 by the template 'total and deterministic' (their statements: YtekbebekihcnpaaTotals.lean).
  GIVEN WITH THE SEED: the statements are not yours to turn. If you find one false, say at which input.
  Laid BY PROGRAM, IN A SANDBOX (cutbox-rows.mjs): the forced cells as the released guide's own fill.sh prints them over the translation 13c550b060c70082… (all of the seat's roots in one cut). By AI agents, Wed Nov 11 2026. No macro, syntax, notation, axiom, sorry.
-/
import Derived.Test.YtekbebekihcnpaaChecked
import GoSem.Claim
import GoSem.ClaimJoined
import GoSem.ClaimMapViews
import Derived.JoinedTies
import Derived.KernelRfl
namespace Go.Proofs.Ytekbebekihcnpaa
/- THE CELL 'sum', in the pinned program and in every row, IS THE sha256 OF THE DUMP (.gsa) THAT YtekbebekihcnpaaProg.lean LOADS. Nothing in Lean hashes anything: it is a label: what it is worth is what the hold of that sum in a sandbox is worth. -/
noncomputable def Try.pinned : Pinned := { name := "ytekbebekihcnpaa", sum := "13c550b060c7008219045d02f8092beb9f10cf1c173c23ac682f6a576486fb4a", checked := Try.checked }
namespace Rows
def none {H : Type} : Left H := { results := [], args := [] }

/-- 'stonecroplaw03.CodecPuts': WHATEVER THE INPUT: true; the input reads as it did. -/
def codecPutsSpec : ChangeSpec := { name := "codecPuts", fn := fun _ => fun
  | [d] => { results := [.lit (.bool true)], args := [d] }
  | _ => none }
def codecPutsRow : OpenClaim := { program := "ytekbebekihcnpaa", sum := "13c550b060c7008219045d02f8092beb9f10cf1c173c23ac682f6a576486fb4a", func := "stonecrop/stonecroplaw03.CodecPuts", spec := "codecPuts", recurses := true, loops := true, apart := false }
def CodecPutsSaid : Prop := codecPutsRow.holds Try.pinned (OpenSpec.ofChange codecPutsSpec)

/-- ITS FALSE NEIGHBOUR: 'it returns false'. Refute it at one input. -/
def codecPutsWrong : ChangeSpec := { name := "codecPuts", fn := fun _ => fun
  | [d] => { results := [.lit (.bool false)], args := [d] }
  | _ => none }
def CodecPutsWrongFalsely : Prop := codecPutsRow.holds Try.pinned (OpenSpec.ofChange codecPutsWrong)

/-- 'stonecroplaw03.CodecSame': WHATEVER THE INPUT: true; the input reads as it did. -/
def codecSameSpec : ChangeSpec := { name := "codecSame", fn := fun _ => fun
  | [d1, d2] => { results := [.lit (.bool true)], args := [d1, d2] }
  | _ => none }
def codecSameRow : OpenClaim := { program := "ytekbebekihcnpaa", sum := "13c550b060c7008219045d02f8092beb9f10cf1c173c23ac682f6a576486fb4a", func := "stonecrop/stonecroplaw03.CodecSame", spec := "codecSame", unfollowed := true, recurses := true, loops := true, apart := false }
def CodecSameSaid : Prop := codecSameRow.holds Try.pinned (OpenSpec.ofChange codecSameSpec)

/-- ITS FALSE NEIGHBOUR: 'it returns false'. Refute it at one input. -/
def codecSameWrong : ChangeSpec := { name := "codecSame", fn := fun _ => fun
  | [d1, d2] => { results := [.lit (.bool false)], args := [d1, d2] }
  | _ => none }
def CodecSameWrongFalsely : Prop := codecSameRow.holds Try.pinned (OpenSpec.ofChange codecSameWrong)

/-- 'stonecroplaw03.CodecKinds': WHATEVER THE INPUT: true; the input reads as it did. -/
def codecKindsSpec : ChangeSpec := { name := "codecKinds", fn := fun _ => fun
  | [d1, d2] => { results := [.lit (.bool true)], args := [d1, d2] }
  | _ => none }
def codecKindsRow : OpenClaim := { program := "ytekbebekihcnpaa", sum := "13c550b060c7008219045d02f8092beb9f10cf1c173c23ac682f6a576486fb4a", func := "stonecrop/stonecroplaw03.CodecKinds", spec := "codecKinds", unfollowed := true, recurses := true, apart := false }
def CodecKindsSaid : Prop := codecKindsRow.holds Try.pinned (OpenSpec.ofChange codecKindsSpec)

/-- ITS FALSE NEIGHBOUR: 'it returns false'. Refute it at one input. -/
def codecKindsWrong : ChangeSpec := { name := "codecKinds", fn := fun _ => fun
  | [d1, d2] => { results := [.lit (.bool false)], args := [d1, d2] }
  | _ => none }
def CodecKindsWrongFalsely : Prop := codecKindsRow.holds Try.pinned (OpenSpec.ofChange codecKindsWrong)

/-- 'stonecroplaw13.LogParts': WHATEVER THE INPUT: true; the input reads as it did. -/
def logPartsSpec : ChangeSpec := { name := "logParts", fn := fun _ => fun
  | [d1, d2] => { results := [.lit (.bool true)], args := [d1, d2] }
  | _ => none }
def logPartsRow : OpenClaim := { program := "ytekbebekihcnpaa", sum := "13c550b060c7008219045d02f8092beb9f10cf1c173c23ac682f6a576486fb4a", func := "stonecrop/stonecroplaw13.LogParts", spec := "logParts", unfollowed := true, recurses := true, apart := false }
def LogPartsSaid : Prop := logPartsRow.holds Try.pinned (OpenSpec.ofChange logPartsSpec)

/-- ITS FALSE NEIGHBOUR: 'it returns false'. Refute it at one input. -/
def logPartsWrong : ChangeSpec := { name := "logParts", fn := fun _ => fun
  | [d1, d2] => { results := [.lit (.bool false)], args := [d1, d2] }
  | _ => none }
def LogPartsWrongFalsely : Prop := logPartsRow.holds Try.pinned (OpenSpec.ofChange logPartsWrong)

/-- 'stonecroplaw03.CodecGets': WHATEVER THE INPUT: true; the input reads as it did. -/
def codecGetsSpec : ChangeSpec := { name := "codecGets", fn := fun _ => fun
  | [d] => { results := [.lit (.bool true)], args := [d] }
  | _ => none }
def codecGetsRow : OpenClaim := { program := "ytekbebekihcnpaa", sum := "13c550b060c7008219045d02f8092beb9f10cf1c173c23ac682f6a576486fb4a", func := "stonecrop/stonecroplaw03.CodecGets", spec := "codecGets", recurses := true, apart := false }
def CodecGetsSaid : Prop := codecGetsRow.holds Try.pinned (OpenSpec.ofChange codecGetsSpec)

/-- ITS FALSE NEIGHBOUR: 'it returns false'. Refute it at one input. -/
def codecGetsWrong : ChangeSpec := { name := "codecGets", fn := fun _ => fun
  | [d] => { results := [.lit (.bool false)], args := [d] }
  | _ => none }
def CodecGetsWrongFalsely : Prop := codecGetsRow.holds Try.pinned (OpenSpec.ofChange codecGetsWrong)

/-- 'stonecroplaw03.CodecBack': WHATEVER THE INPUT: true; the input reads as it did. -/
def codecBackSpec : ChangeSpec := { name := "codecBack", fn := fun _ => fun
  | [d1, d2, d3] => { results := [.lit (.bool true)], args := [d1, d2, d3] }
  | _ => none }
def codecBackRow : OpenClaim := { program := "ytekbebekihcnpaa", sum := "13c550b060c7008219045d02f8092beb9f10cf1c173c23ac682f6a576486fb4a", func := "stonecrop/stonecroplaw03.CodecBack", spec := "codecBack", unfollowed := true, recurses := true, loops := true, apart := false }
def CodecBackSaid : Prop := codecBackRow.holds Try.pinned (OpenSpec.ofChange codecBackSpec)

/-- ITS FALSE NEIGHBOUR: 'it returns false'. Refute it at one input. -/
def codecBackWrong : ChangeSpec := { name := "codecBack", fn := fun _ => fun
  | [d1, d2, d3] => { results := [.lit (.bool false)], args := [d1, d2, d3] }
  | _ => none }
def CodecBackWrongFalsely : Prop := codecBackRow.holds Try.pinned (OpenSpec.ofChange codecBackWrong)

/-- 'stonecroplaw03.CodecNest': WHATEVER THE INPUT: true; the input reads as it did. -/
def codecNestSpec : ChangeSpec := { name := "codecNest", fn := fun _ => fun
  | [d1, d2] => { results := [.lit (.bool true)], args := [d1, d2] }
  | _ => none }
def codecNestRow : OpenClaim := { program := "ytekbebekihcnpaa", sum := "13c550b060c7008219045d02f8092beb9f10cf1c173c23ac682f6a576486fb4a", func := "stonecrop/stonecroplaw03.CodecNest", spec := "codecNest", unfollowed := true, recurses := true, apart := false }
def CodecNestSaid : Prop := codecNestRow.holds Try.pinned (OpenSpec.ofChange codecNestSpec)

/-- ITS FALSE NEIGHBOUR: 'it returns false'. Refute it at one input. -/
def codecNestWrong : ChangeSpec := { name := "codecNest", fn := fun _ => fun
  | [d1, d2] => { results := [.lit (.bool false)], args := [d1, d2] }
  | _ => none }
def CodecNestWrongFalsely : Prop := codecNestRow.holds Try.pinned (OpenSpec.ofChange codecNestWrong)

/- THE SECOND FORM. 'bulk': how many values and letters a reading holds, each counted each time it is reached (what is shared counts as often as it is met; a slice's spare places count too). A statement '..UptoSaid' is the law's where the arguments, and the package variables that the reading takes, are together of bulk at most 1048576: NARROWER than '..Said'. Prove '..Said' where nothing that the law and all that it calls make is longer than what came in: it says more and counts as full. Else prove '..UptoSaid'. A law counts once. -/
mutual
def uptoBulk {H : Type} : DataW H → Nat
  | .lit (.string bytes) => bytes.length + 1
  | .lit _ => 1
  | .nil => 1
  | .ptr d => uptoBulk d + 1
  | .slice elems spare => uptoBulkAll elems + uptoBulkAll spare + 1
  | .agg parts => uptoBulkAll parts + 1
  | .iface _ d => uptoBulk d + 1
  | .map entries => uptoBulkEntries entries + 1
  | .held _ => 1
def uptoBulkAll {H : Type} : List (DataW H) → Nat
  | [] => 0
  | d :: r => uptoBulk d + uptoBulkAll r
def uptoBulkEntries {H : Type} : List (Lit × DataW H) → Nat
  | [] => 0
  | x :: r => uptoBulkEntry x + uptoBulkEntries r
def uptoBulkEntry {H : Type} : Lit × DataW H → Nat
  | (.string bytes, d) => bytes.length + uptoBulk d + 1
  | (_, d) => uptoBulk d + 1
 end
def uptoSmall : (H : Type) → List (DataW H) → Bool := fun _ ds => decide (uptoBulkAll ds ≤ 1048576)
def OpenSpec.upto (s : _root_.Go.ChangeSpec) : _root_.Go.OpenSpec := { _root_.Go.OpenSpec.ofChange s with cond := some uptoSmall }

/-- 'stonecroplaw03.CodecPuts', WHERE WHAT IT READS IS OF BULK AT MOST 1048576: true; the input reads as it did. -/
def codecPutsUptoRow : OpenClaim := { program := "ytekbebekihcnpaa", sum := "13c550b060c7008219045d02f8092beb9f10cf1c173c23ac682f6a576486fb4a", func := "stonecrop/stonecroplaw03.CodecPuts", spec := "codecPuts", recurses := true, loops := true, apart := false, narrowed := true }
def CodecPutsUptoSaid : Prop := codecPutsUptoRow.holds Try.pinned (OpenSpec.upto codecPutsSpec)

/-- 'stonecroplaw03.CodecSame', WHERE WHAT IT READS IS OF BULK AT MOST 1048576: true; the input reads as it did. -/
def codecSameUptoRow : OpenClaim := { program := "ytekbebekihcnpaa", sum := "13c550b060c7008219045d02f8092beb9f10cf1c173c23ac682f6a576486fb4a", func := "stonecrop/stonecroplaw03.CodecSame", spec := "codecSame", unfollowed := true, recurses := true, loops := true, apart := false, narrowed := true }
def CodecSameUptoSaid : Prop := codecSameUptoRow.holds Try.pinned (OpenSpec.upto codecSameSpec)

/-- 'stonecroplaw03.CodecKinds', WHERE WHAT IT READS IS OF BULK AT MOST 1048576: true; the input reads as it did. -/
def codecKindsUptoRow : OpenClaim := { program := "ytekbebekihcnpaa", sum := "13c550b060c7008219045d02f8092beb9f10cf1c173c23ac682f6a576486fb4a", func := "stonecrop/stonecroplaw03.CodecKinds", spec := "codecKinds", unfollowed := true, recurses := true, apart := false, narrowed := true }
def CodecKindsUptoSaid : Prop := codecKindsUptoRow.holds Try.pinned (OpenSpec.upto codecKindsSpec)

/-- 'stonecroplaw13.LogParts', WHERE WHAT IT READS IS OF BULK AT MOST 1048576: true; the input reads as it did. -/
def logPartsUptoRow : OpenClaim := { program := "ytekbebekihcnpaa", sum := "13c550b060c7008219045d02f8092beb9f10cf1c173c23ac682f6a576486fb4a", func := "stonecrop/stonecroplaw13.LogParts", spec := "logParts", unfollowed := true, recurses := true, apart := false, narrowed := true }
def LogPartsUptoSaid : Prop := logPartsUptoRow.holds Try.pinned (OpenSpec.upto logPartsSpec)

/-- 'stonecroplaw03.CodecGets', WHERE WHAT IT READS IS OF BULK AT MOST 1048576: true; the input reads as it did. -/
def codecGetsUptoRow : OpenClaim := { program := "ytekbebekihcnpaa", sum := "13c550b060c7008219045d02f8092beb9f10cf1c173c23ac682f6a576486fb4a", func := "stonecrop/stonecroplaw03.CodecGets", spec := "codecGets", recurses := true, apart := false, narrowed := true }
def CodecGetsUptoSaid : Prop := codecGetsUptoRow.holds Try.pinned (OpenSpec.upto codecGetsSpec)

/-- 'stonecroplaw03.CodecBack', WHERE WHAT IT READS IS OF BULK AT MOST 1048576: true; the input reads as it did. -/
def codecBackUptoRow : OpenClaim := { program := "ytekbebekihcnpaa", sum := "13c550b060c7008219045d02f8092beb9f10cf1c173c23ac682f6a576486fb4a", func := "stonecrop/stonecroplaw03.CodecBack", spec := "codecBack", unfollowed := true, recurses := true, loops := true, apart := false, narrowed := true }
def CodecBackUptoSaid : Prop := codecBackUptoRow.holds Try.pinned (OpenSpec.upto codecBackSpec)

/-- 'stonecroplaw03.CodecNest', WHERE WHAT IT READS IS OF BULK AT MOST 1048576: true; the input reads as it did. -/
def codecNestUptoRow : OpenClaim := { program := "ytekbebekihcnpaa", sum := "13c550b060c7008219045d02f8092beb9f10cf1c173c23ac682f6a576486fb4a", func := "stonecrop/stonecroplaw03.CodecNest", spec := "codecNest", unfollowed := true, recurses := true, apart := false, narrowed := true }
def CodecNestUptoSaid : Prop := codecNestUptoRow.holds Try.pinned (OpenSpec.upto codecNestSpec)

end Rows
end Go.Proofs.Ytekbebekihcnpaa
