/- The walks of num.Take and of the document's numbers (package stonecropref01: Same, digits, Put, Take). -/
import Derived.Test.YtfdfcceleaodaaaAttrItemsQ2
namespace Go.Proofs.Ytfdfcceleaodaaa
open Go.RowKit
set_option linter.unusedVariables false
set_option linter.unusedSimpArgs false
set_option maxRecDepth 20000
attribute [local go_sem ↓] Go.wp_at_zero Go.wp_at_succ
attribute [local go_sem] World.cell?_alloc_some frozen_alloc_some
attribute [local go_sem] lt2 lt3 lt4 lt5
attribute [local simp] lt2 lt3 lt4 lt5

def takeV (l : List Nat) : Value := .tuple #[.int .u64 ((ntake l).1 : Int), .int .i64 ((ntake l).2.1 : Int), .int .i64 ((ntake l).2.2 : Int)]
theorem pow7 {k : Nat} (h : k ≤ 7) : 256 ^ k ≤ 72057594037927936 := by
  have : 256 ^ k ≤ 256 ^ 7 := Nat.pow_le_pow_right (by decide) h
  omega

end Go.Proofs.Ytfdfcceleaodaaa
