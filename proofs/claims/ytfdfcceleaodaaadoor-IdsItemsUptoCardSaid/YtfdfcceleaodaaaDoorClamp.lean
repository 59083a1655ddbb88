/- A number as it is taken: no more than 2^62. -/
import Derived.Test.YtfdfcceleaodaaaDoorItem
namespace Go.Proofs.YtfdfcceleaodaaaDoor
open Go.RowKit
set_option linter.unusedVariables false
set_option linter.unusedSimpArgs false
set_option maxRecDepth 20000
attribute [local go_sem ↓] Go.wp_at_zero Go.wp_at_succ
attribute [local go_sem] World.cell?_alloc_some frozen_alloc_some
def clamp (n : Nat) : Nat := min n 4611686018427387904
theorem clamp_wrap (n : Nat) : IntKind.i64.wrap (clamp n : Int) = (clamp n : Int) := by
  have : clamp n ≤ 4611686018427387904 := Nat.min_le_right _ _
  rw [IntWalk.i64_in _ (by omega)]
theorem clamp_int (n : Nat) : min (n : Int) 4611686018427387904 = (clamp n : Int) := by unfold clamp; omega
theorem clamp_lt (n : Nat) : clamp n < 2 ^ 63 := by have : clamp n ≤ 4611686018427387904 := Nat.min_le_right _ _; omega
def ctxt : Tree → ByteArray | .mk _ _ s _ => s
def tN : Tree → Nat | .mk _ n _ _ => n
def cnum : Tree → Nat | .mk _ n _ _ => clamp n
end Go.Proofs.YtfdfcceleaodaaaDoor
