/- A stub: in this seat's cut there is no package num; what stands on it here needs these texts alone. -/
import Derived.Test.YtekbebekihcnpaaDoorAppC
import Derived.Test.YtekbebekihcnpaaDoorNumMath
namespace Go.Proofs.YtekbebekihcnpaaDoor
open Go.RowKit
set_option linter.unusedVariables false
set_option linter.unusedSimpArgs false
set_option maxRecDepth 20000
attribute [local go_sem ↓] Go.wp_at_zero Go.wp_at_succ
attribute [local go_sem] World.cell?_alloc_some frozen_alloc_some
theorem wrap_u64 (n : Int) : IntKind.u64.wrap n = n % 18446744073709551616 := by simp [IntKind.wrap, IntKind.bits, IntKind.signed]
end Go.Proofs.YtekbebekihcnpaaDoor
