/- The walk of stonecropref04.At. -/
import Derived.Test.YtlolnakeancenaaDoorShimApartQ0
import Derived.Lib.DecodeN
namespace Go.Proofs.YtlolnakeancenaaDoor
open Go.RowKit
set_option linter.unusedVariables false
set_option linter.unusedSimpArgs false
set_option maxRecDepth 20000
attribute [local go_sem ↓] Go.wp_at_zero Go.wp_at_succ
attribute [local go_sem] World.cell?_alloc_some frozen_alloc_some
def rv (r:Int × Nat):Value:=.agg #[.int .i64 r.1,.int .i64 (r.2:Int)]
end Go.Proofs.YtlolnakeancenaaDoor
