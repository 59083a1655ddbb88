/- From the listed variables of a row to the tables that the decoder reads. -/
import Derived.Test.YtmgiholmhhjpaaaDoorRescueFastQ2
import Derived.Test.YtmgiholmhhjpaaaDoorRows
import Derived.Lib.LaidU8
import Derived.PinnedBridge
namespace Go.Proofs.YtmgiholmhhjpaaaDoor
open Go.RowKit
set_option linter.unusedVariables false
set_option linter.unusedSimpArgs false
set_option maxRecDepth 20000
attribute [local go_sem ↓] Go.wp_at_zero Go.wp_at_succ
attribute [local go_sem] World.cell?_alloc_some frozen_alloc_some

theorem tabs_laid {W : World} (hL : laidMet Tryd.prog [("unicode/utf8.acceptRanges", Rows.laid_unicode_utf8_acceptRanges), ("unicode/utf8.first", Rows.laid_unicode_utf8_first)] W) : Tabs W := by
  have h1 : Lib.VarReads Tryd.prog W "unicode/utf8.first" Lib.firstData := by
    rw [← Pinned.utf8First_eq]
    exact Lib.laidMet.reads hL (.tail _ (.head _))
  have e2 : (Rows.laid_unicode_utf8_acceptRanges : DataW Unit) = Lib.acceptData := by kernel_rfl
  have h2 : Lib.VarReads Tryd.prog W "unicode/utf8.acceptRanges" Lib.acceptData := by
    rw [← e2]
    exact Lib.laidMet.reads hL (.head _)
  exact utf8Tabs_of_reads Tryd.lays260 ⟨by kernel_rfl, by kernel_rfl, by kernel_rfl, by kernel_rfl, by kernel_rfl, by kernel_rfl, by kernel_rfl⟩ h1 h2
end Go.Proofs.YtmgiholmhhjpaaaDoor
