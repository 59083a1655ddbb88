/- The walks of package stonecropref03 on items: check. -/
import Derived.Test.YtlolnakeancenaaDoorShimApartQ0
import Derived.ChangeKeysEq
namespace Go.Proofs.YtlolnakeancenaaDoor
open Go.RowKit
set_option linter.unusedVariables false
set_option linter.unusedSimpArgs false
set_option maxRecDepth 20000
attribute [local go_sem ↓] Go.wp_at_zero Go.wp_at_succ
attribute [local go_sem] World.cell?_alloc_some frozen_alloc_some
attribute [local go_sem] lt2 lt3 lt4 lt5
attribute [local simp] lt2 lt3 lt4 lt5
theorem text_full {s:ByteArray} (h:s.size≠0):s.toList.isEmpty=false∧¬s.toList=[]:=by
 have e:s.toList=s.data.toList:=by simp [ByteArray.toList_eq]
 have:s.data.toList≠ []:=fun h2=>h (by
  have h3:s.data.size=0:=by rw [←Array.length_toList,h2];rfl
  exact h3)
 rw [e]
 exact ⟨by simpa using this,this⟩
end Go.Proofs.YtlolnakeancenaaDoor
