/- The walks of package cmd: Writes, keys, Meet. -/
import Derived.Test.YtmgiholmhhjpaaaDoorCmd
import Derived.Test.YtmgiholmhhjpaaaDoorAppC
import Derived.Test.YtmgiholmhhjpaaaDoorShelf
namespace Go.Proofs.YtmgiholmhhjpaaaDoor
open Go.RowKit
set_option linter.unusedVariables false
set_option linter.unusedSimpArgs false
set_option maxRecDepth 20000
attribute [local go_sem ↓] Go.wp_at_zero Go.wp_at_succ
attribute [local go_sem] World.cell?_alloc_some frozen_alloc_some

def cwrites (k : Int) : Bool := k == 2 || k == 3 || k == 4
def isPre (s p : ByteArray) : Bool := Lib.hasPrefix s.data.toList p.data.toList
theorem text_inj {s t : ByteArray} (h : s.toList = t.toList) : s = t := by
  obtain ⟨⟨a⟩⟩ := s
  obtain ⟨⟨b⟩⟩ := t
  simp only [ByteArray.toList_eq] at h
  rw [show a = b from h]

end Go.Proofs.YtmgiholmhhjpaaaDoor
