/- A frame of which some bits in a row are turned is not opened: plain. -/
import Derived.Test.YtlolnakeancenaaDoorShimApartQ40
import Derived.Test.YtlolnakeancenaaDoorShimApartQ4
import Derived.Test.YtlolnakeancenaaDoorShimApartQ41
namespace Go.Proofs.YtlolnakeancenaaDoor
open Go.RowKit
set_option linter.unusedVariables false
set_option linter.unusedSimpArgs false
set_option maxRecDepth 20000
attribute [local go_sem ↓] Go.wp_at_zero Go.wp_at_succ
attribute [local go_sem] World.cell?_alloc_some frozen_alloc_some

/-- A form's bytes are two or more. -/
theorem tform_two (t : Tree) : 2 ≤ (tform t).length := by
 obtain ⟨k, n, s, l⟩ := t
 have hf : ∀ v, 1 ≤ (form v).length := fun v => by
  unfold form
  split
  ·exact Nat.le_refl _
  ·simp
 have h1 := hf n
 have h2 := hf s.size
 have h3 := hf l.length
 unfold tform
 split
 ·simp; omega
 ·split
  ·simp; omega
  ·simp; omega
end Go.Proofs.YtlolnakeancenaaDoor
