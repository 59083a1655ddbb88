/- A row of items in one block (in this seat's cut there is no stonecroplaw03). -/
import Derived.Test.YtmgiholmhhjpaaaDoorCodecJ
import Derived.Test.YtmgiholmhhjpaaaDoorCodecF
namespace Go.Proofs.YtmgiholmhhjpaaaDoor
open Go.RowKit
set_option linter.unusedVariables false
set_option linter.unusedSimpArgs false
set_option maxRecDepth 20000
attribute [local go_sem ↓] Go.wp_at_zero Go.wp_at_succ
attribute [local go_sem] World.cell?_alloc_some frozen_alloc_some

theorem items_block {w : World} {g m : Nat} {e : TypeId} {fr : Nat × Nat} {vs : Nat → Value} {l : List Tree} (hb : w.heap[g]? = some (.cells (flat4 vs m).toArray e fr)) (hm : m = l.length) (hmm : m ≤ maxLen)
    (h : ∀ (i : Nat) (t : Tree), l[i]? = some t → Holds w t (vs i)) : Items w (some ⟨g, 0, none⟩) m m l :=
  ⟨hm, Nat.le_refl _, hmm, vs, fun i hi => ⟨_, rfl, fun j u hu => by
    have h4 : ∀ i, i < m → (vs i).cells.size = 4 := fun i hi => (h i l[i] (List.getElem?_eq_getElem (by omega))).four.1
    have hj : j < 4 := by rw [← h4 i hi]; exact (Array.getElem?_eq_some_iff.1 hu).1
    have hadd : (⟨g, 0, none⟩ : Addr).add (4 * i + j) = ⟨g, 4 * i + j, none⟩ := by unfold Addr.add; split <;> simp_all
    rw [hadd, cell_of_row w g _ _ e fr hb, List.getElem?_toArray, flat4_get h4 hi hj]
    exact hu⟩, h⟩
end Go.Proofs.YtmgiholmhhjpaaaDoor
