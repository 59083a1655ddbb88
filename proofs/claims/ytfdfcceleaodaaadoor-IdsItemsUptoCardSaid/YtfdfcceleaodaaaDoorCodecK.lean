/- The walks of package stonecroplaw03: its example, and the law CodecPuts. -/
import Derived.Test.YtfdfcceleaodaaaDoorCodecJ
namespace Go.Proofs.YtfdfcceleaodaaaDoor
open Go.RowKit
set_option linter.unusedVariables false
set_option linter.unusedSimpArgs false
set_option maxRecDepth 20000
attribute [local go_sem ↓] Go.wp_at_zero Go.wp_at_succ
attribute [local go_sem] World.cell?_alloc_some frozen_alloc_some
attribute [local go_sem] lt2 lt3 lt4 lt5
attribute [local simp] lt2 lt3 lt4 lt5

theorem items_block {w : World} {g m : Nat} {e : TypeId} {fr : Nat × Nat} {vs : Nat → Value} {l : List Tree} (hb : w.heap[g]? = some (.cells (flat4 vs m).toArray e fr)) (hm : m = l.length) (hmm : m ≤ maxLen)
    (h : ∀ (i : Nat) (t : Tree), l[i]? = some t → Holds w t (vs i)) : Items w (some ⟨g, 0, none⟩) m m l :=
  ⟨hm, Nat.le_refl _, hmm, vs, fun i hi => ⟨_, rfl, fun j u hu => by
    have h4 : ∀ i, i < m → (vs i).cells.size = 4 := fun i hi => (h i l[i] (List.getElem?_eq_getElem (by omega))).four.1
    have hj : j < 4 := by rw [← h4 i hi]; exact (Array.getElem?_eq_some_iff.1 hu).1
    have hadd : (⟨g, 0, none⟩ : Addr).add (4 * i + j) = ⟨g, 4 * i + j, none⟩ := by unfold Addr.add; split <;> simp_all
    rw [hadd, cell_of_row w g _ _ e fr hb, List.getElem?_toArray, flat4_get h4 hi hj]
    exact hu⟩, h⟩
theorem check_pair (a b : Tree) (d : Nat) : checks [a, b] d = if check a d = 0 then (if check b d = 0 then 0 else check b d) else check a d := by simp [checks]
theorem Puts.below {w w' : World} {k : IntKind} {e : TypeId} {l : List Nat} {err : Nat} {r : Ending} (h : Puts w k e l err r w') : Below w.heap.size w w' := by
  obtain ⟨v, _, _, hb⟩ := h; exact hb

def tA : Tree := .mk 2 0 ByteArray.empty [.mk 0 5 ByteArray.empty [], .mk 1 0 ⟨#[97]⟩ []]
theorem form_small {v : Nat} (h : v < 248) : form v = [v] := by unfold form; rw [if_pos h]
theorem tA_form : tform tA = [2, 2, 0, 5, 1, 1, 97] := by
  simp only [tA, tform, tforms]
  have h1 : (ByteArray.mk #[97]).size = 1 := rfl
  have h2 : txt (ByteArray.mk #[97]) = [97] := rfl
  simp [h1, h2, form_small]
theorem tA_check : check tA 0 = 0 := by
  have h1 : (ByteArray.mk #[97]).size = 1 := rfl
  have h2 : ByteArray.empty.size = 0 := rfl
  simp [tA, check, checks, bad, h1, h2]
theorem tA_err : perr tA = 0 := by simp [perr, tA_check, tA_form]
theorem tA_put : pform tA = [2, 2, 0, 5, 1, 1, 97] := by simp [pform, tA_err, tA_form]
theorem tA_size : tsize tA ≤ 10 := by
  have h1 : (ByteArray.mk #[97]).size = 1 := rfl
  have h2 : ByteArray.empty.size = 0 := rfl
  simp [tA, tsize, tsizes, h1, h2]

end Go.Proofs.YtfdfcceleaodaaaDoor
