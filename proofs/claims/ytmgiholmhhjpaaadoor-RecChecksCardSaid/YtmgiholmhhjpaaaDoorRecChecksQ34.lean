/- What the program and the document say is wrong with a command is one. -/
import Derived.Test.YtmgiholmhhjpaaaDoorRecChecksQ31
import Derived.Test.YtmgiholmhhjpaaaDoorRecChecksQ27
namespace Go.Proofs.YtmgiholmhhjpaaaDoor
open Go.RowKit
set_option linter.unusedVariables false
set_option linter.unusedSimpArgs false
set_option maxRecDepth 20000
attribute [local go_sem ↓] Go.wp_at_zero Go.wp_at_succ
attribute [local go_sem] World.cell?_alloc_some frozen_alloc_some

theorem ccheck_eq (k c q : Int) (y x : ByteArray) (r : Int) : ccheck k c q y x r = dcheck k c q y x r (dbeg y) (dkey y) := by
  have e0 : (ByteArray.empty).toList = [] := by rw [ByteArray.toList_eq]; rfl
  have ey : ∀ s : ByteArray, (s.toList == ByteArray.empty.toList) = decide (s.toList = []) := fun s => by rw [e0]; rw [Bool.eq_iff_iff]; simp
  unfold ccheck
  rw [dbeg_eq, dkey_eq]
  generalize dbeg y = kb
  generalize dkey y = kk
  unfold cform cnamed ceq crange cbare nmC nmY nmX nmR dcheck
  by_cases h : k < 0 ∨ 6 < k
  · have h2 : ¬ (0 ≤ k ∧ k ≤ 6) := by omega
    simp [h, h2]
  · have hk : k = 0 ∨ k = 1 ∨ k = 2 ∨ k = 3 ∨ k = 4 ∨ k = 5 ∨ k = 6 := by omega
    have hr : ∀ (a b c d e f : Bool), a = b → c = d → e = f → True := fun _ _ _ _ _ _ _ _ _ => trivial
    rcases hk with rfl | rfl | rfl | rfl | rfl | rfl | rfl
    all_goals
      simp only [e0]
      by_cases hc : c = 0 <;> by_cases hq : q = 0 <;> by_cases hy : y.toList = [] <;> by_cases hx : x.toList = [] <;> by_cases hrr : r = 0 <;> simp [hc, hq, hy, hx, hrr, or_assoc]
end Go.Proofs.YtmgiholmhhjpaaaDoor
