/- The walk of stonecropref06.Great. -/
import Derived.Test.YtmgiholmhhjpaaaDoorRecChecksQ20
namespace Go.Proofs.YtmgiholmhhjpaaaDoor
open Go.RowKit
set_option linter.unusedVariables false
set_option linter.unusedSimpArgs false
set_option maxRecDepth 20000
attribute [local go_sem ↓] Go.wp_at_zero Go.wp_at_succ
attribute [local go_sem] World.cell?_alloc_some frozen_alloc_some

def cgreat (y x : ByteArray) : Bool := decide (200 < y.size) || decide (2000 < x.size)
theorem great_any (k c q : Int) (y x : ByteArray) (r : Int) (w : World) :
    Calls Tryd.prog 38 #[.agg #[.int .i64 k, .int .i64 c, .int .i64 q, .string y, .string x, .int .i64 r]] w (Gives w (.bool (cgreat y x))) := by
  obtain ⟨R, hR⟩ : ∃ R, R = cgreat y x := ⟨_, rfl⟩
  rw [← hR]
  unfold cgreat at hR
  have HR := Lib.hid hR
  clear hR
  by_cases h1 : 200 < y.size
  · have h1' : (200 : Int) < (y.size : Int) := by omega
    go_enter Tryd.func38, Tryd.ntmps38
    go_wp2_with fail
    go_ret
    exact ⟨by rw [HR.out]; simp [h1], by ((repeat' first | with_reducible exact Below.refl _ _ | with_reducible assumption | with_reducible refine Below.alloc ?_ ?_ _ | with_reducible refine Below.setCell ?_ ?_ _ | with_reducible apply Below.drew | with_reducible apply below_drewN | with_reducible refine below_call ?_ (by with_reducible assumption) ?_) <;> (first | omega | (simp; done) | (simp; omega) | (simp at *; omega)))⟩
  · have h1' : ¬ (200 : Int) < (y.size : Int) := by omega
    by_cases h2 : 2000 < x.size
    · have h2' : (2000 : Int) < (x.size : Int) := by omega
      go_enter Tryd.func38, Tryd.ntmps38
      go_wp2_with fail
      go_ret
      exact ⟨by rw [HR.out]; simp [h1, h2], by ((repeat' first | with_reducible exact Below.refl _ _ | with_reducible assumption | with_reducible refine Below.alloc ?_ ?_ _ | with_reducible refine Below.setCell ?_ ?_ _ | with_reducible apply Below.drew | with_reducible apply below_drewN | with_reducible refine below_call ?_ (by with_reducible assumption) ?_) <;> (first | omega | (simp; done) | (simp; omega) | (simp at *; omega)))⟩
    · have h2' : ¬ (2000 : Int) < (x.size : Int) := by omega
      go_enter Tryd.func38, Tryd.ntmps38
      go_wp2_with fail
      go_ret
      exact ⟨by rw [HR.out]; simp [h1, h2], by ((repeat' first | with_reducible exact Below.refl _ _ | with_reducible assumption | with_reducible refine Below.alloc ?_ ?_ _ | with_reducible refine Below.setCell ?_ ?_ _ | with_reducible apply Below.drew | with_reducible apply below_drewN | with_reducible refine below_call ?_ (by with_reducible assumption) ?_) <;> (first | omega | (simp; done) | (simp; omega) | (simp at *; omega)))⟩
end Go.Proofs.YtmgiholmhhjpaaaDoor
