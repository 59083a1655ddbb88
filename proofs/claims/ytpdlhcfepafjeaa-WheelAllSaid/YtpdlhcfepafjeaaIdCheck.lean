/- ids.Less. -/
import Derived.Test.YtpdlhcfepafjeaaIdOrd
import Derived.WalkKit
import Derived.WalkSpells
import Derived.WalkLawsBesides
import Derived.Deep.RegionHeld3
import Derived.Deep.DrawnRows
import Derived.Deep.DeepCutAuto
import Derived.Deep.DeepFit
import Derived.Lib.Hide
import Derived.BigQuiet
import Derived.Deep.QuietTactic
namespace Go.Proofs.Ytpdlhcfepafjeaa
open Go.RowKit
set_option linter.unusedVariables false
set_option linter.unusedSimpArgs false
set_option maxRecDepth 20000
attribute [local go_sem ↓] Go.wp_at_zero Go.wp_at_succ
attribute [local go_sem] World.cell?_alloc_some frozen_alloc_some

set_option maxHeartbeats 400000 in
theorem idless_lays (a b c d : Int) (w : World) :
    Calls Try.prog 59 #[.agg #[.int .i64 a, .int .i64 b], .agg #[.int .i64 c, .int .i64 d]] w (fun e w' => e = .returned (.bool (decide (idLt (a, b) (c, d)))) ∧ Lays w w') := by
  have h := fun W => order_any a b c d W
  have hlt := @idCmp_lt (a, b) (c, d)
  have he : decide (idLt (a, b) (c, d)) = decide (idCmp (a, b) (c, d) < 0) := by rw [Bool.eq_iff_iff]; simp only [decide_eq_true_eq]; exact hlt.symm
  rw [he]
  clear he hlt
  generalize idCmp (a, b) (c, d) = r at h ⊢
  by_cases hr : r < 0
  · go_enter Try.func59, Try.ntmps59
    go_wp2_with (go_at_call 92; refine (h _).mono ?_; rintro e w1 ⟨rfl, hb1, hd1⟩)
    go_ret
    exact ⟨by simp [hr], by ((repeat' first | with_reducible exact Below.refl _ _ | with_reducible assumption | with_reducible refine Below.alloc ?_ ?_ _ | with_reducible refine Below.setCell ?_ ?_ _ | with_reducible apply Below.drew | with_reducible apply below_drewN | with_reducible refine below_call ?_ (by with_reducible assumption) ?_) <;> (first | omega | (simp; done) | (simp; omega) | (simp at *; omega))), by simpa only [drawn_alloc, drawn_drew] using hd1⟩
  · go_enter Try.func59, Try.ntmps59
    go_wp2_with (go_at_call 92; refine (h _).mono ?_; rintro e w1 ⟨rfl, hb1, hd1⟩)
    go_ret
    exact ⟨by simp [hr]; try omega, by ((repeat' first | with_reducible exact Below.refl _ _ | with_reducible assumption | with_reducible refine Below.alloc ?_ ?_ _ | with_reducible refine Below.setCell ?_ ?_ _ | with_reducible apply Below.drew | with_reducible apply below_drewN | with_reducible refine below_call ?_ (by with_reducible assumption) ?_) <;> (first | omega | (simp; done) | (simp; omega) | (simp at *; omega))), by simpa only [drawn_alloc, drawn_drew] using hd1⟩
end Go.Proofs.Ytpdlhcfepafjeaa
