/- The walks of package ballot: Right, Less, First; two ballots held against one another. -/
import Derived.Test.YtmgiholmhhjpaaaDoorRescueFastQ0
namespace Go.Proofs.YtmgiholmhhjpaaaDoor
open Go.RowKit
set_option linter.unusedVariables false
set_option linter.unusedSimpArgs false
set_option maxRecDepth 20000
attribute [local go_sem ↓] Go.wp_at_zero Go.wp_at_succ
attribute [local go_sem] World.cell?_alloc_some frozen_alloc_some

def bal (a b : Int) : Value := .agg #[.int .i64 a, .int .i64 b]
def lessB (a b c d : Int) : Bool := if a = c then decide (b < d) else decide (a < c)
def rightB (a b : Int) : Bool := decide (0 ≤ a) && decide (a ≤ 1099511627776) && decide (0 ≤ b) && decide (b < 7)
theorem rightB_yes {a b : Int} (h1 : 0 ≤ a) (h2 : a ≤ 1099511627776) (h3 : 0 ≤ b) (h4 : b < 7) : rightB a b = true := by simp [rightB, *]
theorem rightB_no {a b : Int} (h : ¬ (0 ≤ a ∧ a ≤ 1099511627776 ∧ 0 ≤ b ∧ b < 7)) : rightB a b = false := by
  rw [← Bool.not_eq_true]; intro h1; simp only [rightB, Bool.and_eq_true, decide_eq_true_eq] at h1; exact h ⟨h1.1.1.1, h1.1.1.2, h1.1.2, h1.2⟩
theorem rightB_iff {a b : Int} : rightB a b = true ↔ (0 ≤ a ∧ a ≤ 1099511627776 ∧ 0 ≤ b ∧ b < 7) := by
  simp only [rightB, Bool.and_eq_true, decide_eq_true_eq, and_assoc]
theorem lessB_iff {a b c d : Int} : lessB a b c d = true ↔ (a < c ∨ a = c ∧ b < d) := by
  unfold lessB
  by_cases h : a = c
  · simp [h]
  · simp [h]

set_option maxHeartbeats 400000 in
theorem less_any (a b c d : Int) (w : World) :
    Calls Tryd.prog 26 #[.agg #[.int .i64 a, .int .i64 b], .agg #[.int .i64 c, .int .i64 d]] w (Gives w (.bool (lessB a b c d))) := by
  go_enter Tryd.func26, Tryd.ntmps26
  go_wp2
  all_goals go_ret
  all_goals refine ⟨?_, ((Below.refl _ _).alloc (Nat.le_refl _) _).alloc (by simp) _⟩
  all_goals simp_all [lessB]

set_option maxHeartbeats 400000 in
theorem right_any (a b : Int) (w : World) :
    Calls Tryd.prog 25 #[.agg #[.int .i64 a, .int .i64 b]] w (Gives w (.bool (rightB a b))) := by
  go_enter Tryd.func25, Tryd.ntmps25
  go_wp2
  all_goals go_ret
  all_goals refine ⟨?_, ((Below.refl _ _).alloc (Nat.le_refl _) _)⟩
  all_goals
    by_cases hr : 0 ≤ a ∧ a ≤ 1099511627776 ∧ 0 ≤ b ∧ b < 7
    · have hr' := rightB_yes hr.1 hr.2.1 hr.2.2.1 hr.2.2.2
      simp [hr']; try omega
    · have hr' := rightB_no hr
      simp [hr']; try omega

set_option maxHeartbeats 400000 in
theorem first_any (by_ : Int) (w : World) :
    Calls Tryd.prog 9 #[.int .i64 by_] w (Gives w (.agg #[.int .i64 0, .int .i64 by_])) := by
  go_enter Tryd.func9, Tryd.ntmps9
  go_wp2
  refine bodyPost_ret (v := .agg #[.int .i64 0, .int .i64 by_]) (by simp [results, Tryd.results9, go_sem]) rfl ?_
  refine ⟨rfl, ?_⟩
  ((repeat' first | with_reducible exact Below.refl _ _ | with_reducible assumption | with_reducible refine Below.alloc ?_ ?_ _ | with_reducible refine Below.setCell ?_ ?_ _ | with_reducible apply Below.drew | with_reducible apply below_drewN | with_reducible refine below_call ?_ (by with_reducible assumption) ?_) <;> (first | omega | (simp; done) | (simp; omega) | (simp at *; omega)))

theorem bal_eql_run (a b c d : Int) (W : World) : (binOp .eql 30 (.agg #[.int .i64 a, .int .i64 b]) (.agg #[.int .i64 c, .int .i64 d])).run Tryd.prog W = .ok (.bool (a == c && b == d)) W := by
  by_cases h1 : a = c
  · go_simp
    by_cases h2 : b = d <;> simp [h2]
  · go_simp
theorem bal_neq_run (a b c d : Int) (W : World) : (binOp .neq 30 (.agg #[.int .i64 a, .int .i64 b]) (.agg #[.int .i64 c, .int .i64 d])).run Tryd.prog W = .ok (.bool (!(a == c && b == d))) W := by
  by_cases h1 : a = c
  · go_simp
    by_cases h2 : b = d <;> simp [h2]
  · go_simp
end Go.Proofs.YtmgiholmhhjpaaaDoor
