/- The walks of package ballot: Right, Less, First, Next; and of the two laws BallotOrder and BallotRow. -/
import Derived.Test.YtdmbpndplflebaaBase
namespace Go.Proofs.Ytdmbpndplflebaa
open Go.RowKit
set_option linter.unusedVariables false
set_option linter.unusedSimpArgs false
attribute [local go_sem ↓] Go.wp_at_zero Go.wp_at_succ
attribute [local go_sem] World.cell?_alloc_some frozen_alloc_some

def bal (a b : Int) : Value := .agg #[.int .i64 a, .int .i64 b]
def lessB (a b c d : Int) : Bool := if a = c then decide (b < d) else decide (a < c)
def rightB (a b : Int) : Bool := decide (0 ≤ a) && decide (a ≤ 1099511627776) && decide (0 ≤ b) && decide (b < 7)
theorem rightB_yes {a b : Int} (h1 : 0 ≤ a) (h2 : a ≤ 1099511627776) (h3 : 0 ≤ b) (h4 : b < 7) : rightB a b = true := by simp [rightB, *]
theorem rightB_no {a b : Int} (h : ¬ (0 ≤ a ∧ a ≤ 1099511627776 ∧ 0 ≤ b ∧ b < 7)) : rightB a b = false := by
  rw [← Bool.not_eq_true]; intro h1; simp only [rightB, Bool.and_eq_true, decide_eq_true_eq] at h1; exact h ⟨h1.1.1.1, h1.1.1.2, h1.1.2, h1.2⟩
theorem rightB_iff {a b : Int} : rightB a b = true ↔ (0 ≤ a ∧ a ≤ 1099511627776 ∧ 0 ≤ b ∧ b < 7) := by
  simp only [rightB, Bool.and_eq_true, decide_eq_true_eq, and_assoc]
theorem lessB_iff {a b c d : Int} : lessB a b c d = true ↔ (a < c ∨ a = c ∧ b < d) := by
  unfold lessB
  by_cases h : a = c
  · simp [h]
  · simp [h]

set_option maxHeartbeats 400000 in
theorem less_any (a b c d : Int) (w : World) :
    Calls Try.prog 14 #[.agg #[.int .i64 a, .int .i64 b], .agg #[.int .i64 c, .int .i64 d]] w (Gives w (.bool (lessB a b c d))) := by
  go_enter Try.func14, Try.ntmps14
  go_wp2
  all_goals go_ret
  all_goals refine ⟨?_, ((Below.refl _ _).alloc (Nat.le_refl _) _).alloc (by simp) _⟩
  all_goals simp_all [lessB]

set_option maxHeartbeats 400000 in
theorem right_any (a b : Int) (w : World) :
    Calls Try.prog 16 #[.agg #[.int .i64 a, .int .i64 b]] w (Gives w (.bool (rightB a b))) := by
  go_enter Try.func16, Try.ntmps16
  go_wp2
  all_goals go_ret
  all_goals refine ⟨?_, ((Below.refl _ _).alloc (Nat.le_refl _) _)⟩
  all_goals
    by_cases hr : 0 ≤ a ∧ a ≤ 1099511627776 ∧ 0 ≤ b ∧ b < 7
    · have hr' := rightB_yes hr.1 hr.2.1 hr.2.2.1 hr.2.2.2
      simp [hr']; try omega
    · have hr' := rightB_no hr
      simp [hr']; try omega

def nextOk (a by_ : Int) : Bool := rightB (wrap64 (a + 1)) by_
def nextR (a by_ : Int) : Int := if nextOk a by_ = true then wrap64 (a + 1) else 0
def nextBy (a by_ : Int) : Int := if nextOk a by_ = true then by_ else 0
def nextV (a by_ : Int) : Value := .tuple #[.agg #[.int .i64 (nextR a by_), .int .i64 (nextBy a by_)], .bool (nextOk a by_)]
set_option maxHeartbeats 400000 in
theorem next_any (a b by_ : Int) (w : World) :
    Calls Try.prog 15 #[.agg #[.int .i64 a, .int .i64 b], .int .i64 by_] w (Gives w (.tuple #[.agg #[.int .i64 (nextR a by_), .int .i64 (nextBy a by_)], .bool (nextOk a by_)])) := by
  show Calls _ _ _ _ (Gives w (nextV a by_))
  go_enter Try.func15, Try.ntmps15
  go_wp2_with (go_at_call 16; refine (right_any _ _ _).mono ?_; rintro e w1 ⟨rfl, hbw1⟩; obtain ⟨hcw1, hfw1⟩ := keeps hbw1; have hzw1 := hbw1.size; (try simp at hzw1); have cw1_0_0 := hcw1 (w.heap.size) 0 (by first | (simp; done) | omega | (simp; omega)); have fw1_0_0 := hfw1 (w.heap.size) 0 (by first | (simp; done) | omega | (simp; omega)); have cw1_0_1 := hcw1 (w.heap.size) 1 (by first | (simp; done) | omega | (simp; omega)); have fw1_0_1 := hfw1 (w.heap.size) 1 (by first | (simp; done) | omega | (simp; omega)); have cw1_1_0 := hcw1 (w.heap.size+1) 0 (by first | (simp; done) | omega | (simp; omega)); have fw1_1_0 := hfw1 (w.heap.size+1) 0 (by first | (simp; done) | omega | (simp; omega)); have cw1_1_1 := hcw1 (w.heap.size+1) 1 (by first | (simp; done) | omega | (simp; omega)); have fw1_1_1 := hfw1 (w.heap.size+1) 1 (by first | (simp; done) | omega | (simp; omega)); have cw1_2_0 := hcw1 (w.heap.size+1+1) 0 (by first | (simp; done) | omega | (simp; omega)); have fw1_2_0 := hfw1 (w.heap.size+1+1) 0 (by first | (simp; done) | omega | (simp; omega)); have cw1_2_1 := hcw1 (w.heap.size+1+1) 1 (by first | (simp; done) | omega | (simp; omega)); have fw1_2_1 := hfw1 (w.heap.size+1+1) 1 (by first | (simp; done) | omega | (simp; omega)); clear hcw1 hfw1; (try simp [go_sem, *] at cw1_0_0); (try simp [go_sem, *] at fw1_0_0); (try simp [go_sem, *] at cw1_0_1); (try simp [go_sem, *] at fw1_0_1); (try simp [go_sem, *] at cw1_1_0); (try simp [go_sem, *] at fw1_1_0); (try simp [go_sem, *] at cw1_1_1); (try simp [go_sem, *] at fw1_1_1); (try simp [go_sem, *] at cw1_2_0); (try simp [go_sem, *] at fw1_2_0); (try simp [go_sem, *] at cw1_2_1); (try simp [go_sem, *] at fw1_2_1))
  · refine bodyPost_ret (v := .tuple #[.agg #[.int .i64 0, .int .i64 0], .bool false]) (by simp [results, Try.results15, go_sem, *]) rfl ?_
    refine ⟨by simp_all [nextV, nextR, nextBy, nextOk], ?_⟩
    ((repeat' first | with_reducible exact Below.refl _ _ | with_reducible assumption | with_reducible refine Below.alloc ?_ ?_ _ | with_reducible refine Below.setCell ?_ ?_ _ | with_reducible apply Below.drew | with_reducible apply below_drewN | with_reducible refine below_call ?_ (by with_reducible assumption) ?_) <;> (first | omega | (simp; done) | (simp; omega) | (simp at *; omega)))
  · refine bodyPost_ret (v := .tuple #[.agg #[.int .i64 (wrap64 (a+1)), .int .i64 by_], .bool true]) (by simp [results, Try.results15, go_sem, *]) rfl ?_
    refine ⟨by simp_all [nextV, nextR, nextBy, nextOk], ?_⟩
    ((repeat' first | with_reducible exact Below.refl _ _ | with_reducible assumption | with_reducible refine Below.alloc ?_ ?_ _ | with_reducible refine Below.setCell ?_ ?_ _ | with_reducible apply Below.drew | with_reducible apply below_drewN | with_reducible refine below_call ?_ (by with_reducible assumption) ?_) <;> (first | omega | (simp; done) | (simp; omega) | (simp at *; omega)))
theorem next_law {a b by_ : Int} (ha1 : -9223372036854775808 ≤ a) (ha2 : a ≤ 9223372036854775807) (h : nextOk a by_ = true) : lessB a b (nextR a by_) (nextBy a by_) = true ∧ rightB (nextR a by_) (nextBy a by_) = true ∧ nextBy a by_ = by_ ∧ nextR a by_ = a + 1 := by
  have h1 : nextR a by_ = wrap64 (a + 1) := by simp [nextR, h]
  have h2 : nextBy a by_ = by_ := by simp [nextBy, h]
  rw [h1, h2]
  have h3 := h
  simp only [nextOk, rightB_iff] at h
  have hw : wrap64 (a + 1) = a + 1 := by
    unfold wrap64 at h ⊢
    omega
  refine ⟨?_, ?_, rfl, hw⟩
  · rw [lessB_iff]; omega
  · exact h3

set_option maxHeartbeats 400000 in
theorem first_any (by_ : Int) (w : World) :
    Calls Try.prog 18 #[.int .i64 by_] w (Gives w (.agg #[.int .i64 0, .int .i64 by_])) := by
  go_enter Try.func18, Try.ntmps18
  go_wp2
  refine bodyPost_ret (v := .agg #[.int .i64 0, .int .i64 by_]) (by simp [results, Try.results18, go_sem]) rfl ?_
  refine ⟨rfl, ?_⟩
  ((repeat' first | with_reducible exact Below.refl _ _ | with_reducible assumption | with_reducible refine Below.alloc ?_ ?_ _ | with_reducible refine Below.setCell ?_ ?_ _ | with_reducible apply Below.drew | with_reducible apply below_drewN | with_reducible refine below_call ?_ (by with_reducible assumption) ?_) <;> (first | omega | (simp; done) | (simp; omega) | (simp at *; omega)))
end Go.Proofs.Ytdmbpndplflebaa
