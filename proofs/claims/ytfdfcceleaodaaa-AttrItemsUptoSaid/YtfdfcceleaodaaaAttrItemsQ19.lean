/- The document's ids: Right, Less, Has, Equal, Check. -/
import Derived.Test.YtfdfcceleaodaaaAttrItemsQ16
import Derived.WalkKit
import Derived.WalkSpells
import Derived.WalkLawsBesides
import Derived.Deep.RegionHeld3
import Derived.Deep.DrawnRows
import Derived.Deep.DeepCutAuto
import Derived.Deep.DeepFit
import Derived.Lib.Hide
import Derived.BigQuiet
import Derived.Deep.QuietTactic
namespace Go.Proofs.Ytfdfcceleaodaaa
open Go.RowKit
set_option linter.unusedVariables false
set_option linter.unusedSimpArgs false
set_option maxRecDepth 20000
attribute [local go_sem ↓] Go.wp_at_zero Go.wp_at_succ
attribute [local go_sem] World.cell?_alloc_some frozen_alloc_some

set_option maxHeartbeats 400000 in
theorem right5_any (a b : Int) (w : World) :
    Calls Try.prog 39 #[.agg #[.int .i64 a, .int .i64 b]] w (Gives w (.bool (idRight (a, b)))) := by
  go_enter Try.func39, Try.ntmps39
  go_wp2
  all_goals go_ret
  all_goals refine ⟨?_, ((Below.refl _ _).alloc (Nat.le_refl _) _)⟩
  all_goals
    by_cases hr : 0 ≤ a ∧ a < 7 ∧ 0 ≤ b ∧ b ≤ 1099511627776
    · have hr' := idRight_iff.2 (show 0 ≤ ((a, b) : IdP).1 ∧ ((a, b) : IdP).1 < 7 ∧ 0 ≤ ((a, b) : IdP).2 ∧ ((a, b) : IdP).2 ≤ 1099511627776 from hr)
      simp [hr']; try omega
    · have hr' := idRight_no (show ¬ (0 ≤ ((a, b) : IdP).1 ∧ ((a, b) : IdP).1 < 7 ∧ 0 ≤ ((a, b) : IdP).2 ∧ ((a, b) : IdP).2 ≤ 1099511627776) from hr)
      simp [hr']; try omega
set_option maxHeartbeats 400000 in
theorem less5_any (a b c d : Int) (w : World) :
    Calls Try.prog 40 #[.agg #[.int .i64 a, .int .i64 b], .agg #[.int .i64 c, .int .i64 d]] w (Gives w (.bool (decide (idLt (a, b) (c, d))))) := by
  by_cases h1 : b < d
  · rw [decide_eq_true (show idLt (a, b) (c, d) from .inl h1)]
    go_enter Try.func40, Try.ntmps40
    go_wp2_with fail
    go_ret
    exact ⟨by simp, by ((repeat' first | with_reducible exact Below.refl _ _ | with_reducible assumption | with_reducible refine Below.alloc ?_ ?_ _ | with_reducible refine Below.setCell ?_ ?_ _ | with_reducible apply Below.drew | with_reducible apply below_drewN | with_reducible refine below_call ?_ (by with_reducible assumption) ?_) <;> (first | omega | (simp; done) | (simp; omega) | (simp at *; omega)))⟩
  by_cases h2 : b = d
  · subst h2
    by_cases h3 : a < c
    · rw [decide_eq_true (show idLt (a, b) (c, b) from .inr ⟨rfl, h3⟩)]
      go_enter Try.func40, Try.ntmps40
      go_wp2_with fail
      go_ret
      exact ⟨by simp [h3], by ((repeat' first | with_reducible exact Below.refl _ _ | with_reducible assumption | with_reducible refine Below.alloc ?_ ?_ _ | with_reducible refine Below.setCell ?_ ?_ _ | with_reducible apply Below.drew | with_reducible apply below_drewN | with_reducible refine below_call ?_ (by with_reducible assumption) ?_) <;> (first | omega | (simp; done) | (simp; omega) | (simp at *; omega)))⟩
    · rw [decide_eq_false (show ¬ idLt (a, b) (c, b) from by unfold idLt; simp only; omega)]
      go_enter Try.func40, Try.ntmps40
      go_wp2_with fail
      go_ret
      exact ⟨by simp [h3]; try omega, by ((repeat' first | with_reducible exact Below.refl _ _ | with_reducible assumption | with_reducible refine Below.alloc ?_ ?_ _ | with_reducible refine Below.setCell ?_ ?_ _ | with_reducible apply Below.drew | with_reducible apply below_drewN | with_reducible refine below_call ?_ (by with_reducible assumption) ?_) <;> (first | omega | (simp; done) | (simp; omega) | (simp at *; omega)))⟩
  · rw [decide_eq_false (show ¬ idLt (a, b) (c, d) from by unfold idLt; simp only; omega)]
    have h2' : (b == d) = false := by simp [h2]
    go_enter Try.func40, Try.ntmps40
    go_wp2_with fail
    go_ret
    exact ⟨by simp, by ((repeat' first | with_reducible exact Below.refl _ _ | with_reducible assumption | with_reducible refine Below.alloc ?_ ?_ _ | with_reducible refine Below.setCell ?_ ?_ _ | with_reducible apply Below.drew | with_reducible apply below_drewN | with_reducible refine below_call ?_ (by with_reducible assumption) ?_) <;> (first | omega | (simp; done) | (simp; omega) | (simp at *; omega)))⟩

section
attribute [local go_sem ↓ high] id_neq_run id_eql_run
set_option maxHeartbeats 1000000 in
theorem equal5_any (A A2 : Option Addr) (m c m2 c2 : Nat) (l l2 : List IdP) (w : World) (h1 : IdsAt w A m l) (h2 : IdsAt w A2 m2 l2) :
    Calls Try.prog 32 #[.slice A m c, .slice A2 m2 c2] w (Gives w (.bool (lseq l l2))) := by
  generalize hR : lseq l l2 = R
  have HR := Lib.hid hR
  have H1 := Lib.hid h1
  have H2 := Lib.hid h2
  have Hm := Lib.hid h1.1
  have Hm2 := Lib.hid h2.1
  have hc := h1.2.1
  clear hR h1 h2
  by_cases e4 : m = m2
  case neg =>
    have hfin : R = false := by
      rw [← HR.out]
      simp only [lseq, decide_eq_false_iff_not]
      intro h; exact e4 (by rw [Hm.out, Hm2.out, h])
    subst hfin
    have e4' : ((m : Int) != (m2 : Int)) = true := by simp; omega
    go_enter Try.func32, Try.ntmps32
    go_wp2_with fail
    go_ret
    exact ⟨rfl, by ((repeat' first | with_reducible exact Below.refl _ _ | with_reducible assumption | with_reducible refine Below.alloc ?_ ?_ _ | with_reducible refine Below.setCell ?_ ?_ _ | with_reducible apply Below.drew | with_reducible apply below_drewN | with_reducible refine below_call ?_ (by with_reducible assumption) ?_) <;> (first | omega | (simp; done) | (simp; omega) | (simp at *; omega)))⟩
  subst e4
  have hmm : m ≤ 9223372036854775807 := by unfold maxLen at hc; omega
  go_enter Try.func32, Try.ntmps32
  go_wp2_with fail
  go_loopw [5] (fun s5 wr => ∃ j : Nat, j ≤ m ∧ s5 = .int .i64 j ∧ l.take j = l2.take j ∧ Below w.heap.size w wr) (fun s5 _ => m - (intOf s5).toNat)
  case atStart => exact ⟨0, by omega, rfl, rfl, by ((repeat' first | with_reducible exact Below.refl _ _ | with_reducible assumption | with_reducible refine Below.alloc ?_ ?_ _ | with_reducible refine Below.setCell ?_ ?_ _ | with_reducible apply Below.drew | with_reducible apply below_drewN | with_reducible refine below_call ?_ (by with_reducible assumption) ?_) <;> (first | omega | (simp; done) | (simp; omega) | (simp at *; omega)))⟩
  case round =>
    obtain ⟨j, hj, rfl, htk, hbr⟩ := hrel
    have hzr := hbr.size
    have Htk := Lib.hid htk
    clear htk
    by_cases hlt : j < m
    · obtain ⟨r, n, b, o, e1, _, _, rfl, p0, p1⟩ := (H1.out.keep hbr).at_ hlt
      obtain ⟨r2, n2, b2, o2, e2, _, _, rfl, q0, q1⟩ := (H2.out.keep hbr).at_ hlt
      have E1 := Lib.hid e1
      have E2 := Lib.hid e2
      clear e1 e2
      have j0 : (0 : Int) ≤ (j : Int) := by omega
      have j1 : (j : Int) < (m : Int) := by omega
      by_cases hok : r = r2 ∧ n = n2
      · have hok' : (r == r2 && n == n2) = true := by simp [hok]
        have Hnx := Lib.hid (take_step Htk.out E1.out (by rw [hok.1, hok.2]; exact E2.out))
        clear hok
        go_upto_region 6 with fail
        go_region
        all_goals
          go_wp2_with fail
          go_roundw
          case rel => exact ⟨j + 1, by omega, by go_num, Hnx.out, by ((repeat' first | with_reducible exact Below.refl _ _ | with_reducible assumption | with_reducible refine Below.alloc ?_ ?_ _ | with_reducible refine Below.setCell ?_ ?_ _ | with_reducible apply Below.drew | with_reducible apply below_drewN | with_reducible refine below_call ?_ (by with_reducible assumption) ?_) <;> (first | omega | (simp; done) | (simp; omega) | (simp at *; omega)))⟩
          case measure => simp [intOf]; omega
      · have hok' : (r == r2 && n == n2) = false := by simpa using hok
        have hfin : R = false := by
          rw [← HR.out]
          simp only [lseq, decide_eq_false_iff_not]
          intro h; subst h
          have h1 := E1.out
          rw [E2.out] at h1
          injection h1 with h1
          injection h1 with h1 h2
          exact hok ⟨h1.symm, h2.symm⟩
        subst hfin
        clear hok
        go_upto_region 6 with fail
        go_region
        all_goals
          go_wp2_with fail
          go_ret
          exact ⟨rfl, by ((repeat' first | with_reducible exact Below.refl _ _ | with_reducible assumption | with_reducible refine Below.alloc ?_ ?_ _ | with_reducible refine Below.setCell ?_ ?_ _ | with_reducible apply Below.drew | with_reducible apply below_drewN | with_reducible refine below_call ?_ (by with_reducible assumption) ?_) <;> (first | omega | (simp; done) | (simp; omega) | (simp at *; omega)))⟩
    · have g1 : l.take j = l := List.take_of_length_le (by have := Hm.out; omega)
      have g2 : l2.take j = l2 := List.take_of_length_le (by have := Hm2.out; omega)
      have hfin : R = true := by
        rw [← HR.out]
        simp only [lseq, decide_eq_true_eq]
        have := Htk.out; rwa [g1, g2] at this
      subst hfin
      clear g1 g2 Htk
      go_wp2_with fail
      go_ret
      exact ⟨rfl, by ((repeat' first | with_reducible exact Below.refl _ _ | with_reducible assumption | with_reducible refine Below.alloc ?_ ?_ _ | with_reducible refine Below.setCell ?_ ?_ _ | with_reducible apply Below.drew | with_reducible apply below_drewN | with_reducible refine below_call ?_ (by with_reducible assumption) ?_) <;> (first | omega | (simp; done) | (simp; omega) | (simp at *; omega)))⟩

end
end Go.Proofs.Ytfdfcceleaodaaa
