/- A right command's item is taken as the command. -/
import Derived.Test.YtekbebekihcnpaaDoorCmdTake
namespace Go.Proofs.YtekbebekihcnpaaDoor
open Go.RowKit
set_option linter.unusedVariables false
set_option linter.unusedSimpArgs false
set_option maxRecDepth 20000
attribute [local go_sem ↓] Go.wp_at_zero Go.wp_at_succ
attribute [local go_sem] World.cell?_alloc_some frozen_alloc_some

theorem clamp_small {n : Nat} (h : n ≤ 4611686018427387904) : clamp n = n := Nat.min_eq_left h
/-- The parts of a right command. -/
theorem ccheck_right {k c q : Int} {y x : ByteArray} {r : Int} (h : ccheck k c q y x r = 0) : 0 ≤ k ∧ k ≤ 6 ∧ 0 ≤ c ∧ c ≤ 1048576 ∧ 0 ≤ q ∧ q ≤ 1099511627776 ∧ 0 ≤ r ∧ r ≤ 1099511627776 := by
  unfold ccheck at h
  by_cases h1 : cform k c q y x r = true
  · rw [if_pos h1] at h; cases h
  · rw [if_neg h1] at h
    by_cases h2 : crange c q r = true
    · rw [if_pos h2] at h; cases h
    · unfold cform at h1
      unfold crange at h2
      simp only [Bool.or_eq_true, Bool.not_eq_true', decide_eq_false_iff_not, not_or, Decidable.not_not] at h1 h2
      omega
theorem takeback_any (k c q : Nat) (y x : ByteArray) (r : Nat) (A : Option Addr) (cc base : Nat) (w : World) (hT : Tabs w) (hrow : RowI w base (.slice A 6 cc) 6 [.mk 0 k ByteArray.empty [], .mk 0 c ByteArray.empty [], .mk 0 q ByteArray.empty [], .mk 1 0 y [], .mk 1 0 x [], .mk 0 r ByteArray.empty []])
    (hy : y.size ≤ maxLen) (hx : x.size ≤ maxLen) (hck : ccheck (k : Int) (c : Int) (q : Int) y x (r : Int) = 0) :
    Calls Tryd.prog 18 #[.agg #[.int .i64 2, .int .u64 0, .string ByteArray.empty, .slice A 6 cc]] w (Gives w (.tuple #[.agg #[.int .i64 (k : Int), .int .i64 (c : Int), .int .i64 (q : Int), .string y, .string x, .int .i64 (r : Int)], .bool true])) := by
  have hit := hrow.items.2
  obtain ⟨hr0, hr1, hr2, hr3, hr4, hr5, hr6, hr7⟩ := ccheck_right hck
  obtain ⟨ad, rfl⟩ : ∃ ad, A = some ad := by
    obtain ⟨ad, u, e, _⟩ := hit.elem (i := 0) rfl
    exact ⟨ad, e⟩
  obtain ⟨b0, o0, a0, n0, e0, t0⟩ := hit.elem6 (i := 0) rfl
  obtain ⟨b1, o1, a1, n1, e1, t1⟩ := hit.elem6 (i := 1) rfl
  obtain ⟨b2, o2, a2, n2, e2, t2⟩ := hit.elem6 (i := 2) rfl
  obtain ⟨b3, o3, a3, n3, e3, t3⟩ := hit.elem6 (i := 3) rfl
  obtain ⟨b4, o4, a4, n4, e4, t4⟩ := hit.elem6 (i := 4) rfl
  obtain ⟨b5, o5, a5, n5, e5, t5⟩ := hit.elem6 (i := 5) rfl
  have hv : Holds w (ctree k c q y x r) (.agg #[.int .i64 2, .int .u64 ((0 : Nat) : Int), .string ByteArray.empty, .slice (some ad) 6 cc]) := hit.node (by decide) (by decide) (by decide)
  have h := take_six (ctree k c q y x r) 2 0 ByteArray.empty ad cc (fun i => match i with | 0 => b0 | 1 => b1 | 2 => b2 | 3 => b3 | 4 => b4 | _ => b5) (fun i => match i with | 0 => o0 | 1 => o1 | 2 => o2 | 3 => o3 | 4 => o4 | _ => o5) (fun i => match i with | 0 => k | 1 => c | 2 => q | 3 => 0 | 4 => 0 | _ => r) y x w hT hv hy hx
    (fun i hi => by match i, hi with | 0, _ => exact n0 | 1, _ => exact n1 | 2, _ => exact n2 | 3, _ => exact n3 | 4, _ => exact n4 | 5, _ => exact n5 | i + 6, hi => omega)
    (fun i hi => by match i, hi with | 0, _ => exact a0 | 1, _ => exact a1 | 2, _ => exact a2 | 3, _ => exact a3 | 4, _ => exact a4 | 5, _ => exact a5 | i + 6, hi => omega)
    (fun i hi => by match i, hi with | 0, _ => exact e0 | 1, _ => exact e1 | 2, _ => exact e2 | 3, _ => exact e3 | 4, _ => exact e4 | 5, _ => exact e5 | i + 6, hi => omega) t3 t4
  simp only [clamp_small (n := k) (by omega), clamp_small (n := c) (by omega), clamp_small (n := q) (by omega), clamp_small (n := r) (by omega)] at h
  rw [if_pos ⟨hck, tsame_self _⟩] at h
  exact h
end Go.Proofs.YtekbebekihcnpaaDoor
