/- The walk of Pick (stonecropref01). -/
import Derived.Test.YtmgiholmhhjpaaaDoorRescueFastQ0
namespace Go.Proofs.YtmgiholmhhjpaaaDoor
open Go.RowKit
set_option linter.unusedVariables false
set_option linter.unusedSimpArgs false
set_option maxRecDepth 20000
attribute [local go_sem ↓] Go.wp_at_zero Go.wp_at_succ
attribute [local go_sem] World.cell?_alloc_some frozen_alloc_some
attribute [local go_sem] lt2 lt3 lt4 lt5
attribute [local simp] lt2 lt3 lt4 lt5

def pickV (k n : Int) : Int := if k.tmod n < 0 then k.tmod n + n else k.tmod n
theorem pickV_range {k n : Int} (h : 1 ≤ n) : 0 ≤ pickV k n ∧ pickV k n < n := by
  have h1 := Int.tmod_lt_of_pos k (show 0 < n by omega)
  have h2 : -n < k.tmod n := by
    rcases Int.le_total 0 k with hk | hk
    · have := Int.tmod_nonneg n hk; omega
    · have h3 := Int.neg_tmod (-k) n
      have h4 := Int.tmod_lt_of_pos (-k) (show 0 < n by omega)
      have h5 := Int.neg_tmod k n
      omega
  unfold pickV
  split <;> omega
set_option maxHeartbeats 1000000 in
theorem pick_any (k n : Int) (w : World) (h1 : 1 ≤ n) (h2 : n ≤ 1000000000000) (hk : (Lit.int .i64 k).wf = true) :
    Calls Tryd.prog 15 #[.int .i64 k, .int .i64 n] w (Gives w (.int .i64 (pickV k n))) := by
  have k1 := (wf_i64 hk).1
  have k2 := (wf_i64 hk).2
  have h3 := pickV_range (k := k) h1
  have hm := Int.tmod_lt_of_pos k (show 0 < n by omega)
  have hm2 : -n ≤ k.tmod n := by unfold pickV at h3; split at h3 <;> omega
  have hw : wrap64 (k.tmod n) = k.tmod n := by unfold wrap64; omega
  have hw2 : IntKind.i64.wrap (k.tmod n) = k.tmod n := IntWalk.i64_in _ (by omega)
  have hz : (n == 0) = false := by simp; omega
  go_enter Tryd.func15, Tryd.ntmps15
  by_cases hneg : k.tmod n < 0
  · go_wp2
    go_ret
    refine ⟨ret_int ?_, Below.refl _ _⟩
    unfold pickV
    rw [if_pos hneg]
  · go_wp2
    go_ret
    refine ⟨ret_int ?_, Below.refl _ _⟩
    unfold pickV
    rw [if_neg (by omega)]

end Go.Proofs.YtmgiholmhhjpaaaDoor
