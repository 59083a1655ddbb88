/- The document's Great of records. -/
import Derived.Test.YtpdlhcfepafjeaaBase
namespace Go.Proofs.Ytpdlhcfepafjeaa
open Go.RowKit
set_option linter.unusedVariables false
set_option linter.unusedSimpArgs false
set_option maxRecDepth 20000
attribute [local go_sem ↓] Go.wp_at_zero Go.wp_at_succ
attribute [local go_sem] World.cell?_alloc_some frozen_alloc_some

def greatL (ls : List (List Nat)) : Bool := !decide (ls.length ≤ 10 ∧ ∀ x ∈ ls, x.length ≤ 100)
set_option maxHeartbeats 1000000 in
theorem great13_any (A : Option Addr) (n c : Nat) (ls : List (List Nat)) (w : World) (h : Texts w A n ls) :
    Calls Try.prog 47 #[.slice A n c, .int .i64 10, .int .i64 100] w (Gives w (.bool (greatL ls))) := by
  generalize hR : greatL ls = R
  have HR := Lib.hid hR
  have H := Lib.hid h
  have Hn := Lib.hid h.1
  have hc := h.2.1
  clear hR h
  have hmm : n ≤ 9223372036854775807 := by unfold maxLen at hc; omega
  go_enter Try.func47, Try.ntmps47
  go_wp2_with fail
  go_loopw [7] (fun s7 wr => ∃ j : Nat, j ≤ n ∧ j ≤ 10 ∧ s7 = .int .i64 j ∧ (∀ x ∈ ls.take j, x.length ≤ 100) ∧ Below w.heap.size w wr) (fun s7 _ => n - (intOf s7).toNat)
  case atStart => exact ⟨0, by omega, by omega, rfl, by simp, by ((repeat' first | with_reducible exact Below.refl _ _ | with_reducible assumption | with_reducible refine Below.alloc ?_ ?_ _ | with_reducible refine Below.setCell ?_ ?_ _ | with_reducible apply Below.drew | with_reducible apply below_drewN | with_reducible refine below_call ?_ (by with_reducible assumption) ?_) <;> (first | omega | (simp; done) | (simp; omega) | (simp at *; omega)))⟩
  case round =>
    obtain ⟨j, hj, hj2, rfl, htk, hbr⟩ := hrel
    have hzr := hbr.size
    have Htk := Lib.hid htk
    clear htk
    by_cases hlt : j < n
    · by_cases hl2 : j < 10
      · have k1 : ls[j]? = some (ls[j]'(by have := Hn.out; omega)) := List.getElem?_eq_getElem _
        obtain ⟨b, B1, n1, c1, rfl, p0, y1⟩ := (H.out.keep hbr).2.2 j _ k1
        have K1 := Lib.hid k1
        clear k1
        generalize ls[j]'_ = x1 at *
        have Hy := Lib.hid y1.1
        have hy2 := y1.2.1
        unfold maxLen at hy2
        clear y1
        have j0 : (0 : Int) ≤ (j : Int) := by omega
        have j1 : (j : Int) < (n : Int) := by omega
        have j2 : (j : Int) < 10 := by omega
        by_cases hbig : 100 < n1
        · have hbig' : (100 : Int) < (n1 : Int) := by omega
          have hfin : R = true := by
            rw [← HR.out]
            unfold greatL
            simp only [Bool.not_eq_true', decide_eq_false_iff_not]
            intro ⟨_, h2⟩
            have := h2 _ (List.mem_of_getElem? K1.out)
            have := Hy.out
            omega
          subst hfin
          go_wp2_with fail
          go_ret
          exact ⟨rfl, hbr⟩
        · have hbig' : ¬ (100 : Int) < (n1 : Int) := by omega
          have Hnx : Hid (∀ x ∈ ls.take (j + 1), x.length ≤ 100) := Lib.hid fun x hx => by
            rw [List.take_add_one, K1.out] at hx
            rcases List.mem_append.1 hx with hx | hx
            · exact Htk.out x hx
            · simp at hx; subst hx; have := Hy.out; omega
          go_wp2_with fail
          go_roundw
          case rel => exact ⟨j + 1, by omega, by omega, by go_num, Hnx.out, hbr⟩
          case measure => simp [intOf]; omega
      · have j1 : (j : Int) < (n : Int) := by omega
        have j2 : ¬ (j : Int) < 10 := by omega
        have j3 : (10 : Int) < (n : Int) := by omega
        have hfin : R = true := by
          rw [← HR.out]
          unfold greatL
          simp only [Bool.not_eq_true', decide_eq_false_iff_not]
          intro ⟨h1, _⟩
          have := Hn.out
          omega
        subst hfin
        go_wp2_with fail
        go_ret
        exact ⟨by simp, hbr⟩
    · have j1 : ¬ (j : Int) < (n : Int) := by omega
      have j3 : ¬ (10 : Int) < (n : Int) := by omega
      have hfin : R = false := by
        rw [← HR.out]
        unfold greatL
        simp only [Bool.not_eq_false', decide_eq_true_iff]
        have := Hn.out
        refine ⟨by omega, fun x hx => Htk.out x ?_⟩
        rw [List.take_of_length_le (by omega)]
        exact hx
      subst hfin
      go_wp2_with fail
      go_ret
      exact ⟨by simp, hbr⟩
end Go.Proofs.Ytpdlhcfepafjeaa
