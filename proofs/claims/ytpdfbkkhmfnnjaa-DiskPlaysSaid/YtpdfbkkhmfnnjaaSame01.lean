/- The document's Same of bytes (package stonecropref01). -/
import Derived.Test.YtpdfbkkhmfnnjaaAppC
namespace Go.Proofs.Ytpdfbkkhmfnnjaa
open Go.RowKit
set_option linter.unusedVariables false
set_option linter.unusedSimpArgs false
set_option maxRecDepth 20000
attribute [local go_sem ↓] Go.wp_at_zero Go.wp_at_succ
attribute [local go_sem] World.cell?_alloc_some frozen_alloc_some
attribute [local go_sem] lt2 lt3 lt4 lt5
attribute [local simp] lt2 lt3 lt4 lt5

set_option maxHeartbeats 2000000 in
theorem same_any (A B : Option Addr) (n m ca cb : Nat) (a b : List Nat) (w : World) (ha : Bytes w A n a) (hb : Bytes w B m b) :
    Calls Try.prog 30 #[.slice A n ca, .slice B m cb] w (Gives w (.bool (decide (a = b)))) := by
  have la := ha.1
  have lb := hb.1
  have hm := ha.2.1
  unfold maxLen at hm
  by_cases hnm : n = m
  case neg =>
    have hne : ((n : Int) != (m : Int)) = true := by rw [bne_iff_ne]; omega
    have hf : decide (a = b) = false := by simp; intro h; subst h; omega
    rw [hf]
    clear la lb hf
    go_enter Try.func30, Try.ntmps30
    go_wp2_with fail
    go_ret
    exact ⟨rfl, Below.refl _ _⟩
  subst hnm
  have hne : ((n : Int) != (n : Int)) = false := by simp
  have La := Lib.hid la
  have Lb := Lib.hid lb
  clear la lb
  obtain ⟨R, hR⟩ : ∃ R, R = decide (a = b) := ⟨_, rfl⟩
  rw [← hR]
  have HR := Lib.hid hR
  clear hR
  go_enter Try.func30, Try.ntmps30
  go_wp2_with fail
  go_loopw [5] (fun s5 wr => ∃ k : Nat, k ≤ n ∧ s5 = .int .i64 k ∧ (∀ i, i < k → a[i]? = b[i]?) ∧ Below w.heap.size w wr) (fun s5 _ => n - (intOf s5).toNat)
  case atStart => exact ⟨0, by omega, rfl, fun i hi => absurd hi (by omega), Below.refl _ _⟩
  case round =>
    obtain ⟨k, hk, rfl, hsm, hbr⟩ := hrel
    have Hsm := Lib.hid hsm
    clear hsm
    by_cases hlt : k < n
    · obtain ⟨ad, x, rfl, hx, hx2, hxc⟩ := (ha.keep hbr).at_ hlt
      obtain ⟨bd, y, rfl, hy, hy2, hyc⟩ := (hb.keep hbr).at_ hlt
      have k0 : (0 : Int) ≤ (k : Int) := by omega
      have k1 : (k : Int) < (n : Int) := by omega
      have Hx := Lib.hid hx
      have Hy := Lib.hid hy
      clear hx hy
      go_wp2_with fail
      by_cases hxy : x = y
      · have hb1 : ((x : Int) != (y : Int)) = false := by simp [hxy]
        have Hxy := Lib.hid hxy
        clear hxy
        go_quiet (fail)
        go_wp2_with fail
        go_roundw
        case rel => exact ⟨k + 1, by omega, by go_num, fun i hi => by
          by_cases hik : i = k
          · subst hik; rw [Hx.out, Hy.out, Hxy.out]
          · exact Hsm.out i (by omega), by ((repeat' first | with_reducible exact Below.refl _ _ | with_reducible assumption | with_reducible refine Below.alloc ?_ ?_ _ | with_reducible refine Below.setCell ?_ ?_ _ | with_reducible apply Below.drew | with_reducible apply below_drewN | with_reducible refine below_call ?_ (by with_reducible assumption) ?_) <;> (first | omega | (simp; done) | (simp; omega) | (simp at *; omega)))⟩
        case measure => simp [intOf]; omega
      · have hb1 : ((x : Int) != (y : Int)) = true := by rw [bne_iff_ne]; omega
        have Hxy := Lib.hid hxy
        clear hxy
        go_quiet (fail)
        go_wp2_with fail
        go_ret
        refine ⟨ret_bool ?_, by ((repeat' first | with_reducible exact Below.refl _ _ | with_reducible assumption | with_reducible refine Below.alloc ?_ ?_ _ | with_reducible refine Below.setCell ?_ ?_ _ | with_reducible apply Below.drew | with_reducible apply below_drewN | with_reducible refine below_call ?_ (by with_reducible assumption) ?_) <;> (first | omega | (simp; done) | (simp; omega) | (simp at *; omega)))⟩
        rw [HR.out]
        symm
        simp
        intro h
        subst h
        have := Hx.out
        rw [Hy.out] at this
        exact Hxy.out (Option.some.inj this).symm
    · go_wp2_with fail
      go_ret
      refine ⟨ret_bool ?_, hbr⟩
      rw [HR.out]
      symm
      simp
      apply List.ext_getElem?
      intro i
      rcases Nat.lt_or_ge i n with hi | hi
      · exact Hsm.out i (by omega)
      · rw [List.getElem?_eq_none (by have := La.out; omega), List.getElem?_eq_none (by have := Lb.out; omega)]
end Go.Proofs.Ytpdfbkkhmfnnjaa
