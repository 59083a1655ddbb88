/- The walk of stonecropref06.Check. -/
import Derived.Test.YtmgiholmhhjpaaaDoorRecChecksQ25
import Derived.Test.YtmgiholmhhjpaaaDoorRecChecksQ26
namespace Go.Proofs.YtmgiholmhhjpaaaDoor
open Go.RowKit
set_option linter.unusedVariables false
set_option linter.unusedSimpArgs false
set_option maxRecDepth 20000
attribute [local go_sem ↓] Go.wp_at_zero Go.wp_at_succ
attribute [local go_sem] World.cell?_alloc_some frozen_alloc_some

theorem size_nil {x : ByteArray} (h : x.toList = []) : x.size = 0 := by
  obtain ⟨⟨a⟩⟩ := x
  simp only [ByteArray.toList_eq] at h
  have h2 : a = [] := h
  subst h2
  rfl
/-- What is wrong with a command, as the document's code asks it. -/
def dcheck (k c q : Int) (y x : ByteArray) (r : Int) (kb kk : Bool) : Nat :=
  if k < 0 ∨ 6 < k then 4
  else if (k = 0 ∨ k = 6) ∧ (c ≠ 0 ∨ q ≠ 0 ∨ y.toList ≠ []) then 4
  else if ¬ (k = 0 ∨ k = 6) ∧ (c = 0 ∨ q = 0) then 4
  else if k ≠ 2 ∧ k ≠ 4 ∧ x.toList ≠ [] then 4
  else if k ≠ 4 ∧ r ≠ 0 then 4
  else if c < 0 ∨ 1048576 < c ∨ q < 0 ∨ 1099511627776 < q ∨ r < 0 ∨ 1099511627776 < r then 6
  else if 1024 < x.size then 12
  else if k = 0 ∨ k = 6 then 0
  else if k = 5 then (if kb then 0 else 11) else (if kk then 0 else 11)
set_option maxHeartbeats 16000000 in
theorem dcheck0 (c q : Int) (y x : ByteArray) (r : Int) (w : World) (hy : y.size ≤ 1000000000) :
    Calls Tryd.prog 44 #[.agg #[.int .i64 0, .int .i64 c, .int .i64 q, .string y, .string x, .int .i64 r]] w (Gives w (.int .i64 (dcheck 0 c q y x r (dbeg y) (dkey y) : Int))) := by
  obtain ⟨R, hR⟩ : ∃ R, R = dcheck 0 c q y x r (dbeg y) (dkey y) := ⟨_, rfl⟩
  rw [← hR]
  have hbe := fun W => dbeg_any y W hy
  have hke := fun W => dkey_any y W hy
  generalize dbeg y = kb at *
  generalize dkey y = kk at *
  have HR := Lib.hid hR
  clear hR
  by_cases hc : c = 0
  · subst hc
    by_cases hq : q = 0
    · subst hq
      by_cases hyt : y.toList = []
      · have hyte : (y.toList == []) = true := by simp [hyt]
        have hyti : y.toList.isEmpty = true := by simp [hyt]
        have hytz := size_nil hyt
        have hytg : ¬ 1024 < y.size := by omega
        have hyth : ¬ (1024 : Int) < (y.size : Int) := by omega
        by_cases hxt : x.toList = []
        · have hxte : (x.toList == []) = true := by simp [hxt]
          have hxti : x.toList.isEmpty = true := by simp [hxt]
          have hxtz := size_nil hxt
          have hxtg : ¬ 1024 < x.size := by omega
          have hxth : ¬ (1024 : Int) < (x.size : Int) := by omega
          by_cases hr : r = 0
          · subst hr
            go_enter Tryd.func44, Tryd.ntmps44
            go_wp2_with fail
            go_ret
            exact ⟨by rw [HR.out]; first | (simp [dcheck, *]; done) | (simp [dcheck, *]; rw [if_neg (by omega)]; first | done | rfl | simp), by ((repeat' first | with_reducible exact Below.refl _ _ | with_reducible assumption | with_reducible refine Below.alloc ?_ ?_ _ | with_reducible refine Below.setCell ?_ ?_ _ | with_reducible apply Below.drew | with_reducible apply below_drewN | with_reducible refine below_call ?_ (by with_reducible assumption) ?_) <;> (first | omega | (simp; done) | (simp; omega) | (simp at *; omega)))⟩
          · have hre : (r == (0 : Int)) = false := by simp [hr]
            have hrn : (r != (0 : Int)) = true := by simp [hr]
            go_enter Tryd.func44, Tryd.ntmps44
            go_wp2_with fail
            go_ret
            exact ⟨by rw [HR.out]; first | (simp [dcheck, *]; done) | (simp [dcheck, *]; rw [if_neg (by omega)]; first | done | rfl | simp), by ((repeat' first | with_reducible exact Below.refl _ _ | with_reducible assumption | with_reducible refine Below.alloc ?_ ?_ _ | with_reducible refine Below.setCell ?_ ?_ _ | with_reducible apply Below.drew | with_reducible apply below_drewN | with_reducible refine below_call ?_ (by with_reducible assumption) ?_) <;> (first | omega | (simp; done) | (simp; omega) | (simp at *; omega)))⟩
        · have hxte : (x.toList == []) = false := by simp [hxt]
          have hxti : x.toList.isEmpty = false := by simp [hxt]
          go_enter Tryd.func44, Tryd.ntmps44
          go_wp2_with fail
          go_ret
          exact ⟨by rw [HR.out]; first | (simp [dcheck, *]; done) | (simp [dcheck, *]; rw [if_neg (by omega)]; first | done | rfl | simp), by ((repeat' first | with_reducible exact Below.refl _ _ | with_reducible assumption | with_reducible refine Below.alloc ?_ ?_ _ | with_reducible refine Below.setCell ?_ ?_ _ | with_reducible apply Below.drew | with_reducible apply below_drewN | with_reducible refine below_call ?_ (by with_reducible assumption) ?_) <;> (first | omega | (simp; done) | (simp; omega) | (simp at *; omega)))⟩
      · have hyte : (y.toList == []) = false := by simp [hyt]
        have hyti : y.toList.isEmpty = false := by simp [hyt]
        go_enter Tryd.func44, Tryd.ntmps44
        go_wp2_with fail
        go_ret
        exact ⟨by rw [HR.out]; first | (simp [dcheck, *]; done) | (simp [dcheck, *]; rw [if_neg (by omega)]; first | done | rfl | simp), by ((repeat' first | with_reducible exact Below.refl _ _ | with_reducible assumption | with_reducible refine Below.alloc ?_ ?_ _ | with_reducible refine Below.setCell ?_ ?_ _ | with_reducible apply Below.drew | with_reducible apply below_drewN | with_reducible refine below_call ?_ (by with_reducible assumption) ?_) <;> (first | omega | (simp; done) | (simp; omega) | (simp at *; omega)))⟩
    · have hqe : (q == (0 : Int)) = false := by simp [hq]
      have hqn : (q != (0 : Int)) = true := by simp [hq]
      go_enter Tryd.func44, Tryd.ntmps44
      go_wp2_with fail
      go_ret
      exact ⟨by rw [HR.out]; first | (simp [dcheck, *]; done) | (simp [dcheck, *]; rw [if_neg (by omega)]; first | done | rfl | simp), by ((repeat' first | with_reducible exact Below.refl _ _ | with_reducible assumption | with_reducible refine Below.alloc ?_ ?_ _ | with_reducible refine Below.setCell ?_ ?_ _ | with_reducible apply Below.drew | with_reducible apply below_drewN | with_reducible refine below_call ?_ (by with_reducible assumption) ?_) <;> (first | omega | (simp; done) | (simp; omega) | (simp at *; omega)))⟩
  · have hce : (c == (0 : Int)) = false := by simp [hc]
    have hcn : (c != (0 : Int)) = true := by simp [hc]
    go_enter Tryd.func44, Tryd.ntmps44
    go_wp2_with fail
    go_ret
    exact ⟨by rw [HR.out]; first | (simp [dcheck, *]; done) | (simp [dcheck, *]; rw [if_neg (by omega)]; first | done | rfl | simp), by ((repeat' first | with_reducible exact Below.refl _ _ | with_reducible assumption | with_reducible refine Below.alloc ?_ ?_ _ | with_reducible refine Below.setCell ?_ ?_ _ | with_reducible apply Below.drew | with_reducible apply below_drewN | with_reducible refine below_call ?_ (by with_reducible assumption) ?_) <;> (first | omega | (simp; done) | (simp; omega) | (simp at *; omega)))⟩
set_option maxHeartbeats 16000000 in
theorem dcheck6 (c q : Int) (y x : ByteArray) (r : Int) (w : World) (hy : y.size ≤ 1000000000) :
    Calls Tryd.prog 44 #[.agg #[.int .i64 6, .int .i64 c, .int .i64 q, .string y, .string x, .int .i64 r]] w (Gives w (.int .i64 (dcheck 6 c q y x r (dbeg y) (dkey y) : Int))) := by
  obtain ⟨R, hR⟩ : ∃ R, R = dcheck 6 c q y x r (dbeg y) (dkey y) := ⟨_, rfl⟩
  rw [← hR]
  have hbe := fun W => dbeg_any y W hy
  have hke := fun W => dkey_any y W hy
  generalize dbeg y = kb at *
  generalize dkey y = kk at *
  have HR := Lib.hid hR
  clear hR
  by_cases hc : c = 0
  · subst hc
    by_cases hq : q = 0
    · subst hq
      by_cases hyt : y.toList = []
      · have hyte : (y.toList == []) = true := by simp [hyt]
        have hyti : y.toList.isEmpty = true := by simp [hyt]
        have hytz := size_nil hyt
        have hytg : ¬ 1024 < y.size := by omega
        have hyth : ¬ (1024 : Int) < (y.size : Int) := by omega
        by_cases hxt : x.toList = []
        · have hxte : (x.toList == []) = true := by simp [hxt]
          have hxti : x.toList.isEmpty = true := by simp [hxt]
          have hxtz := size_nil hxt
          have hxtg : ¬ 1024 < x.size := by omega
          have hxth : ¬ (1024 : Int) < (x.size : Int) := by omega
          by_cases hr : r = 0
          · subst hr
            go_enter Tryd.func44, Tryd.ntmps44
            go_wp2_with fail
            go_ret
            exact ⟨by rw [HR.out]; first | (simp [dcheck, *]; done) | (simp [dcheck, *]; rw [if_neg (by omega)]; first | done | rfl | simp), by ((repeat' first | with_reducible exact Below.refl _ _ | with_reducible assumption | with_reducible refine Below.alloc ?_ ?_ _ | with_reducible refine Below.setCell ?_ ?_ _ | with_reducible apply Below.drew | with_reducible apply below_drewN | with_reducible refine below_call ?_ (by with_reducible assumption) ?_) <;> (first | omega | (simp; done) | (simp; omega) | (simp at *; omega)))⟩
          · have hre : (r == (0 : Int)) = false := by simp [hr]
            have hrn : (r != (0 : Int)) = true := by simp [hr]
            go_enter Tryd.func44, Tryd.ntmps44
            go_wp2_with fail
            go_ret
            exact ⟨by rw [HR.out]; first | (simp [dcheck, *]; done) | (simp [dcheck, *]; rw [if_neg (by omega)]; first | done | rfl | simp), by ((repeat' first | with_reducible exact Below.refl _ _ | with_reducible assumption | with_reducible refine Below.alloc ?_ ?_ _ | with_reducible refine Below.setCell ?_ ?_ _ | with_reducible apply Below.drew | with_reducible apply below_drewN | with_reducible refine below_call ?_ (by with_reducible assumption) ?_) <;> (first | omega | (simp; done) | (simp; omega) | (simp at *; omega)))⟩
        · have hxte : (x.toList == []) = false := by simp [hxt]
          have hxti : x.toList.isEmpty = false := by simp [hxt]
          go_enter Tryd.func44, Tryd.ntmps44
          go_wp2_with fail
          go_ret
          exact ⟨by rw [HR.out]; first | (simp [dcheck, *]; done) | (simp [dcheck, *]; rw [if_neg (by omega)]; first | done | rfl | simp), by ((repeat' first | with_reducible exact Below.refl _ _ | with_reducible assumption | with_reducible refine Below.alloc ?_ ?_ _ | with_reducible refine Below.setCell ?_ ?_ _ | with_reducible apply Below.drew | with_reducible apply below_drewN | with_reducible refine below_call ?_ (by with_reducible assumption) ?_) <;> (first | omega | (simp; done) | (simp; omega) | (simp at *; omega)))⟩
      · have hyte : (y.toList == []) = false := by simp [hyt]
        have hyti : y.toList.isEmpty = false := by simp [hyt]
        go_enter Tryd.func44, Tryd.ntmps44
        go_wp2_with fail
        go_ret
        exact ⟨by rw [HR.out]; first | (simp [dcheck, *]; done) | (simp [dcheck, *]; rw [if_neg (by omega)]; first | done | rfl | simp), by ((repeat' first | with_reducible exact Below.refl _ _ | with_reducible assumption | with_reducible refine Below.alloc ?_ ?_ _ | with_reducible refine Below.setCell ?_ ?_ _ | with_reducible apply Below.drew | with_reducible apply below_drewN | with_reducible refine below_call ?_ (by with_reducible assumption) ?_) <;> (first | omega | (simp; done) | (simp; omega) | (simp at *; omega)))⟩
    · have hqe : (q == (0 : Int)) = false := by simp [hq]
      have hqn : (q != (0 : Int)) = true := by simp [hq]
      go_enter Tryd.func44, Tryd.ntmps44
      go_wp2_with fail
      go_ret
      exact ⟨by rw [HR.out]; first | (simp [dcheck, *]; done) | (simp [dcheck, *]; rw [if_neg (by omega)]; first | done | rfl | simp), by ((repeat' first | with_reducible exact Below.refl _ _ | with_reducible assumption | with_reducible refine Below.alloc ?_ ?_ _ | with_reducible refine Below.setCell ?_ ?_ _ | with_reducible apply Below.drew | with_reducible apply below_drewN | with_reducible refine below_call ?_ (by with_reducible assumption) ?_) <;> (first | omega | (simp; done) | (simp; omega) | (simp at *; omega)))⟩
  · have hce : (c == (0 : Int)) = false := by simp [hc]
    have hcn : (c != (0 : Int)) = true := by simp [hc]
    go_enter Tryd.func44, Tryd.ntmps44
    go_wp2_with fail
    go_ret
    exact ⟨by rw [HR.out]; first | (simp [dcheck, *]; done) | (simp [dcheck, *]; rw [if_neg (by omega)]; first | done | rfl | simp), by ((repeat' first | with_reducible exact Below.refl _ _ | with_reducible assumption | with_reducible refine Below.alloc ?_ ?_ _ | with_reducible refine Below.setCell ?_ ?_ _ | with_reducible apply Below.drew | with_reducible apply below_drewN | with_reducible refine below_call ?_ (by with_reducible assumption) ?_) <;> (first | omega | (simp; done) | (simp; omega) | (simp at *; omega)))⟩
set_option maxHeartbeats 16000000 in
theorem dcheck4 (c q : Int) (y x : ByteArray) (r : Int) (w : World) (hy : y.size ≤ 1000000000) :
    Calls Tryd.prog 44 #[.agg #[.int .i64 4, .int .i64 c, .int .i64 q, .string y, .string x, .int .i64 r]] w (Gives w (.int .i64 (dcheck 4 c q y x r (dbeg y) (dkey y) : Int))) := by
  obtain ⟨R, hR⟩ : ∃ R, R = dcheck 4 c q y x r (dbeg y) (dkey y) := ⟨_, rfl⟩
  rw [← hR]
  have hbe := fun W => dbeg_any y W hy
  have hke := fun W => dkey_any y W hy
  generalize dbeg y = kb at *
  generalize dkey y = kk at *
  have HR := Lib.hid hR
  clear hR
  by_cases hc : c = 0
  · subst hc
    go_enter Tryd.func44, Tryd.ntmps44
    go_wp2_with fail
    go_ret
    exact ⟨by rw [HR.out]; first | (simp [dcheck, *]; done) | (simp [dcheck, *]; rw [if_neg (by omega)]; first | done | rfl | simp), by ((repeat' first | with_reducible exact Below.refl _ _ | with_reducible assumption | with_reducible refine Below.alloc ?_ ?_ _ | with_reducible refine Below.setCell ?_ ?_ _ | with_reducible apply Below.drew | with_reducible apply below_drewN | with_reducible refine below_call ?_ (by with_reducible assumption) ?_) <;> (first | omega | (simp; done) | (simp; omega) | (simp at *; omega)))⟩
  · have hce : (c == (0 : Int)) = false := by simp [hc]
    have hcn : (c != (0 : Int)) = true := by simp [hc]
    by_cases hq : q = 0
    · subst hq
      go_enter Tryd.func44, Tryd.ntmps44
      go_wp2_with fail
      go_ret
      exact ⟨by rw [HR.out]; first | (simp [dcheck, *]; done) | (simp [dcheck, *]; rw [if_neg (by omega)]; first | done | rfl | simp), by ((repeat' first | with_reducible exact Below.refl _ _ | with_reducible assumption | with_reducible refine Below.alloc ?_ ?_ _ | with_reducible refine Below.setCell ?_ ?_ _ | with_reducible apply Below.drew | with_reducible apply below_drewN | with_reducible refine below_call ?_ (by with_reducible assumption) ?_) <;> (first | omega | (simp; done) | (simp; omega) | (simp at *; omega)))⟩
    · have hqe : (q == (0 : Int)) = false := by simp [hq]
      have hqn : (q != (0 : Int)) = true := by simp [hq]
      by_cases hc9l : c < 0
      · go_enter Tryd.func44, Tryd.ntmps44
        go_wp2_with fail
        go_ret
        exact ⟨by rw [HR.out]; first | (simp [dcheck, *]; done) | (simp [dcheck, *]; rw [if_neg (by omega)]; first | done | rfl | simp), by ((repeat' first | with_reducible exact Below.refl _ _ | with_reducible assumption | with_reducible refine Below.alloc ?_ ?_ _ | with_reducible refine Below.setCell ?_ ?_ _ | with_reducible apply Below.drew | with_reducible apply below_drewN | with_reducible refine below_call ?_ (by with_reducible assumption) ?_) <;> (first | omega | (simp; done) | (simp; omega) | (simp at *; omega)))⟩
      · by_cases hc9m : (1048576 : Int) < c
        · go_enter Tryd.func44, Tryd.ntmps44
          go_wp2_with fail
          go_ret
          exact ⟨by rw [HR.out]; first | (simp [dcheck, *]; done) | (simp [dcheck, *]; rw [if_neg (by omega)]; first | done | rfl | simp), by ((repeat' first | with_reducible exact Below.refl _ _ | with_reducible assumption | with_reducible refine Below.alloc ?_ ?_ _ | with_reducible refine Below.setCell ?_ ?_ _ | with_reducible apply Below.drew | with_reducible apply below_drewN | with_reducible refine below_call ?_ (by with_reducible assumption) ?_) <;> (first | omega | (simp; done) | (simp; omega) | (simp at *; omega)))⟩
        · by_cases hq9l : q < 0
          · go_enter Tryd.func44, Tryd.ntmps44
            go_wp2_with fail
            go_ret
            exact ⟨by rw [HR.out]; first | (simp [dcheck, *]; done) | (simp [dcheck, *]; rw [if_neg (by omega)]; first | done | rfl | simp), by ((repeat' first | with_reducible exact Below.refl _ _ | with_reducible assumption | with_reducible refine Below.alloc ?_ ?_ _ | with_reducible refine Below.setCell ?_ ?_ _ | with_reducible apply Below.drew | with_reducible apply below_drewN | with_reducible refine below_call ?_ (by with_reducible assumption) ?_) <;> (first | omega | (simp; done) | (simp; omega) | (simp at *; omega)))⟩
          · by_cases hq9m : (1099511627776 : Int) < q
            · go_enter Tryd.func44, Tryd.ntmps44
              go_wp2_with fail
              go_ret
              exact ⟨by rw [HR.out]; first | (simp [dcheck, *]; done) | (simp [dcheck, *]; rw [if_neg (by omega)]; first | done | rfl | simp), by ((repeat' first | with_reducible exact Below.refl _ _ | with_reducible assumption | with_reducible refine Below.alloc ?_ ?_ _ | with_reducible refine Below.setCell ?_ ?_ _ | with_reducible apply Below.drew | with_reducible apply below_drewN | with_reducible refine below_call ?_ (by with_reducible assumption) ?_) <;> (first | omega | (simp; done) | (simp; omega) | (simp at *; omega)))⟩
            · by_cases hr9l : r < 0
              · go_enter Tryd.func44, Tryd.ntmps44
                go_wp2_with fail
                go_ret
                exact ⟨by rw [HR.out]; first | (simp [dcheck, *]; done) | (simp [dcheck, *]; rw [if_neg (by omega)]; first | done | rfl | simp), by ((repeat' first | with_reducible exact Below.refl _ _ | with_reducible assumption | with_reducible refine Below.alloc ?_ ?_ _ | with_reducible refine Below.setCell ?_ ?_ _ | with_reducible apply Below.drew | with_reducible apply below_drewN | with_reducible refine below_call ?_ (by with_reducible assumption) ?_) <;> (first | omega | (simp; done) | (simp; omega) | (simp at *; omega)))⟩
              · by_cases hr9m : (1099511627776 : Int) < r
                · go_enter Tryd.func44, Tryd.ntmps44
                  go_wp2_with fail
                  go_ret
                  exact ⟨by rw [HR.out]; first | (simp [dcheck, *]; done) | (simp [dcheck, *]; rw [if_neg (by omega)]; first | done | rfl | simp), by ((repeat' first | with_reducible exact Below.refl _ _ | with_reducible assumption | with_reducible refine Below.alloc ?_ ?_ _ | with_reducible refine Below.setCell ?_ ?_ _ | with_reducible apply Below.drew | with_reducible apply below_drewN | with_reducible refine below_call ?_ (by with_reducible assumption) ?_) <;> (first | omega | (simp; done) | (simp; omega) | (simp at *; omega)))⟩
                · by_cases hxs : 1024 < x.size
                  · have hxs' : (1024 : Int) < (x.size : Int) := by omega
                    go_enter Tryd.func44, Tryd.ntmps44
                    go_wp2_with fail
                    go_ret
                    exact ⟨by rw [HR.out]; first | (simp [dcheck, *]; done) | (simp [dcheck, *]; rw [if_neg (by omega)]; first | done | rfl | simp), by ((repeat' first | with_reducible exact Below.refl _ _ | with_reducible assumption | with_reducible refine Below.alloc ?_ ?_ _ | with_reducible refine Below.setCell ?_ ?_ _ | with_reducible apply Below.drew | with_reducible apply below_drewN | with_reducible refine below_call ?_ (by with_reducible assumption) ?_) <;> (first | omega | (simp; done) | (simp; omega) | (simp at *; omega)))⟩
                  · have hxs' : ¬ (1024 : Int) < (x.size : Int) := by omega
                    cases kk
                    · go_enter Tryd.func44, Tryd.ntmps44
                      go_wp2_with fail
                      refine (hke _).mono ?_
                      rintro e wl0 ⟨rfl, hbl0⟩
                      have zl0 := hbl0.size
                      (try simp at zl0)
                      go_wp2_with fail
                      go_ret
                      exact ⟨by rw [HR.out]; first | (simp [dcheck, *]; done) | (simp [dcheck, *]; rw [if_neg (by omega)]; first | done | rfl | simp), by ((repeat' first | with_reducible exact Below.refl _ _ | with_reducible assumption | with_reducible refine Below.alloc ?_ ?_ _ | with_reducible refine Below.setCell ?_ ?_ _ | with_reducible apply Below.drew | with_reducible apply below_drewN | with_reducible refine below_call ?_ (by with_reducible assumption) ?_) <;> (first | omega | (simp; done) | (simp; omega) | (simp at *; omega)))⟩
                    · go_enter Tryd.func44, Tryd.ntmps44
                      go_wp2_with fail
                      refine (hke _).mono ?_
                      rintro e wl0 ⟨rfl, hbl0⟩
                      have zl0 := hbl0.size
                      (try simp at zl0)
                      go_wp2_with fail
                      go_ret
                      exact ⟨by rw [HR.out]; first | (simp [dcheck, *]; done) | (simp [dcheck, *]; rw [if_neg (by omega)]; first | done | rfl | simp), by ((repeat' first | with_reducible exact Below.refl _ _ | with_reducible assumption | with_reducible refine Below.alloc ?_ ?_ _ | with_reducible refine Below.setCell ?_ ?_ _ | with_reducible apply Below.drew | with_reducible apply below_drewN | with_reducible refine below_call ?_ (by with_reducible assumption) ?_) <;> (first | omega | (simp; done) | (simp; omega) | (simp at *; omega)))⟩
set_option maxHeartbeats 16000000 in
theorem dcheck2 (c q : Int) (y x : ByteArray) (r : Int) (w : World) (hy : y.size ≤ 1000000000) :
    Calls Tryd.prog 44 #[.agg #[.int .i64 2, .int .i64 c, .int .i64 q, .string y, .string x, .int .i64 r]] w (Gives w (.int .i64 (dcheck 2 c q y x r (dbeg y) (dkey y) : Int))) := by
  obtain ⟨R, hR⟩ : ∃ R, R = dcheck 2 c q y x r (dbeg y) (dkey y) := ⟨_, rfl⟩
  rw [← hR]
  have hbe := fun W => dbeg_any y W hy
  have hke := fun W => dkey_any y W hy
  generalize dbeg y = kb at *
  generalize dkey y = kk at *
  have HR := Lib.hid hR
  clear hR
  by_cases hc : c = 0
  · subst hc
    go_enter Tryd.func44, Tryd.ntmps44
    go_wp2_with fail
    go_ret
    exact ⟨by rw [HR.out]; first | (simp [dcheck, *]; done) | (simp [dcheck, *]; rw [if_neg (by omega)]; first | done | rfl | simp), by ((repeat' first | with_reducible exact Below.refl _ _ | with_reducible assumption | with_reducible refine Below.alloc ?_ ?_ _ | with_reducible refine Below.setCell ?_ ?_ _ | with_reducible apply Below.drew | with_reducible apply below_drewN | with_reducible refine below_call ?_ (by with_reducible assumption) ?_) <;> (first | omega | (simp; done) | (simp; omega) | (simp at *; omega)))⟩
  · have hce : (c == (0 : Int)) = false := by simp [hc]
    have hcn : (c != (0 : Int)) = true := by simp [hc]
    by_cases hq : q = 0
    · subst hq
      go_enter Tryd.func44, Tryd.ntmps44
      go_wp2_with fail
      go_ret
      exact ⟨by rw [HR.out]; first | (simp [dcheck, *]; done) | (simp [dcheck, *]; rw [if_neg (by omega)]; first | done | rfl | simp), by ((repeat' first | with_reducible exact Below.refl _ _ | with_reducible assumption | with_reducible refine Below.alloc ?_ ?_ _ | with_reducible refine Below.setCell ?_ ?_ _ | with_reducible apply Below.drew | with_reducible apply below_drewN | with_reducible refine below_call ?_ (by with_reducible assumption) ?_) <;> (first | omega | (simp; done) | (simp; omega) | (simp at *; omega)))⟩
    · have hqe : (q == (0 : Int)) = false := by simp [hq]
      have hqn : (q != (0 : Int)) = true := by simp [hq]
      by_cases hr : r = 0
      · subst hr
        by_cases hc9l : c < 0
        · go_enter Tryd.func44, Tryd.ntmps44
          go_wp2_with fail
          go_ret
          exact ⟨by rw [HR.out]; first | (simp [dcheck, *]; done) | (simp [dcheck, *]; rw [if_neg (by omega)]; first | done | rfl | simp), by ((repeat' first | with_reducible exact Below.refl _ _ | with_reducible assumption | with_reducible refine Below.alloc ?_ ?_ _ | with_reducible refine Below.setCell ?_ ?_ _ | with_reducible apply Below.drew | with_reducible apply below_drewN | with_reducible refine below_call ?_ (by with_reducible assumption) ?_) <;> (first | omega | (simp; done) | (simp; omega) | (simp at *; omega)))⟩
        · by_cases hc9m : (1048576 : Int) < c
          · go_enter Tryd.func44, Tryd.ntmps44
            go_wp2_with fail
            go_ret
            exact ⟨by rw [HR.out]; first | (simp [dcheck, *]; done) | (simp [dcheck, *]; rw [if_neg (by omega)]; first | done | rfl | simp), by ((repeat' first | with_reducible exact Below.refl _ _ | with_reducible assumption | with_reducible refine Below.alloc ?_ ?_ _ | with_reducible refine Below.setCell ?_ ?_ _ | with_reducible apply Below.drew | with_reducible apply below_drewN | with_reducible refine below_call ?_ (by with_reducible assumption) ?_) <;> (first | omega | (simp; done) | (simp; omega) | (simp at *; omega)))⟩
          · by_cases hq9l : q < 0
            · go_enter Tryd.func44, Tryd.ntmps44
              go_wp2_with fail
              go_ret
              exact ⟨by rw [HR.out]; first | (simp [dcheck, *]; done) | (simp [dcheck, *]; rw [if_neg (by omega)]; first | done | rfl | simp), by ((repeat' first | with_reducible exact Below.refl _ _ | with_reducible assumption | with_reducible refine Below.alloc ?_ ?_ _ | with_reducible refine Below.setCell ?_ ?_ _ | with_reducible apply Below.drew | with_reducible apply below_drewN | with_reducible refine below_call ?_ (by with_reducible assumption) ?_) <;> (first | omega | (simp; done) | (simp; omega) | (simp at *; omega)))⟩
            · by_cases hq9m : (1099511627776 : Int) < q
              · go_enter Tryd.func44, Tryd.ntmps44
                go_wp2_with fail
                go_ret
                exact ⟨by rw [HR.out]; first | (simp [dcheck, *]; done) | (simp [dcheck, *]; rw [if_neg (by omega)]; first | done | rfl | simp), by ((repeat' first | with_reducible exact Below.refl _ _ | with_reducible assumption | with_reducible refine Below.alloc ?_ ?_ _ | with_reducible refine Below.setCell ?_ ?_ _ | with_reducible apply Below.drew | with_reducible apply below_drewN | with_reducible refine below_call ?_ (by with_reducible assumption) ?_) <;> (first | omega | (simp; done) | (simp; omega) | (simp at *; omega)))⟩
              · by_cases hxs : 1024 < x.size
                · have hxs' : (1024 : Int) < (x.size : Int) := by omega
                  go_enter Tryd.func44, Tryd.ntmps44
                  go_wp2_with fail
                  go_ret
                  exact ⟨by rw [HR.out]; first | (simp [dcheck, *]; done) | (simp [dcheck, *]; rw [if_neg (by omega)]; first | done | rfl | simp), by ((repeat' first | with_reducible exact Below.refl _ _ | with_reducible assumption | with_reducible refine Below.alloc ?_ ?_ _ | with_reducible refine Below.setCell ?_ ?_ _ | with_reducible apply Below.drew | with_reducible apply below_drewN | with_reducible refine below_call ?_ (by with_reducible assumption) ?_) <;> (first | omega | (simp; done) | (simp; omega) | (simp at *; omega)))⟩
                · have hxs' : ¬ (1024 : Int) < (x.size : Int) := by omega
                  cases kk
                  · go_enter Tryd.func44, Tryd.ntmps44
                    go_wp2_with fail
                    refine (hke _).mono ?_
                    rintro e wl0 ⟨rfl, hbl0⟩
                    have zl0 := hbl0.size
                    (try simp at zl0)
                    go_wp2_with fail
                    go_ret
                    exact ⟨by rw [HR.out]; first | (simp [dcheck, *]; done) | (simp [dcheck, *]; rw [if_neg (by omega)]; first | done | rfl | simp), by ((repeat' first | with_reducible exact Below.refl _ _ | with_reducible assumption | with_reducible refine Below.alloc ?_ ?_ _ | with_reducible refine Below.setCell ?_ ?_ _ | with_reducible apply Below.drew | with_reducible apply below_drewN | with_reducible refine below_call ?_ (by with_reducible assumption) ?_) <;> (first | omega | (simp; done) | (simp; omega) | (simp at *; omega)))⟩
                  · go_enter Tryd.func44, Tryd.ntmps44
                    go_wp2_with fail
                    refine (hke _).mono ?_
                    rintro e wl0 ⟨rfl, hbl0⟩
                    have zl0 := hbl0.size
                    (try simp at zl0)
                    go_wp2_with fail
                    go_ret
                    exact ⟨by rw [HR.out]; first | (simp [dcheck, *]; done) | (simp [dcheck, *]; rw [if_neg (by omega)]; first | done | rfl | simp), by ((repeat' first | with_reducible exact Below.refl _ _ | with_reducible assumption | with_reducible refine Below.alloc ?_ ?_ _ | with_reducible refine Below.setCell ?_ ?_ _ | with_reducible apply Below.drew | with_reducible apply below_drewN | with_reducible refine below_call ?_ (by with_reducible assumption) ?_) <;> (first | omega | (simp; done) | (simp; omega) | (simp at *; omega)))⟩
      · have hre : (r == (0 : Int)) = false := by simp [hr]
        have hrn : (r != (0 : Int)) = true := by simp [hr]
        go_enter Tryd.func44, Tryd.ntmps44
        go_wp2_with fail
        go_ret
        exact ⟨by rw [HR.out]; first | (simp [dcheck, *]; done) | (simp [dcheck, *]; rw [if_neg (by omega)]; first | done | rfl | simp), by ((repeat' first | with_reducible exact Below.refl _ _ | with_reducible assumption | with_reducible refine Below.alloc ?_ ?_ _ | with_reducible refine Below.setCell ?_ ?_ _ | with_reducible apply Below.drew | with_reducible apply below_drewN | with_reducible refine below_call ?_ (by with_reducible assumption) ?_) <;> (first | omega | (simp; done) | (simp; omega) | (simp at *; omega)))⟩
set_option maxHeartbeats 16000000 in
theorem dcheck5 (c q : Int) (y x : ByteArray) (r : Int) (w : World) (hy : y.size ≤ 1000000000) :
    Calls Tryd.prog 44 #[.agg #[.int .i64 5, .int .i64 c, .int .i64 q, .string y, .string x, .int .i64 r]] w (Gives w (.int .i64 (dcheck 5 c q y x r (dbeg y) (dkey y) : Int))) := by
  obtain ⟨R, hR⟩ : ∃ R, R = dcheck 5 c q y x r (dbeg y) (dkey y) := ⟨_, rfl⟩
  rw [← hR]
  have hbe := fun W => dbeg_any y W hy
  have hke := fun W => dkey_any y W hy
  generalize dbeg y = kb at *
  generalize dkey y = kk at *
  have HR := Lib.hid hR
  clear hR
  by_cases hc : c = 0
  · subst hc
    go_enter Tryd.func44, Tryd.ntmps44
    go_wp2_with fail
    go_ret
    exact ⟨by rw [HR.out]; first | (simp [dcheck, *]; done) | (simp [dcheck, *]; rw [if_neg (by omega)]; first | done | rfl | simp), by ((repeat' first | with_reducible exact Below.refl _ _ | with_reducible assumption | with_reducible refine Below.alloc ?_ ?_ _ | with_reducible refine Below.setCell ?_ ?_ _ | with_reducible apply Below.drew | with_reducible apply below_drewN | with_reducible refine below_call ?_ (by with_reducible assumption) ?_) <;> (first | omega | (simp; done) | (simp; omega) | (simp at *; omega)))⟩
  · have hce : (c == (0 : Int)) = false := by simp [hc]
    have hcn : (c != (0 : Int)) = true := by simp [hc]
    by_cases hq : q = 0
    · subst hq
      go_enter Tryd.func44, Tryd.ntmps44
      go_wp2_with fail
      go_ret
      exact ⟨by rw [HR.out]; first | (simp [dcheck, *]; done) | (simp [dcheck, *]; rw [if_neg (by omega)]; first | done | rfl | simp), by ((repeat' first | with_reducible exact Below.refl _ _ | with_reducible assumption | with_reducible refine Below.alloc ?_ ?_ _ | with_reducible refine Below.setCell ?_ ?_ _ | with_reducible apply Below.drew | with_reducible apply below_drewN | with_reducible refine below_call ?_ (by with_reducible assumption) ?_) <;> (first | omega | (simp; done) | (simp; omega) | (simp at *; omega)))⟩
    · have hqe : (q == (0 : Int)) = false := by simp [hq]
      have hqn : (q != (0 : Int)) = true := by simp [hq]
      by_cases hxt : x.toList = []
      · have hxte : (x.toList == []) = true := by simp [hxt]
        have hxti : x.toList.isEmpty = true := by simp [hxt]
        have hxtz := size_nil hxt
        have hxtg : ¬ 1024 < x.size := by omega
        have hxth : ¬ (1024 : Int) < (x.size : Int) := by omega
        by_cases hr : r = 0
        · subst hr
          by_cases hc9l : c < 0
          · go_enter Tryd.func44, Tryd.ntmps44
            go_wp2_with fail
            go_ret
            exact ⟨by rw [HR.out]; first | (simp [dcheck, *]; done) | (simp [dcheck, *]; rw [if_neg (by omega)]; first | done | rfl | simp), by ((repeat' first | with_reducible exact Below.refl _ _ | with_reducible assumption | with_reducible refine Below.alloc ?_ ?_ _ | with_reducible refine Below.setCell ?_ ?_ _ | with_reducible apply Below.drew | with_reducible apply below_drewN | with_reducible refine below_call ?_ (by with_reducible assumption) ?_) <;> (first | omega | (simp; done) | (simp; omega) | (simp at *; omega)))⟩
          · by_cases hc9m : (1048576 : Int) < c
            · go_enter Tryd.func44, Tryd.ntmps44
              go_wp2_with fail
              go_ret
              exact ⟨by rw [HR.out]; first | (simp [dcheck, *]; done) | (simp [dcheck, *]; rw [if_neg (by omega)]; first | done | rfl | simp), by ((repeat' first | with_reducible exact Below.refl _ _ | with_reducible assumption | with_reducible refine Below.alloc ?_ ?_ _ | with_reducible refine Below.setCell ?_ ?_ _ | with_reducible apply Below.drew | with_reducible apply below_drewN | with_reducible refine below_call ?_ (by with_reducible assumption) ?_) <;> (first | omega | (simp; done) | (simp; omega) | (simp at *; omega)))⟩
            · by_cases hq9l : q < 0
              · go_enter Tryd.func44, Tryd.ntmps44
                go_wp2_with fail
                go_ret
                exact ⟨by rw [HR.out]; first | (simp [dcheck, *]; done) | (simp [dcheck, *]; rw [if_neg (by omega)]; first | done | rfl | simp), by ((repeat' first | with_reducible exact Below.refl _ _ | with_reducible assumption | with_reducible refine Below.alloc ?_ ?_ _ | with_reducible refine Below.setCell ?_ ?_ _ | with_reducible apply Below.drew | with_reducible apply below_drewN | with_reducible refine below_call ?_ (by with_reducible assumption) ?_) <;> (first | omega | (simp; done) | (simp; omega) | (simp at *; omega)))⟩
              · by_cases hq9m : (1099511627776 : Int) < q
                · go_enter Tryd.func44, Tryd.ntmps44
                  go_wp2_with fail
                  go_ret
                  exact ⟨by rw [HR.out]; first | (simp [dcheck, *]; done) | (simp [dcheck, *]; rw [if_neg (by omega)]; first | done | rfl | simp), by ((repeat' first | with_reducible exact Below.refl _ _ | with_reducible assumption | with_reducible refine Below.alloc ?_ ?_ _ | with_reducible refine Below.setCell ?_ ?_ _ | with_reducible apply Below.drew | with_reducible apply below_drewN | with_reducible refine below_call ?_ (by with_reducible assumption) ?_) <;> (first | omega | (simp; done) | (simp; omega) | (simp at *; omega)))⟩
                · cases kb
                  · go_enter Tryd.func44, Tryd.ntmps44
                    go_wp2_with fail
                    refine (hbe _).mono ?_
                    rintro e wl0 ⟨rfl, hbl0⟩
                    have zl0 := hbl0.size
                    (try simp at zl0)
                    obtain ⟨q0, r0⟩ := new_keep hbl0 0 rfl
                    (try simp at q0)
                    go_wp2_with fail
                    go_ret
                    exact ⟨by rw [HR.out]; first | (simp [dcheck, *]; done) | (simp [dcheck, *]; rw [if_neg (by omega)]; first | done | rfl | simp), by ((repeat' first | with_reducible exact Below.refl _ _ | with_reducible assumption | with_reducible refine Below.alloc ?_ ?_ _ | with_reducible refine Below.setCell ?_ ?_ _ | with_reducible apply Below.drew | with_reducible apply below_drewN | with_reducible refine below_call ?_ (by with_reducible assumption) ?_) <;> (first | omega | (simp; done) | (simp; omega) | (simp at *; omega)))⟩
                  · go_enter Tryd.func44, Tryd.ntmps44
                    go_wp2_with fail
                    refine (hbe _).mono ?_
                    rintro e wl0 ⟨rfl, hbl0⟩
                    have zl0 := hbl0.size
                    (try simp at zl0)
                    obtain ⟨q0, r0⟩ := new_keep hbl0 0 rfl
                    (try simp at q0)
                    go_wp2_with fail
                    go_ret
                    exact ⟨by rw [HR.out]; first | (simp [dcheck, *]; done) | (simp [dcheck, *]; rw [if_neg (by omega)]; first | done | rfl | simp), by ((repeat' first | with_reducible exact Below.refl _ _ | with_reducible assumption | with_reducible refine Below.alloc ?_ ?_ _ | with_reducible refine Below.setCell ?_ ?_ _ | with_reducible apply Below.drew | with_reducible apply below_drewN | with_reducible refine below_call ?_ (by with_reducible assumption) ?_) <;> (first | omega | (simp; done) | (simp; omega) | (simp at *; omega)))⟩
        · have hre : (r == (0 : Int)) = false := by simp [hr]
          have hrn : (r != (0 : Int)) = true := by simp [hr]
          go_enter Tryd.func44, Tryd.ntmps44
          go_wp2_with fail
          go_ret
          exact ⟨by rw [HR.out]; first | (simp [dcheck, *]; done) | (simp [dcheck, *]; rw [if_neg (by omega)]; first | done | rfl | simp), by ((repeat' first | with_reducible exact Below.refl _ _ | with_reducible assumption | with_reducible refine Below.alloc ?_ ?_ _ | with_reducible refine Below.setCell ?_ ?_ _ | with_reducible apply Below.drew | with_reducible apply below_drewN | with_reducible refine below_call ?_ (by with_reducible assumption) ?_) <;> (first | omega | (simp; done) | (simp; omega) | (simp at *; omega)))⟩
      · have hxte : (x.toList == []) = false := by simp [hxt]
        have hxti : x.toList.isEmpty = false := by simp [hxt]
        go_enter Tryd.func44, Tryd.ntmps44
        go_wp2_with fail
        go_ret
        exact ⟨by rw [HR.out]; first | (simp [dcheck, *]; done) | (simp [dcheck, *]; rw [if_neg (by omega)]; first | done | rfl | simp), by ((repeat' first | with_reducible exact Below.refl _ _ | with_reducible assumption | with_reducible refine Below.alloc ?_ ?_ _ | with_reducible refine Below.setCell ?_ ?_ _ | with_reducible apply Below.drew | with_reducible apply below_drewN | with_reducible refine below_call ?_ (by with_reducible assumption) ?_) <;> (first | omega | (simp; done) | (simp; omega) | (simp at *; omega)))⟩
set_option maxHeartbeats 16000000 in
theorem dcheck1 (c q : Int) (y x : ByteArray) (r : Int) (w : World) (hy : y.size ≤ 1000000000) :
    Calls Tryd.prog 44 #[.agg #[.int .i64 1, .int .i64 c, .int .i64 q, .string y, .string x, .int .i64 r]] w (Gives w (.int .i64 (dcheck 1 c q y x r (dbeg y) (dkey y) : Int))) := by
  obtain ⟨R, hR⟩ : ∃ R, R = dcheck 1 c q y x r (dbeg y) (dkey y) := ⟨_, rfl⟩
  rw [← hR]
  have hbe := fun W => dbeg_any y W hy
  have hke := fun W => dkey_any y W hy
  generalize dbeg y = kb at *
  generalize dkey y = kk at *
  have HR := Lib.hid hR
  clear hR
  by_cases hc : c = 0
  · subst hc
    go_enter Tryd.func44, Tryd.ntmps44
    go_wp2_with fail
    go_ret
    exact ⟨by rw [HR.out]; first | (simp [dcheck, *]; done) | (simp [dcheck, *]; rw [if_neg (by omega)]; first | done | rfl | simp), by ((repeat' first | with_reducible exact Below.refl _ _ | with_reducible assumption | with_reducible refine Below.alloc ?_ ?_ _ | with_reducible refine Below.setCell ?_ ?_ _ | with_reducible apply Below.drew | with_reducible apply below_drewN | with_reducible refine below_call ?_ (by with_reducible assumption) ?_) <;> (first | omega | (simp; done) | (simp; omega) | (simp at *; omega)))⟩
  · have hce : (c == (0 : Int)) = false := by simp [hc]
    have hcn : (c != (0 : Int)) = true := by simp [hc]
    by_cases hq : q = 0
    · subst hq
      go_enter Tryd.func44, Tryd.ntmps44
      go_wp2_with fail
      go_ret
      exact ⟨by rw [HR.out]; first | (simp [dcheck, *]; done) | (simp [dcheck, *]; rw [if_neg (by omega)]; first | done | rfl | simp), by ((repeat' first | with_reducible exact Below.refl _ _ | with_reducible assumption | with_reducible refine Below.alloc ?_ ?_ _ | with_reducible refine Below.setCell ?_ ?_ _ | with_reducible apply Below.drew | with_reducible apply below_drewN | with_reducible refine below_call ?_ (by with_reducible assumption) ?_) <;> (first | omega | (simp; done) | (simp; omega) | (simp at *; omega)))⟩
    · have hqe : (q == (0 : Int)) = false := by simp [hq]
      have hqn : (q != (0 : Int)) = true := by simp [hq]
      by_cases hxt : x.toList = []
      · have hxte : (x.toList == []) = true := by simp [hxt]
        have hxti : x.toList.isEmpty = true := by simp [hxt]
        have hxtz := size_nil hxt
        have hxtg : ¬ 1024 < x.size := by omega
        have hxth : ¬ (1024 : Int) < (x.size : Int) := by omega
        by_cases hr : r = 0
        · subst hr
          by_cases hc9l : c < 0
          · go_enter Tryd.func44, Tryd.ntmps44
            go_wp2_with fail
            go_ret
            exact ⟨by rw [HR.out]; first | (simp [dcheck, *]; done) | (simp [dcheck, *]; rw [if_neg (by omega)]; first | done | rfl | simp), by ((repeat' first | with_reducible exact Below.refl _ _ | with_reducible assumption | with_reducible refine Below.alloc ?_ ?_ _ | with_reducible refine Below.setCell ?_ ?_ _ | with_reducible apply Below.drew | with_reducible apply below_drewN | with_reducible refine below_call ?_ (by with_reducible assumption) ?_) <;> (first | omega | (simp; done) | (simp; omega) | (simp at *; omega)))⟩
          · by_cases hc9m : (1048576 : Int) < c
            · go_enter Tryd.func44, Tryd.ntmps44
              go_wp2_with fail
              go_ret
              exact ⟨by rw [HR.out]; first | (simp [dcheck, *]; done) | (simp [dcheck, *]; rw [if_neg (by omega)]; first | done | rfl | simp), by ((repeat' first | with_reducible exact Below.refl _ _ | with_reducible assumption | with_reducible refine Below.alloc ?_ ?_ _ | with_reducible refine Below.setCell ?_ ?_ _ | with_reducible apply Below.drew | with_reducible apply below_drewN | with_reducible refine below_call ?_ (by with_reducible assumption) ?_) <;> (first | omega | (simp; done) | (simp; omega) | (simp at *; omega)))⟩
            · by_cases hq9l : q < 0
              · go_enter Tryd.func44, Tryd.ntmps44
                go_wp2_with fail
                go_ret
                exact ⟨by rw [HR.out]; first | (simp [dcheck, *]; done) | (simp [dcheck, *]; rw [if_neg (by omega)]; first | done | rfl | simp), by ((repeat' first | with_reducible exact Below.refl _ _ | with_reducible assumption | with_reducible refine Below.alloc ?_ ?_ _ | with_reducible refine Below.setCell ?_ ?_ _ | with_reducible apply Below.drew | with_reducible apply below_drewN | with_reducible refine below_call ?_ (by with_reducible assumption) ?_) <;> (first | omega | (simp; done) | (simp; omega) | (simp at *; omega)))⟩
              · by_cases hq9m : (1099511627776 : Int) < q
                · go_enter Tryd.func44, Tryd.ntmps44
                  go_wp2_with fail
                  go_ret
                  exact ⟨by rw [HR.out]; first | (simp [dcheck, *]; done) | (simp [dcheck, *]; rw [if_neg (by omega)]; first | done | rfl | simp), by ((repeat' first | with_reducible exact Below.refl _ _ | with_reducible assumption | with_reducible refine Below.alloc ?_ ?_ _ | with_reducible refine Below.setCell ?_ ?_ _ | with_reducible apply Below.drew | with_reducible apply below_drewN | with_reducible refine below_call ?_ (by with_reducible assumption) ?_) <;> (first | omega | (simp; done) | (simp; omega) | (simp at *; omega)))⟩
                · cases kk
                  · go_enter Tryd.func44, Tryd.ntmps44
                    go_wp2_with fail
                    refine (hke _).mono ?_
                    rintro e wl0 ⟨rfl, hbl0⟩
                    have zl0 := hbl0.size
                    (try simp at zl0)
                    go_wp2_with fail
                    go_ret
                    exact ⟨by rw [HR.out]; first | (simp [dcheck, *]; done) | (simp [dcheck, *]; rw [if_neg (by omega)]; first | done | rfl | simp), by ((repeat' first | with_reducible exact Below.refl _ _ | with_reducible assumption | with_reducible refine Below.alloc ?_ ?_ _ | with_reducible refine Below.setCell ?_ ?_ _ | with_reducible apply Below.drew | with_reducible apply below_drewN | with_reducible refine below_call ?_ (by with_reducible assumption) ?_) <;> (first | omega | (simp; done) | (simp; omega) | (simp at *; omega)))⟩
                  · go_enter Tryd.func44, Tryd.ntmps44
                    go_wp2_with fail
                    refine (hke _).mono ?_
                    rintro e wl0 ⟨rfl, hbl0⟩
                    have zl0 := hbl0.size
                    (try simp at zl0)
                    go_wp2_with fail
                    go_ret
                    exact ⟨by rw [HR.out]; first | (simp [dcheck, *]; done) | (simp [dcheck, *]; rw [if_neg (by omega)]; first | done | rfl | simp), by ((repeat' first | with_reducible exact Below.refl _ _ | with_reducible assumption | with_reducible refine Below.alloc ?_ ?_ _ | with_reducible refine Below.setCell ?_ ?_ _ | with_reducible apply Below.drew | with_reducible apply below_drewN | with_reducible refine below_call ?_ (by with_reducible assumption) ?_) <;> (first | omega | (simp; done) | (simp; omega) | (simp at *; omega)))⟩
        · have hre : (r == (0 : Int)) = false := by simp [hr]
          have hrn : (r != (0 : Int)) = true := by simp [hr]
          go_enter Tryd.func44, Tryd.ntmps44
          go_wp2_with fail
          go_ret
          exact ⟨by rw [HR.out]; first | (simp [dcheck, *]; done) | (simp [dcheck, *]; rw [if_neg (by omega)]; first | done | rfl | simp), by ((repeat' first | with_reducible exact Below.refl _ _ | with_reducible assumption | with_reducible refine Below.alloc ?_ ?_ _ | with_reducible refine Below.setCell ?_ ?_ _ | with_reducible apply Below.drew | with_reducible apply below_drewN | with_reducible refine below_call ?_ (by with_reducible assumption) ?_) <;> (first | omega | (simp; done) | (simp; omega) | (simp at *; omega)))⟩
      · have hxte : (x.toList == []) = false := by simp [hxt]
        have hxti : x.toList.isEmpty = false := by simp [hxt]
        go_enter Tryd.func44, Tryd.ntmps44
        go_wp2_with fail
        go_ret
        exact ⟨by rw [HR.out]; first | (simp [dcheck, *]; done) | (simp [dcheck, *]; rw [if_neg (by omega)]; first | done | rfl | simp), by ((repeat' first | with_reducible exact Below.refl _ _ | with_reducible assumption | with_reducible refine Below.alloc ?_ ?_ _ | with_reducible refine Below.setCell ?_ ?_ _ | with_reducible apply Below.drew | with_reducible apply below_drewN | with_reducible refine below_call ?_ (by with_reducible assumption) ?_) <;> (first | omega | (simp; done) | (simp; omega) | (simp at *; omega)))⟩
set_option maxHeartbeats 16000000 in
theorem dcheck3 (c q : Int) (y x : ByteArray) (r : Int) (w : World) (hy : y.size ≤ 1000000000) :
    Calls Tryd.prog 44 #[.agg #[.int .i64 3, .int .i64 c, .int .i64 q, .string y, .string x, .int .i64 r]] w (Gives w (.int .i64 (dcheck 3 c q y x r (dbeg y) (dkey y) : Int))) := by
  obtain ⟨R, hR⟩ : ∃ R, R = dcheck 3 c q y x r (dbeg y) (dkey y) := ⟨_, rfl⟩
  rw [← hR]
  have hbe := fun W => dbeg_any y W hy
  have hke := fun W => dkey_any y W hy
  generalize dbeg y = kb at *
  generalize dkey y = kk at *
  have HR := Lib.hid hR
  clear hR
  by_cases hc : c = 0
  · subst hc
    go_enter Tryd.func44, Tryd.ntmps44
    go_wp2_with fail
    go_ret
    exact ⟨by rw [HR.out]; first | (simp [dcheck, *]; done) | (simp [dcheck, *]; rw [if_neg (by omega)]; first | done | rfl | simp), by ((repeat' first | with_reducible exact Below.refl _ _ | with_reducible assumption | with_reducible refine Below.alloc ?_ ?_ _ | with_reducible refine Below.setCell ?_ ?_ _ | with_reducible apply Below.drew | with_reducible apply below_drewN | with_reducible refine below_call ?_ (by with_reducible assumption) ?_) <;> (first | omega | (simp; done) | (simp; omega) | (simp at *; omega)))⟩
  · have hce : (c == (0 : Int)) = false := by simp [hc]
    have hcn : (c != (0 : Int)) = true := by simp [hc]
    by_cases hq : q = 0
    · subst hq
      go_enter Tryd.func44, Tryd.ntmps44
      go_wp2_with fail
      go_ret
      exact ⟨by rw [HR.out]; first | (simp [dcheck, *]; done) | (simp [dcheck, *]; rw [if_neg (by omega)]; first | done | rfl | simp), by ((repeat' first | with_reducible exact Below.refl _ _ | with_reducible assumption | with_reducible refine Below.alloc ?_ ?_ _ | with_reducible refine Below.setCell ?_ ?_ _ | with_reducible apply Below.drew | with_reducible apply below_drewN | with_reducible refine below_call ?_ (by with_reducible assumption) ?_) <;> (first | omega | (simp; done) | (simp; omega) | (simp at *; omega)))⟩
    · have hqe : (q == (0 : Int)) = false := by simp [hq]
      have hqn : (q != (0 : Int)) = true := by simp [hq]
      by_cases hxt : x.toList = []
      · have hxte : (x.toList == []) = true := by simp [hxt]
        have hxti : x.toList.isEmpty = true := by simp [hxt]
        have hxtz := size_nil hxt
        have hxtg : ¬ 1024 < x.size := by omega
        have hxth : ¬ (1024 : Int) < (x.size : Int) := by omega
        by_cases hr : r = 0
        · subst hr
          by_cases hc9l : c < 0
          · go_enter Tryd.func44, Tryd.ntmps44
            go_wp2_with fail
            go_ret
            exact ⟨by rw [HR.out]; first | (simp [dcheck, *]; done) | (simp [dcheck, *]; rw [if_neg (by omega)]; first | done | rfl | simp), by ((repeat' first | with_reducible exact Below.refl _ _ | with_reducible assumption | with_reducible refine Below.alloc ?_ ?_ _ | with_reducible refine Below.setCell ?_ ?_ _ | with_reducible apply Below.drew | with_reducible apply below_drewN | with_reducible refine below_call ?_ (by with_reducible assumption) ?_) <;> (first | omega | (simp; done) | (simp; omega) | (simp at *; omega)))⟩
          · by_cases hc9m : (1048576 : Int) < c
            · go_enter Tryd.func44, Tryd.ntmps44
              go_wp2_with fail
              go_ret
              exact ⟨by rw [HR.out]; first | (simp [dcheck, *]; done) | (simp [dcheck, *]; rw [if_neg (by omega)]; first | done | rfl | simp), by ((repeat' first | with_reducible exact Below.refl _ _ | with_reducible assumption | with_reducible refine Below.alloc ?_ ?_ _ | with_reducible refine Below.setCell ?_ ?_ _ | with_reducible apply Below.drew | with_reducible apply below_drewN | with_reducible refine below_call ?_ (by with_reducible assumption) ?_) <;> (first | omega | (simp; done) | (simp; omega) | (simp at *; omega)))⟩
            · by_cases hq9l : q < 0
              · go_enter Tryd.func44, Tryd.ntmps44
                go_wp2_with fail
                go_ret
                exact ⟨by rw [HR.out]; first | (simp [dcheck, *]; done) | (simp [dcheck, *]; rw [if_neg (by omega)]; first | done | rfl | simp), by ((repeat' first | with_reducible exact Below.refl _ _ | with_reducible assumption | with_reducible refine Below.alloc ?_ ?_ _ | with_reducible refine Below.setCell ?_ ?_ _ | with_reducible apply Below.drew | with_reducible apply below_drewN | with_reducible refine below_call ?_ (by with_reducible assumption) ?_) <;> (first | omega | (simp; done) | (simp; omega) | (simp at *; omega)))⟩
              · by_cases hq9m : (1099511627776 : Int) < q
                · go_enter Tryd.func44, Tryd.ntmps44
                  go_wp2_with fail
                  go_ret
                  exact ⟨by rw [HR.out]; first | (simp [dcheck, *]; done) | (simp [dcheck, *]; rw [if_neg (by omega)]; first | done | rfl | simp), by ((repeat' first | with_reducible exact Below.refl _ _ | with_reducible assumption | with_reducible refine Below.alloc ?_ ?_ _ | with_reducible refine Below.setCell ?_ ?_ _ | with_reducible apply Below.drew | with_reducible apply below_drewN | with_reducible refine below_call ?_ (by with_reducible assumption) ?_) <;> (first | omega | (simp; done) | (simp; omega) | (simp at *; omega)))⟩
                · cases kk
                  · go_enter Tryd.func44, Tryd.ntmps44
                    go_wp2_with fail
                    refine (hke _).mono ?_
                    rintro e wl0 ⟨rfl, hbl0⟩
                    have zl0 := hbl0.size
                    (try simp at zl0)
                    go_wp2_with fail
                    go_ret
                    exact ⟨by rw [HR.out]; first | (simp [dcheck, *]; done) | (simp [dcheck, *]; rw [if_neg (by omega)]; first | done | rfl | simp), by ((repeat' first | with_reducible exact Below.refl _ _ | with_reducible assumption | with_reducible refine Below.alloc ?_ ?_ _ | with_reducible refine Below.setCell ?_ ?_ _ | with_reducible apply Below.drew | with_reducible apply below_drewN | with_reducible refine below_call ?_ (by with_reducible assumption) ?_) <;> (first | omega | (simp; done) | (simp; omega) | (simp at *; omega)))⟩
                  · go_enter Tryd.func44, Tryd.ntmps44
                    go_wp2_with fail
                    refine (hke _).mono ?_
                    rintro e wl0 ⟨rfl, hbl0⟩
                    have zl0 := hbl0.size
                    (try simp at zl0)
                    go_wp2_with fail
                    go_ret
                    exact ⟨by rw [HR.out]; first | (simp [dcheck, *]; done) | (simp [dcheck, *]; rw [if_neg (by omega)]; first | done | rfl | simp), by ((repeat' first | with_reducible exact Below.refl _ _ | with_reducible assumption | with_reducible refine Below.alloc ?_ ?_ _ | with_reducible refine Below.setCell ?_ ?_ _ | with_reducible apply Below.drew | with_reducible apply below_drewN | with_reducible refine below_call ?_ (by with_reducible assumption) ?_) <;> (first | omega | (simp; done) | (simp; omega) | (simp at *; omega)))⟩
        · have hre : (r == (0 : Int)) = false := by simp [hr]
          have hrn : (r != (0 : Int)) = true := by simp [hr]
          go_enter Tryd.func44, Tryd.ntmps44
          go_wp2_with fail
          go_ret
          exact ⟨by rw [HR.out]; first | (simp [dcheck, *]; done) | (simp [dcheck, *]; rw [if_neg (by omega)]; first | done | rfl | simp), by ((repeat' first | with_reducible exact Below.refl _ _ | with_reducible assumption | with_reducible refine Below.alloc ?_ ?_ _ | with_reducible refine Below.setCell ?_ ?_ _ | with_reducible apply Below.drew | with_reducible apply below_drewN | with_reducible refine below_call ?_ (by with_reducible assumption) ?_) <;> (first | omega | (simp; done) | (simp; omega) | (simp at *; omega)))⟩
      · have hxte : (x.toList == []) = false := by simp [hxt]
        have hxti : x.toList.isEmpty = false := by simp [hxt]
        go_enter Tryd.func44, Tryd.ntmps44
        go_wp2_with fail
        go_ret
        exact ⟨by rw [HR.out]; first | (simp [dcheck, *]; done) | (simp [dcheck, *]; rw [if_neg (by omega)]; first | done | rfl | simp), by ((repeat' first | with_reducible exact Below.refl _ _ | with_reducible assumption | with_reducible refine Below.alloc ?_ ?_ _ | with_reducible refine Below.setCell ?_ ?_ _ | with_reducible apply Below.drew | with_reducible apply below_drewN | with_reducible refine below_call ?_ (by with_reducible assumption) ?_) <;> (first | omega | (simp; done) | (simp; omega) | (simp at *; omega)))⟩
set_option maxHeartbeats 16000000 in
theorem dcheckN (k : Int) (c q : Int) (y x : ByteArray) (r : Int) (w : World) (hy : y.size ≤ 1000000000) (hk : k < 0 ∨ 6 < k) :
    Calls Tryd.prog 44 #[.agg #[.int .i64 k, .int .i64 c, .int .i64 q, .string y, .string x, .int .i64 r]] w (Gives w (.int .i64 (dcheck k c q y x r (dbeg y) (dkey y) : Int))) := by
  obtain ⟨R, hR⟩ : ∃ R, R = dcheck k c q y x r (dbeg y) (dkey y) := ⟨_, rfl⟩
  rw [← hR]
  have hbe := fun W => dbeg_any y W hy
  have hke := fun W => dkey_any y W hy
  generalize dbeg y = kb at *
  generalize dkey y = kk at *
  have HR := Lib.hid hR
  clear hR
  by_cases hl : k < 0
  · clear hk
    go_enter Tryd.func44, Tryd.ntmps44
    go_wp2_with fail
    go_ret
    exact ⟨by rw [HR.out]; first | (simp [dcheck, *]; done) | (simp [dcheck, *]; rw [if_neg (by omega)]; first | done | rfl | simp), by ((repeat' first | with_reducible exact Below.refl _ _ | with_reducible assumption | with_reducible refine Below.alloc ?_ ?_ _ | with_reducible refine Below.setCell ?_ ?_ _ | with_reducible apply Below.drew | with_reducible apply below_drewN | with_reducible refine below_call ?_ (by with_reducible assumption) ?_) <;> (first | omega | (simp; done) | (simp; omega) | (simp at *; omega)))⟩
  · have hm : 6 < k := by omega
    clear hk
    go_enter Tryd.func44, Tryd.ntmps44
    go_wp2_with fail
    go_ret
    exact ⟨by rw [HR.out]; first | (simp [dcheck, *]; done) | (simp [dcheck, *]; rw [if_neg (by omega)]; first | done | rfl | simp), by ((repeat' first | with_reducible exact Below.refl _ _ | with_reducible assumption | with_reducible refine Below.alloc ?_ ?_ _ | with_reducible refine Below.setCell ?_ ?_ _ | with_reducible apply Below.drew | with_reducible apply below_drewN | with_reducible refine below_call ?_ (by with_reducible assumption) ?_) <;> (first | omega | (simp; done) | (simp; omega) | (simp at *; omega)))⟩
theorem dcheck_any (k c q : Int) (y x : ByteArray) (r : Int) (w : World) (hy : y.size ≤ 1000000000) :
    Calls Tryd.prog 44 #[.agg #[.int .i64 k, .int .i64 c, .int .i64 q, .string y, .string x, .int .i64 r]] w (Gives w (.int .i64 (dcheck k c q y x r (dbeg y) (dkey y) : Int))) := by
  by_cases h : k < 0 ∨ 6 < k
  · exact dcheckN k c q y x r w hy h
  · have : k = 0 ∨ k = 1 ∨ k = 2 ∨ k = 3 ∨ k = 4 ∨ k = 5 ∨ k = 6 := by omega
    rcases this with rfl | rfl | rfl | rfl | rfl | rfl | rfl
    · exact dcheck0 c q y x r w hy
    · exact dcheck1 c q y x r w hy
    · exact dcheck2 c q y x r w hy
    · exact dcheck3 c q y x r w hy
    · exact dcheck4 c q y x r w hy
    · exact dcheck5 c q y x r w hy
    · exact dcheck6 c q y x r w hy
end Go.Proofs.YtmgiholmhhjpaaaDoor
