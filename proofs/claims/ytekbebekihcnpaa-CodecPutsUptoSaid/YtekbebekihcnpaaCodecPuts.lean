/- The walk of the law CodecPuts. -/
import Derived.Test.YtekbebekihcnpaaCodecK
namespace Go.Proofs.Ytekbebekihcnpaa
open Go.RowKit
set_option linter.unusedVariables false
set_option linter.unusedSimpArgs false
set_option maxRecDepth 20000
attribute [local go_sem ↓] Go.wp_at_zero Go.wp_at_succ
attribute [local go_sem] World.cell?_alloc_some frozen_alloc_some
attribute [local go_sem] lt2 lt3 lt4 lt5
attribute [local simp] lt2 lt3 lt4 lt5

set_option maxHeartbeats 4000000 in
theorem puts03_walk (t : Tree) (v : Value) (w : World) (ht : Holds w t v) (hsz : tsize t ≤ 1048576) :
    Calls Try.prog 3 #[v] w (Gives w (.bool true)) := by
  have awake := awake03
  have hsize : ∀ W, Below w.heap.size w W → Calls Try.prog 10 #[v, .int .i64 600, .int .i64 40] W (Gives W (.int .i64 (csize 600 40 t : Int))) := fun W h => refsize_any 600 (by decide) 40 t v W (ht.keep h) hsz (by decide)
  have hput : ∀ W, Below w.heap.size w W → Calls Try.prog 12 #[v] W (Puts W .i64 5 (pform t) (perr t)) := fun W h => put3_any t v W (by omega) (ht.keep h)
  have href : ∀ W, Below w.heap.size w W → Calls Try.prog 13 #[v] W (Puts W .i64 5 (pform t) (perr t)) := fun W h => refput3_any t v W (by omega) (ht.keep h)
  have same : ∀ (W : World) (A B : Option Addr) (n c m d : Nat) (l : List Nat), Bytes W A n l → Bytes W B m l → Calls Try.prog 14 #[.slice A n c, .slice B m d] W (Gives W (.bool true)) := fun W A B n c m d l ha hb => by
    have := same_any A B n m c d l l W ha hb
    simpa using this
  obtain ⟨k, n, s, l⟩ := t
  obtain ⟨A, m, c, rfl, hk, hn, hs, hm, hmc, hc, hel⟩ := ht.open_
  clear hel hm ht hsz
  generalize csize 600 40 (.mk k n s l) = Z at *
  generalize pform (.mk k n s l) = F at *
  generalize perr (.mk k n s l) = E at *
  by_cases hZ : 600 < Z
  · have hZ' : (600 : Int) < (Z : Int) := by omega
    go_enter Try.func3, Try.ntmps3
    go_wp2_with fail
    refine (hsize _ (by ((repeat' first | with_reducible exact Below.refl _ _ | with_reducible assumption | with_reducible refine Below.alloc ?_ ?_ _ | with_reducible refine Below.setCell ?_ ?_ _ | with_reducible apply Below.drew | with_reducible apply below_drewN | with_reducible refine below_call ?_ (by with_reducible assumption) ?_) <;> (first | omega | (simp; done) | (simp; omega) | (simp at *; omega))))).mono ?_
    rintro e w1 ⟨rfl, hbw1⟩
    go_wp2_with fail
    refine (awake _).mono ?_
    rintro e w2 ⟨rfl, hbw2⟩
    go_wp2_with fail
    go_ret
    have z1 := hbw1.size
    simp at z1
    exact ⟨rfl, by ((repeat' first | with_reducible exact Below.refl _ _ | with_reducible assumption | with_reducible refine Below.alloc ?_ ?_ _ | with_reducible refine Below.setCell ?_ ?_ _ | with_reducible apply Below.drew | with_reducible apply below_drewN | with_reducible refine below_call ?_ (by with_reducible assumption) ?_) <;> (first | omega | (simp; done) | (simp; omega) | (simp at *; omega)))⟩
  · have hZ' : ¬ (600 : Int) < (Z : Int) := by omega
    go_enter Try.func3, Try.ntmps3
    go_wp2_with fail
    refine (hsize _ (by ((repeat' first | with_reducible exact Below.refl _ _ | with_reducible assumption | with_reducible refine Below.alloc ?_ ?_ _ | with_reducible refine Below.setCell ?_ ?_ _ | with_reducible apply Below.drew | with_reducible apply below_drewN | with_reducible refine below_call ?_ (by with_reducible assumption) ?_) <;> (first | omega | (simp; done) | (simp; omega) | (simp at *; omega))))).mono ?_
    rintro e w1 ⟨rfl, hbw1⟩
    have z1 := hbw1.size
    simp at z1
    obtain ⟨q0, _⟩ := new_keep hbw1 0 rfl
    obtain ⟨q1, _⟩ := new_keep hbw1 1 rfl
    obtain ⟨q2, _⟩ := new_keep hbw1 2 rfl
    obtain ⟨q3, _⟩ := new_keep hbw1 3 rfl
    simp at q0 q1 q2 q3
    have hb1 : Below w.heap.size w w1 := by ((repeat' first | with_reducible exact Below.refl _ _ | with_reducible assumption | with_reducible refine Below.alloc ?_ ?_ _ | with_reducible refine Below.setCell ?_ ?_ _ | with_reducible apply Below.drew | with_reducible apply below_drewN | with_reducible refine below_call ?_ (by with_reducible assumption) ?_) <;> (first | omega | (simp; done) | (simp; omega) | (simp at *; omega)))
    go_wp2_with fail
    refine (hput _ hb1).mono ?_
    rintro e w2 ⟨b2, rfl, hown2, hbw2⟩
    obtain ⟨A2, c2, rfl, _, _⟩ := hown2.form
    have z2 := hbw2.size
    replace q0 := cell_keep hbw2 q0
    replace q1 := cell_keep hbw2 q1
    replace q2 := cell_keep hbw2 q2
    replace q3 := cell_keep hbw2 q3
    have hb2 : Below w.heap.size w w2 := by ((repeat' first | with_reducible exact Below.refl _ _ | with_reducible assumption | with_reducible refine Below.alloc ?_ ?_ _ | with_reducible refine Below.setCell ?_ ?_ _ | with_reducible apply Below.drew | with_reducible apply below_drewN | with_reducible refine below_call ?_ (by with_reducible assumption) ?_) <;> (first | omega | (simp; done) | (simp; omega) | (simp at *; omega)))
    go_wp2_with fail
    refine (href _ hb2).mono ?_
    rintro e w3 ⟨b3, rfl, hown3, hbw3⟩
    obtain ⟨A3, c3, rfl, _, _⟩ := hown3.form
    have z3 := hbw3.size
    have hB2 := (hown2.keep hbw3).bytes.2.2
    have hB3 := hown3.bytes.2.2
    go_wp2_with fail
    refine (same _ _ _ _ _ _ _ F hB2 hB3).mono ?_
    rintro e w4 ⟨rfl, hbw4⟩
    have z4 := hbw4.size
    go_wp2_with fail
    refine (awake _).mono ?_
    rintro e w5 ⟨rfl, hbw5⟩
    go_wp2_with fail
    go_ret
    exact ⟨rfl, by ((repeat' first | with_reducible exact Below.refl _ _ | with_reducible assumption | with_reducible refine Below.alloc ?_ ?_ _ | with_reducible refine Below.setCell ?_ ?_ _ | with_reducible apply Below.drew | with_reducible apply below_drewN | with_reducible refine below_call ?_ (by with_reducible assumption) ?_) <;> (first | omega | (simp; done) | (simp; omega) | (simp at *; omega)))⟩
end Go.Proofs.Ytekbebekihcnpaa
