/- The walk of the law CodecGets. -/
import Derived.Test.YtekbebekihcnpaaRefGet
import Derived.Test.YtekbebekihcnpaaCodecK
namespace Go.Proofs.Ytekbebekihcnpaa
open Go.RowKit
set_option linter.unusedVariables false
set_option linter.unusedSimpArgs false
set_option maxRecDepth 20000
attribute [local go_sem ↓] Go.wp_at_zero Go.wp_at_succ
attribute [local go_sem] World.cell?_alloc_some frozen_alloc_some
attribute [local go_sem] lt2 lt3 lt4 lt5
attribute [local simp] lt2 lt3 lt4 lt5

set_option maxHeartbeats 8000000 in
theorem gets_walk (A : Option Addr) (n cap : Nat) (L : List Nat) (w : World) (hb : Bytes w A n L) (hnc : n ≤ cap) (hcm : cap ≤ maxLen) :
    Calls Try.prog 7 #[.slice A n cap] w (Gives w (.bool true)) := by
  have awake : ∀ W, Calls Try.prog 11 #[] W (Gives W (.bool true)) := awake03
  by_cases hn : (600 : Int) < (n : Int)
  · go_enter Try.func7, Try.ntmps7
    go_wp2_with fail
    refine (awake _).mono ?_
    rintro e w1 ⟨rfl, hbw1⟩
    go_wp2_with fail
    go_ret
    exact ⟨rfl, by ((repeat' first | with_reducible exact Below.refl _ _ | with_reducible assumption | with_reducible refine Below.alloc ?_ ?_ _ | with_reducible refine Below.setCell ?_ ?_ _ | with_reducible apply Below.drew | with_reducible apply below_drewN | with_reducible refine below_call ?_ (by with_reducible assumption) ?_) <;> (first | omega | (simp; done) | (simp; omega) | (simp at *; omega)))⟩
  · have hg1 := get3_any A n cap L w hb hnc hcm
    have hg2 : ∀ W, Below w.heap.size w W → Calls Try.prog 24 #[.slice A n cap] W (Gets W (cget L)) := fun W h => refget3_any A n cap L W (hb.keep h) hnc hcm
    generalize cget L = x at *
    obtain ⟨t, e, p⟩ := x
    clear hb hnc hcm
    go_enter Try.func7, Try.ntmps7
    go_wp2_with fail
    refine hg1.mono ?_
    rintro r w1 ⟨v1, rfl, h1, hbw1⟩
    obtain ⟨k1, n1, s1, A1, m1, c1, rfl⟩ := h1.form
    have H1 := Lib.hid h1
    have z1 := hbw1.size
    simp only
    clear h1
    go_wp2_with fail
    refine (hg2 _ (by ((repeat' first | with_reducible exact Below.refl _ _ | with_reducible assumption | with_reducible refine Below.alloc ?_ ?_ _ | with_reducible refine Below.setCell ?_ ?_ _ | with_reducible apply Below.drew | with_reducible apply below_drewN | with_reducible refine below_call ?_ (by with_reducible assumption) ?_) <;> (first | omega | (simp; done) | (simp; omega) | (simp at *; omega))))).mono ?_
    rintro r w2 ⟨v2, rfl, h2, hbw2⟩
    obtain ⟨k2, n2, s2, A2, m2, c2, rfl⟩ := h2.form
    have H2 := Lib.hid h2
    simp only
    have z2 := hbw2.size
    simp at z2
    obtain ⟨q0, r0⟩ := new_keep hbw2 0 rfl
    obtain ⟨q1, r1⟩ := new_keep hbw2 1 rfl
    obtain ⟨q2, r2⟩ := new_keep hbw2 2 rfl
    obtain ⟨q3, r3⟩ := new_keep hbw2 3 rfl
    have hw12 : Below w1.heap.size w1 w2 := by ((repeat' first | with_reducible exact Below.refl _ _ | with_reducible assumption | with_reducible refine Below.alloc ?_ ?_ _ | with_reducible refine Below.setCell ?_ ?_ _ | with_reducible apply Below.drew | with_reducible apply below_drewN | with_reducible refine below_call ?_ (by with_reducible assumption) ?_) <;> (first | omega | (simp; done) | (simp; omega) | (simp at *; omega)))
    have hbk : Below w.heap.size w w2 := by ((repeat' first | with_reducible exact Below.refl _ _ | with_reducible assumption | with_reducible refine Below.alloc ?_ ?_ _ | with_reducible refine Below.setCell ?_ ?_ _ | with_reducible apply Below.drew | with_reducible apply below_drewN | with_reducible refine below_call ?_ (by with_reducible assumption) ?_) <;> (first | omega | (simp; done) | (simp; omega) | (simp at *; omega)))
    have hal : Below w2.heap.size w2 (w2.alloc (.cells #[.int .i64 k2, .int .u64 n2, .string s2, .slice A2 m2 c2] 25)) := below_one _
    have hsame := resame_any t t _ _ _ ((H1.out.holds.keep hw12).keep hal) (H2.out.holds.keep hal)
    rw [tsame_self] at hsame
    clear h2 hg1 hg2
    go_wp2_with fail
    refine hsame.mono ?_
    rintro e w4 ⟨rfl, hbw4⟩
    have hz4 := hbw4.size
    simp at hz4
    have hbk4 : Below w.heap.size w w4 := by ((repeat' first | with_reducible exact Below.refl _ _ | with_reducible assumption | with_reducible refine Below.alloc ?_ ?_ _ | with_reducible refine Below.setCell ?_ ?_ _ | with_reducible apply Below.drew | with_reducible apply below_drewN | with_reducible refine below_call ?_ (by with_reducible assumption) ?_) <;> (first | omega | (simp; done) | (simp; omega) | (simp at *; omega)))
    go_wp2_with fail
    refine (awake _).mono ?_
    rintro e w9 ⟨rfl, hbw9⟩
    go_wp2_with fail
    go_ret
    exact ⟨rfl, by ((repeat' first | with_reducible exact Below.refl _ _ | with_reducible assumption | with_reducible refine Below.alloc ?_ ?_ _ | with_reducible refine Below.setCell ?_ ?_ _ | with_reducible apply Below.drew | with_reducible apply below_drewN | with_reducible refine below_call ?_ (by with_reducible assumption) ?_) <;> (first | omega | (simp; done) | (simp; omega) | (simp at *; omega)))⟩
end Go.Proofs.Ytekbebekihcnpaa
