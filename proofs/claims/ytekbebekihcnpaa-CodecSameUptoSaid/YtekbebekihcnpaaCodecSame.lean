/- The walk of the law CodecSame. -/
import Derived.Test.YtekbebekihcnpaaCodecL
namespace Go.Proofs.Ytekbebekihcnpaa
open Go.RowKit
set_option linter.unusedVariables false
set_option linter.unusedSimpArgs false
set_option maxRecDepth 20000
attribute [local go_sem ↓] Go.wp_at_zero Go.wp_at_succ
attribute [local go_sem] World.cell?_alloc_some frozen_alloc_some
attribute [local go_sem] lt2 lt3 lt4 lt5
attribute [local simp] lt2 lt3 lt4 lt5

theorem pform_same {t u : Tree} (ht : perr t = 0) (hu : perr u = 0) : decide (pform t = pform u) = tsame t u := by
  have h1 : check t 0 = 0 := by
    cases h : check t 0 with
    | zero => rfl
    | succ n => simp [perr, h] at ht
  have h2 : check u 0 = 0 := by
    cases h : check u 0 with
    | zero => rfl
    | succ n => simp [perr, h] at hu
  simp only [pform, ht, hu, if_true]
  cases hs : tsame t u with
  | true => rw [tsame_iff.1 hs]; simp
  | false =>
    have : tform t ≠ tform u := fun h => by rw [tform_inj h1 h2 h, tsame_self] at hs; cases hs
    simp [this]

set_option maxHeartbeats 16000000 in
theorem same03_walk (t u : Tree) (v x : Value) (w : World) (ht : Holds w t v) (hu : Holds w u x) (hsz : tsize t ≤ 1048576) (hsu : tsize u ≤ 1048576) :
    Calls Try.prog 4 #[v, x] w (Gives w (.bool true)) := by
  have awake := awake03
  have hs1 : ∀ W, Below w.heap.size w W → Calls Try.prog 10 #[v, .int .i64 600, .int .i64 40] W (Gives W (.int .i64 (csize 600 40 t : Int))) := fun W h => refsize_any 600 (by decide) 40 t v W (ht.keep h) hsz (by decide)
  have hs2 : ∀ W, Below w.heap.size w W → Calls Try.prog 10 #[x, .int .i64 600, .int .i64 40] W (Gives W (.int .i64 (csize 600 40 u : Int))) := fun W h => refsize_any 600 (by decide) 40 u x W (hu.keep h) hsu (by decide)
  have hrs : ∀ W, Below w.heap.size w W → Calls Try.prog 15 #[v, x] W (Gives W (.bool (tsame t u))) := fun W h => resame_any t u v x W (ht.keep h) (hu.keep h)
  have hcs : ∀ W, Below w.heap.size w W → Calls Try.prog 16 #[v, x] W (Gives W (.bool (tsame t u))) := fun W h => codecsame_any t u v x W (ht.keep h) (hu.keep h)
  have hxx : ∀ W, Below w.heap.size w W → Calls Try.prog 16 #[v, v] W (Gives W (.bool true)) := fun W h => by rw [← tsame_self t]; exact codecsame_any t t v v W (ht.keep h) (ht.keep h)
  have hp1 : ∀ W, Below w.heap.size w W → Calls Try.prog 12 #[v] W (Puts W .i64 5 (pform t) (perr t)) := fun W h => put3_any t v W (by omega) (ht.keep h)
  have hp2 : ∀ W, Below w.heap.size w W → Calls Try.prog 12 #[x] W (Puts W .i64 5 (pform u) (perr u)) := fun W h => put3_any u x W (by omega) (hu.keep h)
  have hY : perr t = 0 → perr u = 0 → decide (pform t = pform u) = tsame t u := fun a b => pform_same a b
  obtain ⟨k, n, s, l⟩ := t
  obtain ⟨k2, n2, s2, l2⟩ := u
  obtain ⟨A, m, c, rfl, hk, hn, hs, hm, hmc, hc, hel⟩ := ht.open_
  obtain ⟨B, m2, c2, rfl, hk2, hn2, hs2', hm2, hmc2, hc2, hel2⟩ := hu.open_
  clear hel hm ht hsz hel2 hm2 hu hsu
  generalize csize 600 40 (.mk k n s l) = Z at *
  generalize csize 600 40 (.mk k2 n2 s2 l2) = Z2 at *
  generalize pform (.mk k n s l) = a at *
  generalize pform (.mk k2 n2 s2 l2) = b at *
  generalize perr (.mk k n s l) = E at *
  generalize perr (.mk k2 n2 s2 l2) = F at *
  generalize tsame (.mk k n s l) (.mk k2 n2 s2 l2) = X at *
  by_cases hZ : 600 < Z
  · have hZ' : (600 : Int) < (Z : Int) := by omega
    go_enter Try.func4, Try.ntmps4
    go_wp2_with fail
    refine (hs1 _ (by ((repeat' first | with_reducible exact Below.refl _ _ | with_reducible assumption | with_reducible refine Below.alloc ?_ ?_ _ | with_reducible refine Below.setCell ?_ ?_ _ | with_reducible apply Below.drew | with_reducible apply below_drewN | with_reducible refine below_call ?_ (by with_reducible assumption) ?_) <;> (first | omega | (simp; done) | (simp; omega) | (simp at *; omega))))).mono ?_
    rintro e w1 ⟨rfl, hbw1⟩
    have z1 := hbw1.size
    simp at z1
    go_wp2_with fail
    refine (awake _).mono ?_
    rintro e w2 ⟨rfl, hbw2⟩
    go_wp2_with fail
    go_ret
    exact ⟨rfl, by ((repeat' first | with_reducible exact Below.refl _ _ | with_reducible assumption | with_reducible refine Below.alloc ?_ ?_ _ | with_reducible refine Below.setCell ?_ ?_ _ | with_reducible apply Below.drew | with_reducible apply below_drewN | with_reducible refine below_call ?_ (by with_reducible assumption) ?_) <;> (first | omega | (simp; done) | (simp; omega) | (simp at *; omega)))⟩
  have hZ' : ¬ (600 : Int) < (Z : Int) := by omega
  by_cases hZ2 : 600 < Z2
  · have hZ2' : (600 : Int) < (Z2 : Int) := by omega
    go_enter Try.func4, Try.ntmps4
    go_wp2_with fail
    refine (hs1 _ (by ((repeat' first | with_reducible exact Below.refl _ _ | with_reducible assumption | with_reducible refine Below.alloc ?_ ?_ _ | with_reducible refine Below.setCell ?_ ?_ _ | with_reducible apply Below.drew | with_reducible apply below_drewN | with_reducible refine below_call ?_ (by with_reducible assumption) ?_) <;> (first | omega | (simp; done) | (simp; omega) | (simp at *; omega))))).mono ?_
    rintro e w1 ⟨rfl, hbw1⟩
    have z1 := hbw1.size
    simp at z1
    have p0 : w1.cell? ⟨w.heap.size + 1, 0, none⟩ = _ := (by simpa using (new_keep hbw1 0 rfl).1)
    have p1 : w1.cell? ⟨w.heap.size + 1, 1, none⟩ = _ := (by simpa using (new_keep hbw1 1 rfl).1)
    have p2 : w1.cell? ⟨w.heap.size + 1, 2, none⟩ = _ := (by simpa using (new_keep hbw1 2 rfl).1)
    have p3 : w1.cell? ⟨w.heap.size + 1, 3, none⟩ = _ := (by simpa using (new_keep hbw1 3 rfl).1)
    have hb1 : Below w.heap.size w w1 := by ((repeat' first | with_reducible exact Below.refl _ _ | with_reducible assumption | with_reducible refine Below.alloc ?_ ?_ _ | with_reducible refine Below.setCell ?_ ?_ _ | with_reducible apply Below.drew | with_reducible apply below_drewN | with_reducible refine below_call ?_ (by with_reducible assumption) ?_) <;> (first | omega | (simp; done) | (simp; omega) | (simp at *; omega)))
    go_wp2_with fail
    refine (hs2 _ hb1).mono ?_
    rintro e w2 ⟨rfl, hbw2⟩
    have z2 := hbw2.size
    go_wp2_with fail
    refine (awake _).mono ?_
    rintro e w3 ⟨rfl, hbw3⟩
    go_wp2_with fail
    go_ret
    exact ⟨rfl, by ((repeat' first | with_reducible exact Below.refl _ _ | with_reducible assumption | with_reducible refine Below.alloc ?_ ?_ _ | with_reducible refine Below.setCell ?_ ?_ _ | with_reducible apply Below.drew | with_reducible apply below_drewN | with_reducible refine below_call ?_ (by with_reducible assumption) ?_) <;> (first | omega | (simp; done) | (simp; omega) | (simp at *; omega)))⟩
  have hZ2' : ¬ (600 : Int) < (Z2 : Int) := by omega
  cases X with
  | true =>
    go_enter Try.func4, Try.ntmps4
    go_wp2_with fail
    refine (hs1 _ (by ((repeat' first | with_reducible exact Below.refl _ _ | with_reducible assumption | with_reducible refine Below.alloc ?_ ?_ _ | with_reducible refine Below.setCell ?_ ?_ _ | with_reducible apply Below.drew | with_reducible apply below_drewN | with_reducible refine below_call ?_ (by with_reducible assumption) ?_) <;> (first | omega | (simp; done) | (simp; omega) | (simp at *; omega))))).mono ?_
    rintro e w1 ⟨rfl, hbw1⟩
    have z1 := hbw1.size
    simp at z1
    have p0 : w1.cell? ⟨w.heap.size + 1, 0, none⟩ = _ := (by simpa using (new_keep hbw1 0 rfl).1)
    have p1 : w1.cell? ⟨w.heap.size + 1, 1, none⟩ = _ := (by simpa using (new_keep hbw1 1 rfl).1)
    have p2 : w1.cell? ⟨w.heap.size + 1, 2, none⟩ = _ := (by simpa using (new_keep hbw1 2 rfl).1)
    have p3 : w1.cell? ⟨w.heap.size + 1, 3, none⟩ = _ := (by simpa using (new_keep hbw1 3 rfl).1)
    have q0 : w1.cell? ⟨w.heap.size, 0, none⟩ = _ := cell_keep hbw1 (cell_alloc (new_cell w _ _ 0 rfl).1)
    have q1 : w1.cell? ⟨w.heap.size, 1, none⟩ = _ := cell_keep hbw1 (cell_alloc (new_cell w _ _ 1 rfl).1)
    have q2 : w1.cell? ⟨w.heap.size, 2, none⟩ = _ := cell_keep hbw1 (cell_alloc (new_cell w _ _ 2 rfl).1)
    have q3 : w1.cell? ⟨w.heap.size, 3, none⟩ = _ := cell_keep hbw1 (cell_alloc (new_cell w _ _ 3 rfl).1)
    have hb1 : Below w.heap.size w w1 := by ((repeat' first | with_reducible exact Below.refl _ _ | with_reducible assumption | with_reducible refine Below.alloc ?_ ?_ _ | with_reducible refine Below.setCell ?_ ?_ _ | with_reducible apply Below.drew | with_reducible apply below_drewN | with_reducible refine below_call ?_ (by with_reducible assumption) ?_) <;> (first | omega | (simp; done) | (simp; omega) | (simp at *; omega)))
    go_wp2_with fail
    refine (hs2 _ hb1).mono ?_
    rintro e w2 ⟨rfl, hbw2⟩
    have z2 := hbw2.size
    replace q0 := cell_keep hbw2 q0
    replace q1 := cell_keep hbw2 q1
    replace q2 := cell_keep hbw2 q2
    replace q3 := cell_keep hbw2 q3
    replace p0 := cell_keep hbw2 p0
    replace p1 := cell_keep hbw2 p1
    replace p2 := cell_keep hbw2 p2
    replace p3 := cell_keep hbw2 p3
    have hb2 : Below w.heap.size w w2 := by ((repeat' first | with_reducible exact Below.refl _ _ | with_reducible assumption | with_reducible refine Below.alloc ?_ ?_ _ | with_reducible refine Below.setCell ?_ ?_ _ | with_reducible apply Below.drew | with_reducible apply below_drewN | with_reducible refine below_call ?_ (by with_reducible assumption) ?_) <;> (first | omega | (simp; done) | (simp; omega) | (simp at *; omega)))
    go_wp2_with fail
    refine (hrs _ hb2).mono ?_
    rintro e w3 ⟨rfl, hbw3⟩
    have z3 := hbw3.size
    replace q0 := cell_keep hbw3 q0
    replace q1 := cell_keep hbw3 q1
    replace q2 := cell_keep hbw3 q2
    replace q3 := cell_keep hbw3 q3
    replace p0 := cell_keep hbw3 p0
    replace p1 := cell_keep hbw3 p1
    replace p2 := cell_keep hbw3 p2
    replace p3 := cell_keep hbw3 p3
    have hb3 : Below w.heap.size w w3 := by ((repeat' first | with_reducible exact Below.refl _ _ | with_reducible assumption | with_reducible refine Below.alloc ?_ ?_ _ | with_reducible refine Below.setCell ?_ ?_ _ | with_reducible apply Below.drew | with_reducible apply below_drewN | with_reducible refine below_call ?_ (by with_reducible assumption) ?_) <;> (first | omega | (simp; done) | (simp; omega) | (simp at *; omega)))
    go_wp2_with fail
    refine (hcs _ hb3).mono ?_
    rintro e w4 ⟨rfl, hbw4⟩
    have z4 := hbw4.size
    replace q0 := cell_keep hbw4 q0
    replace q1 := cell_keep hbw4 q1
    replace q2 := cell_keep hbw4 q2
    replace q3 := cell_keep hbw4 q3
    replace p0 := cell_keep hbw4 p0
    replace p1 := cell_keep hbw4 p1
    replace p2 := cell_keep hbw4 p2
    replace p3 := cell_keep hbw4 p3
    have hb4 : Below w.heap.size w w4 := by ((repeat' first | with_reducible exact Below.refl _ _ | with_reducible assumption | with_reducible refine Below.alloc ?_ ?_ _ | with_reducible refine Below.setCell ?_ ?_ _ | with_reducible apply Below.drew | with_reducible apply below_drewN | with_reducible refine below_call ?_ (by with_reducible assumption) ?_) <;> (first | omega | (simp; done) | (simp; omega) | (simp at *; omega)))
    go_wp2_with fail
    refine (hxx _ hb4).mono ?_
    rintro e w5 ⟨rfl, hbw5⟩
    have z5 := hbw5.size
    replace q0 := cell_keep hbw5 q0
    replace q1 := cell_keep hbw5 q1
    replace q2 := cell_keep hbw5 q2
    replace q3 := cell_keep hbw5 q3
    replace p0 := cell_keep hbw5 p0
    replace p1 := cell_keep hbw5 p1
    replace p2 := cell_keep hbw5 p2
    replace p3 := cell_keep hbw5 p3
    have hb5 : Below w.heap.size w w5 := by ((repeat' first | with_reducible exact Below.refl _ _ | with_reducible assumption | with_reducible refine Below.alloc ?_ ?_ _ | with_reducible refine Below.setCell ?_ ?_ _ | with_reducible apply Below.drew | with_reducible apply below_drewN | with_reducible refine below_call ?_ (by with_reducible assumption) ?_) <;> (first | omega | (simp; done) | (simp; omega) | (simp at *; omega)))
    go_wp2_with fail
    refine (hp1 _ hb5).mono ?_
    rintro e w6 ⟨b6, rfl, hown6, hbw6⟩
    obtain ⟨A6, c6, rfl, _, _⟩ := hown6.form
    have z6 := hbw6.size
    replace q0 := cell_keep hbw6 q0
    replace q1 := cell_keep hbw6 q1
    replace q2 := cell_keep hbw6 q2
    replace q3 := cell_keep hbw6 q3
    replace p0 := cell_keep hbw6 p0
    replace p1 := cell_keep hbw6 p1
    replace p2 := cell_keep hbw6 p2
    replace p3 := cell_keep hbw6 p3
    have hb6 : Below w.heap.size w w6 := by ((repeat' first | with_reducible exact Below.refl _ _ | with_reducible assumption | with_reducible refine Below.alloc ?_ ?_ _ | with_reducible refine Below.setCell ?_ ?_ _ | with_reducible apply Below.drew | with_reducible apply below_drewN | with_reducible refine below_call ?_ (by with_reducible assumption) ?_) <;> (first | omega | (simp; done) | (simp; omega) | (simp at *; omega)))
    go_wp2_with fail
    refine (hp2 _ hb6).mono ?_
    rintro e w7 ⟨b7, rfl, hown7, hbw7⟩
    obtain ⟨A7, c7, rfl, _, _⟩ := hown7.form
    have z7 := hbw7.size
    have hb7 : Below w.heap.size w w7 := by ((repeat' first | with_reducible exact Below.refl _ _ | with_reducible assumption | with_reducible refine Below.alloc ?_ ?_ _ | with_reducible refine Below.setCell ?_ ?_ _ | with_reducible apply Below.drew | with_reducible apply below_drewN | with_reducible refine below_call ?_ (by with_reducible assumption) ?_) <;> (first | omega | (simp; done) | (simp; omega) | (simp at *; omega)))
    have hB6 := (hown6.keep hbw7).bytes.2.2
    have hB7 := hown7.bytes.2.2
    by_cases hE : E = 0
    · subst hE
      by_cases hF : F = 0
      · subst hF
        have hsm := same_any A6 A7 _ _ c6 c7 _ _ w7 hB6 hB7
        rw [show decide (a = b) = true from hY rfl rfl] at hsm
        go_wp2_with fail
        refine hsm.mono ?_
        rintro e w8 ⟨rfl, hbw8⟩
        have z8 := hbw8.size
        go_wp2_with fail
        refine (awake _).mono ?_
        rintro e w9 ⟨rfl, hbw9⟩
        go_wp2_with fail
        go_ret
        exact ⟨rfl, by ((repeat' first | with_reducible exact Below.refl _ _ | with_reducible assumption | with_reducible refine Below.alloc ?_ ?_ _ | with_reducible refine Below.setCell ?_ ?_ _ | with_reducible apply Below.drew | with_reducible apply below_drewN | with_reducible refine below_call ?_ (by with_reducible assumption) ?_) <;> (first | omega | (simp; done) | (simp; omega) | (simp at *; omega)))⟩
      · have hF' : ((F : Int) != 0) = true := by simp; omega
        go_wp2_with fail
        refine (awake _).mono ?_
        rintro e w9 ⟨rfl, hbw9⟩
        go_wp2_with fail
        go_ret
        exact ⟨rfl, by ((repeat' first | with_reducible exact Below.refl _ _ | with_reducible assumption | with_reducible refine Below.alloc ?_ ?_ _ | with_reducible refine Below.setCell ?_ ?_ _ | with_reducible apply Below.drew | with_reducible apply below_drewN | with_reducible refine below_call ?_ (by with_reducible assumption) ?_) <;> (first | omega | (simp; done) | (simp; omega) | (simp at *; omega)))⟩
    · have hE' : ((E : Int) != 0) = true := by simp; omega
      go_wp2_with fail
      refine (awake _).mono ?_
      rintro e w9 ⟨rfl, hbw9⟩
      go_wp2_with fail
      go_ret
      exact ⟨rfl, by ((repeat' first | with_reducible exact Below.refl _ _ | with_reducible assumption | with_reducible refine Below.alloc ?_ ?_ _ | with_reducible refine Below.setCell ?_ ?_ _ | with_reducible apply Below.drew | with_reducible apply below_drewN | with_reducible refine below_call ?_ (by with_reducible assumption) ?_) <;> (first | omega | (simp; done) | (simp; omega) | (simp at *; omega)))⟩
  | false =>
    go_enter Try.func4, Try.ntmps4
    go_wp2_with fail
    refine (hs1 _ (by ((repeat' first | with_reducible exact Below.refl _ _ | with_reducible assumption | with_reducible refine Below.alloc ?_ ?_ _ | with_reducible refine Below.setCell ?_ ?_ _ | with_reducible apply Below.drew | with_reducible apply below_drewN | with_reducible refine below_call ?_ (by with_reducible assumption) ?_) <;> (first | omega | (simp; done) | (simp; omega) | (simp at *; omega))))).mono ?_
    rintro e w1 ⟨rfl, hbw1⟩
    have z1 := hbw1.size
    simp at z1
    have p0 : w1.cell? ⟨w.heap.size + 1, 0, none⟩ = _ := (by simpa using (new_keep hbw1 0 rfl).1)
    have p1 : w1.cell? ⟨w.heap.size + 1, 1, none⟩ = _ := (by simpa using (new_keep hbw1 1 rfl).1)
    have p2 : w1.cell? ⟨w.heap.size + 1, 2, none⟩ = _ := (by simpa using (new_keep hbw1 2 rfl).1)
    have p3 : w1.cell? ⟨w.heap.size + 1, 3, none⟩ = _ := (by simpa using (new_keep hbw1 3 rfl).1)
    have q0 : w1.cell? ⟨w.heap.size, 0, none⟩ = _ := cell_keep hbw1 (cell_alloc (new_cell w _ _ 0 rfl).1)
    have q1 : w1.cell? ⟨w.heap.size, 1, none⟩ = _ := cell_keep hbw1 (cell_alloc (new_cell w _ _ 1 rfl).1)
    have q2 : w1.cell? ⟨w.heap.size, 2, none⟩ = _ := cell_keep hbw1 (cell_alloc (new_cell w _ _ 2 rfl).1)
    have q3 : w1.cell? ⟨w.heap.size, 3, none⟩ = _ := cell_keep hbw1 (cell_alloc (new_cell w _ _ 3 rfl).1)
    have hb1 : Below w.heap.size w w1 := by ((repeat' first | with_reducible exact Below.refl _ _ | with_reducible assumption | with_reducible refine Below.alloc ?_ ?_ _ | with_reducible refine Below.setCell ?_ ?_ _ | with_reducible apply Below.drew | with_reducible apply below_drewN | with_reducible refine below_call ?_ (by with_reducible assumption) ?_) <;> (first | omega | (simp; done) | (simp; omega) | (simp at *; omega)))
    go_wp2_with fail
    refine (hs2 _ hb1).mono ?_
    rintro e w2 ⟨rfl, hbw2⟩
    have z2 := hbw2.size
    replace q0 := cell_keep hbw2 q0
    replace q1 := cell_keep hbw2 q1
    replace q2 := cell_keep hbw2 q2
    replace q3 := cell_keep hbw2 q3
    replace p0 := cell_keep hbw2 p0
    replace p1 := cell_keep hbw2 p1
    replace p2 := cell_keep hbw2 p2
    replace p3 := cell_keep hbw2 p3
    have hb2 : Below w.heap.size w w2 := by ((repeat' first | with_reducible exact Below.refl _ _ | with_reducible assumption | with_reducible refine Below.alloc ?_ ?_ _ | with_reducible refine Below.setCell ?_ ?_ _ | with_reducible apply Below.drew | with_reducible apply below_drewN | with_reducible refine below_call ?_ (by with_reducible assumption) ?_) <;> (first | omega | (simp; done) | (simp; omega) | (simp at *; omega)))
    go_wp2_with fail
    refine (hrs _ hb2).mono ?_
    rintro e w3 ⟨rfl, hbw3⟩
    have z3 := hbw3.size
    replace q0 := cell_keep hbw3 q0
    replace q1 := cell_keep hbw3 q1
    replace q2 := cell_keep hbw3 q2
    replace q3 := cell_keep hbw3 q3
    replace p0 := cell_keep hbw3 p0
    replace p1 := cell_keep hbw3 p1
    replace p2 := cell_keep hbw3 p2
    replace p3 := cell_keep hbw3 p3
    have hb3 : Below w.heap.size w w3 := by ((repeat' first | with_reducible exact Below.refl _ _ | with_reducible assumption | with_reducible refine Below.alloc ?_ ?_ _ | with_reducible refine Below.setCell ?_ ?_ _ | with_reducible apply Below.drew | with_reducible apply below_drewN | with_reducible refine below_call ?_ (by with_reducible assumption) ?_) <;> (first | omega | (simp; done) | (simp; omega) | (simp at *; omega)))
    go_wp2_with fail
    refine (hcs _ hb3).mono ?_
    rintro e w4 ⟨rfl, hbw4⟩
    have z4 := hbw4.size
    replace q0 := cell_keep hbw4 q0
    replace q1 := cell_keep hbw4 q1
    replace q2 := cell_keep hbw4 q2
    replace q3 := cell_keep hbw4 q3
    replace p0 := cell_keep hbw4 p0
    replace p1 := cell_keep hbw4 p1
    replace p2 := cell_keep hbw4 p2
    replace p3 := cell_keep hbw4 p3
    have hb4 : Below w.heap.size w w4 := by ((repeat' first | with_reducible exact Below.refl _ _ | with_reducible assumption | with_reducible refine Below.alloc ?_ ?_ _ | with_reducible refine Below.setCell ?_ ?_ _ | with_reducible apply Below.drew | with_reducible apply below_drewN | with_reducible refine below_call ?_ (by with_reducible assumption) ?_) <;> (first | omega | (simp; done) | (simp; omega) | (simp at *; omega)))
    go_wp2_with fail
    refine (hxx _ hb4).mono ?_
    rintro e w5 ⟨rfl, hbw5⟩
    have z5 := hbw5.size
    replace q0 := cell_keep hbw5 q0
    replace q1 := cell_keep hbw5 q1
    replace q2 := cell_keep hbw5 q2
    replace q3 := cell_keep hbw5 q3
    replace p0 := cell_keep hbw5 p0
    replace p1 := cell_keep hbw5 p1
    replace p2 := cell_keep hbw5 p2
    replace p3 := cell_keep hbw5 p3
    have hb5 : Below w.heap.size w w5 := by ((repeat' first | with_reducible exact Below.refl _ _ | with_reducible assumption | with_reducible refine Below.alloc ?_ ?_ _ | with_reducible refine Below.setCell ?_ ?_ _ | with_reducible apply Below.drew | with_reducible apply below_drewN | with_reducible refine below_call ?_ (by with_reducible assumption) ?_) <;> (first | omega | (simp; done) | (simp; omega) | (simp at *; omega)))
    go_wp2_with fail
    refine (hp1 _ hb5).mono ?_
    rintro e w6 ⟨b6, rfl, hown6, hbw6⟩
    obtain ⟨A6, c6, rfl, _, _⟩ := hown6.form
    have z6 := hbw6.size
    replace q0 := cell_keep hbw6 q0
    replace q1 := cell_keep hbw6 q1
    replace q2 := cell_keep hbw6 q2
    replace q3 := cell_keep hbw6 q3
    replace p0 := cell_keep hbw6 p0
    replace p1 := cell_keep hbw6 p1
    replace p2 := cell_keep hbw6 p2
    replace p3 := cell_keep hbw6 p3
    have hb6 : Below w.heap.size w w6 := by ((repeat' first | with_reducible exact Below.refl _ _ | with_reducible assumption | with_reducible refine Below.alloc ?_ ?_ _ | with_reducible refine Below.setCell ?_ ?_ _ | with_reducible apply Below.drew | with_reducible apply below_drewN | with_reducible refine below_call ?_ (by with_reducible assumption) ?_) <;> (first | omega | (simp; done) | (simp; omega) | (simp at *; omega)))
    go_wp2_with fail
    refine (hp2 _ hb6).mono ?_
    rintro e w7 ⟨b7, rfl, hown7, hbw7⟩
    obtain ⟨A7, c7, rfl, _, _⟩ := hown7.form
    have z7 := hbw7.size
    have hb7 : Below w.heap.size w w7 := by ((repeat' first | with_reducible exact Below.refl _ _ | with_reducible assumption | with_reducible refine Below.alloc ?_ ?_ _ | with_reducible refine Below.setCell ?_ ?_ _ | with_reducible apply Below.drew | with_reducible apply below_drewN | with_reducible refine below_call ?_ (by with_reducible assumption) ?_) <;> (first | omega | (simp; done) | (simp; omega) | (simp at *; omega)))
    have hB6 := (hown6.keep hbw7).bytes.2.2
    have hB7 := hown7.bytes.2.2
    by_cases hE : E = 0
    · subst hE
      by_cases hF : F = 0
      · subst hF
        have hsm := same_any A6 A7 _ _ c6 c7 _ _ w7 hB6 hB7
        rw [show decide (a = b) = false from hY rfl rfl] at hsm
        go_wp2_with fail
        refine hsm.mono ?_
        rintro e w8 ⟨rfl, hbw8⟩
        have z8 := hbw8.size
        go_wp2_with fail
        refine (awake _).mono ?_
        rintro e w9 ⟨rfl, hbw9⟩
        go_wp2_with fail
        go_ret
        exact ⟨rfl, by ((repeat' first | with_reducible exact Below.refl _ _ | with_reducible assumption | with_reducible refine Below.alloc ?_ ?_ _ | with_reducible refine Below.setCell ?_ ?_ _ | with_reducible apply Below.drew | with_reducible apply below_drewN | with_reducible refine below_call ?_ (by with_reducible assumption) ?_) <;> (first | omega | (simp; done) | (simp; omega) | (simp at *; omega)))⟩
      · have hF' : ((F : Int) != 0) = true := by simp; omega
        go_wp2_with fail
        refine (awake _).mono ?_
        rintro e w9 ⟨rfl, hbw9⟩
        go_wp2_with fail
        go_ret
        exact ⟨rfl, by ((repeat' first | with_reducible exact Below.refl _ _ | with_reducible assumption | with_reducible refine Below.alloc ?_ ?_ _ | with_reducible refine Below.setCell ?_ ?_ _ | with_reducible apply Below.drew | with_reducible apply below_drewN | with_reducible refine below_call ?_ (by with_reducible assumption) ?_) <;> (first | omega | (simp; done) | (simp; omega) | (simp at *; omega)))⟩
    · have hE' : ((E : Int) != 0) = true := by simp; omega
      go_wp2_with fail
      refine (awake _).mono ?_
      rintro e w9 ⟨rfl, hbw9⟩
      go_wp2_with fail
      go_ret
      exact ⟨rfl, by ((repeat' first | with_reducible exact Below.refl _ _ | with_reducible assumption | with_reducible refine Below.alloc ?_ ?_ _ | with_reducible refine Below.setCell ?_ ?_ _ | with_reducible apply Below.drew | with_reducible apply below_drewN | with_reducible refine below_call ?_ (by with_reducible assumption) ?_) <;> (first | omega | (simp; done) | (simp; omega) | (simp at *; omega)))⟩
end Go.Proofs.Ytekbebekihcnpaa
