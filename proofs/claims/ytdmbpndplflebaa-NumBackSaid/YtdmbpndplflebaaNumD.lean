/- The walks of the laws of package stonecroplaw01 on numbers, and of their examples. -/
import Derived.Test.YtdmbpndplflebaaNumC
namespace Go.Proofs.Ytdmbpndplflebaa
open Go.RowKit
set_option linter.unusedVariables false
set_option linter.unusedSimpArgs false
set_option maxRecDepth 20000
attribute [local go_sem ↓] Go.wp_at_zero Go.wp_at_succ
attribute [local go_sem] World.cell?_alloc_some frozen_alloc_some
attribute [local go_sem] lt2 lt3 lt4 lt5
attribute [local simp] lt2 lt3 lt4 lt5

theorem put_nil (v : Nat) (w : World) (hv : v < 2 ^ 64) : Calls Try.prog 24 #[.slice none 0 0, .int .u64 (v : Int)] w (Makes w 5 (form v)) :=
  (put_any _ [] w.heap.size v w (OwnB.nil_ _ _ _) (Nat.le_refl _) (by simp) hv).mono fun e w' ⟨b', he, ho⟩ =>
    ⟨b', he, by simpa using ho.own, ⟨ho.grown.os, ho.grown.tape, ho.grown.output, ho.grown.size, fun k hk => ho.grown.block k hk (by simp [Value.ownBlock])⟩⟩
theorem form247 : form 247 = [247] := by simp [form]
theorem form248 : form 248 = [248, 248] := by simp [form, wid_lt, be_lt]
theorem form300 : form 300 = [249, 1, 44] := by
  have h1 : wid 300 = 2 := by rw [wid_ge (by omega), wid_lt (by omega)]
  have h2 : be 300 = [1, 44] := by rw [be_ge (by omega), be_lt (by omega)]; rfl
  simp [form, h1, h2]
set_option maxHeartbeats 2000000 in
theorem awake01 (w : World) : Calls Try.prog 23 #[] w (Gives w (.bool true)) := by
  have p1 : ∀ W, Calls Try.prog 24 #[.slice none 0 0, .int .u64 247] W (Makes W 5 [247]) := fun W => by
    rw [← form247]; exact put_nil 247 W (by decide)
  have p2 : ∀ W, Calls Try.prog 24 #[.slice none 0 0, .int .u64 248] W (Makes W 5 [248, 248]) := fun W => by
    rw [← form248]; exact put_nil 248 W (by decide)
  have p3 : ∀ W, Calls Try.prog 24 #[.slice none 0 0, .int .u64 300] W (Makes W 5 [249, 1, 44]) := fun W => by
    rw [← form300]; exact put_nil 300 W (by decide)
  have same : ∀ (W : World) (A B : Option Addr) (n c d : Nat) (l : List Nat), Bytes W A n l → Bytes W B n l → Calls Try.prog 25 #[.slice A n c, .slice B n d] W (Gives W (.bool true)) := fun W A B n c d l ha hb => by
    have := same_any A B n n c d l l W ha hb
    simpa using this
  go_enter Try.func23, Try.ntmps23
  go_wp2_with fail
  refine (p1 _).mono ?_
  rintro e w1 ⟨b1, rfl, hown1, hbw1⟩
  obtain ⟨A1, c1, rfl, _, _⟩ := hown1.form
  have hB1 : Bytes w1 A1 1 [247] := hown1.bytes.2.2
  go_wp2_with fail
  refine (same _ A1 _ 1 c1 _ [247] (hB1.keep (below_one _)) (Bytes.of_block (e := 5) (fr := (0, 0)) (l := [247]) (heap_alloc_new _ _) (by decide) (by decide))).mono ?_
  rintro e w2 ⟨rfl, hbw2⟩
  go_wp2_with fail
  refine (p2 _).mono ?_
  rintro e w3 ⟨b3, rfl, hown3, hbw3⟩
  obtain ⟨A3, c3, rfl, _, _⟩ := hown3.form
  have hB3 : Bytes w3 A3 2 [248, 248] := hown3.bytes.2.2
  go_wp2_with fail
  refine (same _ A3 _ 2 c3 _ [248, 248] (hB3.keep (below_one _)) (Bytes.of_block (e := 5) (fr := (0, 0)) (l := [248, 248]) (heap_alloc_new _ _) (by decide) (by decide))).mono ?_
  rintro e w4 ⟨rfl, hbw4⟩
  go_wp2_with fail
  refine (p3 _).mono ?_
  rintro e w5 ⟨b5, rfl, hown5, hbw5⟩
  obtain ⟨A5, c5, rfl, _, _⟩ := hown5.form
  have hB5 : Bytes w5 A5 3 [249, 1, 44] := hown5.bytes.2.2
  go_wp2_with fail
  refine (same _ A5 _ 3 c5 _ [249, 1, 44] (hB5.keep (below_one _)) (Bytes.of_block (e := 5) (fr := (0, 0)) (l := [249, 1, 44]) (heap_alloc_new _ _) (by decide) (by decide))).mono ?_
  rintro e w6 ⟨rfl, hbw6⟩
  go_wp2_with fail
  go_ret
  have z1 := hbw1.size
  have z2 := hbw2.size
  have z3 := hbw3.size
  have z4 := hbw4.size
  have z5 := hbw5.size
  simp at z2 z4
  exact ⟨rfl, by ((repeat' first | with_reducible exact Below.refl _ _ | with_reducible assumption | with_reducible refine Below.alloc ?_ ?_ _ | with_reducible refine Below.setCell ?_ ?_ _ | with_reducible apply Below.drew | with_reducible apply below_drewN | with_reducible refine below_call ?_ (by with_reducible assumption) ?_) <;> (first | omega | (simp; done) | (simp; omega) | (simp at *; omega)))⟩

set_option maxHeartbeats 2000000 in
theorem takes_walk (A : Option Addr) (n cap : Nat) (l : List Nat) (w : World) (hb : Bytes w A n l) (hc : n ≤ cap) (hcm : cap ≤ maxLen) :
    Calls Try.prog 11 #[.slice A n cap] w (Gives w (.bool true)) := by
  by_cases hn : 300 < n
  · go_enter Try.func11, Try.ntmps11
    go_wp2_with (go_at_call 23; (with_reducible refine (awake01 _).mono ?_); rintro e w1 ⟨rfl, hbw1⟩; have hzw1 := hbw1.size; (try simp at hzw1))
    go_ret
    exact ⟨rfl, by ((repeat' first | with_reducible exact Below.refl _ _ | with_reducible assumption | with_reducible refine Below.alloc ?_ ?_ _ | with_reducible refine Below.setCell ?_ ?_ _ | with_reducible apply Below.drew | with_reducible apply below_drewN | with_reducible refine below_call ?_ (by with_reducible assumption) ?_) <;> (first | omega | (simp; done) | (simp; omega) | (simp at *; omega)))⟩
  have t1 : ∀ W, Below w.heap.size w W → Calls Try.prog 28 #[.slice A n cap] W (Gives W (takeV l)) := fun W h => take_any A n cap l W (hb.keep h)
  have t2 : ∀ W, Below w.heap.size w W → Calls Try.prog 29 #[.slice A n cap] W (Gives W (gotV l)) := fun W h => reftake_any A n cap l W (hb.keep h) hc hcm
  unfold takeV at t1
  unfold gotV at t2
  generalize (ntake l).1 = x at *
  generalize (ntake l).2.1 = y at *
  generalize (ntake l).2.2 = z at *
  go_enter Try.func11, Try.ntmps11
  go_wp2_with (first
    | (go_at_call 28; (with_reducible refine (t1 _ ?hbel).mono ?_); (case hbel => ((repeat' first | with_reducible exact Below.refl _ _ | with_reducible assumption | with_reducible refine Below.alloc ?_ ?_ _ | with_reducible refine Below.setCell ?_ ?_ _ | with_reducible apply Below.drew | with_reducible apply below_drewN | with_reducible refine below_call ?_ (by with_reducible assumption) ?_) <;> (first | omega | (simp; done) | (simp; omega) | (simp at *; omega)))); rintro e w1 ⟨rfl, hbw1⟩; have hzw1 := hbw1.size; (try simp at hzw1))
    | (go_at_call 29; (with_reducible refine (t2 _ ?hbel).mono ?_); (case hbel => ((repeat' first | with_reducible exact Below.refl _ _ | with_reducible assumption | with_reducible refine Below.alloc ?_ ?_ _ | with_reducible refine Below.setCell ?_ ?_ _ | with_reducible apply Below.drew | with_reducible apply below_drewN | with_reducible refine below_call ?_ (by with_reducible assumption) ?_) <;> (first | omega | (simp; done) | (simp; omega) | (simp at *; omega)))); rintro e w1 ⟨rfl, hbw1⟩; have hzw1 := hbw1.size; (try simp at hzw1))
    | (go_at_call 23; (with_reducible refine (awake01 _).mono ?_); rintro e w1 ⟨rfl, hbw1⟩; have hzw1 := hbw1.size; (try simp at hzw1)))
  all_goals go_ret
  all_goals exact ⟨by simp, by ((repeat' first | with_reducible exact Below.refl _ _ | with_reducible assumption | with_reducible refine Below.alloc ?_ ?_ _ | with_reducible refine Below.setCell ?_ ?_ _ | with_reducible apply Below.drew | with_reducible apply below_drewN | with_reducible refine below_call ?_ (by with_reducible assumption) ?_) <;> (first | omega | (simp; done) | (simp; omega) | (simp at *; omega)))⟩

set_option maxHeartbeats 2000000 in
theorem apart_walk (a b : Nat) (w : World) (ha : a < 2 ^ 64) (hb : b < 2 ^ 64) :
    Calls Try.prog 9 #[.int .u64 (a : Int), .int .u64 (b : Int)] w (Gives w (.bool true)) := by
  by_cases hab : a = b
  · subst hab
    go_enter Try.func9, Try.ntmps9
    go_wp2_with (go_at_call 23; (with_reducible refine (awake01 _).mono ?_); rintro e w1 ⟨rfl, hbw1⟩; have hzw1 := hbw1.size; (try simp at hzw1))
    go_ret
    exact ⟨rfl, by ((repeat' first | with_reducible exact Below.refl _ _ | with_reducible assumption | with_reducible refine Below.alloc ?_ ?_ _ | with_reducible refine Below.setCell ?_ ?_ _ | with_reducible apply Below.drew | with_reducible apply below_drewN | with_reducible refine below_call ?_ (by with_reducible assumption) ?_) <;> (first | omega | (simp; done) | (simp; omega) | (simp at *; omega)))⟩
  have hne : ((a : Int) == (b : Int)) = false := by simp; omega
  have p1 : ∀ W, Calls Try.prog 24 #[.slice none 0 0, .int .u64 (min (a : Int) (b : Int))] W (Makes W 5 (form (min a b))) := fun W => by
    rw [show min (a : Int) (b : Int) = ((min a b : Nat) : Int) by omega]; exact put_nil _ W (by omega)
  have p2 : ∀ W, Calls Try.prog 24 #[.slice none 0 0, .int .u64 (max (a : Int) (b : Int))] W (Makes W 5 (form (max a b))) := fun W => by
    rw [show max (a : Int) (b : Int) = ((max a b : Nat) : Int) by omega]; exact put_nil _ W (by omega)
  have f1 : (form (min a b)).length ≤ (form (max a b)).length := by rw [size_form, size_form]; exact size_mono (by omega)
  have f2 : 0 < (form (min a b)).length := by rw [size_form]; unfold size; split <;> omega
  have f3 : (form (max a b)).take (form (min a b)).length ≠ form (min a b) := by rw [size_form]; exact form_prefix (by omega)
  have F3 := Lib.hid f3
  clear f3
  generalize form (min a b) = x at *
  generalize form (max a b) = y at *
  have hlz : ((x.length : Int) == 0) = false := by simp; intro h; subst h; simp at f2
  go_enter Try.func9, Try.ntmps9
  go_wp2_with fail
  refine (p1 _).mono ?_
  rintro e w1 ⟨b1, rfl, hown1, hbw1⟩
  obtain ⟨A1, c1, rfl, _, _⟩ := hown1.form
  go_wp2_with fail
  refine (p2 _).mono ?_
  rintro e w2 ⟨b2, rfl, hown2, hbw2⟩
  obtain ⟨A2, c2, rfl, hle2, _⟩ := hown2.form
  have hB1 := hown1.bytes.2.2
  have hB2 := hown2.bytes.2.2
  have hcut : (x.length : Int) ≤ (c2 : Int) := by omega
  have z1 := hbw1.size
  have z2 := hbw2.size
  have same : ∀ W, Below w2.heap.size w2 W → Calls Try.prog 25 #[.slice A1 x.length c1, .slice A2 x.length c2] W (Gives W (.bool false)) := fun W h => by
    have := same_any A1 A2 x.length x.length c1 c2 x (y.take x.length) W ((hB1.keep hbw2).keep h) ((hB2.cutTo f1).keep h)
    rw [show decide (x = y.take x.length) = false by simp; exact fun h => F3.out h.symm] at this
    exact this
  clear hown1 hown2 hB1 hB2
  go_wp2_with (first
    | (go_at_call 25; (with_reducible refine (same _ ?hbel).mono ?_); (case hbel => ((repeat' first | with_reducible exact Below.refl _ _ | with_reducible assumption | with_reducible refine Below.alloc ?_ ?_ _ | with_reducible refine Below.setCell ?_ ?_ _ | with_reducible apply Below.drew | with_reducible apply below_drewN | with_reducible refine below_call ?_ (by with_reducible assumption) ?_) <;> (first | omega | (simp; done) | (simp; omega) | (simp at *; omega)))); rintro e w3 ⟨rfl, hbw3⟩; have hzw3 := hbw3.size; (try simp at hzw3))
    | (go_at_call 23; (with_reducible refine (awake01 _).mono ?_); rintro e w3 ⟨rfl, hbw3⟩; have hzw3 := hbw3.size; (try simp at hzw3)))
  all_goals go_ret
  all_goals exact ⟨by simp, by ((repeat' first | with_reducible exact Below.refl _ _ | with_reducible assumption | with_reducible refine Below.alloc ?_ ?_ _ | with_reducible refine Below.setCell ?_ ?_ _ | with_reducible apply Below.drew | with_reducible apply below_drewN | with_reducible refine below_call ?_ (by with_reducible assumption) ?_) <;> (first | omega | (simp; done) | (simp; omega) | (simp at *; omega)))⟩
end Go.Proofs.Ytdmbpndplflebaa
