/- The walk of stonecroplaw06.awake. -/
import Derived.Test.YtekbebekihcnpaaDoorCmdEq
namespace Go.Proofs.YtekbebekihcnpaaDoor
open Go.RowKit
set_option linter.unusedVariables false
set_option linter.unusedSimpArgs false
set_option maxRecDepth 20000
attribute [local go_sem ↓] Go.wp_at_zero Go.wp_at_succ
attribute [local go_sem] World.cell?_alloc_some frozen_alloc_some

theorem txt_a : (ByteArray.mk #[97]).size = 1 := rfl
theorem ck_get : ccheck 1 1 1 ⟨#[97]⟩ ByteArray.empty 0 = 0 := by kernel_rfl
theorem ck_bad : ccheck 7 0 0 ByteArray.empty ByteArray.empty 0 = 4 := by decide
theorem mt1 : cmeet 1 1 ⟨#[97]⟩ 1 2 ⟨#[97]⟩ = false := by decide
theorem mt2 : cmeet 1 1 ⟨#[97]⟩ 2 2 ⟨#[97]⟩ = true := by decide
theorem mt3 : cmeet 5 3 ⟨#[97]⟩ 2 2 ⟨#[97, 98]⟩ = true := by decide

set_option maxHeartbeats 8000000 in
theorem awake06 (w : World) (hT : Tabs w) : Calls Tryd.prog 9 #[] w (Gives w (.bool true)) := by
  have M1 : ∀ W, Calls Tryd.prog 14 #[.agg #[.int .i64 1, .int .i64 1, .int .i64 1, .string ⟨#[97]⟩, .string ByteArray.empty, .int .i64 0], .agg #[.int .i64 1, .int .i64 2, .int .i64 1, .string ⟨#[97]⟩, .string ByteArray.empty, .int .i64 0]] W (Gives W (.bool false)) := fun W => by rw [← mt1]; exact meet_any 1 1 1 ⟨#[97]⟩ ByteArray.empty 0 1 2 1 ⟨#[97]⟩ ByteArray.empty 0 W
  have M2 : ∀ W, Calls Tryd.prog 14 #[.agg #[.int .i64 1, .int .i64 1, .int .i64 1, .string ⟨#[97]⟩, .string ByteArray.empty, .int .i64 0], .agg #[.int .i64 2, .int .i64 2, .int .i64 1, .string ⟨#[97]⟩, .string ByteArray.empty, .int .i64 0]] W (Gives W (.bool true)) := fun W => by rw [← mt2]; exact meet_any 1 1 1 ⟨#[97]⟩ ByteArray.empty 0 2 2 1 ⟨#[97]⟩ ByteArray.empty 0 W
  have M3 : ∀ W, Calls Tryd.prog 14 #[.agg #[.int .i64 5, .int .i64 3, .int .i64 1, .string ⟨#[97]⟩, .string ByteArray.empty, .int .i64 0], .agg #[.int .i64 2, .int .i64 2, .int .i64 1, .string ⟨#[97, 98]⟩, .string ByteArray.empty, .int .i64 0]] W (Gives W (.bool true)) := fun W => by rw [← mt3]; exact meet_any 5 3 1 ⟨#[97]⟩ ByteArray.empty 0 2 2 1 ⟨#[97, 98]⟩ ByteArray.empty 0 W
  have K1 : ∀ W, Below w.heap.size w W → Calls Tryd.prog 10 #[.agg #[.int .i64 1, .int .i64 1, .int .i64 1, .string ⟨#[97]⟩, .string ByteArray.empty, .int .i64 0]] W (Gives W (.int .i64 0)) := fun W h => by
    have := check6_any 1 1 1 ⟨#[97]⟩ ByteArray.empty 0 W (by decide) (by decide) (hT.keep h)
    rw [ck_get] at this; exact this
  have K2 : ∀ W, Below w.heap.size w W → Calls Tryd.prog 10 #[.agg #[.int .i64 7, .int .i64 0, .int .i64 0, .string ByteArray.empty, .string ByteArray.empty, .int .i64 0]] W (Gives W (.int .i64 4)) := fun W h => by
    have := check6_any 7 0 0 ByteArray.empty ByteArray.empty 0 W (by decide) (by decide) (hT.keep h)
    rw [ck_bad] at this; exact this
  clear hT
  go_enter Tryd.func9, Tryd.ntmps9
  go_wp2_with fail
  go_region
  · go_wp2_with fail
    refine (M1 _).mono ?_
    rintro e w1 ⟨rfl, hb1⟩
    have z1 := hb1.size
    simp at z1
    have h1 : Below w.heap.size w w1 := by ((repeat' first | with_reducible exact Below.refl _ _ | with_reducible assumption | with_reducible refine Below.alloc ?_ ?_ _ | with_reducible refine Below.setCell ?_ ?_ _ | with_reducible apply Below.drew | with_reducible apply below_drewN | with_reducible refine below_call ?_ (by with_reducible assumption) ?_) <;> (first | omega | (simp; done) | (simp; omega) | (simp at *; omega)))
    have b0 : Blk w1 (w.heap.size) 23 #[.int .i64 1, .int .i64 1, .int .i64 1, .string ⟨#[97]⟩, .string ByteArray.empty, .int .i64 0] := Blk.keep (w := (((((w.alloc (.cells #[.int .i64 1, .int .i64 1, .int .i64 1, .string ⟨#[97]⟩, .string ByteArray.empty, .int .i64 0] 23)).alloc (.cells #[.int .i64 1, .int .i64 2, .int .i64 1, .string ⟨#[97]⟩, .string ByteArray.empty, .int .i64 0] 23)).alloc (.cells #[.int .i64 2, .int .i64 2, .int .i64 1, .string ⟨#[97]⟩, .string ByteArray.empty, .int .i64 0] 23)).alloc (.cells #[.int .i64 5, .int .i64 3, .int .i64 1, .string ⟨#[97]⟩, .string ByteArray.empty, .int .i64 0] 23)).alloc (.cells #[.int .i64 2, .int .i64 2, .int .i64 1, .string ⟨#[97, 98]⟩, .string ByteArray.empty, .int .i64 0] 23)).drew) (by have h := Blk.new w 23 #[.int .i64 1, .int .i64 1, .int .i64 1, .string ⟨#[97]⟩, .string ByteArray.empty, .int .i64 0]; (try simp only [World.size_alloc] at h); exact ((((h.alloc _).alloc _).alloc _).alloc _)) hb1
    have b2 : Blk w1 (w.heap.size + 1 + 1) 23 #[.int .i64 2, .int .i64 2, .int .i64 1, .string ⟨#[97]⟩, .string ByteArray.empty, .int .i64 0] := Blk.keep (w := (((((w.alloc (.cells #[.int .i64 1, .int .i64 1, .int .i64 1, .string ⟨#[97]⟩, .string ByteArray.empty, .int .i64 0] 23)).alloc (.cells #[.int .i64 1, .int .i64 2, .int .i64 1, .string ⟨#[97]⟩, .string ByteArray.empty, .int .i64 0] 23)).alloc (.cells #[.int .i64 2, .int .i64 2, .int .i64 1, .string ⟨#[97]⟩, .string ByteArray.empty, .int .i64 0] 23)).alloc (.cells #[.int .i64 5, .int .i64 3, .int .i64 1, .string ⟨#[97]⟩, .string ByteArray.empty, .int .i64 0] 23)).alloc (.cells #[.int .i64 2, .int .i64 2, .int .i64 1, .string ⟨#[97, 98]⟩, .string ByteArray.empty, .int .i64 0] 23)).drew) (by have h := Blk.new ((w.alloc (.cells #[.int .i64 1, .int .i64 1, .int .i64 1, .string ⟨#[97]⟩, .string ByteArray.empty, .int .i64 0] 23)).alloc (.cells #[.int .i64 1, .int .i64 2, .int .i64 1, .string ⟨#[97]⟩, .string ByteArray.empty, .int .i64 0] 23)) 23 #[.int .i64 2, .int .i64 2, .int .i64 1, .string ⟨#[97]⟩, .string ByteArray.empty, .int .i64 0]; (try simp only [World.size_alloc] at h); exact ((h.alloc _).alloc _)) hb1
    have b3 : Blk w1 (w.heap.size + 1 + 1 + 1) 23 #[.int .i64 5, .int .i64 3, .int .i64 1, .string ⟨#[97]⟩, .string ByteArray.empty, .int .i64 0] := Blk.keep (w := (((((w.alloc (.cells #[.int .i64 1, .int .i64 1, .int .i64 1, .string ⟨#[97]⟩, .string ByteArray.empty, .int .i64 0] 23)).alloc (.cells #[.int .i64 1, .int .i64 2, .int .i64 1, .string ⟨#[97]⟩, .string ByteArray.empty, .int .i64 0] 23)).alloc (.cells #[.int .i64 2, .int .i64 2, .int .i64 1, .string ⟨#[97]⟩, .string ByteArray.empty, .int .i64 0] 23)).alloc (.cells #[.int .i64 5, .int .i64 3, .int .i64 1, .string ⟨#[97]⟩, .string ByteArray.empty, .int .i64 0] 23)).alloc (.cells #[.int .i64 2, .int .i64 2, .int .i64 1, .string ⟨#[97, 98]⟩, .string ByteArray.empty, .int .i64 0] 23)).drew) (by have h := Blk.new (((w.alloc (.cells #[.int .i64 1, .int .i64 1, .int .i64 1, .string ⟨#[97]⟩, .string ByteArray.empty, .int .i64 0] 23)).alloc (.cells #[.int .i64 1, .int .i64 2, .int .i64 1, .string ⟨#[97]⟩, .string ByteArray.empty, .int .i64 0] 23)).alloc (.cells #[.int .i64 2, .int .i64 2, .int .i64 1, .string ⟨#[97]⟩, .string ByteArray.empty, .int .i64 0] 23)) 23 #[.int .i64 5, .int .i64 3, .int .i64 1, .string ⟨#[97]⟩, .string ByteArray.empty, .int .i64 0]; (try simp only [World.size_alloc] at h); exact (h.alloc _)) hb1
    have b4 : Blk w1 (w.heap.size + 1 + 1 + 1 + 1) 23 #[.int .i64 2, .int .i64 2, .int .i64 1, .string ⟨#[97, 98]⟩, .string ByteArray.empty, .int .i64 0] := Blk.keep (w := (((((w.alloc (.cells #[.int .i64 1, .int .i64 1, .int .i64 1, .string ⟨#[97]⟩, .string ByteArray.empty, .int .i64 0] 23)).alloc (.cells #[.int .i64 1, .int .i64 2, .int .i64 1, .string ⟨#[97]⟩, .string ByteArray.empty, .int .i64 0] 23)).alloc (.cells #[.int .i64 2, .int .i64 2, .int .i64 1, .string ⟨#[97]⟩, .string ByteArray.empty, .int .i64 0] 23)).alloc (.cells #[.int .i64 5, .int .i64 3, .int .i64 1, .string ⟨#[97]⟩, .string ByteArray.empty, .int .i64 0] 23)).alloc (.cells #[.int .i64 2, .int .i64 2, .int .i64 1, .string ⟨#[97, 98]⟩, .string ByteArray.empty, .int .i64 0] 23)).drew) (by have h := Blk.new ((((w.alloc (.cells #[.int .i64 1, .int .i64 1, .int .i64 1, .string ⟨#[97]⟩, .string ByteArray.empty, .int .i64 0] 23)).alloc (.cells #[.int .i64 1, .int .i64 2, .int .i64 1, .string ⟨#[97]⟩, .string ByteArray.empty, .int .i64 0] 23)).alloc (.cells #[.int .i64 2, .int .i64 2, .int .i64 1, .string ⟨#[97]⟩, .string ByteArray.empty, .int .i64 0] 23)).alloc (.cells #[.int .i64 5, .int .i64 3, .int .i64 1, .string ⟨#[97]⟩, .string ByteArray.empty, .int .i64 0] 23)) 23 #[.int .i64 2, .int .i64 2, .int .i64 1, .string ⟨#[97, 98]⟩, .string ByteArray.empty, .int .i64 0]; (try simp only [World.size_alloc] at h); exact h) hb1
    have h10 := b0.cell
    have h11 := b2.cell
    go_wp2_with fail
    refine (M2 _).mono ?_
    rintro e w2 ⟨rfl, hb2⟩
    have z2 := hb2.size
    have h2 := below_call h1 hb2 h1.size
    replace b0 := b0.keep hb2
    replace b3 := b3.keep hb2
    replace b4 := b4.keep hb2
    have h20 := b3.cell
    have h21 := b4.cell
    go_wp2_with fail
    refine (M3 _).mono ?_
    rintro e w3 ⟨rfl, hb3⟩
    have z3 := hb3.size
    have h3 := below_call h2 hb3 h2.size
    replace b0 := b0.keep hb3
    have h30 := b0.cell
    go_wp2_with fail
    refine (K1 _ h3).mono ?_
    rintro e w4 ⟨rfl, hb4⟩
    have z4 := hb4.size
    have h4 := below_call h3 hb4 h3.size
    go_wp2_with fail
    refine (K2 _ h4).mono ?_
    rintro e w5 ⟨rfl, hb5⟩
    have z5 := hb5.size
    have h5 := below_call h4 hb5 h4.size
    go_wp2_with fail
    go_ret
    exact ⟨rfl, h5⟩
  · go_wp2_with fail
    refine (M1 _).mono ?_
    rintro e w1 ⟨rfl, hb1⟩
    have z1 := hb1.size
    simp at z1
    have h1 : Below w.heap.size w w1 := by ((repeat' first | with_reducible exact Below.refl _ _ | with_reducible assumption | with_reducible refine Below.alloc ?_ ?_ _ | with_reducible refine Below.setCell ?_ ?_ _ | with_reducible apply Below.drew | with_reducible apply below_drewN | with_reducible refine below_call ?_ (by with_reducible assumption) ?_) <;> (first | omega | (simp; done) | (simp; omega) | (simp at *; omega)))
    have b0 : Blk w1 (w.heap.size) 23 #[.int .i64 1, .int .i64 1, .int .i64 1, .string ⟨#[97]⟩, .string ByteArray.empty, .int .i64 0] := Blk.keep (w := (((((w.alloc (.cells #[.int .i64 1, .int .i64 1, .int .i64 1, .string ⟨#[97]⟩, .string ByteArray.empty, .int .i64 0] 23)).alloc (.cells #[.int .i64 2, .int .i64 2, .int .i64 1, .string ⟨#[97]⟩, .string ByteArray.empty, .int .i64 0] 23)).alloc (.cells #[.int .i64 1, .int .i64 2, .int .i64 1, .string ⟨#[97]⟩, .string ByteArray.empty, .int .i64 0] 23)).alloc (.cells #[.int .i64 5, .int .i64 3, .int .i64 1, .string ⟨#[97]⟩, .string ByteArray.empty, .int .i64 0] 23)).alloc (.cells #[.int .i64 2, .int .i64 2, .int .i64 1, .string ⟨#[97, 98]⟩, .string ByteArray.empty, .int .i64 0] 23)).drew) (by have h := Blk.new w 23 #[.int .i64 1, .int .i64 1, .int .i64 1, .string ⟨#[97]⟩, .string ByteArray.empty, .int .i64 0]; (try simp only [World.size_alloc] at h); exact ((((h.alloc _).alloc _).alloc _).alloc _)) hb1
    have b2 : Blk w1 (w.heap.size + 1) 23 #[.int .i64 2, .int .i64 2, .int .i64 1, .string ⟨#[97]⟩, .string ByteArray.empty, .int .i64 0] := Blk.keep (w := (((((w.alloc (.cells #[.int .i64 1, .int .i64 1, .int .i64 1, .string ⟨#[97]⟩, .string ByteArray.empty, .int .i64 0] 23)).alloc (.cells #[.int .i64 2, .int .i64 2, .int .i64 1, .string ⟨#[97]⟩, .string ByteArray.empty, .int .i64 0] 23)).alloc (.cells #[.int .i64 1, .int .i64 2, .int .i64 1, .string ⟨#[97]⟩, .string ByteArray.empty, .int .i64 0] 23)).alloc (.cells #[.int .i64 5, .int .i64 3, .int .i64 1, .string ⟨#[97]⟩, .string ByteArray.empty, .int .i64 0] 23)).alloc (.cells #[.int .i64 2, .int .i64 2, .int .i64 1, .string ⟨#[97, 98]⟩, .string ByteArray.empty, .int .i64 0] 23)).drew) (by have h := Blk.new (w.alloc (.cells #[.int .i64 1, .int .i64 1, .int .i64 1, .string ⟨#[97]⟩, .string ByteArray.empty, .int .i64 0] 23)) 23 #[.int .i64 2, .int .i64 2, .int .i64 1, .string ⟨#[97]⟩, .string ByteArray.empty, .int .i64 0]; (try simp only [World.size_alloc] at h); exact (((h.alloc _).alloc _).alloc _)) hb1
    have b3 : Blk w1 (w.heap.size + 1 + 1 + 1) 23 #[.int .i64 5, .int .i64 3, .int .i64 1, .string ⟨#[97]⟩, .string ByteArray.empty, .int .i64 0] := Blk.keep (w := (((((w.alloc (.cells #[.int .i64 1, .int .i64 1, .int .i64 1, .string ⟨#[97]⟩, .string ByteArray.empty, .int .i64 0] 23)).alloc (.cells #[.int .i64 2, .int .i64 2, .int .i64 1, .string ⟨#[97]⟩, .string ByteArray.empty, .int .i64 0] 23)).alloc (.cells #[.int .i64 1, .int .i64 2, .int .i64 1, .string ⟨#[97]⟩, .string ByteArray.empty, .int .i64 0] 23)).alloc (.cells #[.int .i64 5, .int .i64 3, .int .i64 1, .string ⟨#[97]⟩, .string ByteArray.empty, .int .i64 0] 23)).alloc (.cells #[.int .i64 2, .int .i64 2, .int .i64 1, .string ⟨#[97, 98]⟩, .string ByteArray.empty, .int .i64 0] 23)).drew) (by have h := Blk.new (((w.alloc (.cells #[.int .i64 1, .int .i64 1, .int .i64 1, .string ⟨#[97]⟩, .string ByteArray.empty, .int .i64 0] 23)).alloc (.cells #[.int .i64 2, .int .i64 2, .int .i64 1, .string ⟨#[97]⟩, .string ByteArray.empty, .int .i64 0] 23)).alloc (.cells #[.int .i64 1, .int .i64 2, .int .i64 1, .string ⟨#[97]⟩, .string ByteArray.empty, .int .i64 0] 23)) 23 #[.int .i64 5, .int .i64 3, .int .i64 1, .string ⟨#[97]⟩, .string ByteArray.empty, .int .i64 0]; (try simp only [World.size_alloc] at h); exact (h.alloc _)) hb1
    have b4 : Blk w1 (w.heap.size + 1 + 1 + 1 + 1) 23 #[.int .i64 2, .int .i64 2, .int .i64 1, .string ⟨#[97, 98]⟩, .string ByteArray.empty, .int .i64 0] := Blk.keep (w := (((((w.alloc (.cells #[.int .i64 1, .int .i64 1, .int .i64 1, .string ⟨#[97]⟩, .string ByteArray.empty, .int .i64 0] 23)).alloc (.cells #[.int .i64 2, .int .i64 2, .int .i64 1, .string ⟨#[97]⟩, .string ByteArray.empty, .int .i64 0] 23)).alloc (.cells #[.int .i64 1, .int .i64 2, .int .i64 1, .string ⟨#[97]⟩, .string ByteArray.empty, .int .i64 0] 23)).alloc (.cells #[.int .i64 5, .int .i64 3, .int .i64 1, .string ⟨#[97]⟩, .string ByteArray.empty, .int .i64 0] 23)).alloc (.cells #[.int .i64 2, .int .i64 2, .int .i64 1, .string ⟨#[97, 98]⟩, .string ByteArray.empty, .int .i64 0] 23)).drew) (by have h := Blk.new ((((w.alloc (.cells #[.int .i64 1, .int .i64 1, .int .i64 1, .string ⟨#[97]⟩, .string ByteArray.empty, .int .i64 0] 23)).alloc (.cells #[.int .i64 2, .int .i64 2, .int .i64 1, .string ⟨#[97]⟩, .string ByteArray.empty, .int .i64 0] 23)).alloc (.cells #[.int .i64 1, .int .i64 2, .int .i64 1, .string ⟨#[97]⟩, .string ByteArray.empty, .int .i64 0] 23)).alloc (.cells #[.int .i64 5, .int .i64 3, .int .i64 1, .string ⟨#[97]⟩, .string ByteArray.empty, .int .i64 0] 23)) 23 #[.int .i64 2, .int .i64 2, .int .i64 1, .string ⟨#[97, 98]⟩, .string ByteArray.empty, .int .i64 0]; (try simp only [World.size_alloc] at h); exact h) hb1
    have h10 := b0.cell
    have h11 := b2.cell
    go_wp2_with fail
    refine (M2 _).mono ?_
    rintro e w2 ⟨rfl, hb2⟩
    have z2 := hb2.size
    have h2 := below_call h1 hb2 h1.size
    replace b0 := b0.keep hb2
    replace b3 := b3.keep hb2
    replace b4 := b4.keep hb2
    have h20 := b3.cell
    have h21 := b4.cell
    go_wp2_with fail
    refine (M3 _).mono ?_
    rintro e w3 ⟨rfl, hb3⟩
    have z3 := hb3.size
    have h3 := below_call h2 hb3 h2.size
    replace b0 := b0.keep hb3
    have h30 := b0.cell
    go_wp2_with fail
    refine (K1 _ h3).mono ?_
    rintro e w4 ⟨rfl, hb4⟩
    have z4 := hb4.size
    have h4 := below_call h3 hb4 h3.size
    go_wp2_with fail
    refine (K2 _ h4).mono ?_
    rintro e w5 ⟨rfl, hb5⟩
    have z5 := hb5.size
    have h5 := below_call h4 hb5 h4.size
    go_wp2_with fail
    go_ret
    exact ⟨rfl, h5⟩
end Go.Proofs.YtekbebekihcnpaaDoor
