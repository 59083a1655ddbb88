/- The walk of the law CmdChecks. -/
import Derived.Test.YtekbebekihcnpaaDoorDocEq
import Derived.Test.YtekbebekihcnpaaDoorCmdMeets
namespace Go.Proofs.YtekbebekihcnpaaDoor
open Go.RowKit
set_option linter.unusedVariables false
set_option linter.unusedSimpArgs false
set_option maxRecDepth 20000
attribute [local go_sem ↓] Go.wp_at_zero Go.wp_at_succ
attribute [local go_sem] World.cell?_alloc_some frozen_alloc_some

theorem ckeys_symm (ka : Int) (ya : ByteArray) (kb : Int) (yb : ByteArray) : ckeys ka ya kb yb = ckeys kb yb ka ya := by
  unfold ckeys
  have h : decide (ya = yb) = decide (yb = ya) := by rw [decide_eq_decide]; exact eq_comm
  rw [h]
  cases decide (yb = ya) <;> cases (ka == 5 && isPre yb ya) <;> cases (kb == 5 && isPre ya yb) <;> rfl
theorem cmeet_symm (ka ca : Int) (ya : ByteArray) (kb cb : Int) (yb : ByteArray) : cmeet ka ca ya kb cb yb = cmeet kb cb yb ka ca ya := by
  unfold cmeet
  rw [ckeys_symm ka ya kb yb, Bool.or_comm (cwrites ka)]
  by_cases h : ka = 0 ∨ kb = 0
  · have h' : kb = 0 ∨ ka = 0 := h.symm
    simp only [if_pos h, if_pos h']
  · have h' : ¬ (kb = 0 ∨ ka = 0) := fun e => h e.symm
    by_cases h2 : ka = 6 ∨ kb = 6 ∨ ca = cb
    · have h3 : kb = 6 ∨ ka = 6 ∨ cb = ca := by omega
      simp only [if_neg h, if_neg h', if_pos h2, if_pos h3]
    · have h3 : ¬ (kb = 6 ∨ ka = 6 ∨ cb = ca) := by omega
      simp only [if_neg h, if_neg h', if_neg h2, if_neg h3]
abbrev ChS (w : World) (ka ca qa : Int) (ya xa : ByteArray) (ra : Int) (kb cb qb : Int) (yb xb : ByteArray) (rb : Int) (wx : World) : Prop := Below w.heap.size w wx ∧ w.heap.size + 1 < wx.heap.size ∧ wx.cell? ⟨w.heap.size, 0, none⟩ = some (.int .i64 ka) ∧ wx.cell? ⟨w.heap.size, 1, none⟩ = some (.int .i64 ca) ∧ wx.cell? ⟨w.heap.size, 2, none⟩ = some (.int .i64 qa) ∧ wx.cell? ⟨w.heap.size, 3, none⟩ = some (.string ya) ∧ wx.cell? ⟨w.heap.size, 4, none⟩ = some (.string xa) ∧ wx.cell? ⟨w.heap.size, 5, none⟩ = some (.int .i64 ra) ∧ wx.cell? ⟨w.heap.size + 1, 0, none⟩ = some (.int .i64 kb) ∧ wx.cell? ⟨w.heap.size + 1, 1, none⟩ = some (.int .i64 cb) ∧ wx.cell? ⟨w.heap.size + 1, 2, none⟩ = some (.int .i64 qb) ∧ wx.cell? ⟨w.heap.size + 1, 3, none⟩ = some (.string yb) ∧ wx.cell? ⟨w.heap.size + 1, 4, none⟩ = some (.string xb) ∧ wx.cell? ⟨w.heap.size + 1, 5, none⟩ = some (.int .i64 rb)
theorem ChS.drew {w : World} {ka ca qa : Int} {ya xa : ByteArray} {ra : Int} {kb cb qb : Int} {yb xb : ByteArray} {rb : Int} {W : World} (h : ChS w ka ca qa ya xa ra kb cb qb yb xb rb W) : ChS w ka ca qa ya xa ra kb cb qb yb xb rb W.drew := ⟨h.1.drew, h.2⟩
theorem ChS.keep {w : World} {ka ca qa : Int} {ya xa : ByteArray} {ra : Int} {kb cb qb : Int} {yb xb : ByteArray} {rb : Int} {W w1 : World} (hb : Below W.heap.size W w1) (h : ChS w ka ca qa ya xa ra kb cb qb yb xb rb W) : ChS w ka ca qa ya xa ra kb cb qb yb xb rb w1 := by
  obtain ⟨h1, h2, a0, a1, a2, a3, a4, a5, b0, b1, b2, b3, b4, b5⟩ := h
  have hz := hb.size
  exact ⟨below_call h1 hb (by omega), by omega, cell_keep hb a0, cell_keep hb a1, cell_keep hb a2, cell_keep hb a3, cell_keep hb a4, cell_keep hb a5, cell_keep hb b0, cell_keep hb b1, cell_keep hb b2, cell_keep hb b3, cell_keep hb b4, cell_keep hb b5⟩
set_option maxHeartbeats 16000000 in
theorem checks_walk (ka ca qa : Int) (ya xa : ByteArray) (ra : Int) (kb cb qb : Int) (yb xb : ByteArray) (rb : Int) (w : World) (hT : Tabs w) :
    Calls Tryd.prog 3 #[.agg #[.int .i64 ka, .int .i64 ca, .int .i64 qa, .string ya, .string xa, .int .i64 ra], .agg #[.int .i64 kb, .int .i64 cb, .int .i64 qb, .string yb, .string xb, .int .i64 rb]] w (Gives w (.bool true)) := by
  have AW0 : ∀ W, Below w.heap.size w W → Calls Tryd.prog 9 #[] W (Gives W (.bool true)) := fun W h => awake06 W (hT.keep h)
  have ga := fun W => great_any ka ca qa ya xa ra W
  have gb := fun W => great_any kb cb qb yb xb rb W
  cases hga : cgreat ya xa
  · cases hgb : cgreat yb xb
    · have s1 : ya.size ≤ 200 ∧ xa.size ≤ 2000 := by unfold cgreat at hga; simp at hga; omega
      have s2 : yb.size ≤ 200 ∧ xb.size ≤ 2000 := by unfold cgreat at hgb; simp at hgb; omega
      rw [hga] at ga
      rw [hgb] at gb
      have hlen : 2000 ≤ maxLen := by decide
      have K1 : ∀ W, ChS w ka ca qa ya xa ra kb cb qb yb xb rb W → Calls Tryd.prog 10 #[.agg #[.int .i64 ka, .int .i64 ca, .int .i64 qa, .string ya, .string xa, .int .i64 ra]] W (Gives W (.int .i64 (ccheck ka ca qa ya xa ra : Int))) := fun W h => check6_any ka ca qa ya xa ra W (by omega) (by omega) (hT.keep h.1)
      have K2 : ∀ W, Calls Tryd.prog 11 #[.agg #[.int .i64 ka, .int .i64 ca, .int .i64 qa, .string ya, .string xa, .int .i64 ra]] W (Gives W (.int .i64 (ccheck ka ca qa ya xa ra : Int))) := fun W => by rw [ccheck_eq]; exact dcheck_any ka ca qa ya xa ra W (by omega)
      have P1 := fun W => writes_any ka ca qa ya xa ra W
      have P2 := fun W => dwrites_any ka ca qa ya xa ra W
      have M1 := fun W => meet_any ka ca qa ya xa ra kb cb qb yb xb rb W
      have M2 := fun W => dmeet_any ka ca qa ya xa ra kb cb qb yb xb rb W (by omega) (by omega)
      have M3 := fun W => meet_any kb cb qb yb xb rb ka ca qa ya xa ra W
      simp only [← cmeet_symm ka ca ya kb cb yb] at M3
      have AW : ∀ W, ChS w ka ca qa ya xa ra kb cb qb yb xb rb W → Calls Tryd.prog 9 #[] W (Gives W (.bool true)) := fun W h => AW0 W h.1
      generalize ccheck ka ca qa ya xa ra = E at *
      generalize cwrites ka = p at *
      generalize cmeet ka ca ya kb cb yb = m at *
      clear hga hgb s1 s2 hT AW0
      go_enter Tryd.func3, Tryd.ntmps3
      go_wp2_with fail
      refine (ga _).mono ?_
      rintro e w1 ⟨rfl, hb1⟩
      have z1 := hb1.size
      (try simp at z1)
      have hS1 : ChS w ka ca qa ya xa ra kb cb qb yb xb rb w1 := ChS.keep (W := ((w.alloc (.cells #[.int .i64 ka, .int .i64 ca, .int .i64 qa, .string ya, .string xa, .int .i64 ra] 23)).alloc (.cells #[.int .i64 kb, .int .i64 cb, .int .i64 qb, .string yb, .string xb, .int .i64 rb] 23))) hb1 ⟨by ((repeat' first | with_reducible exact Below.refl _ _ | with_reducible assumption | with_reducible refine Below.alloc ?_ ?_ _ | with_reducible refine Below.setCell ?_ ?_ _ | with_reducible apply Below.drew | with_reducible apply below_drewN | with_reducible refine below_call ?_ (by with_reducible assumption) ?_) <;> (first | omega | (simp; done) | (simp; omega) | (simp at *; omega))), by simp, by simp [go_sem], by simp [go_sem], by simp [go_sem], by simp [go_sem], by simp [go_sem], by simp [go_sem], by simp [go_sem], by simp [go_sem], by simp [go_sem], by simp [go_sem], by simp [go_sem], by simp [go_sem]⟩
      go_wp2_with fail
      refine (gb _).mono ?_
      rintro e w2 ⟨rfl, hb2⟩
      have z2 := hb2.size
      have hS2 := ChS.keep hb2 hS1
      clear hS1
      go_wp2_with fail
      go_region_held3 (fun wx => Below w.heap.size w wx ∧ w.heap.size + 1 < wx.heap.size ∧ wx.cell? ⟨w.heap.size, 0, none⟩ = some (.int .i64 ka) ∧ wx.cell? ⟨w.heap.size, 1, none⟩ = some (.int .i64 ca) ∧ wx.cell? ⟨w.heap.size, 2, none⟩ = some (.int .i64 qa) ∧ wx.cell? ⟨w.heap.size, 3, none⟩ = some (.string ya) ∧ wx.cell? ⟨w.heap.size, 4, none⟩ = some (.string xa) ∧ wx.cell? ⟨w.heap.size, 5, none⟩ = some (.int .i64 ra) ∧ wx.cell? ⟨w.heap.size + 1, 0, none⟩ = some (.int .i64 kb) ∧ wx.cell? ⟨w.heap.size + 1, 1, none⟩ = some (.int .i64 cb) ∧ wx.cell? ⟨w.heap.size + 1, 2, none⟩ = some (.int .i64 qb) ∧ wx.cell? ⟨w.heap.size + 1, 3, none⟩ = some (.string yb) ∧ wx.cell? ⟨w.heap.size + 1, 4, none⟩ = some (.string xb) ∧ wx.cell? ⟨w.heap.size + 1, 5, none⟩ = some (.int .i64 rb))
        ((repeat' first | with_reducible assumption | with_reducible refine ChS.drew ?_ | with_reducible refine ChS.keep (by with_reducible assumption) ?_))
        (first | (go_at_call 10; (with_reducible refine (K1 _ (by with_reducible assumption)).mono ?_); rintro e w1 ⟨rfl, hb1⟩; have hz1 := hb1.size; (try simp at hz1)) | (go_at_call 11; (with_reducible refine (K2 _).mono ?_); rintro e w1 ⟨rfl, hb1⟩; have hz1 := hb1.size; (try simp at hz1)) | (go_at_call 12; (with_reducible refine (P1 _).mono ?_); rintro e w1 ⟨rfl, hb1⟩; have hz1 := hb1.size; (try simp at hz1)) | (go_at_call 13; (with_reducible refine (P2 _).mono ?_); rintro e w1 ⟨rfl, hb1⟩; have hz1 := hb1.size; (try simp at hz1)) | (go_at_call 14; (with_reducible refine (M1 _).mono ?_); rintro e w1 ⟨rfl, hb1⟩; have hz1 := hb1.size; (try simp at hz1)) | (go_at_call 14; (with_reducible refine (M3 _).mono ?_); rintro e w1 ⟨rfl, hb1⟩; have hz1 := hb1.size; (try simp at hz1)) | (go_at_call 15; (with_reducible refine (M2 _).mono ?_); rintro e w1 ⟨rfl, hb1⟩; have hz1 := hb1.size; (try simp at hz1)) | (go_at_call 9; (with_reducible refine (AW _ (by with_reducible assumption)).mono ?_); rintro e w1 ⟨rfl, hb1⟩; have hz1 := hb1.size; (try simp at hz1); have HS := Lib.hid (ChS.keep hb1 (by with_reducible assumption : ChS w ka ca qa ya xa ra kb cb qb yb xb rb _))))
      go_wp2_with fail
      go_ret
      exact ⟨rfl, HS.out.1⟩
    · rw [hga] at ga
      rw [hgb] at gb
      clear hga hgb hT
      go_enter Tryd.func3, Tryd.ntmps3
      go_wp2_with fail
      refine (ga _).mono ?_
      rintro e w1 ⟨rfl, hb1⟩
      have z1 := hb1.size
      (try simp at z1)
      have k1 : Below w.heap.size w w1 := by ((repeat' first | with_reducible exact Below.refl _ _ | with_reducible assumption | with_reducible refine Below.alloc ?_ ?_ _ | with_reducible refine Below.setCell ?_ ?_ _ | with_reducible apply Below.drew | with_reducible apply below_drewN | with_reducible refine below_call ?_ (by with_reducible assumption) ?_) <;> (first | omega | (simp; done) | (simp; omega) | (simp at *; omega)))
      have b1 : Blk w1 (w.heap.size + 1) 23 #[.int .i64 kb, .int .i64 cb, .int .i64 qb, .string yb, .string xb, .int .i64 rb] := Blk.keep (w := ((w.alloc (.cells #[.int .i64 ka, .int .i64 ca, .int .i64 qa, .string ya, .string xa, .int .i64 ra] 23)).alloc (.cells #[.int .i64 kb, .int .i64 cb, .int .i64 qb, .string yb, .string xb, .int .i64 rb] 23))) (by have h := Blk.new (w.alloc (.cells #[.int .i64 ka, .int .i64 ca, .int .i64 qa, .string ya, .string xa, .int .i64 ra] 23)) 23 #[.int .i64 kb, .int .i64 cb, .int .i64 qb, .string yb, .string xb, .int .i64 rb]; simp only [World.size_alloc] at h; exact h) hb1
      have c1 := b1.cell
      go_wp2_with fail
      refine (gb _).mono ?_
      rintro e w2 ⟨rfl, hb2⟩
      have z2 := hb2.size
      have k2 := below_call k1 hb2 k1.size
      go_wp2_with fail
      refine (AW0 _ k2).mono ?_
      rintro e w3 ⟨rfl, hb3⟩
      have z3 := hb3.size
      go_wp2_with fail
      go_ret
      exact ⟨rfl, below_call k2 hb3 k2.size⟩
  · rw [hga] at ga
    clear hga hT
    go_enter Tryd.func3, Tryd.ntmps3
    go_wp2_with fail
    refine (ga _).mono ?_
    rintro e w1 ⟨rfl, hb1⟩
    have z1 := hb1.size
    (try simp at z1)
    have k1 : Below w.heap.size w w1 := by ((repeat' first | with_reducible exact Below.refl _ _ | with_reducible assumption | with_reducible refine Below.alloc ?_ ?_ _ | with_reducible refine Below.setCell ?_ ?_ _ | with_reducible apply Below.drew | with_reducible apply below_drewN | with_reducible refine below_call ?_ (by with_reducible assumption) ?_) <;> (first | omega | (simp; done) | (simp; omega) | (simp at *; omega)))
    go_wp2_with fail
    refine (AW0 _ k1).mono ?_
    rintro e w2 ⟨rfl, hb2⟩
    have z2 := hb2.size
    go_wp2_with fail
    go_ret
    exact ⟨rfl, below_call k1 hb2 k1.size⟩
end Go.Proofs.YtekbebekihcnpaaDoor
