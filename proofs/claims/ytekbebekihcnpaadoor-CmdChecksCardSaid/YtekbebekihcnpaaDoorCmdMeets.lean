/- The walk of the law CmdMeets. -/
import Derived.Test.YtekbebekihcnpaaDoorAwake06
namespace Go.Proofs.YtekbebekihcnpaaDoor
open Go.RowKit
set_option linter.unusedVariables false
set_option linter.unusedSimpArgs false
set_option maxRecDepth 20000
attribute [local go_sem ↓] Go.wp_at_zero Go.wp_at_succ
attribute [local go_sem] World.cell?_alloc_some frozen_alloc_some

theorem cmeet_none {ka ca kb cb : Int} {ya yb : ByteArray} (h : ka = 0 ∨ kb = 0) : cmeet ka ca ya kb cb yb = false := by unfold cmeet; rw [if_pos h]
theorem cmeet_same {ka ca kb cb : Int} {ya yb : ByteArray} (h : ¬ (ka = 0 ∨ kb = 0)) (h2 : ka = 6 ∨ kb = 6 ∨ ca = cb) : cmeet ka ca ya kb cb yb = true := by unfold cmeet; rw [if_neg h, if_pos h2]
theorem cmeet_key {ka ca kb cb : Int} {ya : ByteArray} (h : ¬ (ka = 0 ∨ kb = 0)) (hw : cwrites ka = true) : cmeet ka ca ya kb cb ya = true := by
  unfold cmeet
  rw [if_neg h]
  split
  · rfl
  · simp [hw, ckeys]
set_option maxHeartbeats 8000000 in
theorem meets_walk (ka ca qa : Int) (ya xa : ByteArray) (ra : Int) (kb cb qb : Int) (yb xb : ByteArray) (rb : Int) (w : World) (hT : Tabs w) :
    Calls Tryd.prog 4 #[.agg #[.int .i64 ka, .int .i64 ca, .int .i64 qa, .string ya, .string xa, .int .i64 ra], .agg #[.int .i64 kb, .int .i64 cb, .int .i64 qb, .string yb, .string xb, .int .i64 rb]] w (Gives w (.bool true)) := by
  have AW : ∀ W, Below w.heap.size w W → Calls Tryd.prog 9 #[] W (Gives W (.bool true)) := fun W h => awake06 W (hT.keep h)
  clear hT
  have M0 : (ka = 0 ∨ kb = 0) → ∀ W, Calls Tryd.prog 14 #[.agg #[.int .i64 ka, .int .i64 ca, .int .i64 qa, .string ya, .string xa, .int .i64 ra], .agg #[.int .i64 kb, .int .i64 cb, .int .i64 qb, .string yb, .string xb, .int .i64 rb]] W (Gives W (.bool false)) := fun h W => by rw [← cmeet_none (ca := ca) (cb := cb) (ya := ya) (yb := yb) h]; exact meet_any ka ca qa ya xa ra kb cb qb yb xb rb W
  by_cases h1 : ka = 0
  · have N0 := M0 (.inl h1)
    clear M0
    subst h1
    go_enter Tryd.func4, Tryd.ntmps4
    go_wp2_with fail
    refine (N0 _).mono ?_
    rintro e w1 ⟨rfl, hb1⟩
    have z1 := hb1.size
    simp at z1
    have k1 : Below w.heap.size w w1 := by ((repeat' first | with_reducible exact Below.refl _ _ | with_reducible assumption | with_reducible refine Below.alloc ?_ ?_ _ | with_reducible refine Below.setCell ?_ ?_ _ | with_reducible apply Below.drew | with_reducible apply below_drewN | with_reducible refine below_call ?_ (by with_reducible assumption) ?_) <;> (first | omega | (simp; done) | (simp; omega) | (simp at *; omega)))
    go_wp2_with fail
    refine (AW _ k1).mono ?_
    rintro e w2 ⟨rfl, hb2⟩
    have z2 := hb2.size
    have k2 := below_call k1 hb2 k1.size
    go_wp2_with fail
    go_ret
    exact ⟨rfl, k2⟩
  · have h1' : (ka == (0 : Int)) = false := by simp [h1]
    by_cases h2 : kb = 0
    · have N0 := M0 (.inr h2)
      clear M0
      subst h2
      go_enter Tryd.func4, Tryd.ntmps4
      go_wp2_with fail
      refine (N0 _).mono ?_
      rintro e w1 ⟨rfl, hb1⟩
      have z1 := hb1.size
      simp at z1
      have k1 : Below w.heap.size w w1 := by ((repeat' first | with_reducible exact Below.refl _ _ | with_reducible assumption | with_reducible refine Below.alloc ?_ ?_ _ | with_reducible refine Below.setCell ?_ ?_ _ | with_reducible apply Below.drew | with_reducible apply below_drewN | with_reducible refine below_call ?_ (by with_reducible assumption) ?_) <;> (first | omega | (simp; done) | (simp; omega) | (simp at *; omega)))
      go_wp2_with fail
      refine (AW _ k1).mono ?_
      rintro e w2 ⟨rfl, hb2⟩
      have z2 := hb2.size
      have k2 := below_call k1 hb2 k1.size
      go_wp2_with fail
      go_ret
      exact ⟨rfl, k2⟩
    · have h2' : (kb == (0 : Int)) = false := by simp [h2]
      have hn : ¬ (ka = 0 ∨ kb = 0) := by simp [h1, h2]
      have C1 : ∀ W, Calls Tryd.prog 14 #[.agg #[.int .i64 ka, .int .i64 cb, .int .i64 qa, .string ya, .string xa, .int .i64 ra], .agg #[.int .i64 kb, .int .i64 cb, .int .i64 qb, .string yb, .string xb, .int .i64 rb]] W (Gives W (.bool true)) := fun W => by rw [← cmeet_same (ca := cb) (cb := cb) (ya := ya) (yb := yb) hn (.inr (.inr rfl))]; exact meet_any ka cb qa ya xa ra kb cb qb yb xb rb W
      have C2 : ∀ W, Calls Tryd.prog 14 #[.agg #[.int .i64 ka, .int .i64 ca, .int .i64 qa, .string ya, .string xa, .int .i64 ra], .agg #[.int .i64 6, .int .i64 0, .int .i64 0, .string ByteArray.empty, .string ByteArray.empty, .int .i64 0]] W (Gives W (.bool true)) := fun W => by rw [← cmeet_same (ka := ka) (kb := 6) (ca := ca) (cb := 0) (ya := ya) (yb := ByteArray.empty) (by simp [h1]) (.inr (.inl rfl))]; exact meet_any ka ca qa ya xa ra 6 0 0 ByteArray.empty ByteArray.empty 0 W
      have C3 : ∀ W, Calls Tryd.prog 14 #[.agg #[.int .i64 6, .int .i64 0, .int .i64 0, .string ByteArray.empty, .string ByteArray.empty, .int .i64 0], .agg #[.int .i64 kb, .int .i64 cb, .int .i64 qb, .string yb, .string xb, .int .i64 rb]] W (Gives W (.bool true)) := fun W => by rw [← cmeet_same (ka := 6) (kb := kb) (ca := 0) (cb := cb) (ya := ByteArray.empty) (yb := yb) (by simp [h2]) (.inl rfl)]; exact meet_any 6 0 0 ByteArray.empty ByteArray.empty 0 kb cb qb yb xb rb W
      have C4 : ∀ W, Calls Tryd.prog 14 #[.agg #[.int .i64 6, .int .i64 0, .int .i64 0, .string ByteArray.empty, .string ByteArray.empty, .int .i64 0], .agg #[.int .i64 0, .int .i64 0, .int .i64 0, .string ByteArray.empty, .string ByteArray.empty, .int .i64 0]] W (Gives W (.bool false)) := fun W => by rw [← cmeet_none (ka := 6) (kb := 0) (ca := 0) (cb := 0) (ya := ByteArray.empty) (yb := ByteArray.empty) (.inr rfl)]; exact meet_any 6 0 0 ByteArray.empty ByteArray.empty 0 0 0 0 ByteArray.empty ByteArray.empty 0 W
      have C5 := fun W => writes_any ka ca qa ya xa ra W
      have C6 : cwrites ka = true → ∀ W, Calls Tryd.prog 14 #[.agg #[.int .i64 ka, .int .i64 ca, .int .i64 qa, .string ya, .string xa, .int .i64 ra], .agg #[.int .i64 kb, .int .i64 cb, .int .i64 qb, .string ya, .string xb, .int .i64 rb]] W (Gives W (.bool true)) := fun hw W => by rw [← cmeet_key (ca := ca) (cb := cb) (ya := ya) hn hw]; exact meet_any ka ca qa ya xa ra kb cb qb ya xb rb W
      clear M0 hn h1 h2
      generalize cwrites ka = p at *
      cases p
      · clear C6
        go_enter Tryd.func4, Tryd.ntmps4
        go_wp2_with fail
        refine (C1 _).mono ?_
        rintro e w1 ⟨rfl, hb1⟩
        have z1 := hb1.size
        simp at z1
        have k1 : Below w.heap.size w w1 := by ((repeat' first | with_reducible exact Below.refl _ _ | with_reducible assumption | with_reducible refine Below.alloc ?_ ?_ _ | with_reducible refine Below.setCell ?_ ?_ _ | with_reducible apply Below.drew | with_reducible apply below_drewN | with_reducible refine below_call ?_ (by with_reducible assumption) ?_) <;> (first | omega | (simp; done) | (simp; omega) | (simp at *; omega)))
        have b0 : Blk w1 (w.heap.size) 23 #[.int .i64 ka, .int .i64 ca, .int .i64 qa, .string ya, .string xa, .int .i64 ra] := Blk.keep (w := (((((w.alloc (.cells #[.int .i64 ka, .int .i64 ca, .int .i64 qa, .string ya, .string xa, .int .i64 ra] 23)).alloc (.cells #[.int .i64 kb, .int .i64 cb, .int .i64 qb, .string yb, .string xb, .int .i64 rb] 23)).alloc (.cells #[.int .i64 ka, .int .i64 cb, .int .i64 qa, .string ya, .string xa, .int .i64 ra] 23)).alloc (.cells #[.int .i64 6, .int .i64 0, .int .i64 0, .string ByteArray.empty, .string ByteArray.empty, .int .i64 0] 23)).alloc (.cells #[.int .i64 kb, .int .i64 cb, .int .i64 qb, .string ya, .string xb, .int .i64 rb] 23))) (by have h := Blk.new w 23 #[.int .i64 ka, .int .i64 ca, .int .i64 qa, .string ya, .string xa, .int .i64 ra]; (try simp only [World.size_alloc] at h); exact ((((h.alloc _).alloc _).alloc _).alloc _)) hb1
        have b1 : Blk w1 (w.heap.size + 1) 23 #[.int .i64 kb, .int .i64 cb, .int .i64 qb, .string yb, .string xb, .int .i64 rb] := Blk.keep (w := (((((w.alloc (.cells #[.int .i64 ka, .int .i64 ca, .int .i64 qa, .string ya, .string xa, .int .i64 ra] 23)).alloc (.cells #[.int .i64 kb, .int .i64 cb, .int .i64 qb, .string yb, .string xb, .int .i64 rb] 23)).alloc (.cells #[.int .i64 ka, .int .i64 cb, .int .i64 qa, .string ya, .string xa, .int .i64 ra] 23)).alloc (.cells #[.int .i64 6, .int .i64 0, .int .i64 0, .string ByteArray.empty, .string ByteArray.empty, .int .i64 0] 23)).alloc (.cells #[.int .i64 kb, .int .i64 cb, .int .i64 qb, .string ya, .string xb, .int .i64 rb] 23))) (by have h := Blk.new (w.alloc (.cells #[.int .i64 ka, .int .i64 ca, .int .i64 qa, .string ya, .string xa, .int .i64 ra] 23)) 23 #[.int .i64 kb, .int .i64 cb, .int .i64 qb, .string yb, .string xb, .int .i64 rb]; (try simp only [World.size_alloc] at h); exact (((h.alloc _).alloc _).alloc _)) hb1
        have b3 : Blk w1 (w.heap.size + 1 + 1 + 1) 23 #[.int .i64 6, .int .i64 0, .int .i64 0, .string ByteArray.empty, .string ByteArray.empty, .int .i64 0] := Blk.keep (w := (((((w.alloc (.cells #[.int .i64 ka, .int .i64 ca, .int .i64 qa, .string ya, .string xa, .int .i64 ra] 23)).alloc (.cells #[.int .i64 kb, .int .i64 cb, .int .i64 qb, .string yb, .string xb, .int .i64 rb] 23)).alloc (.cells #[.int .i64 ka, .int .i64 cb, .int .i64 qa, .string ya, .string xa, .int .i64 ra] 23)).alloc (.cells #[.int .i64 6, .int .i64 0, .int .i64 0, .string ByteArray.empty, .string ByteArray.empty, .int .i64 0] 23)).alloc (.cells #[.int .i64 kb, .int .i64 cb, .int .i64 qb, .string ya, .string xb, .int .i64 rb] 23))) (by have h := Blk.new (((w.alloc (.cells #[.int .i64 ka, .int .i64 ca, .int .i64 qa, .string ya, .string xa, .int .i64 ra] 23)).alloc (.cells #[.int .i64 kb, .int .i64 cb, .int .i64 qb, .string yb, .string xb, .int .i64 rb] 23)).alloc (.cells #[.int .i64 ka, .int .i64 cb, .int .i64 qa, .string ya, .string xa, .int .i64 ra] 23)) 23 #[.int .i64 6, .int .i64 0, .int .i64 0, .string ByteArray.empty, .string ByteArray.empty, .int .i64 0]; (try simp only [World.size_alloc] at h); exact (h.alloc _)) hb1
        have b4 : Blk w1 (w.heap.size + 1 + 1 + 1 + 1) 23 #[.int .i64 kb, .int .i64 cb, .int .i64 qb, .string ya, .string xb, .int .i64 rb] := Blk.keep (w := (((((w.alloc (.cells #[.int .i64 ka, .int .i64 ca, .int .i64 qa, .string ya, .string xa, .int .i64 ra] 23)).alloc (.cells #[.int .i64 kb, .int .i64 cb, .int .i64 qb, .string yb, .string xb, .int .i64 rb] 23)).alloc (.cells #[.int .i64 ka, .int .i64 cb, .int .i64 qa, .string ya, .string xa, .int .i64 ra] 23)).alloc (.cells #[.int .i64 6, .int .i64 0, .int .i64 0, .string ByteArray.empty, .string ByteArray.empty, .int .i64 0] 23)).alloc (.cells #[.int .i64 kb, .int .i64 cb, .int .i64 qb, .string ya, .string xb, .int .i64 rb] 23))) (by have h := Blk.new ((((w.alloc (.cells #[.int .i64 ka, .int .i64 ca, .int .i64 qa, .string ya, .string xa, .int .i64 ra] 23)).alloc (.cells #[.int .i64 kb, .int .i64 cb, .int .i64 qb, .string yb, .string xb, .int .i64 rb] 23)).alloc (.cells #[.int .i64 ka, .int .i64 cb, .int .i64 qa, .string ya, .string xa, .int .i64 ra] 23)).alloc (.cells #[.int .i64 6, .int .i64 0, .int .i64 0, .string ByteArray.empty, .string ByteArray.empty, .int .i64 0] 23)) 23 #[.int .i64 kb, .int .i64 cb, .int .i64 qb, .string ya, .string xb, .int .i64 rb]; (try simp only [World.size_alloc] at h); exact h) hb1
        have f20 := b0.cell
        have f21 := b3.cell
        go_wp2_with fail
        refine (C2 _).mono ?_
        rintro e w2 ⟨rfl, hb2⟩
        have z2 := hb2.size
        have k2 := below_call k1 hb2 k1.size
        replace b0 := b0.keep hb2
        replace b1 := b1.keep hb2
        replace b3 := b3.keep hb2
        replace b4 := b4.keep hb2
        have f30 := b3.cell
        have f31 := b1.cell
        go_wp2_with fail
        refine (C3 _).mono ?_
        rintro e w3 ⟨rfl, hb3⟩
        have z3 := hb3.size
        have k3 := below_call k2 hb3 k2.size
        replace b0 := b0.keep hb3
        replace b3 := b3.keep hb3
        replace b4 := b4.keep hb3
        have f40 := b3.cell
        go_wp2_with fail
        refine (C4 _).mono ?_
        rintro e w4 ⟨rfl, hb4⟩
        have z4 := hb4.size
        have k4 := below_call k3 hb4 k3.size
        replace b0 := b0.keep hb4
        replace b4 := b4.keep hb4
        have f50 := b0.cell
        go_wp2_with fail
        refine (C5 _).mono ?_
        rintro e w5 ⟨rfl, hb5⟩
        have z5 := hb5.size
        have k5 := below_call k4 hb5 k4.size
        replace b0 := b0.keep hb5
        replace b4 := b4.keep hb5
        go_wp2_with fail
        refine (AW _ k5).mono ?_
        rintro e w6 ⟨rfl, hb6⟩
        have z6 := hb6.size
        have k6 := below_call k5 hb6 k5.size
        go_wp2_with fail
        go_ret
        exact ⟨rfl, k6⟩
      · have C7 := C6 rfl
        clear C6
        go_enter Tryd.func4, Tryd.ntmps4
        go_wp2_with fail
        refine (C1 _).mono ?_
        rintro e w1 ⟨rfl, hb1⟩
        have z1 := hb1.size
        simp at z1
        have k1 : Below w.heap.size w w1 := by ((repeat' first | with_reducible exact Below.refl _ _ | with_reducible assumption | with_reducible refine Below.alloc ?_ ?_ _ | with_reducible refine Below.setCell ?_ ?_ _ | with_reducible apply Below.drew | with_reducible apply below_drewN | with_reducible refine below_call ?_ (by with_reducible assumption) ?_) <;> (first | omega | (simp; done) | (simp; omega) | (simp at *; omega)))
        have b0 : Blk w1 (w.heap.size) 23 #[.int .i64 ka, .int .i64 ca, .int .i64 qa, .string ya, .string xa, .int .i64 ra] := Blk.keep (w := (((((w.alloc (.cells #[.int .i64 ka, .int .i64 ca, .int .i64 qa, .string ya, .string xa, .int .i64 ra] 23)).alloc (.cells #[.int .i64 kb, .int .i64 cb, .int .i64 qb, .string yb, .string xb, .int .i64 rb] 23)).alloc (.cells #[.int .i64 ka, .int .i64 cb, .int .i64 qa, .string ya, .string xa, .int .i64 ra] 23)).alloc (.cells #[.int .i64 6, .int .i64 0, .int .i64 0, .string ByteArray.empty, .string ByteArray.empty, .int .i64 0] 23)).alloc (.cells #[.int .i64 kb, .int .i64 cb, .int .i64 qb, .string ya, .string xb, .int .i64 rb] 23))) (by have h := Blk.new w 23 #[.int .i64 ka, .int .i64 ca, .int .i64 qa, .string ya, .string xa, .int .i64 ra]; (try simp only [World.size_alloc] at h); exact ((((h.alloc _).alloc _).alloc _).alloc _)) hb1
        have b1 : Blk w1 (w.heap.size + 1) 23 #[.int .i64 kb, .int .i64 cb, .int .i64 qb, .string yb, .string xb, .int .i64 rb] := Blk.keep (w := (((((w.alloc (.cells #[.int .i64 ka, .int .i64 ca, .int .i64 qa, .string ya, .string xa, .int .i64 ra] 23)).alloc (.cells #[.int .i64 kb, .int .i64 cb, .int .i64 qb, .string yb, .string xb, .int .i64 rb] 23)).alloc (.cells #[.int .i64 ka, .int .i64 cb, .int .i64 qa, .string ya, .string xa, .int .i64 ra] 23)).alloc (.cells #[.int .i64 6, .int .i64 0, .int .i64 0, .string ByteArray.empty, .string ByteArray.empty, .int .i64 0] 23)).alloc (.cells #[.int .i64 kb, .int .i64 cb, .int .i64 qb, .string ya, .string xb, .int .i64 rb] 23))) (by have h := Blk.new (w.alloc (.cells #[.int .i64 ka, .int .i64 ca, .int .i64 qa, .string ya, .string xa, .int .i64 ra] 23)) 23 #[.int .i64 kb, .int .i64 cb, .int .i64 qb, .string yb, .string xb, .int .i64 rb]; (try simp only [World.size_alloc] at h); exact (((h.alloc _).alloc _).alloc _)) hb1
        have b3 : Blk w1 (w.heap.size + 1 + 1 + 1) 23 #[.int .i64 6, .int .i64 0, .int .i64 0, .string ByteArray.empty, .string ByteArray.empty, .int .i64 0] := Blk.keep (w := (((((w.alloc (.cells #[.int .i64 ka, .int .i64 ca, .int .i64 qa, .string ya, .string xa, .int .i64 ra] 23)).alloc (.cells #[.int .i64 kb, .int .i64 cb, .int .i64 qb, .string yb, .string xb, .int .i64 rb] 23)).alloc (.cells #[.int .i64 ka, .int .i64 cb, .int .i64 qa, .string ya, .string xa, .int .i64 ra] 23)).alloc (.cells #[.int .i64 6, .int .i64 0, .int .i64 0, .string ByteArray.empty, .string ByteArray.empty, .int .i64 0] 23)).alloc (.cells #[.int .i64 kb, .int .i64 cb, .int .i64 qb, .string ya, .string xb, .int .i64 rb] 23))) (by have h := Blk.new (((w.alloc (.cells #[.int .i64 ka, .int .i64 ca, .int .i64 qa, .string ya, .string xa, .int .i64 ra] 23)).alloc (.cells #[.int .i64 kb, .int .i64 cb, .int .i64 qb, .string yb, .string xb, .int .i64 rb] 23)).alloc (.cells #[.int .i64 ka, .int .i64 cb, .int .i64 qa, .string ya, .string xa, .int .i64 ra] 23)) 23 #[.int .i64 6, .int .i64 0, .int .i64 0, .string ByteArray.empty, .string ByteArray.empty, .int .i64 0]; (try simp only [World.size_alloc] at h); exact (h.alloc _)) hb1
        have b4 : Blk w1 (w.heap.size + 1 + 1 + 1 + 1) 23 #[.int .i64 kb, .int .i64 cb, .int .i64 qb, .string ya, .string xb, .int .i64 rb] := Blk.keep (w := (((((w.alloc (.cells #[.int .i64 ka, .int .i64 ca, .int .i64 qa, .string ya, .string xa, .int .i64 ra] 23)).alloc (.cells #[.int .i64 kb, .int .i64 cb, .int .i64 qb, .string yb, .string xb, .int .i64 rb] 23)).alloc (.cells #[.int .i64 ka, .int .i64 cb, .int .i64 qa, .string ya, .string xa, .int .i64 ra] 23)).alloc (.cells #[.int .i64 6, .int .i64 0, .int .i64 0, .string ByteArray.empty, .string ByteArray.empty, .int .i64 0] 23)).alloc (.cells #[.int .i64 kb, .int .i64 cb, .int .i64 qb, .string ya, .string xb, .int .i64 rb] 23))) (by have h := Blk.new ((((w.alloc (.cells #[.int .i64 ka, .int .i64 ca, .int .i64 qa, .string ya, .string xa, .int .i64 ra] 23)).alloc (.cells #[.int .i64 kb, .int .i64 cb, .int .i64 qb, .string yb, .string xb, .int .i64 rb] 23)).alloc (.cells #[.int .i64 ka, .int .i64 cb, .int .i64 qa, .string ya, .string xa, .int .i64 ra] 23)).alloc (.cells #[.int .i64 6, .int .i64 0, .int .i64 0, .string ByteArray.empty, .string ByteArray.empty, .int .i64 0] 23)) 23 #[.int .i64 kb, .int .i64 cb, .int .i64 qb, .string ya, .string xb, .int .i64 rb]; (try simp only [World.size_alloc] at h); exact h) hb1
        have f20 := b0.cell
        have f21 := b3.cell
        go_wp2_with fail
        refine (C2 _).mono ?_
        rintro e w2 ⟨rfl, hb2⟩
        have z2 := hb2.size
        have k2 := below_call k1 hb2 k1.size
        replace b0 := b0.keep hb2
        replace b1 := b1.keep hb2
        replace b3 := b3.keep hb2
        replace b4 := b4.keep hb2
        have f30 := b3.cell
        have f31 := b1.cell
        go_wp2_with fail
        refine (C3 _).mono ?_
        rintro e w3 ⟨rfl, hb3⟩
        have z3 := hb3.size
        have k3 := below_call k2 hb3 k2.size
        replace b0 := b0.keep hb3
        replace b3 := b3.keep hb3
        replace b4 := b4.keep hb3
        have f40 := b3.cell
        go_wp2_with fail
        refine (C4 _).mono ?_
        rintro e w4 ⟨rfl, hb4⟩
        have z4 := hb4.size
        have k4 := below_call k3 hb4 k3.size
        replace b0 := b0.keep hb4
        replace b4 := b4.keep hb4
        have f50 := b0.cell
        go_wp2_with fail
        refine (C5 _).mono ?_
        rintro e w5 ⟨rfl, hb5⟩
        have z5 := hb5.size
        have k5 := below_call k4 hb5 k4.size
        replace b0 := b0.keep hb5
        replace b4 := b4.keep hb5
        have f60 := b0.cell
        have f61 := b4.cell
        go_wp2_with fail
        refine (C7 _).mono ?_
        rintro e w6 ⟨rfl, hb6⟩
        have z6 := hb6.size
        have k6 := below_call k5 hb6 k5.size
        go_wp2_with fail
        refine (AW _ k6).mono ?_
        rintro e w7 ⟨rfl, hb7⟩
        have z7 := hb7.size
        have k7 := below_call k6 hb7 k6.size
        go_wp2_with fail
        go_ret
        exact ⟨rfl, k7⟩
end Go.Proofs.YtekbebekihcnpaaDoor
