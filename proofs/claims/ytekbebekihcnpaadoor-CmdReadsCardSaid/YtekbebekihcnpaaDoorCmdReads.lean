/- The walk of the law CmdReads. -/
import Derived.Test.YtekbebekihcnpaaDoorCmdBack
import Derived.Test.YtekbebekihcnpaaDoorGreat
import Derived.Test.YtekbebekihcnpaaDoorCmdMeets
namespace Go.Proofs.YtekbebekihcnpaaDoor
open Go.RowKit
set_option linter.unusedVariables false
set_option linter.unusedSimpArgs false
set_option maxRecDepth 20000
attribute [local go_sem ↓] Go.wp_at_zero Go.wp_at_succ
attribute [local go_sem] World.cell?_alloc_some frozen_alloc_some
attribute [local go_sem ↓ high] cmd_neq_run cmd_eql_run

theorem cmeet_apart {ka ca kb cb : Int} {ya yb : ByteArray} (h : ¬ (ka = 6 ∨ kb = 6 ∨ ca = cb)) (h1 : cwrites ka = false) (h2 : cwrites kb = false) : cmeet ka ca ya kb cb yb = false := by
  unfold cmeet
  split
  · rfl
  · (try rw [if_neg h])
    rw [h1, h2]; rfl
set_option maxHeartbeats 8000000 in
theorem reads_great (ka ca qa : Int) (ya xa : ByteArray) (ra : Int) (kb cb qb : Int) (yb xb : ByteArray) (rb : Int) (w : World) (hT : Tabs w) (hg : cgreat ya xa = true ∨ cgreat yb xb = true ∨ ka = 6 ∨ kb = 6) :
    Calls Tryd.prog 6 #[.agg #[.int .i64 ka, .int .i64 ca, .int .i64 qa, .string ya, .string xa, .int .i64 ra], .agg #[.int .i64 kb, .int .i64 cb, .int .i64 qb, .string yb, .string xb, .int .i64 rb]] w (Gives w (.bool true)) := by
  have AW : ∀ W, Below w.heap.size w W → Calls Tryd.prog 9 #[] W (Gives W (.bool true)) := fun W h => awake06 W (hT.keep h)
  have ga := fun W => great_any ka ca qa ya xa ra W
  have gb := fun W => great_any kb cb qb yb xb rb W
  generalize cgreat ya xa = g at *
  generalize cgreat yb xb = h at *
  clear hT
  cases g
  · cases h
    · by_cases h6 : ka = 6
      · have h6' : (ka == (6 : Int)) = true := by simp [h6]
        clear hg h6
        go_enter Tryd.func6, Tryd.ntmps6
        go_wp2_with fail
        refine (ga _).mono ?_
        rintro e w1 ⟨rfl, hb1⟩
        have z1 := hb1.size
        (try simp at z1)
        have k1 : Below w.heap.size w w1 := by ((repeat' first | with_reducible exact Below.refl _ _ | with_reducible assumption | with_reducible refine Below.alloc ?_ ?_ _ | with_reducible refine Below.setCell ?_ ?_ _ | with_reducible apply Below.drew | with_reducible apply below_drewN | with_reducible refine below_call ?_ (by with_reducible assumption) ?_) <;> (first | omega | (simp; done) | (simp; omega) | (simp at *; omega)))
        have b0 : Blk w1 w.heap.size 23 #[.int .i64 ka, .int .i64 ca, .int .i64 qa, .string ya, .string xa, .int .i64 ra] := Blk.keep (w := ((w.alloc (.cells #[.int .i64 ka, .int .i64 ca, .int .i64 qa, .string ya, .string xa, .int .i64 ra] 23)).alloc (.cells #[.int .i64 kb, .int .i64 cb, .int .i64 qb, .string yb, .string xb, .int .i64 rb] 23))) ((Blk.new w 23 #[.int .i64 ka, .int .i64 ca, .int .i64 qa, .string ya, .string xa, .int .i64 ra]).alloc _) hb1
        have b1 : Blk w1 (w.heap.size + 1) 23 #[.int .i64 kb, .int .i64 cb, .int .i64 qb, .string yb, .string xb, .int .i64 rb] := Blk.keep (w := ((w.alloc (.cells #[.int .i64 ka, .int .i64 ca, .int .i64 qa, .string ya, .string xa, .int .i64 ra] 23)).alloc (.cells #[.int .i64 kb, .int .i64 cb, .int .i64 qb, .string yb, .string xb, .int .i64 rb] 23))) (by have h := Blk.new (w.alloc (.cells #[.int .i64 ka, .int .i64 ca, .int .i64 qa, .string ya, .string xa, .int .i64 ra] 23)) 23 #[.int .i64 kb, .int .i64 cb, .int .i64 qb, .string yb, .string xb, .int .i64 rb]; simp only [World.size_alloc] at h; exact h) hb1
        have c01 := b0.cell
        have c11 := b1.cell
        go_wp2_with fail
        refine (gb _).mono ?_
        rintro e w2 ⟨rfl, hb2⟩
        have z2 := hb2.size
        have k2 := below_call k1 hb2 k1.size
        replace b0 := b0.keep hb2
        replace b1 := b1.keep hb2
        have c02 := b0.cell
        have c12 := b1.cell
        go_wp2_with fail
        refine (AW _ k2).mono ?_
        rintro e w3 ⟨rfl, hb3⟩
        have z3 := hb3.size
        have k3 := below_call k2 hb3 k2.size
        replace b0 := b0.keep hb3
        replace b1 := b1.keep hb3
        have c03 := b0.cell
        have c13 := b1.cell
        go_wp2_with fail
        go_ret
        exact ⟨rfl, k3⟩
      · have h6' : (ka == (6 : Int)) = false := by simp [h6]
        have h7 : (kb == (6 : Int)) = true := by
          rcases hg with h | h | h | h
          · cases h
          · cases h
          · exact absurd h h6
          · simp [h]
        clear hg h6
        go_enter Tryd.func6, Tryd.ntmps6
        go_wp2_with fail
        refine (ga _).mono ?_
        rintro e w1 ⟨rfl, hb1⟩
        have z1 := hb1.size
        (try simp at z1)
        have k1 : Below w.heap.size w w1 := by ((repeat' first | with_reducible exact Below.refl _ _ | with_reducible assumption | with_reducible refine Below.alloc ?_ ?_ _ | with_reducible refine Below.setCell ?_ ?_ _ | with_reducible apply Below.drew | with_reducible apply below_drewN | with_reducible refine below_call ?_ (by with_reducible assumption) ?_) <;> (first | omega | (simp; done) | (simp; omega) | (simp at *; omega)))
        have b0 : Blk w1 w.heap.size 23 #[.int .i64 ka, .int .i64 ca, .int .i64 qa, .string ya, .string xa, .int .i64 ra] := Blk.keep (w := ((w.alloc (.cells #[.int .i64 ka, .int .i64 ca, .int .i64 qa, .string ya, .string xa, .int .i64 ra] 23)).alloc (.cells #[.int .i64 kb, .int .i64 cb, .int .i64 qb, .string yb, .string xb, .int .i64 rb] 23))) ((Blk.new w 23 #[.int .i64 ka, .int .i64 ca, .int .i64 qa, .string ya, .string xa, .int .i64 ra]).alloc _) hb1
        have b1 : Blk w1 (w.heap.size + 1) 23 #[.int .i64 kb, .int .i64 cb, .int .i64 qb, .string yb, .string xb, .int .i64 rb] := Blk.keep (w := ((w.alloc (.cells #[.int .i64 ka, .int .i64 ca, .int .i64 qa, .string ya, .string xa, .int .i64 ra] 23)).alloc (.cells #[.int .i64 kb, .int .i64 cb, .int .i64 qb, .string yb, .string xb, .int .i64 rb] 23))) (by have h := Blk.new (w.alloc (.cells #[.int .i64 ka, .int .i64 ca, .int .i64 qa, .string ya, .string xa, .int .i64 ra] 23)) 23 #[.int .i64 kb, .int .i64 cb, .int .i64 qb, .string yb, .string xb, .int .i64 rb]; simp only [World.size_alloc] at h; exact h) hb1
        have c01 := b0.cell
        have c11 := b1.cell
        go_wp2_with fail
        refine (gb _).mono ?_
        rintro e w2 ⟨rfl, hb2⟩
        have z2 := hb2.size
        have k2 := below_call k1 hb2 k1.size
        replace b0 := b0.keep hb2
        replace b1 := b1.keep hb2
        have c02 := b0.cell
        have c12 := b1.cell
        go_wp2_with fail
        refine (AW _ k2).mono ?_
        rintro e w3 ⟨rfl, hb3⟩
        have z3 := hb3.size
        have k3 := below_call k2 hb3 k2.size
        replace b0 := b0.keep hb3
        replace b1 := b1.keep hb3
        have c03 := b0.cell
        have c13 := b1.cell
        go_wp2_with fail
        go_ret
        exact ⟨rfl, k3⟩
    · clear hg
      go_enter Tryd.func6, Tryd.ntmps6
      go_wp2_with fail
      refine (ga _).mono ?_
      rintro e w1 ⟨rfl, hb1⟩
      have z1 := hb1.size
      (try simp at z1)
      have k1 : Below w.heap.size w w1 := by ((repeat' first | with_reducible exact Below.refl _ _ | with_reducible assumption | with_reducible refine Below.alloc ?_ ?_ _ | with_reducible refine Below.setCell ?_ ?_ _ | with_reducible apply Below.drew | with_reducible apply below_drewN | with_reducible refine below_call ?_ (by with_reducible assumption) ?_) <;> (first | omega | (simp; done) | (simp; omega) | (simp at *; omega)))
      have b0 : Blk w1 w.heap.size 23 #[.int .i64 ka, .int .i64 ca, .int .i64 qa, .string ya, .string xa, .int .i64 ra] := Blk.keep (w := ((w.alloc (.cells #[.int .i64 ka, .int .i64 ca, .int .i64 qa, .string ya, .string xa, .int .i64 ra] 23)).alloc (.cells #[.int .i64 kb, .int .i64 cb, .int .i64 qb, .string yb, .string xb, .int .i64 rb] 23))) ((Blk.new w 23 #[.int .i64 ka, .int .i64 ca, .int .i64 qa, .string ya, .string xa, .int .i64 ra]).alloc _) hb1
      have b1 : Blk w1 (w.heap.size + 1) 23 #[.int .i64 kb, .int .i64 cb, .int .i64 qb, .string yb, .string xb, .int .i64 rb] := Blk.keep (w := ((w.alloc (.cells #[.int .i64 ka, .int .i64 ca, .int .i64 qa, .string ya, .string xa, .int .i64 ra] 23)).alloc (.cells #[.int .i64 kb, .int .i64 cb, .int .i64 qb, .string yb, .string xb, .int .i64 rb] 23))) (by have h := Blk.new (w.alloc (.cells #[.int .i64 ka, .int .i64 ca, .int .i64 qa, .string ya, .string xa, .int .i64 ra] 23)) 23 #[.int .i64 kb, .int .i64 cb, .int .i64 qb, .string yb, .string xb, .int .i64 rb]; simp only [World.size_alloc] at h; exact h) hb1
      have c01 := b0.cell
      have c11 := b1.cell
      go_wp2_with fail
      refine (gb _).mono ?_
      rintro e w2 ⟨rfl, hb2⟩
      have z2 := hb2.size
      have k2 := below_call k1 hb2 k1.size
      replace b0 := b0.keep hb2
      replace b1 := b1.keep hb2
      have c02 := b0.cell
      have c12 := b1.cell
      go_wp2_with fail
      refine (AW _ k2).mono ?_
      rintro e w3 ⟨rfl, hb3⟩
      have z3 := hb3.size
      have k3 := below_call k2 hb3 k2.size
      replace b0 := b0.keep hb3
      replace b1 := b1.keep hb3
      have c03 := b0.cell
      have c13 := b1.cell
      go_wp2_with fail
      go_ret
      exact ⟨rfl, k3⟩
  · clear hg
    go_enter Tryd.func6, Tryd.ntmps6
    go_wp2_with fail
    refine (ga _).mono ?_
    rintro e w1 ⟨rfl, hb1⟩
    have z1 := hb1.size
    (try simp at z1)
    have k1 : Below w.heap.size w w1 := by ((repeat' first | with_reducible exact Below.refl _ _ | with_reducible assumption | with_reducible refine Below.alloc ?_ ?_ _ | with_reducible refine Below.setCell ?_ ?_ _ | with_reducible apply Below.drew | with_reducible apply below_drewN | with_reducible refine below_call ?_ (by with_reducible assumption) ?_) <;> (first | omega | (simp; done) | (simp; omega) | (simp at *; omega)))
    have b0 : Blk w1 w.heap.size 23 #[.int .i64 ka, .int .i64 ca, .int .i64 qa, .string ya, .string xa, .int .i64 ra] := Blk.keep (w := ((w.alloc (.cells #[.int .i64 ka, .int .i64 ca, .int .i64 qa, .string ya, .string xa, .int .i64 ra] 23)).alloc (.cells #[.int .i64 kb, .int .i64 cb, .int .i64 qb, .string yb, .string xb, .int .i64 rb] 23))) ((Blk.new w 23 #[.int .i64 ka, .int .i64 ca, .int .i64 qa, .string ya, .string xa, .int .i64 ra]).alloc _) hb1
    have b1 : Blk w1 (w.heap.size + 1) 23 #[.int .i64 kb, .int .i64 cb, .int .i64 qb, .string yb, .string xb, .int .i64 rb] := Blk.keep (w := ((w.alloc (.cells #[.int .i64 ka, .int .i64 ca, .int .i64 qa, .string ya, .string xa, .int .i64 ra] 23)).alloc (.cells #[.int .i64 kb, .int .i64 cb, .int .i64 qb, .string yb, .string xb, .int .i64 rb] 23))) (by have h := Blk.new (w.alloc (.cells #[.int .i64 ka, .int .i64 ca, .int .i64 qa, .string ya, .string xa, .int .i64 ra] 23)) 23 #[.int .i64 kb, .int .i64 cb, .int .i64 qb, .string yb, .string xb, .int .i64 rb]; simp only [World.size_alloc] at h; exact h) hb1
    have c01 := b0.cell
    have c11 := b1.cell
    go_wp2_with fail
    refine (AW _ k1).mono ?_
    rintro e w2 ⟨rfl, hb2⟩
    have z2 := hb2.size
    have k2 := below_call k1 hb2 k1.size
    replace b0 := b0.keep hb2
    replace b1 := b1.keep hb2
    have c02 := b0.cell
    have c12 := b1.cell
    go_wp2_with fail
    go_ret
    exact ⟨rfl, k2⟩
set_option maxHeartbeats 16000000 in
theorem reads_wrong (ka ca qa : Int) (ya xa : ByteArray) (ra : Int) (kb cb qb : Int) (yb xb : ByteArray) (rb : Int) (w : World) (hT : Tabs w) (g1 : cgreat ya xa = false) (g2 : cgreat yb xb = false) (h6 : ¬ ka = 6) (h7 : ¬ kb = 6) (hya : ya.size ≤ maxLen) (hxa : xa.size ≤ maxLen) (hE : ccheck ka ca qa ya xa ra ≠ 0) :
    Calls Tryd.prog 6 #[.agg #[.int .i64 ka, .int .i64 ca, .int .i64 qa, .string ya, .string xa, .int .i64 ra], .agg #[.int .i64 kb, .int .i64 cb, .int .i64 qb, .string yb, .string xb, .int .i64 rb]] w (Gives w (.bool true)) := by
  have AW : ∀ W, Below w.heap.size w W → Calls Tryd.prog 9 #[] W (Gives W (.bool true)) := fun W h => awake06 W (hT.keep h)
  have ga := fun W => great_any ka ca qa ya xa ra W
  have gb := fun W => great_any kb cb qb yb xb rb W
  rw [g1] at ga
  rw [g2] at gb
  have h6' : (ka == (6 : Int)) = false := by simp [h6]
  have h7' : (kb == (6 : Int)) = false := by simp [h7]
  have wa := fun W => writes_any ka ca qa ya xa ra W
  have wb := fun W => writes_any kb cb qb yb xb rb W
  have hme : cwrites ka = false → cwrites kb = false → ¬ ca = cb → ∀ W, Calls Tryd.prog 14 #[.agg #[.int .i64 ka, .int .i64 ca, .int .i64 qa, .string ya, .string xa, .int .i64 ra], .agg #[.int .i64 kb, .int .i64 cb, .int .i64 qb, .string yb, .string xb, .int .i64 rb]] W (Gives W (.bool false)) := fun h1 h2 h3 W => by rw [← cmeet_apart (ya := ya) (yb := yb) (show ¬ (ka = 6 ∨ kb = 6 ∨ ca = cb) by simp [h6, h7, h3]) h1 h2]; exact meet_any ka ca qa ya xa ra kb cb qb yb xb rb W
  clear h6 h7
  generalize cwrites ka = p at *
  generalize cwrites kb = q at *
  have hck := fun W (h : Below w.heap.size w W) => check6_any ka ca qa ya xa ra W hya hxa (hT.keep h)
  have hE' : ((ccheck ka ca qa ya xa ra : Int) != 0) = true := by simp; omega
  generalize ccheck ka ca qa ya xa ra = E at *
  clear hT g1 g2 hE
  cases p
  · cases q
    · by_cases hc : ca = cb
      · have hc' : (ca != cb) = false := by simp [hc]
        clear hme hc
        go_enter Tryd.func6, Tryd.ntmps6
        go_wp2_with fail
        refine (ga _).mono ?_
        rintro e w1 ⟨rfl, hb1⟩
        have z1 := hb1.size
        (try simp at z1)
        have k1 : Below w.heap.size w w1 := by ((repeat' first | with_reducible exact Below.refl _ _ | with_reducible assumption | with_reducible refine Below.alloc ?_ ?_ _ | with_reducible refine Below.setCell ?_ ?_ _ | with_reducible apply Below.drew | with_reducible apply below_drewN | with_reducible refine below_call ?_ (by with_reducible assumption) ?_) <;> (first | omega | (simp; done) | (simp; omega) | (simp at *; omega)))
        have b0 : Blk w1 w.heap.size 23 #[.int .i64 ka, .int .i64 ca, .int .i64 qa, .string ya, .string xa, .int .i64 ra] := Blk.keep (w := ((w.alloc (.cells #[.int .i64 ka, .int .i64 ca, .int .i64 qa, .string ya, .string xa, .int .i64 ra] 23)).alloc (.cells #[.int .i64 kb, .int .i64 cb, .int .i64 qb, .string yb, .string xb, .int .i64 rb] 23))) ((Blk.new w 23 #[.int .i64 ka, .int .i64 ca, .int .i64 qa, .string ya, .string xa, .int .i64 ra]).alloc _) hb1
        have b1 : Blk w1 (w.heap.size + 1) 23 #[.int .i64 kb, .int .i64 cb, .int .i64 qb, .string yb, .string xb, .int .i64 rb] := Blk.keep (w := ((w.alloc (.cells #[.int .i64 ka, .int .i64 ca, .int .i64 qa, .string ya, .string xa, .int .i64 ra] 23)).alloc (.cells #[.int .i64 kb, .int .i64 cb, .int .i64 qb, .string yb, .string xb, .int .i64 rb] 23))) (by have h := Blk.new (w.alloc (.cells #[.int .i64 ka, .int .i64 ca, .int .i64 qa, .string ya, .string xa, .int .i64 ra] 23)) 23 #[.int .i64 kb, .int .i64 cb, .int .i64 qb, .string yb, .string xb, .int .i64 rb]; simp only [World.size_alloc] at h; exact h) hb1
        have c01 := b0.cell
        have c11 := b1.cell
        go_wp2_with fail
        refine (gb _).mono ?_
        rintro e w2 ⟨rfl, hb2⟩
        have z2 := hb2.size
        have k2 := below_call k1 hb2 k1.size
        replace b0 := b0.keep hb2
        replace b1 := b1.keep hb2
        have c02 := b0.cell
        have c12 := b1.cell
        go_wp2_with fail
        refine (wa _).mono ?_
        rintro e w3 ⟨rfl, hb3⟩
        have z3 := hb3.size
        have k3 := below_call k2 hb3 k2.size
        replace b0 := b0.keep hb3
        replace b1 := b1.keep hb3
        have c03 := b0.cell
        have c13 := b1.cell
        go_wp2_with fail
        refine (wb _).mono ?_
        rintro e w4 ⟨rfl, hb4⟩
        have z4 := hb4.size
        have k4 := below_call k3 hb4 k3.size
        replace b0 := b0.keep hb4
        replace b1 := b1.keep hb4
        have c04 := b0.cell
        have c14 := b1.cell
        go_wp2_with fail
        refine (hck _ k4).mono ?_
        rintro e w5 ⟨rfl, hb5⟩
        have z5 := hb5.size
        have k5 := below_call k4 hb5 k4.size
        replace b0 := b0.keep hb5
        replace b1 := b1.keep hb5
        have c05 := b0.cell
        have c15 := b1.cell
        go_wp2_with fail
        refine (AW _ k5).mono ?_
        rintro e w6 ⟨rfl, hb6⟩
        have z6 := hb6.size
        have k6 := below_call k5 hb6 k5.size
        replace b0 := b0.keep hb6
        replace b1 := b1.keep hb6
        have c06 := b0.cell
        have c16 := b1.cell
        go_wp2_with fail
        go_ret
        exact ⟨rfl, k6⟩
      · have hc' : (ca != cb) = true := by simp [hc]
        have hme2 := hme rfl rfl hc
        clear hme hc
        go_enter Tryd.func6, Tryd.ntmps6
        go_wp2_with fail
        refine (ga _).mono ?_
        rintro e w1 ⟨rfl, hb1⟩
        have z1 := hb1.size
        (try simp at z1)
        have k1 : Below w.heap.size w w1 := by ((repeat' first | with_reducible exact Below.refl _ _ | with_reducible assumption | with_reducible refine Below.alloc ?_ ?_ _ | with_reducible refine Below.setCell ?_ ?_ _ | with_reducible apply Below.drew | with_reducible apply below_drewN | with_reducible refine below_call ?_ (by with_reducible assumption) ?_) <;> (first | omega | (simp; done) | (simp; omega) | (simp at *; omega)))
        have b0 : Blk w1 w.heap.size 23 #[.int .i64 ka, .int .i64 ca, .int .i64 qa, .string ya, .string xa, .int .i64 ra] := Blk.keep (w := ((w.alloc (.cells #[.int .i64 ka, .int .i64 ca, .int .i64 qa, .string ya, .string xa, .int .i64 ra] 23)).alloc (.cells #[.int .i64 kb, .int .i64 cb, .int .i64 qb, .string yb, .string xb, .int .i64 rb] 23))) ((Blk.new w 23 #[.int .i64 ka, .int .i64 ca, .int .i64 qa, .string ya, .string xa, .int .i64 ra]).alloc _) hb1
        have b1 : Blk w1 (w.heap.size + 1) 23 #[.int .i64 kb, .int .i64 cb, .int .i64 qb, .string yb, .string xb, .int .i64 rb] := Blk.keep (w := ((w.alloc (.cells #[.int .i64 ka, .int .i64 ca, .int .i64 qa, .string ya, .string xa, .int .i64 ra] 23)).alloc (.cells #[.int .i64 kb, .int .i64 cb, .int .i64 qb, .string yb, .string xb, .int .i64 rb] 23))) (by have h := Blk.new (w.alloc (.cells #[.int .i64 ka, .int .i64 ca, .int .i64 qa, .string ya, .string xa, .int .i64 ra] 23)) 23 #[.int .i64 kb, .int .i64 cb, .int .i64 qb, .string yb, .string xb, .int .i64 rb]; simp only [World.size_alloc] at h; exact h) hb1
        have c01 := b0.cell
        have c11 := b1.cell
        go_wp2_with fail
        refine (gb _).mono ?_
        rintro e w2 ⟨rfl, hb2⟩
        have z2 := hb2.size
        have k2 := below_call k1 hb2 k1.size
        replace b0 := b0.keep hb2
        replace b1 := b1.keep hb2
        have c02 := b0.cell
        have c12 := b1.cell
        go_wp2_with fail
        refine (wa _).mono ?_
        rintro e w3 ⟨rfl, hb3⟩
        have z3 := hb3.size
        have k3 := below_call k2 hb3 k2.size
        replace b0 := b0.keep hb3
        replace b1 := b1.keep hb3
        have c03 := b0.cell
        have c13 := b1.cell
        go_wp2_with fail
        refine (wb _).mono ?_
        rintro e w4 ⟨rfl, hb4⟩
        have z4 := hb4.size
        have k4 := below_call k3 hb4 k3.size
        replace b0 := b0.keep hb4
        replace b1 := b1.keep hb4
        have c04 := b0.cell
        have c14 := b1.cell
        go_wp2_with fail
        refine (hme2 _).mono ?_
        rintro e w5 ⟨rfl, hb5⟩
        have z5 := hb5.size
        have k5 := below_call k4 hb5 k4.size
        replace b0 := b0.keep hb5
        replace b1 := b1.keep hb5
        have c05 := b0.cell
        have c15 := b1.cell
        go_wp2_with fail
        refine (hck _ k5).mono ?_
        rintro e w6 ⟨rfl, hb6⟩
        have z6 := hb6.size
        have k6 := below_call k5 hb6 k5.size
        replace b0 := b0.keep hb6
        replace b1 := b1.keep hb6
        have c06 := b0.cell
        have c16 := b1.cell
        go_wp2_with fail
        refine (AW _ k6).mono ?_
        rintro e w7 ⟨rfl, hb7⟩
        have z7 := hb7.size
        have k7 := below_call k6 hb7 k6.size
        replace b0 := b0.keep hb7
        replace b1 := b1.keep hb7
        have c07 := b0.cell
        have c17 := b1.cell
        go_wp2_with fail
        go_ret
        exact ⟨rfl, k7⟩
    · clear hme
      go_enter Tryd.func6, Tryd.ntmps6
      go_wp2_with fail
      refine (ga _).mono ?_
      rintro e w1 ⟨rfl, hb1⟩
      have z1 := hb1.size
      (try simp at z1)
      have k1 : Below w.heap.size w w1 := by ((repeat' first | with_reducible exact Below.refl _ _ | with_reducible assumption | with_reducible refine Below.alloc ?_ ?_ _ | with_reducible refine Below.setCell ?_ ?_ _ | with_reducible apply Below.drew | with_reducible apply below_drewN | with_reducible refine below_call ?_ (by with_reducible assumption) ?_) <;> (first | omega | (simp; done) | (simp; omega) | (simp at *; omega)))
      have b0 : Blk w1 w.heap.size 23 #[.int .i64 ka, .int .i64 ca, .int .i64 qa, .string ya, .string xa, .int .i64 ra] := Blk.keep (w := ((w.alloc (.cells #[.int .i64 ka, .int .i64 ca, .int .i64 qa, .string ya, .string xa, .int .i64 ra] 23)).alloc (.cells #[.int .i64 kb, .int .i64 cb, .int .i64 qb, .string yb, .string xb, .int .i64 rb] 23))) ((Blk.new w 23 #[.int .i64 ka, .int .i64 ca, .int .i64 qa, .string ya, .string xa, .int .i64 ra]).alloc _) hb1
      have b1 : Blk w1 (w.heap.size + 1) 23 #[.int .i64 kb, .int .i64 cb, .int .i64 qb, .string yb, .string xb, .int .i64 rb] := Blk.keep (w := ((w.alloc (.cells #[.int .i64 ka, .int .i64 ca, .int .i64 qa, .string ya, .string xa, .int .i64 ra] 23)).alloc (.cells #[.int .i64 kb, .int .i64 cb, .int .i64 qb, .string yb, .string xb, .int .i64 rb] 23))) (by have h := Blk.new (w.alloc (.cells #[.int .i64 ka, .int .i64 ca, .int .i64 qa, .string ya, .string xa, .int .i64 ra] 23)) 23 #[.int .i64 kb, .int .i64 cb, .int .i64 qb, .string yb, .string xb, .int .i64 rb]; simp only [World.size_alloc] at h; exact h) hb1
      have c01 := b0.cell
      have c11 := b1.cell
      go_wp2_with fail
      refine (gb _).mono ?_
      rintro e w2 ⟨rfl, hb2⟩
      have z2 := hb2.size
      have k2 := below_call k1 hb2 k1.size
      replace b0 := b0.keep hb2
      replace b1 := b1.keep hb2
      have c02 := b0.cell
      have c12 := b1.cell
      go_wp2_with fail
      refine (wa _).mono ?_
      rintro e w3 ⟨rfl, hb3⟩
      have z3 := hb3.size
      have k3 := below_call k2 hb3 k2.size
      replace b0 := b0.keep hb3
      replace b1 := b1.keep hb3
      have c03 := b0.cell
      have c13 := b1.cell
      go_wp2_with fail
      refine (wb _).mono ?_
      rintro e w4 ⟨rfl, hb4⟩
      have z4 := hb4.size
      have k4 := below_call k3 hb4 k3.size
      replace b0 := b0.keep hb4
      replace b1 := b1.keep hb4
      have c04 := b0.cell
      have c14 := b1.cell
      go_wp2_with fail
      refine (hck _ k4).mono ?_
      rintro e w5 ⟨rfl, hb5⟩
      have z5 := hb5.size
      have k5 := below_call k4 hb5 k4.size
      replace b0 := b0.keep hb5
      replace b1 := b1.keep hb5
      have c05 := b0.cell
      have c15 := b1.cell
      go_wp2_with fail
      refine (AW _ k5).mono ?_
      rintro e w6 ⟨rfl, hb6⟩
      have z6 := hb6.size
      have k6 := below_call k5 hb6 k5.size
      replace b0 := b0.keep hb6
      replace b1 := b1.keep hb6
      have c06 := b0.cell
      have c16 := b1.cell
      go_wp2_with fail
      go_ret
      exact ⟨rfl, k6⟩
  · clear hme
    go_enter Tryd.func6, Tryd.ntmps6
    go_wp2_with fail
    refine (ga _).mono ?_
    rintro e w1 ⟨rfl, hb1⟩
    have z1 := hb1.size
    (try simp at z1)
    have k1 : Below w.heap.size w w1 := by ((repeat' first | with_reducible exact Below.refl _ _ | with_reducible assumption | with_reducible refine Below.alloc ?_ ?_ _ | with_reducible refine Below.setCell ?_ ?_ _ | with_reducible apply Below.drew | with_reducible apply below_drewN | with_reducible refine below_call ?_ (by with_reducible assumption) ?_) <;> (first | omega | (simp; done) | (simp; omega) | (simp at *; omega)))
    have b0 : Blk w1 w.heap.size 23 #[.int .i64 ka, .int .i64 ca, .int .i64 qa, .string ya, .string xa, .int .i64 ra] := Blk.keep (w := ((w.alloc (.cells #[.int .i64 ka, .int .i64 ca, .int .i64 qa, .string ya, .string xa, .int .i64 ra] 23)).alloc (.cells #[.int .i64 kb, .int .i64 cb, .int .i64 qb, .string yb, .string xb, .int .i64 rb] 23))) ((Blk.new w 23 #[.int .i64 ka, .int .i64 ca, .int .i64 qa, .string ya, .string xa, .int .i64 ra]).alloc _) hb1
    have b1 : Blk w1 (w.heap.size + 1) 23 #[.int .i64 kb, .int .i64 cb, .int .i64 qb, .string yb, .string xb, .int .i64 rb] := Blk.keep (w := ((w.alloc (.cells #[.int .i64 ka, .int .i64 ca, .int .i64 qa, .string ya, .string xa, .int .i64 ra] 23)).alloc (.cells #[.int .i64 kb, .int .i64 cb, .int .i64 qb, .string yb, .string xb, .int .i64 rb] 23))) (by have h := Blk.new (w.alloc (.cells #[.int .i64 ka, .int .i64 ca, .int .i64 qa, .string ya, .string xa, .int .i64 ra] 23)) 23 #[.int .i64 kb, .int .i64 cb, .int .i64 qb, .string yb, .string xb, .int .i64 rb]; simp only [World.size_alloc] at h; exact h) hb1
    have c01 := b0.cell
    have c11 := b1.cell
    go_wp2_with fail
    refine (gb _).mono ?_
    rintro e w2 ⟨rfl, hb2⟩
    have z2 := hb2.size
    have k2 := below_call k1 hb2 k1.size
    replace b0 := b0.keep hb2
    replace b1 := b1.keep hb2
    have c02 := b0.cell
    have c12 := b1.cell
    go_wp2_with fail
    refine (wa _).mono ?_
    rintro e w3 ⟨rfl, hb3⟩
    have z3 := hb3.size
    have k3 := below_call k2 hb3 k2.size
    replace b0 := b0.keep hb3
    replace b1 := b1.keep hb3
    have c03 := b0.cell
    have c13 := b1.cell
    go_wp2_with fail
    refine (hck _ k3).mono ?_
    rintro e w4 ⟨rfl, hb4⟩
    have z4 := hb4.size
    have k4 := below_call k3 hb4 k3.size
    replace b0 := b0.keep hb4
    replace b1 := b1.keep hb4
    have c04 := b0.cell
    have c14 := b1.cell
    go_wp2_with fail
    refine (AW _ k4).mono ?_
    rintro e w5 ⟨rfl, hb5⟩
    have z5 := hb5.size
    have k5 := below_call k4 hb5 k4.size
    replace b0 := b0.keep hb5
    replace b1 := b1.keep hb5
    have c05 := b0.cell
    have c15 := b1.cell
    go_wp2_with fail
    go_ret
    exact ⟨rfl, k5⟩
set_option maxHeartbeats 16000000 in
theorem reads_right (ka ca qa : Int) (ya xa : ByteArray) (ra : Int) (kb cb qb : Int) (yb xb : ByteArray) (rb : Int) (w : World) (hT : Tabs w) (g1 : cgreat ya xa = false) (g2 : cgreat yb xb = false) (h6 : ¬ ka = 6) (h7 : ¬ kb = 6) (hya : ya.size ≤ maxLen) (hxa : xa.size ≤ maxLen) (hE : ccheck ka ca qa ya xa ra = 0) :
    Calls Tryd.prog 6 #[.agg #[.int .i64 ka, .int .i64 ca, .int .i64 qa, .string ya, .string xa, .int .i64 ra], .agg #[.int .i64 kb, .int .i64 cb, .int .i64 qb, .string yb, .string xb, .int .i64 rb]] w (Gives w (.bool true)) := by
  obtain ⟨hr0, hr1, hr2, hr3, hr4, hr5, hr6, hr7⟩ := ccheck_right hE
  obtain ⟨kn, rfl⟩ : ∃ n : Nat, ka = n := ⟨ka.toNat, by omega⟩
  obtain ⟨cn, rfl⟩ : ∃ n : Nat, ca = n := ⟨ca.toNat, by omega⟩
  obtain ⟨qn, rfl⟩ : ∃ n : Nat, qa = n := ⟨qa.toNat, by omega⟩
  obtain ⟨rn, rfl⟩ : ∃ n : Nat, ra = n := ⟨ra.toNat, by omega⟩
  have hck := fun W (h : Below w.heap.size w W) => check6_any (kn : Int) (cn : Int) (qn : Int) ya xa (rn : Int) W hya hxa (hT.keep h)
  rw [hE] at hck
  have hit := fun W => cmditem_any kn cn qn ya xa rn (by omega) (by omega) (by omega) hya hxa (by omega) W
  have htk := fun (A : Option Addr) (cc base : Nat) W (h : Below w.heap.size w W) hrow => takeback_any kn cn qn ya xa rn A cc base W (hT.keep h) hrow hya hxa hE
  have hself : ceq (kn : Int) (cn : Int) (qn : Int) ya xa (rn : Int) (kn : Int) (cn : Int) (qn : Int) ya xa (rn : Int) = true := ceq_iff.2 ⟨rfl, rfl, rfl, rfl, rfl, rfl⟩
  clear hr0 hr1 hr2 hr3 hr4 hr5 hr6 hr7 hE
  have AW : ∀ W, Below w.heap.size w W → Calls Tryd.prog 9 #[] W (Gives W (.bool true)) := fun W h => awake06 W (hT.keep h)
  have ga := fun W => great_any (kn : Int) (cn : Int) (qn : Int) ya xa (rn : Int) W
  have gb := fun W => great_any kb cb qb yb xb rb W
  rw [g1] at ga
  rw [g2] at gb
  have h6' : ((kn : Int) == (6 : Int)) = false := by simp [h6]
  have h7' : (kb == (6 : Int)) = false := by simp [h7]
  have wa := fun W => writes_any (kn : Int) (cn : Int) (qn : Int) ya xa (rn : Int) W
  have wb := fun W => writes_any kb cb qb yb xb rb W
  have hme : cwrites (kn : Int) = false → cwrites kb = false → ¬ (cn : Int) = cb → ∀ W, Calls Tryd.prog 14 #[.agg #[.int .i64 (kn : Int), .int .i64 (cn : Int), .int .i64 (qn : Int), .string ya, .string xa, .int .i64 (rn : Int)], .agg #[.int .i64 kb, .int .i64 cb, .int .i64 qb, .string yb, .string xb, .int .i64 rb]] W (Gives W (.bool false)) := fun h1 h2 h3 W => by rw [← cmeet_apart (ya := ya) (yb := yb) (show ¬ ((kn : Int) = 6 ∨ kb = 6 ∨ (cn : Int) = cb) by simp [h6, h7, h3]) h1 h2]; exact meet_any (kn : Int) (cn : Int) (qn : Int) ya xa (rn : Int) kb cb qb yb xb rb W
  clear h6 h7
  generalize cwrites (kn : Int) = p at *
  generalize cwrites kb = q at *
  clear hT g1 g2
  cases p
  · cases q
    · by_cases hc : (cn : Int) = cb
      · have hc' : ((cn : Int) != cb) = false := by simp [hc]
        clear hme hc
        go_enter Tryd.func6, Tryd.ntmps6
        go_wp2_with fail
        refine (ga _).mono ?_
        rintro e w1 ⟨rfl, hb1⟩
        have z1 := hb1.size
        (try simp at z1)
        have k1 : Below w.heap.size w w1 := by ((repeat' first | with_reducible exact Below.refl _ _ | with_reducible assumption | with_reducible refine Below.alloc ?_ ?_ _ | with_reducible refine Below.setCell ?_ ?_ _ | with_reducible apply Below.drew | with_reducible apply below_drewN | with_reducible refine below_call ?_ (by with_reducible assumption) ?_) <;> (first | omega | (simp; done) | (simp; omega) | (simp at *; omega)))
        have b0 : Blk w1 w.heap.size 23 #[.int .i64 (kn : Int), .int .i64 (cn : Int), .int .i64 (qn : Int), .string ya, .string xa, .int .i64 (rn : Int)] := Blk.keep (w := ((w.alloc (.cells #[.int .i64 (kn : Int), .int .i64 (cn : Int), .int .i64 (qn : Int), .string ya, .string xa, .int .i64 (rn : Int)] 23)).alloc (.cells #[.int .i64 kb, .int .i64 cb, .int .i64 qb, .string yb, .string xb, .int .i64 rb] 23))) ((Blk.new w 23 #[.int .i64 (kn : Int), .int .i64 (cn : Int), .int .i64 (qn : Int), .string ya, .string xa, .int .i64 (rn : Int)]).alloc _) hb1
        have b1 : Blk w1 (w.heap.size + 1) 23 #[.int .i64 kb, .int .i64 cb, .int .i64 qb, .string yb, .string xb, .int .i64 rb] := Blk.keep (w := ((w.alloc (.cells #[.int .i64 (kn : Int), .int .i64 (cn : Int), .int .i64 (qn : Int), .string ya, .string xa, .int .i64 (rn : Int)] 23)).alloc (.cells #[.int .i64 kb, .int .i64 cb, .int .i64 qb, .string yb, .string xb, .int .i64 rb] 23))) (by have h := Blk.new (w.alloc (.cells #[.int .i64 (kn : Int), .int .i64 (cn : Int), .int .i64 (qn : Int), .string ya, .string xa, .int .i64 (rn : Int)] 23)) 23 #[.int .i64 kb, .int .i64 cb, .int .i64 qb, .string yb, .string xb, .int .i64 rb]; simp only [World.size_alloc] at h; exact h) hb1
        have c01 := b0.cell
        have c11 := b1.cell
        go_wp2_with fail
        refine (gb _).mono ?_
        rintro e w2 ⟨rfl, hb2⟩
        have z2 := hb2.size
        have k2 := below_call k1 hb2 k1.size
        replace b0 := b0.keep hb2
        replace b1 := b1.keep hb2
        have c02 := b0.cell
        have c12 := b1.cell
        go_wp2_with fail
        refine (wa _).mono ?_
        rintro e w3 ⟨rfl, hb3⟩
        have z3 := hb3.size
        have k3 := below_call k2 hb3 k2.size
        replace b0 := b0.keep hb3
        replace b1 := b1.keep hb3
        have c03 := b0.cell
        have c13 := b1.cell
        go_wp2_with fail
        refine (wb _).mono ?_
        rintro e w4 ⟨rfl, hb4⟩
        have z4 := hb4.size
        have k4 := below_call k3 hb4 k3.size
        replace b0 := b0.keep hb4
        replace b1 := b1.keep hb4
        have c04 := b0.cell
        have c14 := b1.cell
        go_wp2_with fail
        refine (hck _ k4).mono ?_
        rintro e w5 ⟨rfl, hb5⟩
        have z5 := hb5.size
        have k5 := below_call k4 hb5 k4.size
        replace b0 := b0.keep hb5
        replace b1 := b1.keep hb5
        have c05 := b0.cell
        have c15 := b1.cell
        go_wp2_with fail
        refine (hit _).mono ?_
        rintro e w6 ⟨A9, c9, rfl, hrow, hb6⟩
        have z6 := hb6.size
        have k6 := below_call k5 hb6 k5.size
        replace b0 := b0.keep hb6
        replace b1 := b1.keep hb6
        have c06 := b0.cell
        go_wp2_with fail
        refine (htk A9 c9 _ _ k6 hrow).mono ?_
        rintro e w7 ⟨rfl, hb7⟩
        have z7 := hb7.size
        have k7 := below_call k6 hb7 k6.size
        replace b0 := b0.keep hb7
        go_wp2_with fail
        refine (hck _ (k7.alloc k7.size _)).mono ?_
        rintro e w8 ⟨rfl, hb8⟩
        have z8 := hb8.size
        have k8 := below_call (k7.alloc k7.size (.cells #[.int .i64 (kn : Int), .int .i64 (cn : Int), .int .i64 (qn : Int), .string ya, .string xa, .int .i64 (rn : Int)] 23)) hb8 (by simp; have := k7.size; omega)
        have b5 : Blk w8 w7.heap.size 23 #[.int .i64 (kn : Int), .int .i64 (cn : Int), .int .i64 (qn : Int), .string ya, .string xa, .int .i64 (rn : Int)] := Blk.keep (w := (w7.alloc (.cells #[.int .i64 (kn : Int), .int .i64 (cn : Int), .int .i64 (qn : Int), .string ya, .string xa, .int .i64 (rn : Int)] 23))) (Blk.new w7 23 #[.int .i64 (kn : Int), .int .i64 (cn : Int), .int .i64 (qn : Int), .string ya, .string xa, .int .i64 (rn : Int)]) hb8
        replace b0 := Blk.keep (w := (w7.alloc (.cells #[.int .i64 (kn : Int), .int .i64 (cn : Int), .int .i64 (qn : Int), .string ya, .string xa, .int .i64 (rn : Int)] 23))) (b0.alloc _) hb8
        have c5 := b5.cell
        have c08 := b0.cell
        go_wp2_with fail
        refine (AW _ k8).mono ?_
        rintro e w9 ⟨rfl, hb9⟩
        have k9 := below_call k8 hb9 k8.size
        go_wp2_with fail
        go_ret
        exact ⟨rfl, k9⟩
      · have hc' : ((cn : Int) != cb) = true := by simp [hc]
        have hme2 := hme rfl rfl hc
        clear hme hc
        go_enter Tryd.func6, Tryd.ntmps6
        go_wp2_with fail
        refine (ga _).mono ?_
        rintro e w1 ⟨rfl, hb1⟩
        have z1 := hb1.size
        (try simp at z1)
        have k1 : Below w.heap.size w w1 := by ((repeat' first | with_reducible exact Below.refl _ _ | with_reducible assumption | with_reducible refine Below.alloc ?_ ?_ _ | with_reducible refine Below.setCell ?_ ?_ _ | with_reducible apply Below.drew | with_reducible apply below_drewN | with_reducible refine below_call ?_ (by with_reducible assumption) ?_) <;> (first | omega | (simp; done) | (simp; omega) | (simp at *; omega)))
        have b0 : Blk w1 w.heap.size 23 #[.int .i64 (kn : Int), .int .i64 (cn : Int), .int .i64 (qn : Int), .string ya, .string xa, .int .i64 (rn : Int)] := Blk.keep (w := ((w.alloc (.cells #[.int .i64 (kn : Int), .int .i64 (cn : Int), .int .i64 (qn : Int), .string ya, .string xa, .int .i64 (rn : Int)] 23)).alloc (.cells #[.int .i64 kb, .int .i64 cb, .int .i64 qb, .string yb, .string xb, .int .i64 rb] 23))) ((Blk.new w 23 #[.int .i64 (kn : Int), .int .i64 (cn : Int), .int .i64 (qn : Int), .string ya, .string xa, .int .i64 (rn : Int)]).alloc _) hb1
        have b1 : Blk w1 (w.heap.size + 1) 23 #[.int .i64 kb, .int .i64 cb, .int .i64 qb, .string yb, .string xb, .int .i64 rb] := Blk.keep (w := ((w.alloc (.cells #[.int .i64 (kn : Int), .int .i64 (cn : Int), .int .i64 (qn : Int), .string ya, .string xa, .int .i64 (rn : Int)] 23)).alloc (.cells #[.int .i64 kb, .int .i64 cb, .int .i64 qb, .string yb, .string xb, .int .i64 rb] 23))) (by have h := Blk.new (w.alloc (.cells #[.int .i64 (kn : Int), .int .i64 (cn : Int), .int .i64 (qn : Int), .string ya, .string xa, .int .i64 (rn : Int)] 23)) 23 #[.int .i64 kb, .int .i64 cb, .int .i64 qb, .string yb, .string xb, .int .i64 rb]; simp only [World.size_alloc] at h; exact h) hb1
        have c01 := b0.cell
        have c11 := b1.cell
        go_wp2_with fail
        refine (gb _).mono ?_
        rintro e w2 ⟨rfl, hb2⟩
        have z2 := hb2.size
        have k2 := below_call k1 hb2 k1.size
        replace b0 := b0.keep hb2
        replace b1 := b1.keep hb2
        have c02 := b0.cell
        have c12 := b1.cell
        go_wp2_with fail
        refine (wa _).mono ?_
        rintro e w3 ⟨rfl, hb3⟩
        have z3 := hb3.size
        have k3 := below_call k2 hb3 k2.size
        replace b0 := b0.keep hb3
        replace b1 := b1.keep hb3
        have c03 := b0.cell
        have c13 := b1.cell
        go_wp2_with fail
        refine (wb _).mono ?_
        rintro e w4 ⟨rfl, hb4⟩
        have z4 := hb4.size
        have k4 := below_call k3 hb4 k3.size
        replace b0 := b0.keep hb4
        replace b1 := b1.keep hb4
        have c04 := b0.cell
        have c14 := b1.cell
        go_wp2_with fail
        refine (hme2 _).mono ?_
        rintro e w5 ⟨rfl, hb5⟩
        have z5 := hb5.size
        have k5 := below_call k4 hb5 k4.size
        replace b0 := b0.keep hb5
        replace b1 := b1.keep hb5
        have c05 := b0.cell
        have c15 := b1.cell
        go_wp2_with fail
        refine (hck _ k5).mono ?_
        rintro e w6 ⟨rfl, hb6⟩
        have z6 := hb6.size
        have k6 := below_call k5 hb6 k5.size
        replace b0 := b0.keep hb6
        replace b1 := b1.keep hb6
        have c06 := b0.cell
        have c16 := b1.cell
        go_wp2_with fail
        refine (hit _).mono ?_
        rintro e w7 ⟨A9, c9, rfl, hrow, hb7⟩
        have z7 := hb7.size
        have k7 := below_call k6 hb7 k6.size
        replace b0 := b0.keep hb7
        replace b1 := b1.keep hb7
        have c07 := b0.cell
        go_wp2_with fail
        refine (htk A9 c9 _ _ k7 hrow).mono ?_
        rintro e w8 ⟨rfl, hb8⟩
        have z8 := hb8.size
        have k8 := below_call k7 hb8 k7.size
        replace b0 := b0.keep hb8
        go_wp2_with fail
        refine (hck _ (k8.alloc k8.size _)).mono ?_
        rintro e w9 ⟨rfl, hb9⟩
        have z9 := hb9.size
        have k9 := below_call (k8.alloc k8.size (.cells #[.int .i64 (kn : Int), .int .i64 (cn : Int), .int .i64 (qn : Int), .string ya, .string xa, .int .i64 (rn : Int)] 23)) hb9 (by simp; have := k8.size; omega)
        have b5 : Blk w9 w8.heap.size 23 #[.int .i64 (kn : Int), .int .i64 (cn : Int), .int .i64 (qn : Int), .string ya, .string xa, .int .i64 (rn : Int)] := Blk.keep (w := (w8.alloc (.cells #[.int .i64 (kn : Int), .int .i64 (cn : Int), .int .i64 (qn : Int), .string ya, .string xa, .int .i64 (rn : Int)] 23))) (Blk.new w8 23 #[.int .i64 (kn : Int), .int .i64 (cn : Int), .int .i64 (qn : Int), .string ya, .string xa, .int .i64 (rn : Int)]) hb9
        replace b0 := Blk.keep (w := (w8.alloc (.cells #[.int .i64 (kn : Int), .int .i64 (cn : Int), .int .i64 (qn : Int), .string ya, .string xa, .int .i64 (rn : Int)] 23))) (b0.alloc _) hb9
        have c5 := b5.cell
        have c09 := b0.cell
        go_wp2_with fail
        refine (AW _ k9).mono ?_
        rintro e w10 ⟨rfl, hb10⟩
        have k10 := below_call k9 hb10 k9.size
        go_wp2_with fail
        go_ret
        exact ⟨rfl, k10⟩
    · clear hme
      go_enter Tryd.func6, Tryd.ntmps6
      go_wp2_with fail
      refine (ga _).mono ?_
      rintro e w1 ⟨rfl, hb1⟩
      have z1 := hb1.size
      (try simp at z1)
      have k1 : Below w.heap.size w w1 := by ((repeat' first | with_reducible exact Below.refl _ _ | with_reducible assumption | with_reducible refine Below.alloc ?_ ?_ _ | with_reducible refine Below.setCell ?_ ?_ _ | with_reducible apply Below.drew | with_reducible apply below_drewN | with_reducible refine below_call ?_ (by with_reducible assumption) ?_) <;> (first | omega | (simp; done) | (simp; omega) | (simp at *; omega)))
      have b0 : Blk w1 w.heap.size 23 #[.int .i64 (kn : Int), .int .i64 (cn : Int), .int .i64 (qn : Int), .string ya, .string xa, .int .i64 (rn : Int)] := Blk.keep (w := ((w.alloc (.cells #[.int .i64 (kn : Int), .int .i64 (cn : Int), .int .i64 (qn : Int), .string ya, .string xa, .int .i64 (rn : Int)] 23)).alloc (.cells #[.int .i64 kb, .int .i64 cb, .int .i64 qb, .string yb, .string xb, .int .i64 rb] 23))) ((Blk.new w 23 #[.int .i64 (kn : Int), .int .i64 (cn : Int), .int .i64 (qn : Int), .string ya, .string xa, .int .i64 (rn : Int)]).alloc _) hb1
      have b1 : Blk w1 (w.heap.size + 1) 23 #[.int .i64 kb, .int .i64 cb, .int .i64 qb, .string yb, .string xb, .int .i64 rb] := Blk.keep (w := ((w.alloc (.cells #[.int .i64 (kn : Int), .int .i64 (cn : Int), .int .i64 (qn : Int), .string ya, .string xa, .int .i64 (rn : Int)] 23)).alloc (.cells #[.int .i64 kb, .int .i64 cb, .int .i64 qb, .string yb, .string xb, .int .i64 rb] 23))) (by have h := Blk.new (w.alloc (.cells #[.int .i64 (kn : Int), .int .i64 (cn : Int), .int .i64 (qn : Int), .string ya, .string xa, .int .i64 (rn : Int)] 23)) 23 #[.int .i64 kb, .int .i64 cb, .int .i64 qb, .string yb, .string xb, .int .i64 rb]; simp only [World.size_alloc] at h; exact h) hb1
      have c01 := b0.cell
      have c11 := b1.cell
      go_wp2_with fail
      refine (gb _).mono ?_
      rintro e w2 ⟨rfl, hb2⟩
      have z2 := hb2.size
      have k2 := below_call k1 hb2 k1.size
      replace b0 := b0.keep hb2
      replace b1 := b1.keep hb2
      have c02 := b0.cell
      have c12 := b1.cell
      go_wp2_with fail
      refine (wa _).mono ?_
      rintro e w3 ⟨rfl, hb3⟩
      have z3 := hb3.size
      have k3 := below_call k2 hb3 k2.size
      replace b0 := b0.keep hb3
      replace b1 := b1.keep hb3
      have c03 := b0.cell
      have c13 := b1.cell
      go_wp2_with fail
      refine (wb _).mono ?_
      rintro e w4 ⟨rfl, hb4⟩
      have z4 := hb4.size
      have k4 := below_call k3 hb4 k3.size
      replace b0 := b0.keep hb4
      replace b1 := b1.keep hb4
      have c04 := b0.cell
      have c14 := b1.cell
      go_wp2_with fail
      refine (hck _ k4).mono ?_
      rintro e w5 ⟨rfl, hb5⟩
      have z5 := hb5.size
      have k5 := below_call k4 hb5 k4.size
      replace b0 := b0.keep hb5
      replace b1 := b1.keep hb5
      have c05 := b0.cell
      have c15 := b1.cell
      go_wp2_with fail
      refine (hit _).mono ?_
      rintro e w6 ⟨A9, c9, rfl, hrow, hb6⟩
      have z6 := hb6.size
      have k6 := below_call k5 hb6 k5.size
      replace b0 := b0.keep hb6
      replace b1 := b1.keep hb6
      have c06 := b0.cell
      go_wp2_with fail
      refine (htk A9 c9 _ _ k6 hrow).mono ?_
      rintro e w7 ⟨rfl, hb7⟩
      have z7 := hb7.size
      have k7 := below_call k6 hb7 k6.size
      replace b0 := b0.keep hb7
      go_wp2_with fail
      refine (hck _ (k7.alloc k7.size _)).mono ?_
      rintro e w8 ⟨rfl, hb8⟩
      have z8 := hb8.size
      have k8 := below_call (k7.alloc k7.size (.cells #[.int .i64 (kn : Int), .int .i64 (cn : Int), .int .i64 (qn : Int), .string ya, .string xa, .int .i64 (rn : Int)] 23)) hb8 (by simp; have := k7.size; omega)
      have b5 : Blk w8 w7.heap.size 23 #[.int .i64 (kn : Int), .int .i64 (cn : Int), .int .i64 (qn : Int), .string ya, .string xa, .int .i64 (rn : Int)] := Blk.keep (w := (w7.alloc (.cells #[.int .i64 (kn : Int), .int .i64 (cn : Int), .int .i64 (qn : Int), .string ya, .string xa, .int .i64 (rn : Int)] 23))) (Blk.new w7 23 #[.int .i64 (kn : Int), .int .i64 (cn : Int), .int .i64 (qn : Int), .string ya, .string xa, .int .i64 (rn : Int)]) hb8
      replace b0 := Blk.keep (w := (w7.alloc (.cells #[.int .i64 (kn : Int), .int .i64 (cn : Int), .int .i64 (qn : Int), .string ya, .string xa, .int .i64 (rn : Int)] 23))) (b0.alloc _) hb8
      have c5 := b5.cell
      have c08 := b0.cell
      go_wp2_with fail
      refine (AW _ k8).mono ?_
      rintro e w9 ⟨rfl, hb9⟩
      have k9 := below_call k8 hb9 k8.size
      go_wp2_with fail
      go_ret
      exact ⟨rfl, k9⟩
  · clear hme
    go_enter Tryd.func6, Tryd.ntmps6
    go_wp2_with fail
    refine (ga _).mono ?_
    rintro e w1 ⟨rfl, hb1⟩
    have z1 := hb1.size
    (try simp at z1)
    have k1 : Below w.heap.size w w1 := by ((repeat' first | with_reducible exact Below.refl _ _ | with_reducible assumption | with_reducible refine Below.alloc ?_ ?_ _ | with_reducible refine Below.setCell ?_ ?_ _ | with_reducible apply Below.drew | with_reducible apply below_drewN | with_reducible refine below_call ?_ (by with_reducible assumption) ?_) <;> (first | omega | (simp; done) | (simp; omega) | (simp at *; omega)))
    have b0 : Blk w1 w.heap.size 23 #[.int .i64 (kn : Int), .int .i64 (cn : Int), .int .i64 (qn : Int), .string ya, .string xa, .int .i64 (rn : Int)] := Blk.keep (w := ((w.alloc (.cells #[.int .i64 (kn : Int), .int .i64 (cn : Int), .int .i64 (qn : Int), .string ya, .string xa, .int .i64 (rn : Int)] 23)).alloc (.cells #[.int .i64 kb, .int .i64 cb, .int .i64 qb, .string yb, .string xb, .int .i64 rb] 23))) ((Blk.new w 23 #[.int .i64 (kn : Int), .int .i64 (cn : Int), .int .i64 (qn : Int), .string ya, .string xa, .int .i64 (rn : Int)]).alloc _) hb1
    have b1 : Blk w1 (w.heap.size + 1) 23 #[.int .i64 kb, .int .i64 cb, .int .i64 qb, .string yb, .string xb, .int .i64 rb] := Blk.keep (w := ((w.alloc (.cells #[.int .i64 (kn : Int), .int .i64 (cn : Int), .int .i64 (qn : Int), .string ya, .string xa, .int .i64 (rn : Int)] 23)).alloc (.cells #[.int .i64 kb, .int .i64 cb, .int .i64 qb, .string yb, .string xb, .int .i64 rb] 23))) (by have h := Blk.new (w.alloc (.cells #[.int .i64 (kn : Int), .int .i64 (cn : Int), .int .i64 (qn : Int), .string ya, .string xa, .int .i64 (rn : Int)] 23)) 23 #[.int .i64 kb, .int .i64 cb, .int .i64 qb, .string yb, .string xb, .int .i64 rb]; simp only [World.size_alloc] at h; exact h) hb1
    have c01 := b0.cell
    have c11 := b1.cell
    go_wp2_with fail
    refine (gb _).mono ?_
    rintro e w2 ⟨rfl, hb2⟩
    have z2 := hb2.size
    have k2 := below_call k1 hb2 k1.size
    replace b0 := b0.keep hb2
    replace b1 := b1.keep hb2
    have c02 := b0.cell
    have c12 := b1.cell
    go_wp2_with fail
    refine (wa _).mono ?_
    rintro e w3 ⟨rfl, hb3⟩
    have z3 := hb3.size
    have k3 := below_call k2 hb3 k2.size
    replace b0 := b0.keep hb3
    replace b1 := b1.keep hb3
    have c03 := b0.cell
    have c13 := b1.cell
    go_wp2_with fail
    refine (hck _ k3).mono ?_
    rintro e w4 ⟨rfl, hb4⟩
    have z4 := hb4.size
    have k4 := below_call k3 hb4 k3.size
    replace b0 := b0.keep hb4
    replace b1 := b1.keep hb4
    have c04 := b0.cell
    have c14 := b1.cell
    go_wp2_with fail
    refine (hit _).mono ?_
    rintro e w5 ⟨A9, c9, rfl, hrow, hb5⟩
    have z5 := hb5.size
    have k5 := below_call k4 hb5 k4.size
    replace b0 := b0.keep hb5
    replace b1 := b1.keep hb5
    have c05 := b0.cell
    go_wp2_with fail
    refine (htk A9 c9 _ _ k5 hrow).mono ?_
    rintro e w6 ⟨rfl, hb6⟩
    have z6 := hb6.size
    have k6 := below_call k5 hb6 k5.size
    replace b0 := b0.keep hb6
    go_wp2_with fail
    refine (hck _ (k6.alloc k6.size _)).mono ?_
    rintro e w7 ⟨rfl, hb7⟩
    have z7 := hb7.size
    have k7 := below_call (k6.alloc k6.size (.cells #[.int .i64 (kn : Int), .int .i64 (cn : Int), .int .i64 (qn : Int), .string ya, .string xa, .int .i64 (rn : Int)] 23)) hb7 (by simp; have := k6.size; omega)
    have b5 : Blk w7 w6.heap.size 23 #[.int .i64 (kn : Int), .int .i64 (cn : Int), .int .i64 (qn : Int), .string ya, .string xa, .int .i64 (rn : Int)] := Blk.keep (w := (w6.alloc (.cells #[.int .i64 (kn : Int), .int .i64 (cn : Int), .int .i64 (qn : Int), .string ya, .string xa, .int .i64 (rn : Int)] 23))) (Blk.new w6 23 #[.int .i64 (kn : Int), .int .i64 (cn : Int), .int .i64 (qn : Int), .string ya, .string xa, .int .i64 (rn : Int)]) hb7
    replace b0 := Blk.keep (w := (w6.alloc (.cells #[.int .i64 (kn : Int), .int .i64 (cn : Int), .int .i64 (qn : Int), .string ya, .string xa, .int .i64 (rn : Int)] 23))) (b0.alloc _) hb7
    have c5 := b5.cell
    have c07 := b0.cell
    go_wp2_with fail
    refine (AW _ k7).mono ?_
    rintro e w8 ⟨rfl, hb8⟩
    have k8 := below_call k7 hb8 k7.size
    go_wp2_with fail
    go_ret
    exact ⟨rfl, k8⟩
theorem reads_walk (ka ca qa : Int) (ya xa : ByteArray) (ra : Int) (kb cb qb : Int) (yb xb : ByteArray) (rb : Int) (w : World) (hT : Tabs w) (hya : ya.size ≤ maxLen) (hxa : xa.size ≤ maxLen) :
    Calls Tryd.prog 6 #[.agg #[.int .i64 ka, .int .i64 ca, .int .i64 qa, .string ya, .string xa, .int .i64 ra], .agg #[.int .i64 kb, .int .i64 cb, .int .i64 qb, .string yb, .string xb, .int .i64 rb]] w (Gives w (.bool true)) := by
  by_cases hg : cgreat ya xa = true ∨ cgreat yb xb = true ∨ ka = 6 ∨ kb = 6
  · exact reads_great ka ca qa ya xa ra kb cb qb yb xb rb w hT hg
  · have g1 : cgreat ya xa = false := by cases h : cgreat ya xa <;> simp_all
    have g2 : cgreat yb xb = false := by cases h : cgreat yb xb <;> simp_all
    have h6 : ¬ ka = 6 := fun h => hg (.inr (.inr (.inl h)))
    have h7 : ¬ kb = 6 := fun h => hg (.inr (.inr (.inr h)))
    by_cases hE : ccheck ka ca qa ya xa ra = 0
    · exact reads_right ka ca qa ya xa ra kb cb qb yb xb rb w hT g1 g2 h6 h7 hya hxa hE
    · exact reads_wrong ka ca qa ya xa ra kb cb qb yb xb rb w hT g1 g2 h6 h7 hya hxa hE
end Go.Proofs.YtekbebekihcnpaaDoor
