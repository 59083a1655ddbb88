/- The document's records: Same, GoesOn. -/
import Derived.Test.YtmgiholmhhjpaaaDoorRecChecksQ38
import Derived.Test.YtmgiholmhhjpaaaDoorRecChecksQ42
import Derived.Test.YtmgiholmhhjpaaaDoorRecChecksQ39
import Derived.WalkKit
import Derived.WalkSpells
import Derived.WalkLawsBesides
import Derived.Deep.RegionHeld3
import Derived.Deep.DrawnRows
import Derived.Deep.DeepCutAuto
import Derived.Deep.DeepFit
import Derived.Lib.Hide
import Derived.BigQuiet
import Derived.Deep.QuietTactic
namespace Go.Proofs.YtmgiholmhhjpaaaDoor
open Go.RowKit
set_option linter.unusedVariables false
set_option linter.unusedSimpArgs false
set_option maxRecDepth 20000
attribute [local go_sem ↓] Go.wp_at_zero Go.wp_at_succ
attribute [local go_sem] World.cell?_alloc_some frozen_alloc_some

attribute [local go_sem ↓ high] id_neq_run id_eql_run bal_eql_run bal_neq_run cmd_neq_run cmd_eql_run
set_option maxHeartbeats 4000000 in
theorem goeson9_any (a b : RecT) (w : World) (ha : IdsAt w a.A a.m a.l) (hb : IdsAt w b.A b.m b.l) : Calls Tryd.prog 22 #[a.v, b.v] w (Gives w (.bool (goesOn a b))) := by
  have h := fun W (hW : Below w.heap.size w W) => same7_any b.A a.A b.m b.cap a.m a.cap b.sq b.tg a.sq a.tg b.l a.l W (hb.keep hW) (ha.keep hW)
  clear ha hb
  obtain ⟨R, hR⟩ : ∃ R, R = goesOn a b := ⟨_, rfl⟩
  rw [← hR]
  obtain ⟨i, n, st, br, bb, tr, tb, k, c, q, y, x, r, A, m, cap, sq, tg, l⟩ := a
  obtain ⟨i2, n2, st2, br2, bb2, tr2, tb2, k2, c2, q2, y2, x2, r2, A2, m2, cap2, sq2, tg2, l2⟩ := b
  simp only [goesOn, RecT.v, RecT.p] at h hR ⊢
  generalize asame ⟨l2, sq2, tg2⟩ ⟨l, sq, tg⟩ = Z at h hR ⊢
  have h1 := fun W => less8_any br2 bb2 br bb W
  have h2 := fun W => less8_any tr2 tb2 tr tb W
  generalize lessB br2 bb2 br bb = g1 at h1 hR
  generalize lessB tr2 tb2 tr tb = g2 at h2 hR
  have HR := Lib.hid hR
  have Hh := Lib.hid h
  clear h hR
  cases e1 : (i == i2 && n == n2)
  · obtain rfl : R = false := by rw [HR.out]; simp [e1]
    go_enter Tryd.func22, Tryd.ntmps22
    go_wp2_with fail
    go_ret
    exact ⟨rfl, by ((repeat' first | with_reducible exact Below.refl _ _ | with_reducible assumption | with_reducible refine Below.alloc ?_ ?_ _ | with_reducible refine Below.setCell ?_ ?_ _ | with_reducible apply Below.drew | with_reducible apply below_drewN | with_reducible refine below_call ?_ (by with_reducible assumption) ?_) <;> (first | omega | (simp; done) | (simp; omega) | (simp at *; omega)))⟩
  cases g1
  case true =>
    obtain rfl : R = false := by rw [HR.out]; simp
    go_enter Tryd.func22, Tryd.ntmps22
    go_wp2_with (first | (go_at_call 43; (with_reducible refine (h1 _).mono ?_); rintro e w1 ⟨rfl, hb1⟩; have hz1 := hb1.size; (try simp at hz1); (first | (have B0 := Blk.keep B0 hb1) | (have B0 : Blk w1 w.heap.size 33 #[.int .i64 i, .int .i64 n, .int .i64 st, .int .i64 br, .int .i64 bb, .int .i64 tr, .int .i64 tb, .int .i64 k, .int .i64 c, .int .i64 q, .string y, .string x, .int .i64 r, .slice A m cap, .int .i64 sq, .int .i64 tg] := Blk.keep ((Blk.new w _ _).alloc _) hb1)); (first | (have B1 := Blk.keep B1 hb1) | (have B1 : Blk w1 (w.heap.size + 1) 33 #[.int .i64 i2, .int .i64 n2, .int .i64 st2, .int .i64 br2, .int .i64 bb2, .int .i64 tr2, .int .i64 tb2, .int .i64 k2, .int .i64 c2, .int .i64 q2, .string y2, .string x2, .int .i64 r2, .slice A2 m2 cap2, .int .i64 sq2, .int .i64 tg2] := Blk.keep (Blk.newAt (by simp)) hb1)); have B0c := B0.cell; have B1c := B1.cell) | (go_at_call 43; (with_reducible refine (h2 _).mono ?_); rintro e w1 ⟨rfl, hb1⟩; have hz1 := hb1.size; (try simp at hz1); (first | (have B0 := Blk.keep B0 hb1) | (have B0 : Blk w1 w.heap.size 33 #[.int .i64 i, .int .i64 n, .int .i64 st, .int .i64 br, .int .i64 bb, .int .i64 tr, .int .i64 tb, .int .i64 k, .int .i64 c, .int .i64 q, .string y, .string x, .int .i64 r, .slice A m cap, .int .i64 sq, .int .i64 tg] := Blk.keep ((Blk.new w _ _).alloc _) hb1)); (first | (have B1 := Blk.keep B1 hb1) | (have B1 : Blk w1 (w.heap.size + 1) 33 #[.int .i64 i2, .int .i64 n2, .int .i64 st2, .int .i64 br2, .int .i64 bb2, .int .i64 tr2, .int .i64 tb2, .int .i64 k2, .int .i64 c2, .int .i64 q2, .string y2, .string x2, .int .i64 r2, .slice A2 m2 cap2, .int .i64 sq2, .int .i64 tg2] := Blk.keep (Blk.newAt (by simp)) hb1)); have B0c := B0.cell; have B1c := B1.cell) | (go_at_call 47; (with_reducible refine (Hh.out _ (by ((repeat' first | with_reducible exact Below.refl _ _ | with_reducible assumption | with_reducible refine Below.alloc ?_ ?_ _ | with_reducible refine Below.setCell ?_ ?_ _ | with_reducible apply Below.drew | with_reducible apply below_drewN | with_reducible refine below_call ?_ (by with_reducible assumption) ?_) <;> (first | omega | (simp; done) | (simp; omega) | (simp at *; omega))))).mono ?_); rintro e w2 ⟨rfl, hb2⟩))
    go_ret
    exact ⟨rfl, by ((repeat' first | with_reducible exact Below.refl _ _ | with_reducible assumption | with_reducible refine Below.alloc ?_ ?_ _ | with_reducible refine Below.setCell ?_ ?_ _ | with_reducible apply Below.drew | with_reducible apply below_drewN | with_reducible refine below_call ?_ (by with_reducible assumption) ?_) <;> (first | omega | (simp; done) | (simp; omega) | (simp at *; omega)))⟩
  cases g2
  case true =>
    obtain rfl : R = false := by rw [HR.out]; simp
    go_enter Tryd.func22, Tryd.ntmps22
    go_wp2_with (first | (go_at_call 43; (with_reducible refine (h1 _).mono ?_); rintro e w1 ⟨rfl, hb1⟩; have hz1 := hb1.size; (try simp at hz1); (first | (have B0 := Blk.keep B0 hb1) | (have B0 : Blk w1 w.heap.size 33 #[.int .i64 i, .int .i64 n, .int .i64 st, .int .i64 br, .int .i64 bb, .int .i64 tr, .int .i64 tb, .int .i64 k, .int .i64 c, .int .i64 q, .string y, .string x, .int .i64 r, .slice A m cap, .int .i64 sq, .int .i64 tg] := Blk.keep ((Blk.new w _ _).alloc _) hb1)); (first | (have B1 := Blk.keep B1 hb1) | (have B1 : Blk w1 (w.heap.size + 1) 33 #[.int .i64 i2, .int .i64 n2, .int .i64 st2, .int .i64 br2, .int .i64 bb2, .int .i64 tr2, .int .i64 tb2, .int .i64 k2, .int .i64 c2, .int .i64 q2, .string y2, .string x2, .int .i64 r2, .slice A2 m2 cap2, .int .i64 sq2, .int .i64 tg2] := Blk.keep (Blk.newAt (by simp)) hb1)); have B0c := B0.cell; have B1c := B1.cell) | (go_at_call 43; (with_reducible refine (h2 _).mono ?_); rintro e w1 ⟨rfl, hb1⟩; have hz1 := hb1.size; (try simp at hz1); (first | (have B0 := Blk.keep B0 hb1) | (have B0 : Blk w1 w.heap.size 33 #[.int .i64 i, .int .i64 n, .int .i64 st, .int .i64 br, .int .i64 bb, .int .i64 tr, .int .i64 tb, .int .i64 k, .int .i64 c, .int .i64 q, .string y, .string x, .int .i64 r, .slice A m cap, .int .i64 sq, .int .i64 tg] := Blk.keep ((Blk.new w _ _).alloc _) hb1)); (first | (have B1 := Blk.keep B1 hb1) | (have B1 : Blk w1 (w.heap.size + 1) 33 #[.int .i64 i2, .int .i64 n2, .int .i64 st2, .int .i64 br2, .int .i64 bb2, .int .i64 tr2, .int .i64 tb2, .int .i64 k2, .int .i64 c2, .int .i64 q2, .string y2, .string x2, .int .i64 r2, .slice A2 m2 cap2, .int .i64 sq2, .int .i64 tg2] := Blk.keep (Blk.newAt (by simp)) hb1)); have B0c := B0.cell; have B1c := B1.cell) | (go_at_call 47; (with_reducible refine (Hh.out _ (by ((repeat' first | with_reducible exact Below.refl _ _ | with_reducible assumption | with_reducible refine Below.alloc ?_ ?_ _ | with_reducible refine Below.setCell ?_ ?_ _ | with_reducible apply Below.drew | with_reducible apply below_drewN | with_reducible refine below_call ?_ (by with_reducible assumption) ?_) <;> (first | omega | (simp; done) | (simp; omega) | (simp at *; omega))))).mono ?_); rintro e w2 ⟨rfl, hb2⟩))
    go_ret
    exact ⟨rfl, by ((repeat' first | with_reducible exact Below.refl _ _ | with_reducible assumption | with_reducible refine Below.alloc ?_ ?_ _ | with_reducible refine Below.setCell ?_ ?_ _ | with_reducible apply Below.drew | with_reducible apply below_drewN | with_reducible refine below_call ?_ (by with_reducible assumption) ?_) <;> (first | omega | (simp; done) | (simp; omega) | (simp at *; omega)))⟩
  by_cases s3 : st = 3
  case neg =>
    have s3' : (st != (3 : Int)) = true := by simp [s3]
    obtain rfl : R = true := by rw [HR.out]; simp [e1, s3]
    go_enter Tryd.func22, Tryd.ntmps22
    go_wp2_with (first | (go_at_call 43; (with_reducible refine (h1 _).mono ?_); rintro e w1 ⟨rfl, hb1⟩; have hz1 := hb1.size; (try simp at hz1); (first | (have B0 := Blk.keep B0 hb1) | (have B0 : Blk w1 w.heap.size 33 #[.int .i64 i, .int .i64 n, .int .i64 st, .int .i64 br, .int .i64 bb, .int .i64 tr, .int .i64 tb, .int .i64 k, .int .i64 c, .int .i64 q, .string y, .string x, .int .i64 r, .slice A m cap, .int .i64 sq, .int .i64 tg] := Blk.keep ((Blk.new w _ _).alloc _) hb1)); (first | (have B1 := Blk.keep B1 hb1) | (have B1 : Blk w1 (w.heap.size + 1) 33 #[.int .i64 i2, .int .i64 n2, .int .i64 st2, .int .i64 br2, .int .i64 bb2, .int .i64 tr2, .int .i64 tb2, .int .i64 k2, .int .i64 c2, .int .i64 q2, .string y2, .string x2, .int .i64 r2, .slice A2 m2 cap2, .int .i64 sq2, .int .i64 tg2] := Blk.keep (Blk.newAt (by simp)) hb1)); have B0c := B0.cell; have B1c := B1.cell) | (go_at_call 43; (with_reducible refine (h2 _).mono ?_); rintro e w1 ⟨rfl, hb1⟩; have hz1 := hb1.size; (try simp at hz1); (first | (have B0 := Blk.keep B0 hb1) | (have B0 : Blk w1 w.heap.size 33 #[.int .i64 i, .int .i64 n, .int .i64 st, .int .i64 br, .int .i64 bb, .int .i64 tr, .int .i64 tb, .int .i64 k, .int .i64 c, .int .i64 q, .string y, .string x, .int .i64 r, .slice A m cap, .int .i64 sq, .int .i64 tg] := Blk.keep ((Blk.new w _ _).alloc _) hb1)); (first | (have B1 := Blk.keep B1 hb1) | (have B1 : Blk w1 (w.heap.size + 1) 33 #[.int .i64 i2, .int .i64 n2, .int .i64 st2, .int .i64 br2, .int .i64 bb2, .int .i64 tr2, .int .i64 tb2, .int .i64 k2, .int .i64 c2, .int .i64 q2, .string y2, .string x2, .int .i64 r2, .slice A2 m2 cap2, .int .i64 sq2, .int .i64 tg2] := Blk.keep (Blk.newAt (by simp)) hb1)); have B0c := B0.cell; have B1c := B1.cell) | (go_at_call 47; (with_reducible refine (Hh.out _ (by ((repeat' first | with_reducible exact Below.refl _ _ | with_reducible assumption | with_reducible refine Below.alloc ?_ ?_ _ | with_reducible refine Below.setCell ?_ ?_ _ | with_reducible apply Below.drew | with_reducible apply below_drewN | with_reducible refine below_call ?_ (by with_reducible assumption) ?_) <;> (first | omega | (simp; done) | (simp; omega) | (simp at *; omega))))).mono ?_); rintro e w2 ⟨rfl, hb2⟩))
    go_ret
    exact ⟨rfl, by ((repeat' first | with_reducible exact Below.refl _ _ | with_reducible assumption | with_reducible refine Below.alloc ?_ ?_ _ | with_reducible refine Below.setCell ?_ ?_ _ | with_reducible apply Below.drew | with_reducible apply below_drewN | with_reducible refine below_call ?_ (by with_reducible assumption) ?_) <;> (first | omega | (simp; done) | (simp; omega) | (simp at *; omega)))⟩
  have s3' : (st != (3 : Int)) = false := by simp [s3]
  cases s4 : (st2 == (3 : Int))
  · obtain rfl : R = false := by rw [HR.out]; simp [s3', s4]
    clear s3
    go_enter Tryd.func22, Tryd.ntmps22
    go_wp2_with (first | (go_at_call 43; (with_reducible refine (h1 _).mono ?_); rintro e w1 ⟨rfl, hb1⟩; have hz1 := hb1.size; (try simp at hz1); (first | (have B0 := Blk.keep B0 hb1) | (have B0 : Blk w1 w.heap.size 33 #[.int .i64 i, .int .i64 n, .int .i64 st, .int .i64 br, .int .i64 bb, .int .i64 tr, .int .i64 tb, .int .i64 k, .int .i64 c, .int .i64 q, .string y, .string x, .int .i64 r, .slice A m cap, .int .i64 sq, .int .i64 tg] := Blk.keep ((Blk.new w _ _).alloc _) hb1)); (first | (have B1 := Blk.keep B1 hb1) | (have B1 : Blk w1 (w.heap.size + 1) 33 #[.int .i64 i2, .int .i64 n2, .int .i64 st2, .int .i64 br2, .int .i64 bb2, .int .i64 tr2, .int .i64 tb2, .int .i64 k2, .int .i64 c2, .int .i64 q2, .string y2, .string x2, .int .i64 r2, .slice A2 m2 cap2, .int .i64 sq2, .int .i64 tg2] := Blk.keep (Blk.newAt (by simp)) hb1)); have B0c := B0.cell; have B1c := B1.cell) | (go_at_call 43; (with_reducible refine (h2 _).mono ?_); rintro e w1 ⟨rfl, hb1⟩; have hz1 := hb1.size; (try simp at hz1); (first | (have B0 := Blk.keep B0 hb1) | (have B0 : Blk w1 w.heap.size 33 #[.int .i64 i, .int .i64 n, .int .i64 st, .int .i64 br, .int .i64 bb, .int .i64 tr, .int .i64 tb, .int .i64 k, .int .i64 c, .int .i64 q, .string y, .string x, .int .i64 r, .slice A m cap, .int .i64 sq, .int .i64 tg] := Blk.keep ((Blk.new w _ _).alloc _) hb1)); (first | (have B1 := Blk.keep B1 hb1) | (have B1 : Blk w1 (w.heap.size + 1) 33 #[.int .i64 i2, .int .i64 n2, .int .i64 st2, .int .i64 br2, .int .i64 bb2, .int .i64 tr2, .int .i64 tb2, .int .i64 k2, .int .i64 c2, .int .i64 q2, .string y2, .string x2, .int .i64 r2, .slice A2 m2 cap2, .int .i64 sq2, .int .i64 tg2] := Blk.keep (Blk.newAt (by simp)) hb1)); have B0c := B0.cell; have B1c := B1.cell) | (go_at_call 47; (with_reducible refine (Hh.out _ (by ((repeat' first | with_reducible exact Below.refl _ _ | with_reducible assumption | with_reducible refine Below.alloc ?_ ?_ _ | with_reducible refine Below.setCell ?_ ?_ _ | with_reducible apply Below.drew | with_reducible apply below_drewN | with_reducible refine below_call ?_ (by with_reducible assumption) ?_) <;> (first | omega | (simp; done) | (simp; omega) | (simp at *; omega))))).mono ?_); rintro e w2 ⟨rfl, hb2⟩))
    go_ret
    exact ⟨rfl, by ((repeat' first | with_reducible exact Below.refl _ _ | with_reducible assumption | with_reducible refine Below.alloc ?_ ?_ _ | with_reducible refine Below.setCell ?_ ?_ _ | with_reducible apply Below.drew | with_reducible apply below_drewN | with_reducible refine below_call ?_ (by with_reducible assumption) ?_) <;> (first | omega | (simp; done) | (simp; omega) | (simp at *; omega)))⟩
  cases e5 : ceq k2 c2 q2 y2 x2 r2 k c q y x r
  · obtain rfl : R = false := by rw [HR.out]; simp [s3', e5]
    clear s3
    go_enter Tryd.func22, Tryd.ntmps22
    go_wp2_with (first | (go_at_call 43; (with_reducible refine (h1 _).mono ?_); rintro e w1 ⟨rfl, hb1⟩; have hz1 := hb1.size; (try simp at hz1); (first | (have B0 := Blk.keep B0 hb1) | (have B0 : Blk w1 w.heap.size 33 #[.int .i64 i, .int .i64 n, .int .i64 st, .int .i64 br, .int .i64 bb, .int .i64 tr, .int .i64 tb, .int .i64 k, .int .i64 c, .int .i64 q, .string y, .string x, .int .i64 r, .slice A m cap, .int .i64 sq, .int .i64 tg] := Blk.keep ((Blk.new w _ _).alloc _) hb1)); (first | (have B1 := Blk.keep B1 hb1) | (have B1 : Blk w1 (w.heap.size + 1) 33 #[.int .i64 i2, .int .i64 n2, .int .i64 st2, .int .i64 br2, .int .i64 bb2, .int .i64 tr2, .int .i64 tb2, .int .i64 k2, .int .i64 c2, .int .i64 q2, .string y2, .string x2, .int .i64 r2, .slice A2 m2 cap2, .int .i64 sq2, .int .i64 tg2] := Blk.keep (Blk.newAt (by simp)) hb1)); have B0c := B0.cell; have B1c := B1.cell) | (go_at_call 43; (with_reducible refine (h2 _).mono ?_); rintro e w1 ⟨rfl, hb1⟩; have hz1 := hb1.size; (try simp at hz1); (first | (have B0 := Blk.keep B0 hb1) | (have B0 : Blk w1 w.heap.size 33 #[.int .i64 i, .int .i64 n, .int .i64 st, .int .i64 br, .int .i64 bb, .int .i64 tr, .int .i64 tb, .int .i64 k, .int .i64 c, .int .i64 q, .string y, .string x, .int .i64 r, .slice A m cap, .int .i64 sq, .int .i64 tg] := Blk.keep ((Blk.new w _ _).alloc _) hb1)); (first | (have B1 := Blk.keep B1 hb1) | (have B1 : Blk w1 (w.heap.size + 1) 33 #[.int .i64 i2, .int .i64 n2, .int .i64 st2, .int .i64 br2, .int .i64 bb2, .int .i64 tr2, .int .i64 tb2, .int .i64 k2, .int .i64 c2, .int .i64 q2, .string y2, .string x2, .int .i64 r2, .slice A2 m2 cap2, .int .i64 sq2, .int .i64 tg2] := Blk.keep (Blk.newAt (by simp)) hb1)); have B0c := B0.cell; have B1c := B1.cell) | (go_at_call 47; (with_reducible refine (Hh.out _ (by ((repeat' first | with_reducible exact Below.refl _ _ | with_reducible assumption | with_reducible refine Below.alloc ?_ ?_ _ | with_reducible refine Below.setCell ?_ ?_ _ | with_reducible apply Below.drew | with_reducible apply below_drewN | with_reducible refine below_call ?_ (by with_reducible assumption) ?_) <;> (first | omega | (simp; done) | (simp; omega) | (simp at *; omega))))).mono ?_); rintro e w2 ⟨rfl, hb2⟩))
    go_ret
    exact ⟨rfl, by ((repeat' first | with_reducible exact Below.refl _ _ | with_reducible assumption | with_reducible refine Below.alloc ?_ ?_ _ | with_reducible refine Below.setCell ?_ ?_ _ | with_reducible apply Below.drew | with_reducible apply below_drewN | with_reducible refine below_call ?_ (by with_reducible assumption) ?_) <;> (first | omega | (simp; done) | (simp; omega) | (simp at *; omega)))⟩
  · obtain rfl : R = Z := by rw [HR.out]; simp [e1, s3', s4, e5]
    clear s3
    go_enter Tryd.func22, Tryd.ntmps22
    go_wp2_with (first | (go_at_call 43; (with_reducible refine (h1 _).mono ?_); rintro e w1 ⟨rfl, hb1⟩; have hz1 := hb1.size; (try simp at hz1); (first | (have B0 := Blk.keep B0 hb1) | (have B0 : Blk w1 w.heap.size 33 #[.int .i64 i, .int .i64 n, .int .i64 st, .int .i64 br, .int .i64 bb, .int .i64 tr, .int .i64 tb, .int .i64 k, .int .i64 c, .int .i64 q, .string y, .string x, .int .i64 r, .slice A m cap, .int .i64 sq, .int .i64 tg] := Blk.keep ((Blk.new w _ _).alloc _) hb1)); (first | (have B1 := Blk.keep B1 hb1) | (have B1 : Blk w1 (w.heap.size + 1) 33 #[.int .i64 i2, .int .i64 n2, .int .i64 st2, .int .i64 br2, .int .i64 bb2, .int .i64 tr2, .int .i64 tb2, .int .i64 k2, .int .i64 c2, .int .i64 q2, .string y2, .string x2, .int .i64 r2, .slice A2 m2 cap2, .int .i64 sq2, .int .i64 tg2] := Blk.keep (Blk.newAt (by simp)) hb1)); have B0c := B0.cell; have B1c := B1.cell) | (go_at_call 43; (with_reducible refine (h2 _).mono ?_); rintro e w1 ⟨rfl, hb1⟩; have hz1 := hb1.size; (try simp at hz1); (first | (have B0 := Blk.keep B0 hb1) | (have B0 : Blk w1 w.heap.size 33 #[.int .i64 i, .int .i64 n, .int .i64 st, .int .i64 br, .int .i64 bb, .int .i64 tr, .int .i64 tb, .int .i64 k, .int .i64 c, .int .i64 q, .string y, .string x, .int .i64 r, .slice A m cap, .int .i64 sq, .int .i64 tg] := Blk.keep ((Blk.new w _ _).alloc _) hb1)); (first | (have B1 := Blk.keep B1 hb1) | (have B1 : Blk w1 (w.heap.size + 1) 33 #[.int .i64 i2, .int .i64 n2, .int .i64 st2, .int .i64 br2, .int .i64 bb2, .int .i64 tr2, .int .i64 tb2, .int .i64 k2, .int .i64 c2, .int .i64 q2, .string y2, .string x2, .int .i64 r2, .slice A2 m2 cap2, .int .i64 sq2, .int .i64 tg2] := Blk.keep (Blk.newAt (by simp)) hb1)); have B0c := B0.cell; have B1c := B1.cell) | (go_at_call 47; (with_reducible refine (Hh.out _ (by ((repeat' first | with_reducible exact Below.refl _ _ | with_reducible assumption | with_reducible refine Below.alloc ?_ ?_ _ | with_reducible refine Below.setCell ?_ ?_ _ | with_reducible apply Below.drew | with_reducible apply below_drewN | with_reducible refine below_call ?_ (by with_reducible assumption) ?_) <;> (first | omega | (simp; done) | (simp; omega) | (simp at *; omega))))).mono ?_); rintro e w2 ⟨rfl, hb2⟩))
    go_ret
    exact ⟨rfl, by ((repeat' first | with_reducible exact Below.refl _ _ | with_reducible assumption | with_reducible refine Below.alloc ?_ ?_ _ | with_reducible refine Below.setCell ?_ ?_ _ | with_reducible apply Below.drew | with_reducible apply below_drewN | with_reducible refine below_call ?_ (by with_reducible assumption) ?_) <;> (first | omega | (simp; done) | (simp; omega) | (simp at *; omega)))⟩

set_option maxHeartbeats 2000000 in
theorem recsame9_any (a b : RecT) (w : World) (ha : IdsAt w a.A a.m a.l) (hb : IdsAt w b.A b.m b.l) : Calls Tryd.prog 20 #[a.v, b.v] w (Gives w (.bool (recsame a b))) := by
  have h := fun W (hW : Below w.heap.size w W) => same7_any a.A b.A a.m a.cap b.m b.cap a.sq a.tg b.sq b.tg a.l b.l W (ha.keep hW) (hb.keep hW)
  clear ha hb
  obtain ⟨i, n, st, br, bb, tr, tb, k, c, q, y, x, r, A, m, cap, sq, tg, l⟩ := a
  obtain ⟨i2, n2, st2, br2, bb2, tr2, tb2, k2, c2, q2, y2, x2, r2, A2, m2, cap2, sq2, tg2, l2⟩ := b
  simp only [recsame, RecT.v, RecT.p] at h ⊢
  generalize asame ⟨l, sq, tg⟩ ⟨l2, sq2, tg2⟩ = Z at h ⊢
  have Hh := Lib.hid h
  clear h
  cases e1 : (i == i2 && n == n2)
  · go_enter Tryd.func20, Tryd.ntmps20
    go_wp2_with fail
    go_ret
    exact ⟨by simp, by ((repeat' first | with_reducible exact Below.refl _ _ | with_reducible assumption | with_reducible refine Below.alloc ?_ ?_ _ | with_reducible refine Below.setCell ?_ ?_ _ | with_reducible apply Below.drew | with_reducible apply below_drewN | with_reducible refine below_call ?_ (by with_reducible assumption) ?_) <;> (first | omega | (simp; done) | (simp; omega) | (simp at *; omega)))⟩
  cases e2 : (st == st2)
  · go_enter Tryd.func20, Tryd.ntmps20
    go_wp2_with fail
    go_ret
    exact ⟨by simp, by ((repeat' first | with_reducible exact Below.refl _ _ | with_reducible assumption | with_reducible refine Below.alloc ?_ ?_ _ | with_reducible refine Below.setCell ?_ ?_ _ | with_reducible apply Below.drew | with_reducible apply below_drewN | with_reducible refine below_call ?_ (by with_reducible assumption) ?_) <;> (first | omega | (simp; done) | (simp; omega) | (simp at *; omega)))⟩
  cases e3 : (br == br2 && bb == bb2)
  · go_enter Tryd.func20, Tryd.ntmps20
    go_wp2_with fail
    go_ret
    exact ⟨by simp, by ((repeat' first | with_reducible exact Below.refl _ _ | with_reducible assumption | with_reducible refine Below.alloc ?_ ?_ _ | with_reducible refine Below.setCell ?_ ?_ _ | with_reducible apply Below.drew | with_reducible apply below_drewN | with_reducible refine below_call ?_ (by with_reducible assumption) ?_) <;> (first | omega | (simp; done) | (simp; omega) | (simp at *; omega)))⟩
  cases e4 : (tr == tr2 && tb == tb2)
  · go_enter Tryd.func20, Tryd.ntmps20
    go_wp2_with fail
    go_ret
    exact ⟨by simp, by ((repeat' first | with_reducible exact Below.refl _ _ | with_reducible assumption | with_reducible refine Below.alloc ?_ ?_ _ | with_reducible refine Below.setCell ?_ ?_ _ | with_reducible apply Below.drew | with_reducible apply below_drewN | with_reducible refine below_call ?_ (by with_reducible assumption) ?_) <;> (first | omega | (simp; done) | (simp; omega) | (simp at *; omega)))⟩
  cases e5 : ceq k c q y x r k2 c2 q2 y2 x2 r2
  · go_enter Tryd.func20, Tryd.ntmps20
    go_wp2_with fail
    go_ret
    exact ⟨by simp, by ((repeat' first | with_reducible exact Below.refl _ _ | with_reducible assumption | with_reducible refine Below.alloc ?_ ?_ _ | with_reducible refine Below.setCell ?_ ?_ _ | with_reducible apply Below.drew | with_reducible apply below_drewN | with_reducible refine below_call ?_ (by with_reducible assumption) ?_) <;> (first | omega | (simp; done) | (simp; omega) | (simp at *; omega)))⟩
  go_enter Tryd.func20, Tryd.ntmps20
  go_wp2_with (go_at_call 47; refine (Hh.out _ (by ((repeat' first | with_reducible exact Below.refl _ _ | with_reducible assumption | with_reducible refine Below.alloc ?_ ?_ _ | with_reducible refine Below.setCell ?_ ?_ _ | with_reducible apply Below.drew | with_reducible apply below_drewN | with_reducible refine below_call ?_ (by with_reducible assumption) ?_) <;> (first | omega | (simp; done) | (simp; omega) | (simp at *; omega))))).mono ?_; rintro e w1 ⟨rfl, hb1⟩)
  go_ret
  exact ⟨by simp, by ((repeat' first | with_reducible exact Below.refl _ _ | with_reducible assumption | with_reducible refine Below.alloc ?_ ?_ _ | with_reducible refine Below.setCell ?_ ?_ _ | with_reducible apply Below.drew | with_reducible apply below_drewN | with_reducible refine below_call ?_ (by with_reducible assumption) ?_) <;> (first | omega | (simp; done) | (simp; omega) | (simp at *; omega)))⟩
end Go.Proofs.YtmgiholmhhjpaaaDoor
