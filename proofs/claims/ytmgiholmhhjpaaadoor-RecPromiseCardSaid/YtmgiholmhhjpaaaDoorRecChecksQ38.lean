/- rec.GoesOn: its walk, and its plain law. -/
import Derived.Test.YtmgiholmhhjpaaaDoorRecChecksQ28
import Derived.WalkKit
import Derived.WalkSpells
import Derived.WalkLawsBesides
import Derived.Deep.RegionHeld3
import Derived.Deep.DrawnRows
import Derived.Deep.DeepCutAuto
import Derived.Deep.DeepFit
import Derived.Lib.Hide
import Derived.BigQuiet
import Derived.Deep.QuietTactic
namespace Go.Proofs.YtmgiholmhhjpaaaDoor
open Go.RowKit
set_option linter.unusedVariables false
set_option linter.unusedSimpArgs false
set_option maxRecDepth 20000
attribute [local go_sem ↓] Go.wp_at_zero Go.wp_at_succ
attribute [local go_sem] World.cell?_alloc_some frozen_alloc_some

theorem lessB_no {a b c d : Int} : lessB a b c d = false ↔ (c < a ∨ c = a ∧ d ≤ b) := by
  rw [← Bool.not_eq_true, lessB_iff]; omega
theorem goesOn_iff {a b : RecT} : goesOn a b = true ↔ (a.i = b.i ∧ a.n = b.n) ∧ (a.br < b.br ∨ a.br = b.br ∧ a.bb ≤ b.bb) ∧ (a.tr < b.tr ∨ a.tr = b.tr ∧ a.tb ≤ b.tb) ∧
    (a.st = 3 → b.st = 3 ∧ (b.k = a.k ∧ b.c = a.c ∧ b.q = a.q ∧ b.y = a.y ∧ b.x = a.x ∧ b.r = a.r) ∧ b.p = a.p) := by
  rw [← lessB_no, ← lessB_no]
  unfold goesOn
  have hc : ceq b.k b.c b.q b.y b.x b.r a.k a.c a.q a.y a.x a.r = true ↔ _ := ceq_iff
  have hp : asame b.p a.p = true ↔ _ := asame_iff
  generalize ceq b.k b.c b.q b.y b.x b.r a.k a.c a.q a.y a.x a.r = C at *
  generalize asame b.p a.p = D at *
  rw [← hc, ← hp]
  cases lessB b.br b.bb a.br a.bb <;> cases lessB b.tr b.tb a.tr a.tb <;> by_cases h3 : a.st = 3 <;> simp [h3]
theorem goesOn_refl (a : RecT) : goesOn a a = true := goesOn_iff.2 ⟨⟨rfl, rfl⟩, .inr ⟨rfl, Int.le_refl _⟩, .inr ⟨rfl, Int.le_refl _⟩, fun h => ⟨h, ⟨rfl, rfl, rfl, rfl, rfl, rfl⟩, rfl⟩⟩
theorem goesOn_trans {a b c : RecT} (h : goesOn a b = true) (h' : goesOn b c = true) : goesOn a c = true := by
  rw [goesOn_iff] at h h' ⊢
  obtain ⟨⟨i1, i2⟩, b1, t1, s1⟩ := h
  obtain ⟨⟨j1, j2⟩, b2, t2, s2⟩ := h'
  refine ⟨⟨i1.trans j1, i2.trans j2⟩, by omega, by omega, fun h => ?_⟩
  obtain ⟨e1, ⟨c1, c2, c3, c4, c5, c6⟩, e2⟩ := s1 h
  obtain ⟨f1, ⟨d1, d2, d3, d4, d5, d6⟩, f2⟩ := s2 e1
  exact ⟨f1, ⟨d1.trans c1, d2.trans c2, d3.trans c3, d4.trans c4, d5.trans c5, d6.trans c6⟩, f2.trans e2⟩
theorem recsame_iff {a b : RecT} : recsame a b = true ↔ (a.i = b.i ∧ a.n = b.n) ∧ a.st = b.st ∧ (a.br = b.br ∧ a.bb = b.bb) ∧ (a.tr = b.tr ∧ a.tb = b.tb) ∧ (a.k = b.k ∧ a.c = b.c ∧ a.q = b.q ∧ a.y = b.y ∧ a.x = b.x ∧ a.r = b.r) ∧ a.p = b.p := by
  have hc : ceq a.k a.c a.q a.y a.x a.r b.k b.c b.q b.y b.x b.r = true ↔ _ := ceq_iff
  have hp : asame a.p b.p = true ↔ _ := asame_iff
  unfold recsame
  rw [← hc, ← hp]
  simp
theorem same_goes {a b : RecT} (h : recsame a b = true) : goesOn a b = true ∧ goesOn b a = true := by
  rw [recsame_iff] at h
  obtain ⟨⟨i1, i2⟩, s, ⟨b1, b2⟩, ⟨t1, t2⟩, ⟨c1, c2, c3, c4, c5, c6⟩, p⟩ := h
  exact ⟨goesOn_iff.2 ⟨⟨i1, i2⟩, .inr ⟨b1, by omega⟩, .inr ⟨t1, by omega⟩, fun h => ⟨by omega, ⟨c1.symm, c2.symm, c3.symm, c4.symm, c5.symm, c6.symm⟩, p.symm⟩⟩,
    goesOn_iff.2 ⟨⟨i1.symm, i2.symm⟩, .inr ⟨b1.symm, by omega⟩, .inr ⟨t1.symm, by omega⟩, fun h => ⟨by omega, ⟨c1, c2, c3, c4, c5, c6⟩, p⟩⟩⟩

attribute [local go_sem ↓ high] id_neq_run id_eql_run bal_eql_run bal_neq_run cmd_neq_run cmd_eql_run
set_option maxHeartbeats 4000000 in
theorem goeson_any (a b : RecT) (w : World) (ha : IdsAt w a.A a.m a.l) (hb : IdsAt w b.A b.m b.l) : Calls Tryd.prog 21 #[a.v, b.v] w (Gives w (.bool (goesOn a b))) := by
  have h := fun W (hW : Below w.heap.size w W) => attrsame_any b.A a.A b.m b.cap a.m a.cap b.sq b.tg a.sq a.tg b.l a.l W (hb.keep hW) (ha.keep hW)
  clear ha hb
  obtain ⟨R, hR⟩ : ∃ R, R = goesOn a b := ⟨_, rfl⟩
  rw [← hR]
  obtain ⟨i, n, st, br, bb, tr, tb, k, c, q, y, x, r, A, m, cap, sq, tg, l⟩ := a
  obtain ⟨i2, n2, st2, br2, bb2, tr2, tb2, k2, c2, q2, y2, x2, r2, A2, m2, cap2, sq2, tg2, l2⟩ := b
  simp only [goesOn, RecT.v, RecT.p] at h hR ⊢
  generalize asame ⟨l2, sq2, tg2⟩ ⟨l, sq, tg⟩ = Z at h hR ⊢
  have h1 := fun W => less_any br2 bb2 br bb W
  have h2 := fun W => less_any tr2 tb2 tr tb W
  generalize lessB br2 bb2 br bb = g1 at h1 hR
  generalize lessB tr2 tb2 tr tb = g2 at h2 hR
  have HR := Lib.hid hR
  have Hh := Lib.hid h
  clear h hR
  cases e1 : (i == i2 && n == n2)
  · obtain rfl : R = false := by rw [HR.out]; simp [e1]
    go_enter Tryd.func21, Tryd.ntmps21
    go_wp2_with fail
    go_ret
    exact ⟨rfl, by ((repeat' first | with_reducible exact Below.refl _ _ | with_reducible assumption | with_reducible refine Below.alloc ?_ ?_ _ | with_reducible refine Below.setCell ?_ ?_ _ | with_reducible apply Below.drew | with_reducible apply below_drewN | with_reducible refine below_call ?_ (by with_reducible assumption) ?_) <;> (first | omega | (simp; done) | (simp; omega) | (simp at *; omega)))⟩
  cases g1
  case true =>
    obtain rfl : R = false := by rw [HR.out]; simp
    go_enter Tryd.func21, Tryd.ntmps21
    go_wp2_with (first | (go_at_call 26; (with_reducible refine (h1 _).mono ?_); rintro e w1 ⟨rfl, hb1⟩; have hz1 := hb1.size; (try simp at hz1); (first | (have B0 := Blk.keep B0 hb1) | (have B0 : Blk w1 w.heap.size 33 #[.int .i64 i, .int .i64 n, .int .i64 st, .int .i64 br, .int .i64 bb, .int .i64 tr, .int .i64 tb, .int .i64 k, .int .i64 c, .int .i64 q, .string y, .string x, .int .i64 r, .slice A m cap, .int .i64 sq, .int .i64 tg] := Blk.keep ((Blk.new w _ _).alloc _) hb1)); (first | (have B1 := Blk.keep B1 hb1) | (have B1 : Blk w1 (w.heap.size + 1) 33 #[.int .i64 i2, .int .i64 n2, .int .i64 st2, .int .i64 br2, .int .i64 bb2, .int .i64 tr2, .int .i64 tb2, .int .i64 k2, .int .i64 c2, .int .i64 q2, .string y2, .string x2, .int .i64 r2, .slice A2 m2 cap2, .int .i64 sq2, .int .i64 tg2] := Blk.keep (Blk.newAt (by simp)) hb1)); have B0c := B0.cell; have B1c := B1.cell) | (go_at_call 26; (with_reducible refine (h2 _).mono ?_); rintro e w1 ⟨rfl, hb1⟩; have hz1 := hb1.size; (try simp at hz1); (first | (have B0 := Blk.keep B0 hb1) | (have B0 : Blk w1 w.heap.size 33 #[.int .i64 i, .int .i64 n, .int .i64 st, .int .i64 br, .int .i64 bb, .int .i64 tr, .int .i64 tb, .int .i64 k, .int .i64 c, .int .i64 q, .string y, .string x, .int .i64 r, .slice A m cap, .int .i64 sq, .int .i64 tg] := Blk.keep ((Blk.new w _ _).alloc _) hb1)); (first | (have B1 := Blk.keep B1 hb1) | (have B1 : Blk w1 (w.heap.size + 1) 33 #[.int .i64 i2, .int .i64 n2, .int .i64 st2, .int .i64 br2, .int .i64 bb2, .int .i64 tr2, .int .i64 tb2, .int .i64 k2, .int .i64 c2, .int .i64 q2, .string y2, .string x2, .int .i64 r2, .slice A2 m2 cap2, .int .i64 sq2, .int .i64 tg2] := Blk.keep (Blk.newAt (by simp)) hb1)); have B0c := B0.cell; have B1c := B1.cell) | (go_at_call 14; (with_reducible refine (Hh.out _ (by ((repeat' first | with_reducible exact Below.refl _ _ | with_reducible assumption | with_reducible refine Below.alloc ?_ ?_ _ | with_reducible refine Below.setCell ?_ ?_ _ | with_reducible apply Below.drew | with_reducible apply below_drewN | with_reducible refine below_call ?_ (by with_reducible assumption) ?_) <;> (first | omega | (simp; done) | (simp; omega) | (simp at *; omega))))).mono ?_); rintro e w2 ⟨rfl, hb2⟩))
    go_ret
    exact ⟨rfl, by ((repeat' first | with_reducible exact Below.refl _ _ | with_reducible assumption | with_reducible refine Below.alloc ?_ ?_ _ | with_reducible refine Below.setCell ?_ ?_ _ | with_reducible apply Below.drew | with_reducible apply below_drewN | with_reducible refine below_call ?_ (by with_reducible assumption) ?_) <;> (first | omega | (simp; done) | (simp; omega) | (simp at *; omega)))⟩
  cases g2
  case true =>
    obtain rfl : R = false := by rw [HR.out]; simp
    go_enter Tryd.func21, Tryd.ntmps21
    go_wp2_with (first | (go_at_call 26; (with_reducible refine (h1 _).mono ?_); rintro e w1 ⟨rfl, hb1⟩; have hz1 := hb1.size; (try simp at hz1); (first | (have B0 := Blk.keep B0 hb1) | (have B0 : Blk w1 w.heap.size 33 #[.int .i64 i, .int .i64 n, .int .i64 st, .int .i64 br, .int .i64 bb, .int .i64 tr, .int .i64 tb, .int .i64 k, .int .i64 c, .int .i64 q, .string y, .string x, .int .i64 r, .slice A m cap, .int .i64 sq, .int .i64 tg] := Blk.keep ((Blk.new w _ _).alloc _) hb1)); (first | (have B1 := Blk.keep B1 hb1) | (have B1 : Blk w1 (w.heap.size + 1) 33 #[.int .i64 i2, .int .i64 n2, .int .i64 st2, .int .i64 br2, .int .i64 bb2, .int .i64 tr2, .int .i64 tb2, .int .i64 k2, .int .i64 c2, .int .i64 q2, .string y2, .string x2, .int .i64 r2, .slice A2 m2 cap2, .int .i64 sq2, .int .i64 tg2] := Blk.keep (Blk.newAt (by simp)) hb1)); have B0c := B0.cell; have B1c := B1.cell) | (go_at_call 26; (with_reducible refine (h2 _).mono ?_); rintro e w1 ⟨rfl, hb1⟩; have hz1 := hb1.size; (try simp at hz1); (first | (have B0 := Blk.keep B0 hb1) | (have B0 : Blk w1 w.heap.size 33 #[.int .i64 i, .int .i64 n, .int .i64 st, .int .i64 br, .int .i64 bb, .int .i64 tr, .int .i64 tb, .int .i64 k, .int .i64 c, .int .i64 q, .string y, .string x, .int .i64 r, .slice A m cap, .int .i64 sq, .int .i64 tg] := Blk.keep ((Blk.new w _ _).alloc _) hb1)); (first | (have B1 := Blk.keep B1 hb1) | (have B1 : Blk w1 (w.heap.size + 1) 33 #[.int .i64 i2, .int .i64 n2, .int .i64 st2, .int .i64 br2, .int .i64 bb2, .int .i64 tr2, .int .i64 tb2, .int .i64 k2, .int .i64 c2, .int .i64 q2, .string y2, .string x2, .int .i64 r2, .slice A2 m2 cap2, .int .i64 sq2, .int .i64 tg2] := Blk.keep (Blk.newAt (by simp)) hb1)); have B0c := B0.cell; have B1c := B1.cell) | (go_at_call 14; (with_reducible refine (Hh.out _ (by ((repeat' first | with_reducible exact Below.refl _ _ | with_reducible assumption | with_reducible refine Below.alloc ?_ ?_ _ | with_reducible refine Below.setCell ?_ ?_ _ | with_reducible apply Below.drew | with_reducible apply below_drewN | with_reducible refine below_call ?_ (by with_reducible assumption) ?_) <;> (first | omega | (simp; done) | (simp; omega) | (simp at *; omega))))).mono ?_); rintro e w2 ⟨rfl, hb2⟩))
    go_ret
    exact ⟨rfl, by ((repeat' first | with_reducible exact Below.refl _ _ | with_reducible assumption | with_reducible refine Below.alloc ?_ ?_ _ | with_reducible refine Below.setCell ?_ ?_ _ | with_reducible apply Below.drew | with_reducible apply below_drewN | with_reducible refine below_call ?_ (by with_reducible assumption) ?_) <;> (first | omega | (simp; done) | (simp; omega) | (simp at *; omega)))⟩
  by_cases s3 : st = 3
  case neg =>
    have s3' : (st != (3 : Int)) = true := by simp [s3]
    obtain rfl : R = true := by rw [HR.out]; simp [e1, s3]
    go_enter Tryd.func21, Tryd.ntmps21
    go_wp2_with (first | (go_at_call 26; (with_reducible refine (h1 _).mono ?_); rintro e w1 ⟨rfl, hb1⟩; have hz1 := hb1.size; (try simp at hz1); (first | (have B0 := Blk.keep B0 hb1) | (have B0 : Blk w1 w.heap.size 33 #[.int .i64 i, .int .i64 n, .int .i64 st, .int .i64 br, .int .i64 bb, .int .i64 tr, .int .i64 tb, .int .i64 k, .int .i64 c, .int .i64 q, .string y, .string x, .int .i64 r, .slice A m cap, .int .i64 sq, .int .i64 tg] := Blk.keep ((Blk.new w _ _).alloc _) hb1)); (first | (have B1 := Blk.keep B1 hb1) | (have B1 : Blk w1 (w.heap.size + 1) 33 #[.int .i64 i2, .int .i64 n2, .int .i64 st2, .int .i64 br2, .int .i64 bb2, .int .i64 tr2, .int .i64 tb2, .int .i64 k2, .int .i64 c2, .int .i64 q2, .string y2, .string x2, .int .i64 r2, .slice A2 m2 cap2, .int .i64 sq2, .int .i64 tg2] := Blk.keep (Blk.newAt (by simp)) hb1)); have B0c := B0.cell; have B1c := B1.cell) | (go_at_call 26; (with_reducible refine (h2 _).mono ?_); rintro e w1 ⟨rfl, hb1⟩; have hz1 := hb1.size; (try simp at hz1); (first | (have B0 := Blk.keep B0 hb1) | (have B0 : Blk w1 w.heap.size 33 #[.int .i64 i, .int .i64 n, .int .i64 st, .int .i64 br, .int .i64 bb, .int .i64 tr, .int .i64 tb, .int .i64 k, .int .i64 c, .int .i64 q, .string y, .string x, .int .i64 r, .slice A m cap, .int .i64 sq, .int .i64 tg] := Blk.keep ((Blk.new w _ _).alloc _) hb1)); (first | (have B1 := Blk.keep B1 hb1) | (have B1 : Blk w1 (w.heap.size + 1) 33 #[.int .i64 i2, .int .i64 n2, .int .i64 st2, .int .i64 br2, .int .i64 bb2, .int .i64 tr2, .int .i64 tb2, .int .i64 k2, .int .i64 c2, .int .i64 q2, .string y2, .string x2, .int .i64 r2, .slice A2 m2 cap2, .int .i64 sq2, .int .i64 tg2] := Blk.keep (Blk.newAt (by simp)) hb1)); have B0c := B0.cell; have B1c := B1.cell) | (go_at_call 14; (with_reducible refine (Hh.out _ (by ((repeat' first | with_reducible exact Below.refl _ _ | with_reducible assumption | with_reducible refine Below.alloc ?_ ?_ _ | with_reducible refine Below.setCell ?_ ?_ _ | with_reducible apply Below.drew | with_reducible apply below_drewN | with_reducible refine below_call ?_ (by with_reducible assumption) ?_) <;> (first | omega | (simp; done) | (simp; omega) | (simp at *; omega))))).mono ?_); rintro e w2 ⟨rfl, hb2⟩))
    go_ret
    exact ⟨rfl, by ((repeat' first | with_reducible exact Below.refl _ _ | with_reducible assumption | with_reducible refine Below.alloc ?_ ?_ _ | with_reducible refine Below.setCell ?_ ?_ _ | with_reducible apply Below.drew | with_reducible apply below_drewN | with_reducible refine below_call ?_ (by with_reducible assumption) ?_) <;> (first | omega | (simp; done) | (simp; omega) | (simp at *; omega)))⟩
  have s3' : (st != (3 : Int)) = false := by simp [s3]
  cases s4 : (st2 == (3 : Int))
  · obtain rfl : R = false := by rw [HR.out]; simp [s3', s4]
    clear s3
    go_enter Tryd.func21, Tryd.ntmps21
    go_wp2_with (first | (go_at_call 26; (with_reducible refine (h1 _).mono ?_); rintro e w1 ⟨rfl, hb1⟩; have hz1 := hb1.size; (try simp at hz1); (first | (have B0 := Blk.keep B0 hb1) | (have B0 : Blk w1 w.heap.size 33 #[.int .i64 i, .int .i64 n, .int .i64 st, .int .i64 br, .int .i64 bb, .int .i64 tr, .int .i64 tb, .int .i64 k, .int .i64 c, .int .i64 q, .string y, .string x, .int .i64 r, .slice A m cap, .int .i64 sq, .int .i64 tg] := Blk.keep ((Blk.new w _ _).alloc _) hb1)); (first | (have B1 := Blk.keep B1 hb1) | (have B1 : Blk w1 (w.heap.size + 1) 33 #[.int .i64 i2, .int .i64 n2, .int .i64 st2, .int .i64 br2, .int .i64 bb2, .int .i64 tr2, .int .i64 tb2, .int .i64 k2, .int .i64 c2, .int .i64 q2, .string y2, .string x2, .int .i64 r2, .slice A2 m2 cap2, .int .i64 sq2, .int .i64 tg2] := Blk.keep (Blk.newAt (by simp)) hb1)); have B0c := B0.cell; have B1c := B1.cell) | (go_at_call 26; (with_reducible refine (h2 _).mono ?_); rintro e w1 ⟨rfl, hb1⟩; have hz1 := hb1.size; (try simp at hz1); (first | (have B0 := Blk.keep B0 hb1) | (have B0 : Blk w1 w.heap.size 33 #[.int .i64 i, .int .i64 n, .int .i64 st, .int .i64 br, .int .i64 bb, .int .i64 tr, .int .i64 tb, .int .i64 k, .int .i64 c, .int .i64 q, .string y, .string x, .int .i64 r, .slice A m cap, .int .i64 sq, .int .i64 tg] := Blk.keep ((Blk.new w _ _).alloc _) hb1)); (first | (have B1 := Blk.keep B1 hb1) | (have B1 : Blk w1 (w.heap.size + 1) 33 #[.int .i64 i2, .int .i64 n2, .int .i64 st2, .int .i64 br2, .int .i64 bb2, .int .i64 tr2, .int .i64 tb2, .int .i64 k2, .int .i64 c2, .int .i64 q2, .string y2, .string x2, .int .i64 r2, .slice A2 m2 cap2, .int .i64 sq2, .int .i64 tg2] := Blk.keep (Blk.newAt (by simp)) hb1)); have B0c := B0.cell; have B1c := B1.cell) | (go_at_call 14; (with_reducible refine (Hh.out _ (by ((repeat' first | with_reducible exact Below.refl _ _ | with_reducible assumption | with_reducible refine Below.alloc ?_ ?_ _ | with_reducible refine Below.setCell ?_ ?_ _ | with_reducible apply Below.drew | with_reducible apply below_drewN | with_reducible refine below_call ?_ (by with_reducible assumption) ?_) <;> (first | omega | (simp; done) | (simp; omega) | (simp at *; omega))))).mono ?_); rintro e w2 ⟨rfl, hb2⟩))
    go_ret
    exact ⟨rfl, by ((repeat' first | with_reducible exact Below.refl _ _ | with_reducible assumption | with_reducible refine Below.alloc ?_ ?_ _ | with_reducible refine Below.setCell ?_ ?_ _ | with_reducible apply Below.drew | with_reducible apply below_drewN | with_reducible refine below_call ?_ (by with_reducible assumption) ?_) <;> (first | omega | (simp; done) | (simp; omega) | (simp at *; omega)))⟩
  cases e5 : ceq k2 c2 q2 y2 x2 r2 k c q y x r
  · obtain rfl : R = false := by rw [HR.out]; simp [s3', e5]
    clear s3
    go_enter Tryd.func21, Tryd.ntmps21
    go_wp2_with (first | (go_at_call 26; (with_reducible refine (h1 _).mono ?_); rintro e w1 ⟨rfl, hb1⟩; have hz1 := hb1.size; (try simp at hz1); (first | (have B0 := Blk.keep B0 hb1) | (have B0 : Blk w1 w.heap.size 33 #[.int .i64 i, .int .i64 n, .int .i64 st, .int .i64 br, .int .i64 bb, .int .i64 tr, .int .i64 tb, .int .i64 k, .int .i64 c, .int .i64 q, .string y, .string x, .int .i64 r, .slice A m cap, .int .i64 sq, .int .i64 tg] := Blk.keep ((Blk.new w _ _).alloc _) hb1)); (first | (have B1 := Blk.keep B1 hb1) | (have B1 : Blk w1 (w.heap.size + 1) 33 #[.int .i64 i2, .int .i64 n2, .int .i64 st2, .int .i64 br2, .int .i64 bb2, .int .i64 tr2, .int .i64 tb2, .int .i64 k2, .int .i64 c2, .int .i64 q2, .string y2, .string x2, .int .i64 r2, .slice A2 m2 cap2, .int .i64 sq2, .int .i64 tg2] := Blk.keep (Blk.newAt (by simp)) hb1)); have B0c := B0.cell; have B1c := B1.cell) | (go_at_call 26; (with_reducible refine (h2 _).mono ?_); rintro e w1 ⟨rfl, hb1⟩; have hz1 := hb1.size; (try simp at hz1); (first | (have B0 := Blk.keep B0 hb1) | (have B0 : Blk w1 w.heap.size 33 #[.int .i64 i, .int .i64 n, .int .i64 st, .int .i64 br, .int .i64 bb, .int .i64 tr, .int .i64 tb, .int .i64 k, .int .i64 c, .int .i64 q, .string y, .string x, .int .i64 r, .slice A m cap, .int .i64 sq, .int .i64 tg] := Blk.keep ((Blk.new w _ _).alloc _) hb1)); (first | (have B1 := Blk.keep B1 hb1) | (have B1 : Blk w1 (w.heap.size + 1) 33 #[.int .i64 i2, .int .i64 n2, .int .i64 st2, .int .i64 br2, .int .i64 bb2, .int .i64 tr2, .int .i64 tb2, .int .i64 k2, .int .i64 c2, .int .i64 q2, .string y2, .string x2, .int .i64 r2, .slice A2 m2 cap2, .int .i64 sq2, .int .i64 tg2] := Blk.keep (Blk.newAt (by simp)) hb1)); have B0c := B0.cell; have B1c := B1.cell) | (go_at_call 14; (with_reducible refine (Hh.out _ (by ((repeat' first | with_reducible exact Below.refl _ _ | with_reducible assumption | with_reducible refine Below.alloc ?_ ?_ _ | with_reducible refine Below.setCell ?_ ?_ _ | with_reducible apply Below.drew | with_reducible apply below_drewN | with_reducible refine below_call ?_ (by with_reducible assumption) ?_) <;> (first | omega | (simp; done) | (simp; omega) | (simp at *; omega))))).mono ?_); rintro e w2 ⟨rfl, hb2⟩))
    go_ret
    exact ⟨rfl, by ((repeat' first | with_reducible exact Below.refl _ _ | with_reducible assumption | with_reducible refine Below.alloc ?_ ?_ _ | with_reducible refine Below.setCell ?_ ?_ _ | with_reducible apply Below.drew | with_reducible apply below_drewN | with_reducible refine below_call ?_ (by with_reducible assumption) ?_) <;> (first | omega | (simp; done) | (simp; omega) | (simp at *; omega)))⟩
  · obtain rfl : R = Z := by rw [HR.out]; simp [e1, s3', s4, e5]
    clear s3
    go_enter Tryd.func21, Tryd.ntmps21
    go_wp2_with (first | (go_at_call 26; (with_reducible refine (h1 _).mono ?_); rintro e w1 ⟨rfl, hb1⟩; have hz1 := hb1.size; (try simp at hz1); (first | (have B0 := Blk.keep B0 hb1) | (have B0 : Blk w1 w.heap.size 33 #[.int .i64 i, .int .i64 n, .int .i64 st, .int .i64 br, .int .i64 bb, .int .i64 tr, .int .i64 tb, .int .i64 k, .int .i64 c, .int .i64 q, .string y, .string x, .int .i64 r, .slice A m cap, .int .i64 sq, .int .i64 tg] := Blk.keep ((Blk.new w _ _).alloc _) hb1)); (first | (have B1 := Blk.keep B1 hb1) | (have B1 : Blk w1 (w.heap.size + 1) 33 #[.int .i64 i2, .int .i64 n2, .int .i64 st2, .int .i64 br2, .int .i64 bb2, .int .i64 tr2, .int .i64 tb2, .int .i64 k2, .int .i64 c2, .int .i64 q2, .string y2, .string x2, .int .i64 r2, .slice A2 m2 cap2, .int .i64 sq2, .int .i64 tg2] := Blk.keep (Blk.newAt (by simp)) hb1)); have B0c := B0.cell; have B1c := B1.cell) | (go_at_call 26; (with_reducible refine (h2 _).mono ?_); rintro e w1 ⟨rfl, hb1⟩; have hz1 := hb1.size; (try simp at hz1); (first | (have B0 := Blk.keep B0 hb1) | (have B0 : Blk w1 w.heap.size 33 #[.int .i64 i, .int .i64 n, .int .i64 st, .int .i64 br, .int .i64 bb, .int .i64 tr, .int .i64 tb, .int .i64 k, .int .i64 c, .int .i64 q, .string y, .string x, .int .i64 r, .slice A m cap, .int .i64 sq, .int .i64 tg] := Blk.keep ((Blk.new w _ _).alloc _) hb1)); (first | (have B1 := Blk.keep B1 hb1) | (have B1 : Blk w1 (w.heap.size + 1) 33 #[.int .i64 i2, .int .i64 n2, .int .i64 st2, .int .i64 br2, .int .i64 bb2, .int .i64 tr2, .int .i64 tb2, .int .i64 k2, .int .i64 c2, .int .i64 q2, .string y2, .string x2, .int .i64 r2, .slice A2 m2 cap2, .int .i64 sq2, .int .i64 tg2] := Blk.keep (Blk.newAt (by simp)) hb1)); have B0c := B0.cell; have B1c := B1.cell) | (go_at_call 14; (with_reducible refine (Hh.out _ (by ((repeat' first | with_reducible exact Below.refl _ _ | with_reducible assumption | with_reducible refine Below.alloc ?_ ?_ _ | with_reducible refine Below.setCell ?_ ?_ _ | with_reducible apply Below.drew | with_reducible apply below_drewN | with_reducible refine below_call ?_ (by with_reducible assumption) ?_) <;> (first | omega | (simp; done) | (simp; omega) | (simp at *; omega))))).mono ?_); rintro e w2 ⟨rfl, hb2⟩))
    go_ret
    exact ⟨rfl, by ((repeat' first | with_reducible exact Below.refl _ _ | with_reducible assumption | with_reducible refine Below.alloc ?_ ?_ _ | with_reducible refine Below.setCell ?_ ?_ _ | with_reducible apply Below.drew | with_reducible apply below_drewN | with_reducible refine below_call ?_ (by with_reducible assumption) ?_) <;> (first | omega | (simp; done) | (simp; omega) | (simp at *; omega)))⟩
end Go.Proofs.YtmgiholmhhjpaaaDoor
