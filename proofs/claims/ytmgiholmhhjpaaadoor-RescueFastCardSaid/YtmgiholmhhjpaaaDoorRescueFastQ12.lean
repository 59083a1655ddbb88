/- A record, opened; rec.Same, rec.GoesOn, rec.bare. -/
import Derived.Test.YtmgiholmhhjpaaaDoorRescueFastQ1
import Derived.Test.YtmgiholmhhjpaaaDoorRescueFastQ10
import Derived.Test.YtmgiholmhhjpaaaDoorRescueFastQ3
import Derived.WalkKit
import Derived.WalkSpells
import Derived.WalkLawsBesides
import Derived.Deep.RegionHeld3
import Derived.Deep.DrawnRows
import Derived.Deep.DeepCutAuto
import Derived.Deep.DeepFit
import Derived.Lib.Hide
import Derived.BigQuiet
import Derived.Deep.QuietTactic
namespace Go.Proofs.YtmgiholmhhjpaaaDoor
open Go.RowKit
set_option linter.unusedVariables false
set_option linter.unusedSimpArgs false
set_option maxRecDepth 20000
attribute [local go_sem ↓] Go.wp_at_zero Go.wp_at_succ
attribute [local go_sem] World.cell?_alloc_some frozen_alloc_some
open Go.ChangeShapes Go.WideShapes Go.ChangeAt Go.Deep

structure RecT where
  i : Int
  n : Int
  st : Int
  br : Int
  bb : Int
  tr : Int
  tb : Int
  k : Int
  c : Int
  q : Int
  y : ByteArray
  x : ByteArray
  r : Int
  A : Option Addr
  m : Nat
  cap : Nat
  sq : Int
  tg : Int
  l : List IdP
/-- The record's sixteen cells. -/
def RecT.v (r : RecT) : Value := .agg #[.int .i64 r.i, .int .i64 r.n, .int .i64 r.st, .int .i64 r.br, .int .i64 r.bb, .int .i64 r.tr, .int .i64 r.tb, .int .i64 r.k, .int .i64 r.c, .int .i64 r.q, .string r.y, .string r.x, .int .i64 r.r, .slice r.A r.m r.cap, .int .i64 r.sq, .int .i64 r.tg]
def RecT.p (r : RecT) : AttrP := ⟨r.l, r.sq, r.tg⟩
def recsame (a b : RecT) : Bool := (a.i == b.i && a.n == b.n) && (a.st == b.st && ((a.br == b.br && a.bb == b.bb) && ((a.tr == b.tr && a.tb == b.tb) && (ceq a.k a.c a.q a.y a.x a.r b.k b.c b.q b.y b.x b.r && asame a.p b.p))))
def goesOn (a b : RecT) : Bool := !(!(a.i == b.i && a.n == b.n) || lessB b.br b.bb a.br a.bb || lessB b.tr b.tb a.tr a.tb) && (a.st != 3 || (b.st == 3 && (ceq b.k b.c b.q b.y b.x b.r a.k a.c a.q a.y a.x a.r && asame b.p a.p)))
/-- What is true of every record. -/
structure RecT.Ok (w : World) (R : RecT) : Prop where
  i : (Lit.int .i64 R.i).wf = true
  n : (Lit.int .i64 R.n).wf = true
  st : (Lit.int .i64 R.st).wf = true
  br : (Lit.int .i64 R.br).wf = true
  bb : (Lit.int .i64 R.bb).wf = true
  tr : (Lit.int .i64 R.tr).wf = true
  tb : (Lit.int .i64 R.tb).wf = true
  k : (Lit.int .i64 R.k).wf = true
  c : (Lit.int .i64 R.c).wf = true
  q : (Lit.int .i64 R.q).wf = true
  y : R.y.size ≤ maxLen
  x : R.x.size ≤ maxLen
  r : (Lit.int .i64 R.r).wf = true
  m : R.m ≤ R.cap
  cap : R.cap ≤ maxLen
  l : IdsAt w R.A R.m R.l
  sq : (Lit.int .i64 R.sq).wf = true
  tg : (Lit.int .i64 R.tg).wf = true
theorem RecT.Ok.keep {w w' : World} {r : RecT} (h : r.Ok w) (hb : Below w.heap.size w w') : r.Ok w' := { h with l := h.l.keep hb }

attribute [local go_sem ↓ high] id_neq_run id_eql_run bal_eql_run bal_neq_run cmd_neq_run cmd_eql_run
set_option maxHeartbeats 2000000 in
theorem recsame_any (a b : RecT) (w : World) (ha : IdsAt w a.A a.m a.l) (hb : IdsAt w b.A b.m b.l) : Calls Tryd.prog 19 #[a.v, b.v] w (Gives w (.bool (recsame a b))) := by
  have h := fun W (hW : Below w.heap.size w W) => attrsame_any a.A b.A a.m a.cap b.m b.cap a.sq a.tg b.sq b.tg a.l b.l W (ha.keep hW) (hb.keep hW)
  clear ha hb
  obtain ⟨i, n, st, br, bb, tr, tb, k, c, q, y, x, r, A, m, cap, sq, tg, l⟩ := a
  obtain ⟨i2, n2, st2, br2, bb2, tr2, tb2, k2, c2, q2, y2, x2, r2, A2, m2, cap2, sq2, tg2, l2⟩ := b
  simp only [recsame, RecT.v, RecT.p] at h ⊢
  generalize asame ⟨l, sq, tg⟩ ⟨l2, sq2, tg2⟩ = Z at h ⊢
  have Hh := Lib.hid h
  clear h
  cases e1 : (i == i2 && n == n2)
  · go_enter Tryd.func19, Tryd.ntmps19
    go_wp2_with fail
    go_ret
    exact ⟨by simp, by ((repeat' first | with_reducible exact Below.refl _ _ | with_reducible assumption | with_reducible refine Below.alloc ?_ ?_ _ | with_reducible refine Below.setCell ?_ ?_ _ | with_reducible apply Below.drew | with_reducible apply below_drewN | with_reducible refine below_call ?_ (by with_reducible assumption) ?_) <;> (first | omega | (simp; done) | (simp; omega) | (simp at *; omega)))⟩
  cases e2 : (st == st2)
  · go_enter Tryd.func19, Tryd.ntmps19
    go_wp2_with fail
    go_ret
    exact ⟨by simp, by ((repeat' first | with_reducible exact Below.refl _ _ | with_reducible assumption | with_reducible refine Below.alloc ?_ ?_ _ | with_reducible refine Below.setCell ?_ ?_ _ | with_reducible apply Below.drew | with_reducible apply below_drewN | with_reducible refine below_call ?_ (by with_reducible assumption) ?_) <;> (first | omega | (simp; done) | (simp; omega) | (simp at *; omega)))⟩
  cases e3 : (br == br2 && bb == bb2)
  · go_enter Tryd.func19, Tryd.ntmps19
    go_wp2_with fail
    go_ret
    exact ⟨by simp, by ((repeat' first | with_reducible exact Below.refl _ _ | with_reducible assumption | with_reducible refine Below.alloc ?_ ?_ _ | with_reducible refine Below.setCell ?_ ?_ _ | with_reducible apply Below.drew | with_reducible apply below_drewN | with_reducible refine below_call ?_ (by with_reducible assumption) ?_) <;> (first | omega | (simp; done) | (simp; omega) | (simp at *; omega)))⟩
  cases e4 : (tr == tr2 && tb == tb2)
  · go_enter Tryd.func19, Tryd.ntmps19
    go_wp2_with fail
    go_ret
    exact ⟨by simp, by ((repeat' first | with_reducible exact Below.refl _ _ | with_reducible assumption | with_reducible refine Below.alloc ?_ ?_ _ | with_reducible refine Below.setCell ?_ ?_ _ | with_reducible apply Below.drew | with_reducible apply below_drewN | with_reducible refine below_call ?_ (by with_reducible assumption) ?_) <;> (first | omega | (simp; done) | (simp; omega) | (simp at *; omega)))⟩
  cases e5 : ceq k c q y x r k2 c2 q2 y2 x2 r2
  · go_enter Tryd.func19, Tryd.ntmps19
    go_wp2_with fail
    go_ret
    exact ⟨by simp, by ((repeat' first | with_reducible exact Below.refl _ _ | with_reducible assumption | with_reducible refine Below.alloc ?_ ?_ _ | with_reducible refine Below.setCell ?_ ?_ _ | with_reducible apply Below.drew | with_reducible apply below_drewN | with_reducible refine below_call ?_ (by with_reducible assumption) ?_) <;> (first | omega | (simp; done) | (simp; omega) | (simp at *; omega)))⟩
  go_enter Tryd.func19, Tryd.ntmps19
  go_wp2_with (go_at_call 14; refine (Hh.out _ (by ((repeat' first | with_reducible exact Below.refl _ _ | with_reducible assumption | with_reducible refine Below.alloc ?_ ?_ _ | with_reducible refine Below.setCell ?_ ?_ _ | with_reducible apply Below.drew | with_reducible apply below_drewN | with_reducible refine below_call ?_ (by with_reducible assumption) ?_) <;> (first | omega | (simp; done) | (simp; omega) | (simp at *; omega))))).mono ?_; rintro e w1 ⟨rfl, hb1⟩)
  go_ret
  exact ⟨by simp, by ((repeat' first | with_reducible exact Below.refl _ _ | with_reducible assumption | with_reducible refine Below.alloc ?_ ?_ _ | with_reducible refine Below.setCell ?_ ?_ _ | with_reducible apply Below.drew | with_reducible apply below_drewN | with_reducible refine below_call ?_ (by with_reducible assumption) ?_) <;> (first | omega | (simp; done) | (simp; omega) | (simp at *; omega)))⟩
end Go.Proofs.YtmgiholmhhjpaaaDoor
