/- Ids held against one another: ==, slices.Equal, ids.Equal, attr.Same. A call that only lays blocks and draws: in the sort's own words. -/
import Derived.Test.YtfdfcceleaodaaaAttrItemsQ5
import Derived.Test.YtfdfcceleaodaaaAttrItemsQ0
import Derived.WalkKit
import Derived.WalkSpells
import Derived.WalkLawsBesides
import Derived.Deep.RegionHeld3
import Derived.Deep.DrawnRows
import Derived.Deep.DeepCutAuto
import Derived.Deep.DeepFit
import Derived.Lib.Hide
import Derived.BigQuiet
import Derived.Deep.QuietTactic
import Derived.Sort.Grow
import Derived.Deep.Draws
namespace Go.Proofs.Ytfdfcceleaodaaa
open Go.RowKit
set_option linter.unusedVariables false
set_option linter.unusedSimpArgs false
set_option maxRecDepth 20000
attribute [local go_sem ↓] Go.wp_at_zero Go.wp_at_succ
attribute [local go_sem] World.cell?_alloc_some frozen_alloc_some

theorem id_eql_run (a b c d : Int) (W : World) : (binOp .eql 42 (.agg #[.int .i64 a, .int .i64 b]) (.agg #[.int .i64 c, .int .i64 d])).run Try.prog W = .ok (.bool (a == c && b == d)) W := by
  by_cases h1 : a = c
  · go_simp
    by_cases h2 : b = d <;> simp [h2]
  · go_simp
theorem id_neq_run (a b c d : Int) (W : World) : (binOp .neq 42 (.agg #[.int .i64 a, .int .i64 b]) (.agg #[.int .i64 c, .int .i64 d])).run Try.prog W = .ok (.bool (!(a == c && b == d))) W := by
  by_cases h1 : a = c
  · go_simp
    by_cases h2 : b = d <;> simp [h2]
  · go_simp

def lseq (l m : List IdP) : Bool := decide (l = m)
theorem lseq_iff {l m : List IdP} : lseq l m = true ↔ l = m := decide_eq_true_iff
theorem take_step {l m : List IdP} {j : Nat} {x : IdP} (h : l.take j = m.take j) (h1 : l[j]? = some x) (h2 : m[j]? = some x) : l.take (j + 1) = m.take (j + 1) := by
  rw [List.take_add_one, List.take_add_one, h, h1, h2]

section
attribute [local go_sem ↓ high] id_neq_run id_eql_run
set_option maxHeartbeats 1000000 in
theorem equal_ids (A A2 : Option Addr) (m c m2 c2 : Nat) (l l2 : List IdP) (w : World) (h1 : IdsAt w A m l) (h2 : IdsAt w A2 m2 l2) :
    Calls Try.prog 46 #[.slice A m c, .slice A2 m2 c2] w (Gives w (.bool (lseq l l2))) := by
  generalize hR : lseq l l2 = R
  have HR := Lib.hid hR
  have H1 := Lib.hid h1
  have H2 := Lib.hid h2
  have Hm := Lib.hid h1.1
  have Hm2 := Lib.hid h2.1
  have hc := h1.2.1
  clear hR h1 h2
  by_cases e4 : m = m2
  case neg =>
    have hfin : R = false := by
      rw [← HR.out]
      simp only [lseq, decide_eq_false_iff_not]
      intro h; exact e4 (by rw [Hm.out, Hm2.out, h])
    subst hfin
    have e4' : ((m : Int) != (m2 : Int)) = true := by simp; omega
    go_enter Try.func46, Try.ntmps46
    go_wp2_with fail
    go_ret
    exact ⟨rfl, by ((repeat' first | with_reducible exact Below.refl _ _ | with_reducible assumption | with_reducible refine Below.alloc ?_ ?_ _ | with_reducible refine Below.setCell ?_ ?_ _ | with_reducible apply Below.drew | with_reducible apply below_drewN | with_reducible refine below_call ?_ (by with_reducible assumption) ?_) <;> (first | omega | (simp; done) | (simp; omega) | (simp at *; omega)))⟩
  subst e4
  have hmm : m ≤ 9223372036854775807 := by unfold maxLen at hc; omega
  go_enter Try.func46, Try.ntmps46
  go_wp2_with fail
  go_loopw [13] (fun s13 wr => ∃ j : Nat, j ≤ m ∧ s13 = .int .i64 j ∧ l.take j = l2.take j ∧ Below w.heap.size w wr) (fun s13 _ => m - (intOf s13).toNat)
  case atStart => exact ⟨0, by omega, rfl, rfl, by ((repeat' first | with_reducible exact Below.refl _ _ | with_reducible assumption | with_reducible refine Below.alloc ?_ ?_ _ | with_reducible refine Below.setCell ?_ ?_ _ | with_reducible apply Below.drew | with_reducible apply below_drewN | with_reducible refine below_call ?_ (by with_reducible assumption) ?_) <;> (first | omega | (simp; done) | (simp; omega) | (simp at *; omega)))⟩
  case round =>
    obtain ⟨j, hj, rfl, htk, hbr⟩ := hrel
    have hzr := hbr.size
    have Htk := Lib.hid htk
    clear htk
    by_cases hlt : j < m
    · obtain ⟨r, n, b, o, e1, _, _, rfl, p0, p1⟩ := (H1.out.keep hbr).at_ hlt
      obtain ⟨r2, n2, b2, o2, e2, _, _, rfl, q0, q1⟩ := (H2.out.keep hbr).at_ hlt
      have E1 := Lib.hid e1
      have E2 := Lib.hid e2
      clear e1 e2
      have j0 : (0 : Int) ≤ (j : Int) := by omega
      have j1 : (j : Int) < (m : Int) := by omega
      by_cases hok : r = r2 ∧ n = n2
      · have hok' : (r == r2 && n == n2) = true := by simp [hok]
        have Hnx := Lib.hid (take_step Htk.out E1.out (by rw [hok.1, hok.2]; exact E2.out))
        clear hok
        go_upto_region 3 with fail
        go_region
        all_goals
          go_wp2_with fail
          go_roundw
          case rel => exact ⟨j + 1, by omega, by go_num, Hnx.out, by ((repeat' first | with_reducible exact Below.refl _ _ | with_reducible assumption | with_reducible refine Below.alloc ?_ ?_ _ | with_reducible refine Below.setCell ?_ ?_ _ | with_reducible apply Below.drew | with_reducible apply below_drewN | with_reducible refine below_call ?_ (by with_reducible assumption) ?_) <;> (first | omega | (simp; done) | (simp; omega) | (simp at *; omega)))⟩
          case measure => simp [intOf]; omega
      · have hok' : (r == r2 && n == n2) = false := by simpa using hok
        have hfin : R = false := by
          rw [← HR.out]
          simp only [lseq, decide_eq_false_iff_not]
          intro h; subst h
          have h1 := E1.out
          rw [E2.out] at h1
          injection h1 with h1
          injection h1 with h1 h2
          exact hok ⟨h1.symm, h2.symm⟩
        subst hfin
        clear hok
        go_upto_region 3 with fail
        go_region
        all_goals
          go_wp2_with fail
          go_ret
          exact ⟨rfl, by ((repeat' first | with_reducible exact Below.refl _ _ | with_reducible assumption | with_reducible refine Below.alloc ?_ ?_ _ | with_reducible refine Below.setCell ?_ ?_ _ | with_reducible apply Below.drew | with_reducible apply below_drewN | with_reducible refine below_call ?_ (by with_reducible assumption) ?_) <;> (first | omega | (simp; done) | (simp; omega) | (simp at *; omega)))⟩
    · have g1 : l.take j = l := List.take_of_length_le (by have := Hm.out; omega)
      have g2 : l2.take j = l2 := List.take_of_length_le (by have := Hm2.out; omega)
      have hfin : R = true := by
        rw [← HR.out]
        simp only [lseq, decide_eq_true_eq]
        have := Htk.out; rwa [g1, g2] at this
      subst hfin
      clear g1 g2 Htk
      go_wp2_with fail
      go_ret
      exact ⟨rfl, by ((repeat' first | with_reducible exact Below.refl _ _ | with_reducible assumption | with_reducible refine Below.alloc ?_ ?_ _ | with_reducible refine Below.setCell ?_ ?_ _ | with_reducible apply Below.drew | with_reducible apply below_drewN | with_reducible refine below_call ?_ (by with_reducible assumption) ?_) <;> (first | omega | (simp; done) | (simp; omega) | (simp at *; omega)))⟩
set_option maxHeartbeats 400000 in
theorem idsequal_any (A A2 : Option Addr) (m c m2 c2 : Nat) (l l2 : List IdP) (w : World) (h1 : IdsAt w A m l) (h2 : IdsAt w A2 m2 l2) :
    Calls Try.prog 37 #[.slice A m c, .slice A2 m2 c2] w (Gives w (.bool (lseq l l2))) := by
  have h := equal_ids A A2 m c m2 c2 l l2 w h1 h2
  generalize lseq l l2 = R at h ⊢
  go_enter Try.func37, Try.ntmps37
  go_wp2_with (go_at_call 46; refine h.mono ?_; rintro e w1 ⟨rfl, hb1⟩)
  go_ret
  exact ⟨rfl, by ((repeat' first | with_reducible exact Below.refl _ _ | with_reducible assumption | with_reducible refine Below.alloc ?_ ?_ _ | with_reducible refine Below.setCell ?_ ?_ _ | with_reducible apply Below.drew | with_reducible apply below_drewN | with_reducible refine below_call ?_ (by with_reducible assumption) ?_) <;> (first | omega | (simp; done) | (simp; omega) | (simp at *; omega)))⟩
def asame (a b : AttrP) : Bool := decide (a = b)
theorem asame_iff {a b : AttrP} : asame a b = true ↔ a = b := decide_eq_true_iff
theorem asame_parts {l l2 : List IdP} {q q2 t t2 : Int} : asame ⟨l, q, t⟩ ⟨l2, q2, t2⟩ = (t == t2 && (q == q2 && lseq l l2)) := by
  rw [Bool.eq_iff_iff, asame_iff]
  simp only [Bool.and_eq_true, beq_iff_eq, lseq_iff, AttrP.mk.injEq]
  constructor
  · rintro ⟨h1, h2, h3⟩; exact ⟨h3, h2, h1⟩
  · rintro ⟨h1, h2, h3⟩; exact ⟨h3, h2, h1⟩
set_option maxHeartbeats 400000 in
theorem attrsame_any (A A2 : Option Addr) (m c m2 c2 : Nat) (q t q2 t2 : Int) (l l2 : List IdP) (w : World) (h1 : IdsAt w A m l) (h2 : IdsAt w A2 m2 l2) :
    Calls Try.prog 18 #[.agg #[.slice A m c, .int .i64 q, .int .i64 t], .agg #[.slice A2 m2 c2, .int .i64 q2, .int .i64 t2]] w (Gives w (.bool (asame ⟨l, q, t⟩ ⟨l2, q2, t2⟩))) := by
  have h := fun W (hb : Below w.heap.size w W) => idsequal_any A A2 m c m2 c2 l l2 W (h1.keep hb) (h2.keep hb)
  clear h1 h2
  rw [asame_parts]
  generalize lseq l l2 = R at h ⊢
  by_cases e1 : t = t2
  · subst e1
    by_cases e2 : q = q2
    · subst e2
      rw [show (t == t && (q == q && R)) = R by simp]
      go_enter Try.func18, Try.ntmps18
      go_wp2_with (go_at_call 37; refine (h _ (by ((repeat' first | with_reducible exact Below.refl _ _ | with_reducible assumption | with_reducible refine Below.alloc ?_ ?_ _ | with_reducible refine Below.setCell ?_ ?_ _ | with_reducible apply Below.drew | with_reducible apply below_drewN | with_reducible refine below_call ?_ (by with_reducible assumption) ?_) <;> (first | omega | (simp; done) | (simp; omega) | (simp at *; omega))))).mono ?_; rintro e w1 ⟨rfl, hb1⟩)
      go_ret
      exact ⟨rfl, by ((repeat' first | with_reducible exact Below.refl _ _ | with_reducible assumption | with_reducible refine Below.alloc ?_ ?_ _ | with_reducible refine Below.setCell ?_ ?_ _ | with_reducible apply Below.drew | with_reducible apply below_drewN | with_reducible refine below_call ?_ (by with_reducible assumption) ?_) <;> (first | omega | (simp; done) | (simp; omega) | (simp at *; omega)))⟩
    · rw [show (t == t && (q == q2 && R)) = false by simp [e2]]
      clear h
      go_enter Try.func18, Try.ntmps18
      go_wp2_with fail
      go_ret
      exact ⟨by simp_all, by ((repeat' first | with_reducible exact Below.refl _ _ | with_reducible assumption | with_reducible refine Below.alloc ?_ ?_ _ | with_reducible refine Below.setCell ?_ ?_ _ | with_reducible apply Below.drew | with_reducible apply below_drewN | with_reducible refine below_call ?_ (by with_reducible assumption) ?_) <;> (first | omega | (simp; done) | (simp; omega) | (simp at *; omega)))⟩
  · rw [show (t == t2 && (q == q2 && R)) = false by simp [e1]]
    clear h
    go_enter Try.func18, Try.ntmps18
    go_wp2_with fail
    go_ret
    exact ⟨by simp_all, by ((repeat' first | with_reducible exact Below.refl _ _ | with_reducible assumption | with_reducible refine Below.alloc ?_ ?_ _ | with_reducible refine Below.setCell ?_ ?_ _ | with_reducible apply Below.drew | with_reducible apply below_drewN | with_reducible refine below_call ?_ (by with_reducible assumption) ?_) <;> (first | omega | (simp; done) | (simp; omega) | (simp at *; omega)))⟩
end
end Go.Proofs.Ytfdfcceleaodaaa

namespace Go.Proofs.Ytfdfcceleaodaaa
open Go.RowKit Go.Sort
set_option linter.unusedVariables false

/-- Nothing that was there has turned; draws only went on. -/
def Lays (w w' : World) : Prop := Below w.heap.size w w' ∧ w.drawn ≤ w'.drawn
theorem Lays.refl (w : World) : Lays w w := ⟨Below.refl _ _, Nat.le_refl _⟩
theorem Lays.trans {a b c : World} (h : Lays a b) (k : Lays b c) : Lays a c := ⟨h.1.trans (k.1.mono h.1.size), Nat.le_trans h.2 k.2⟩
theorem Lays.drewN {a w : World} (h : Lays a w) (n : Nat) : Lays a (w.drewN n) := ⟨below_drewN h.1 n, Nat.le_trans h.2 (Nat.le_add_right _ _)⟩
theorem drawn_alloc (w : World) (o : Obj) : (w.alloc o).drawn = w.drawn := rfl
theorem drawn_drew (w : World) : w.drew.drawn = w.drawn + 1 := rfl
theorem drawn_set (w : World) (a : Addr) (v : Value) : (w.setCell a v).drawn = w.drawn := rfl
theorem Lays.grow {w w' : World} (h : Lays w w') : ∃ q os, w' = grow (w.drewN q) os := by
  obtain ⟨⟨h1, h2, h3, h4, h5⟩, hd⟩ := h
  refine ⟨w'.drawn - w.drawn, w'.heap.extract w.heap.size w'.heap.size, ?_⟩
  obtain ⟨heap, tape, drawn, os, out⟩ := w
  obtain ⟨heap', tape', drawn', os', out'⟩ := w'
  simp only at h1 h2 h3 h4 h5 hd
  subst h1 h2 h3
  unfold Go.Sort.grow World.drewN
  simp only [World.mk.injEq, and_true, true_and]
  refine ⟨?_, by omega⟩
  apply Array.ext_getElem?
  intro i
  rcases Nat.lt_or_ge i heap.size with hi | hi
  · rw [Array.getElem?_append_left hi, h5 i hi]
  · rw [Array.getElem?_append_right hi]
    simp only [Array.getElem?_extract]
    rcases Nat.lt_or_ge i heap'.size with hk | hk
    · rw [if_pos (by omega), show heap.size + (i - heap.size) = i by omega]
    · rw [if_neg (by omega), Array.getElem?_eq_none hk]
end Go.Proofs.Ytfdfcceleaodaaa
