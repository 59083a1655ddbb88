/- slices.BinarySearchFunc at ids, ids.Has, attr.Check. -/
import Derived.Test.YtfdfcceleaodaaaAttrItemsQ16
import Derived.WalkKit
import Derived.WalkSpells
import Derived.WalkLawsBesides
import Derived.Deep.RegionHeld3
import Derived.Deep.DrawnRows
import Derived.Deep.DeepCutAuto
import Derived.Deep.DeepFit
import Derived.Lib.Hide
import Derived.BigQuiet
import Derived.Deep.QuietTactic
namespace Go.Proofs.Ytfdfcceleaodaaa
open Go.RowKit
set_option linter.unusedVariables false
set_option linter.unusedSimpArgs false
set_option maxRecDepth 20000
attribute [local go_sem ↓] Go.wp_at_zero Go.wp_at_succ
attribute [local go_sem] World.cell?_alloc_some frozen_alloc_some

/-- What the search has ruled out. -/
def Split (l : List IdP) (x : IdP) (i j : Nat) : Prop := (∀ k y, k < i → l[k]? = some y → idLt y x) ∧ (∀ k y, j ≤ k → l[k]? = some y → ¬ idLt y x)
theorem Split.start (l : List IdP) (x : IdP) : Split l x 0 l.length := ⟨fun k y h => absurd h (by omega), fun k y h hy => by rw [List.getElem?_eq_none h] at hy; cases hy⟩
theorem Split.up {l : List IdP} {x y : IdP} {i j h : Nat} (s : Split l x i j) (ha : Asc l) (hy : l[h]? = some y) (hlt : idLt y x) : Split l x (h + 1) j := by
  refine ⟨fun k z hk hz => ?_, s.2⟩
  obtain ⟨h1, rfl⟩ := List.getElem?_eq_some_iff.1 hy
  obtain ⟨h2, rfl⟩ := List.getElem?_eq_some_iff.1 hz
  rcases Nat.lt_or_ge k h with hkh | hkh
  · exact idLt_trans (List.pairwise_iff_getElem.1 ha k h h2 h1 hkh) hlt
  · have : k = h := by omega
    subst this; exact hlt
theorem Split.down {l : List IdP} {x y : IdP} {i j h : Nat} (s : Split l x i j) (ha : Asc l) (hy : l[h]? = some y) (hlt : ¬ idLt y x) : Split l x i h := by
  refine ⟨s.1, fun k z hk hz => ?_⟩
  obtain ⟨h1, rfl⟩ := List.getElem?_eq_some_iff.1 hy
  obtain ⟨h2, rfl⟩ := List.getElem?_eq_some_iff.1 hz
  rcases Nat.lt_or_ge h k with hkh | hkh
  · exact fun hn => hlt (idLt_trans (List.pairwise_iff_getElem.1 ha h k h1 h2 hkh) hn)
  · have : k = h := by omega
    subst this; exact hlt
theorem Split.found {l : List IdP} {x : IdP} {i : Nat} (s : Split l x i i) (ha : Asc l) : (x ∈ l ↔ l[i]? = some x) := by
  constructor
  · intro h
    obtain ⟨k, hk, rfl⟩ := List.getElem_of_mem h
    rcases Nat.lt_or_ge k i with h1 | h1
    · exact absurd (s.1 k _ h1 (List.getElem?_eq_getElem hk)) (idLt_irrefl _)
    · rcases Nat.lt_or_ge i k with h2 | h2
      · exact absurd (List.pairwise_iff_getElem.1 ha i k (by omega) hk h2) (s.2 i _ (Nat.le_refl _) (List.getElem?_eq_getElem (by omega)))
      · have : k = i := by omega
        subst this; exact List.getElem?_eq_getElem hk
  · exact fun h => List.mem_of_getElem? h

abbrev BsS (w : World) (b o : Nat) (r n r2 n2 : Int) (wx : World) : Prop := Below w.heap.size w wx ∧ wx.cell? ⟨w.heap.size, 0, none⟩ = some (.int .i64 r) ∧ wx.cell? ⟨w.heap.size, 1, none⟩ = some (.int .i64 n) ∧ wx.cell? ⟨b, o, none⟩ = some (.int .i64 r2) ∧ wx.cell? ⟨b, o + 1, none⟩ = some (.int .i64 n2)
theorem BsS.drew {w W : World} {b o : Nat} {r n r2 n2 : Int} (h : BsS w b o r n r2 n2 W) : BsS w b o r n r2 n2 W.drew := ⟨h.1.drew, h.2⟩
theorem BsS.keep {w W w1 : World} {b o : Nat} {r n r2 n2 : Int} (hb : Below W.heap.size W w1) (h : BsS w b o r n r2 n2 W) : BsS w b o r n r2 n2 w1 :=
  ⟨h.1.trans (hb.mono (by have := h.1.size; omega)), cell_keep hb h.2.1, cell_keep hb h.2.2.1, cell_keep hb h.2.2.2.1, cell_keep hb h.2.2.2.2⟩

def errI (n : Nat) : Value := .int .i64 (n : Int)
set_option maxHeartbeats 1000000 in
theorem attrcheck_any (A : Option Addr) (m c : Nat) (q t : Int) (l : List IdP) (w : World) (h1 : IdsAt w A m l) :
    Calls Try.prog 19 #[.agg #[.slice A m c, .int .i64 q, .int .i64 t]] w (Gives w (.int .i64 (acheck ⟨l, q, t⟩ : Nat))) := by
  have h := fun W (hb : Below w.heap.size w W) => idscheck_any A m c l W (h1.keep hb)
  clear h1
  have hq := @acheck_iff ⟨l, q, t⟩
  obtain ⟨R, hR⟩ : ∃ R, R = acheck ⟨l, q, t⟩ := ⟨_, rfl⟩
  rw [← hR]
  simp only [acheck] at hR
  generalize idsOk l = g at h hR
  have HR := Lib.hid hR
  have Hh := Lib.hid h
  clear hq hR h
  by_cases t1 : t = 1
  · subst t1
    by_cases q1 : q < 1
    · obtain rfl : R = 6 := by rw [HR.out]; simp [q1]
      go_enter Try.func19, Try.ntmps19
      go_wp2_with fail
      go_ret
      exact ⟨rfl, by ((repeat' first | with_reducible exact Below.refl _ _ | with_reducible assumption | with_reducible refine Below.alloc ?_ ?_ _ | with_reducible refine Below.setCell ?_ ?_ _ | with_reducible apply Below.drew | with_reducible apply below_drewN | with_reducible refine below_call ?_ (by with_reducible assumption) ?_) <;> (first | omega | (simp; done) | (simp; omega) | (simp at *; omega)))⟩
    by_cases q2 : 1099511627776 < q
    · obtain rfl : R = 6 := by rw [HR.out]; simp [q2]
      go_enter Try.func19, Try.ntmps19
      go_wp2_with fail
      go_ret
      exact ⟨rfl, by ((repeat' first | with_reducible exact Below.refl _ _ | with_reducible assumption | with_reducible refine Below.alloc ?_ ?_ _ | with_reducible refine Below.setCell ?_ ?_ _ | with_reducible apply Below.drew | with_reducible apply below_drewN | with_reducible refine below_call ?_ (by with_reducible assumption) ?_) <;> (first | omega | (simp; done) | (simp; omega) | (simp at *; omega)))⟩
    cases g
    · obtain rfl : R = 4 := by rw [HR.out]; simp [q1, q2]
      go_enter Try.func19, Try.ntmps19
      go_wp2_with (go_at_call 38; refine (Hh.out _ (by ((repeat' first | with_reducible exact Below.refl _ _ | with_reducible assumption | with_reducible refine Below.alloc ?_ ?_ _ | with_reducible refine Below.setCell ?_ ?_ _ | with_reducible apply Below.drew | with_reducible apply below_drewN | with_reducible refine below_call ?_ (by with_reducible assumption) ?_) <;> (first | omega | (simp; done) | (simp; omega) | (simp at *; omega))))).mono ?_; rintro e w1 ⟨rfl, hb1⟩)
      go_ret
      exact ⟨rfl, by ((repeat' first | with_reducible exact Below.refl _ _ | with_reducible assumption | with_reducible refine Below.alloc ?_ ?_ _ | with_reducible refine Below.setCell ?_ ?_ _ | with_reducible apply Below.drew | with_reducible apply below_drewN | with_reducible refine below_call ?_ (by with_reducible assumption) ?_) <;> (first | omega | (simp; done) | (simp; omega) | (simp at *; omega)))⟩
    · obtain rfl : R = 0 := by rw [HR.out]; simp [q1, q2]
      go_enter Try.func19, Try.ntmps19
      go_wp2_with (go_at_call 38; refine (Hh.out _ (by ((repeat' first | with_reducible exact Below.refl _ _ | with_reducible assumption | with_reducible refine Below.alloc ?_ ?_ _ | with_reducible refine Below.setCell ?_ ?_ _ | with_reducible apply Below.drew | with_reducible apply below_drewN | with_reducible refine below_call ?_ (by with_reducible assumption) ?_) <;> (first | omega | (simp; done) | (simp; omega) | (simp at *; omega))))).mono ?_; rintro e w1 ⟨rfl, hb1⟩)
      go_ret
      exact ⟨rfl, by ((repeat' first | with_reducible exact Below.refl _ _ | with_reducible assumption | with_reducible refine Below.alloc ?_ ?_ _ | with_reducible refine Below.setCell ?_ ?_ _ | with_reducible apply Below.drew | with_reducible apply below_drewN | with_reducible refine below_call ?_ (by with_reducible assumption) ?_) <;> (first | omega | (simp; done) | (simp; omega) | (simp at *; omega)))⟩
  by_cases t2 : t = 2
  · subst t2
    by_cases q1 : q = 0
    · subst q1
      cases g
      · obtain rfl : R = 4 := by rw [HR.out]; simp
        go_enter Try.func19, Try.ntmps19
        go_wp2_with (go_at_call 38; refine (Hh.out _ (by ((repeat' first | with_reducible exact Below.refl _ _ | with_reducible assumption | with_reducible refine Below.alloc ?_ ?_ _ | with_reducible refine Below.setCell ?_ ?_ _ | with_reducible apply Below.drew | with_reducible apply below_drewN | with_reducible refine below_call ?_ (by with_reducible assumption) ?_) <;> (first | omega | (simp; done) | (simp; omega) | (simp at *; omega))))).mono ?_; rintro e w1 ⟨rfl, hb1⟩)
        go_ret
        exact ⟨rfl, by ((repeat' first | with_reducible exact Below.refl _ _ | with_reducible assumption | with_reducible refine Below.alloc ?_ ?_ _ | with_reducible refine Below.setCell ?_ ?_ _ | with_reducible apply Below.drew | with_reducible apply below_drewN | with_reducible refine below_call ?_ (by with_reducible assumption) ?_) <;> (first | omega | (simp; done) | (simp; omega) | (simp at *; omega)))⟩
      · obtain rfl : R = 0 := by rw [HR.out]; simp
        go_enter Try.func19, Try.ntmps19
        go_wp2_with (go_at_call 38; refine (Hh.out _ (by ((repeat' first | with_reducible exact Below.refl _ _ | with_reducible assumption | with_reducible refine Below.alloc ?_ ?_ _ | with_reducible refine Below.setCell ?_ ?_ _ | with_reducible apply Below.drew | with_reducible apply below_drewN | with_reducible refine below_call ?_ (by with_reducible assumption) ?_) <;> (first | omega | (simp; done) | (simp; omega) | (simp at *; omega))))).mono ?_; rintro e w1 ⟨rfl, hb1⟩)
        go_ret
        exact ⟨rfl, by ((repeat' first | with_reducible exact Below.refl _ _ | with_reducible assumption | with_reducible refine Below.alloc ?_ ?_ _ | with_reducible refine Below.setCell ?_ ?_ _ | with_reducible apply Below.drew | with_reducible apply below_drewN | with_reducible refine below_call ?_ (by with_reducible assumption) ?_) <;> (first | omega | (simp; done) | (simp; omega) | (simp at *; omega)))⟩
    · obtain rfl : R = 6 := by rw [HR.out]; simp [q1]
      go_enter Try.func19, Try.ntmps19
      go_wp2_with fail
      go_ret
      exact ⟨rfl, by ((repeat' first | with_reducible exact Below.refl _ _ | with_reducible assumption | with_reducible refine Below.alloc ?_ ?_ _ | with_reducible refine Below.setCell ?_ ?_ _ | with_reducible apply Below.drew | with_reducible apply below_drewN | with_reducible refine below_call ?_ (by with_reducible assumption) ?_) <;> (first | omega | (simp; done) | (simp; omega) | (simp at *; omega)))⟩
  obtain rfl : R = 17 := by rw [HR.out]; simp [t1, t2]
  have u1 : (t != 1) = true := by simp [t1]
  have u2 : (t != 2) = true := by simp [t2]
  go_enter Try.func19, Try.ntmps19
  go_wp2_with fail
  go_ret
  exact ⟨rfl, by ((repeat' first | with_reducible exact Below.refl _ _ | with_reducible assumption | with_reducible refine Below.alloc ?_ ?_ _ | with_reducible refine Below.setCell ?_ ?_ _ | with_reducible apply Below.drew | with_reducible apply below_drewN | with_reducible refine below_call ?_ (by with_reducible assumption) ?_) <;> (first | omega | (simp; done) | (simp; omega) | (simp at *; omega)))⟩
end Go.Proofs.Ytfdfcceleaodaaa
