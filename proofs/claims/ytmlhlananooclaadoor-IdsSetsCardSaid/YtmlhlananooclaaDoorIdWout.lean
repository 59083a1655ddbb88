/- ids.Without, of any list. -/
import Derived.Test.YtmlhlananooclaaDoorIdWithout
import Derived.WalkKit
import Derived.WalkSpells
import Derived.WalkLawsBesides
import Derived.Deep.RegionHeld3
import Derived.Deep.DrawnRows
import Derived.Deep.DeepCutAuto
import Derived.Deep.DeepFit
import Derived.Lib.Hide
import Derived.BigQuiet
import Derived.Deep.QuietTactic
namespace Go.Proofs.YtmlhlananooclaaDoor
open Go.RowKit
set_option linter.unusedVariables false
set_option linter.unusedSimpArgs false
set_option maxRecDepth 20000
attribute [local go_sem ↓] Go.wp_at_zero Go.wp_at_succ
attribute [local go_sem] World.cell?_alloc_some frozen_alloc_some
open Go.Sort Go.Lib

theorem deletefunc_empty (ib c : Nat) (A : Option Addr) (x1 x2 : Int) (w : World) (c0 : w.cell? ⟨ib, 0, none⟩ = some (.int .i64 x1)) (c1 : w.cell? ⟨ib, 1, none⟩ = some (.int .i64 x2)) :
    Calls Tryd.prog 32 #[.slice A 0 c, cloV ib] w
      (fun e w' => e = .returned (.slice A 0 c) ∧ Below w.heap.size w w') := by
  have hix := fun W (hb : Below w.heap.size w W) => indexfunc_any ib A 0 c [] x1 x2 W IdsAt.nil (cell_keep hb c0) (cell_keep hb c1)
  have Hix := Lib.hid hix
  clear hix c0 c1
  unfold cloV at Hix ⊢
  go_enter Tryd.func32, Tryd.ntmps32
  go_wp2_with fail
  refine (Hix.out _ (Below.refl _ _)).mono ?_
  rintro e w1 ⟨he, hb1⟩
  rcases he with ⟨i, hi, _, _⟩ | ⟨_, rfl⟩
  · simp at hi
  · go_wp2_with fail
    go_ret
    exact ⟨rfl, hb1⟩
set_option maxHeartbeats 4000000 in
theorem without_any (A : Option Addr) (m c : Nat) (l : List IdP) (x1 x2 : Int) (w : World) (h1 : IdsAt w A m l) (hm : m ≤ 1000000) :
    Calls Tryd.prog 12 #[.slice A m c, .agg #[.int .i64 x1, .int .i64 x2]] w
      fun e w' => ∃ A' k c', e = .returned (.slice A' k c') ∧ IdsAt w' A' k (fl (x1, x2) l) ∧ Below w.heap.size w w' := by
  by_cases h0 : m = 0
  · subst h0
    have hl : l = [] := List.length_eq_zero_iff.1 h1.1.symm
    subst hl
    rw [show fl (x1, x2) [] = [] from rfl]
    have hcl : ∀ W, Calls Tryd.prog 26 #[.slice A 0 c] W (fun e w' => ∃ A' c', e = .returned (.slice A' 0 c') ∧ Below W.heap.size W w') := fun W => by
      cases A with
      | none =>
        have h := AnyE.slices_Clone_nil Tryd.cloneIds 0 c W
        change Calls Tryd.prog 26 _ _ _ at h
        exact h.mono fun e w' ⟨he, hw⟩ => ⟨_, _, he, by rw [hw]; exact Below.refl _ _⟩
      | some ad => exact clone_empty ad c W
    have hde := fun ib A' c' W (c0 : World.cell? W ⟨ib, 0, none⟩ = some (.int .i64 x1)) (c1 : World.cell? W ⟨ib, 1, none⟩ = some (.int .i64 x2)) => deletefunc_empty ib c' A' x1 x2 W c0 c1
    unfold cloV at hde
    have Hcl := Lib.hid hcl
    have Hde := Lib.hid hde
    clear h1 hm hcl hde
    go_enter Tryd.func12, Tryd.ntmps12
    go_wp2_with (first | (go_at_call 26; refine (Hcl.out _).mono ?_; rintro e w1 ⟨A', c', rfl, hb1⟩; obtain ⟨v0, _⟩ := new_keep hb1 0 rfl; obtain ⟨v1, _⟩ := new_keep hb1 1 rfl) | (go_at_call 32; refine (Hde.out _ _ _ _ v0 v1).mono ?_; rintro e w2 ⟨rfl, hb2⟩))
    go_ret
    have hz1 := hb1.size
    simp at hz1
    exact ⟨A', 0, c', rfl, IdsAt.nil, by ((repeat' first | with_reducible exact Below.refl _ _ | with_reducible assumption | with_reducible refine Below.alloc ?_ ?_ _ | with_reducible refine Below.setCell ?_ ?_ _ | with_reducible apply Below.drew | with_reducible apply below_drewN | with_reducible refine below_call ?_ (by with_reducible assumption) ?_) <;> (first | omega | (simp; done) | (simp; omega) | (simp at *; omega)))⟩
  · obtain ⟨b, o, rfl⟩ : ∃ b o, A = some ⟨b, o, none⟩ := by
      obtain ⟨_, _, b, o, _, _, _, e, _⟩ := h1.at_ (show 0 < m by omega)
      exact ⟨b, o, e⟩
    obtain ⟨i0, hi, hz0, hz1, hz2⟩ := idinfo
    have hlm := h1.1
    have hwf := h1.wf
    have hcl : ∀ W, Below w.heap.size w W → Calls Tryd.prog 26 #[.slice (some ⟨b, o, none⟩) m c] W fun e w' => ∃ g cap, e = .returned (.slice (some ⟨g, 0, none⟩) m cap) ∧ W.heap.size ≤ g ∧ g < w'.heap.size ∧ m ≤ cap ∧ cap ≤ maxLen ∧ RowAt w' g l ∧ Below W.heap.size W w' := fun W hb => by
      have h := AnyE.slices_Clone Tryd.cloneIds i0 _ 2 16 hi hz0 hz1 hz2 rfl (by decide) Tryd.sizeOf24 b o m c (flat2 l) W (by rw [flat2_length, hlm]) h1.2.1 (by omega) (fun j u hj => (h1.keep hb).cells hj) flat2_one
      change Calls Tryd.prog 26 _ _ _ at h
      refine h.mono fun e w' ⟨v, he, hown, hne, hbw⟩ => ?_
      obtain ⟨g, cap, rfl, hg1, hg2, hn, hcm, _, hr⟩ := row_of_own hown hne
      exact ⟨g, cap, he, hg1, hg2, hn, hcm, hr, hbw⟩
    have hde := fun ib g cap W (hr : RowAt W g l) hg hcap hcm hib c0 c1 => deletefunc_any ib g cap m l x1 x2 W hr hlm.symm hm hg hcap hcm hwf hib c0 c1
    unfold cloV at hde
    have Hcl := Lib.hid hcl
    have Hde := Lib.hid hde
    clear hcl hde h1 hm hwf hlm hi hz0 hz1 hz2
    go_enter Tryd.func12, Tryd.ntmps12
    go_wp2_with (first | (go_at_call 26; refine (Hcl.out _ (by ((repeat' first | with_reducible exact Below.refl _ _ | with_reducible assumption | with_reducible refine Below.alloc ?_ ?_ _ | with_reducible refine Below.setCell ?_ ?_ _ | with_reducible apply Below.drew | with_reducible apply below_drewN | with_reducible refine below_call ?_ (by with_reducible assumption) ?_) <;> (first | omega | (simp; done) | (simp; omega) | (simp at *; omega))))).mono ?_; rintro e w1 ⟨g, cap, rfl, hg1, hg2, hmc, hcm, hr, hb1⟩; have R1 := Lib.hid hr; clear hr; simp at hg1; obtain ⟨v0, _⟩ := new_keep hb1 0 rfl; obtain ⟨v1, _⟩ := new_keep hb1 1 rfl) | (go_at_call 32; refine (Hde.out _ _ _ _ R1.out hg2 hmc hcm (by omega) v0 v1).mono ?_; rintro e w2 ⟨k, rfl, hI, hb2⟩; have I2 := Lib.hid hI; have hb2' := hb2 w.heap.size (by omega); clear hI hb2))
    go_ret
    have hz1 := hb1.size
    simp at hz1
    exact ⟨_, k, cap, rfl, I2.out, ((((Below.refl _ _).alloc (Nat.le_refl _) _).trans (hb1.mono (by simp)))).trans hb2'⟩
end Go.Proofs.YtmlhlananooclaaDoor
