/- ids.Set, of any list, one without an element at any address too. -/
import Derived.Test.YtmlhlananooclaaDoorIdJoin
import Derived.Test.YtmlhlananooclaaDoorIdHas
import Derived.Lib.SliceRun
import Derived.WalkKit
import Derived.WalkSpells
import Derived.WalkLawsBesides
import Derived.Deep.RegionHeld3
import Derived.Deep.DrawnRows
import Derived.Deep.DeepCutAuto
import Derived.Deep.DeepFit
import Derived.Lib.Hide
import Derived.BigQuiet
import Derived.Deep.QuietTactic
namespace Go.Proofs.YtmlhlananooclaaDoor
open Go.RowKit
set_option linter.unusedVariables false
set_option linter.unusedSimpArgs false
set_option maxRecDepth 20000
attribute [local go_sem ↓] Go.wp_at_zero Go.wp_at_succ
attribute [local go_sem] World.cell?_alloc_some frozen_alloc_some
open Go.Sort Go.Lib

theorem eql_ids_nil (ad : Addr) (c : Nat) (w : World) : (binOp .eql 22 (.slice (some ad) 0 c) (.slice none 0 0)).run Tryd.prog w = .ok (.bool false) w :=
  Lib.run_eql_slice_nil w 22 24 (some ad) 0 c 0 0 (by kernel_rfl)
attribute [local go_sem ↓ high] eql_ids_nil
theorem clone_empty (ad : Addr) (c : Nat) (w : World) :
    Calls Tryd.prog 26 #[.slice (some ad) 0 c] w (fun e w' => ∃ A' c', e = .returned (.slice A' 0 c') ∧ Below w.heap.size w w') := by
  obtain ⟨i0, hi0, hz00, hz01, hz02⟩ := idinfo
  have hk : Below w.heap.size w (w.alloc (.cells #[] 24)) := (Below.refl _ _).alloc (Nat.le_refl _) _
  have hsrc : Src (w.alloc (.cells #[] 24)) 2 (some ad) 0 [] := ⟨rfl, fun j u h => by simp at h, fun u h => by cases h⟩
  have hown : (w.alloc (.cells #[] 24)).ownsRow w.heap.size 24 2 (.slice (some ⟨w.heap.size, 0, none⟩) 0 0) 0 [] := World.ownsRow_made w #[] 0 (Nat.le_refl _) (Nat.zero_le _) (by simp)
  go_enter Tryd.func26, Tryd.ntmps26
  go_wp2_with (at_builtin; go_loud (refine wpList_app _ rfl (.tmp 5) (.tmp 6) 22 rfl _ 24 i0 _ 2 16 Tryd.underlying22 hi0 hz00 hz01 hz02 rfl (by omega) _ _ _ rfl hown _ _ _ _ rfl hsrc ?h63 ?hby ?hbase ?_); (case h63 => (unfold maxLen; first | omega | (simp; done) | (simp; omega))); (case hby => first | omega | (simp; done) | (simp; omega)); (case hbase => first | omega | (simp; done) | (simp; omega)); intro v2 w2 hownw2 hgroww2 hatw2 holdw2)
  have hb2 := below_app hk hown hgroww2 (Nat.le_refl _) (by simp)
  have hown2 : w2.ownsRow w.heap.size 24 2 v2 0 [] := by simpa using hownw2
  obtain ⟨A2, c2, rfl, _, _⟩ := own_form5 hown2
  go_ret
  exact ⟨_, _, rfl, hb2⟩
theorem compact_empty (A : Option Addr) (c : Nat) (w : World) :
    Calls Tryd.prog 28 #[.slice A 0 c] w (fun e w' => e = .returned (.slice A 0 c) ∧ w' = w) := by
  go_enter Tryd.func28, Tryd.ntmps28
  go_wp2_with fail
  go_ret
  exact ⟨rfl, rfl⟩
set_option maxHeartbeats 1000000 in
theorem set2_any (A : Option Addr) (m c : Nat) (l : List IdP) (w : World) (h1 : IdsAt w A m l) (hm : m ≤ 1000000) :
    Calls Tryd.prog 8 #[.slice A m c] w
      fun e w' => ∃ A' c', e = .returned (.slice A' (idSet l).length c') ∧ IdsAt w' A' (idSet l).length (idSet l) ∧ Below w.heap.size w w' := by
  by_cases h0 : m = 0
  · subst h0
    have hl : l = [] := List.length_eq_zero_iff.1 h1.1.symm
    subst hl
    cases A with
    | none => exact (set_any none 0 c [] w h1 hm (fun ad h => by cases h)).mono fun e w' ⟨A', c', he, _, hI, _, hb⟩ => ⟨A', c', he, hI, hb⟩
    | some ad =>
      rw [show idSet [] = [] from rfl]
      have hcl := fun W => clone_empty ad c W
      have hso := fun p cap W => AnyF.slices_SortFunc_none (P := Tryd.prog) (ρ := Tryd.sortIds_ren) { Tryd.sortIds with } p cap (.func (.func 25) #[] #[]) W
      change ∀ p cap W, Calls Tryd.prog 27 _ _ _ at hso
      have hco := fun A c W => compact_empty A c W
      clear h1 hm
      go_enter Tryd.func8, Tryd.ntmps8
      go_wp2_with (first | (go_at_call 26; refine (hcl _).mono ?_; rintro e w1 ⟨A', c', rfl, hb1⟩) | (go_at_call 27; refine (hso _ _ _).mono ?_; rintro e w2 ⟨rfl, rfl⟩) | (go_at_call 28; refine (hco _ _ _).mono ?_; rintro e w3 ⟨rfl, rfl⟩))
      go_ret
      exact ⟨A', c', rfl, IdsAt.nil, by assumption⟩
  · refine (set_any A m c l w h1 hm (fun ad h => ?_)).mono fun e w' ⟨A', c', he, _, hI, _, hb⟩ => ⟨A', c', he, hI, hb⟩
    obtain ⟨_, _, b, o, _, _, _, e, _⟩ := h1.at_ (show 0 < m by omega)
    rw [h] at e
    cases e
    rfl
theorem has2_any (A : Option Addr) (m c : Nat) (l : List IdP) (x1 x2 : Int) (w : World) (h1 : IdsAt w A m l) (hk : Asc l) (hm : m ≤ 1000000) :
    Calls Tryd.prog 11 #[.slice A m c, .agg #[.int .i64 x1, .int .i64 x2]] w (Gives w (.bool (decide ((x1, x2) ∈ l)))) := by
  have h := fun W (hb : Below w.heap.size w W) => search_any A m c l x1 x2 W (h1.keep hb) hk hm
  clear hk h1
  generalize decide ((x1, x2) ∈ l) = R at h ⊢
  go_enter Tryd.func11, Tryd.ntmps11
  go_wp2_with (go_at_call 31; refine (h _ (by ((repeat' first | with_reducible exact Below.refl _ _ | with_reducible assumption | with_reducible refine Below.alloc ?_ ?_ _ | with_reducible refine Below.setCell ?_ ?_ _ | with_reducible apply Below.drew | with_reducible apply below_drewN | with_reducible refine below_call ?_ (by with_reducible assumption) ?_) <;> (first | omega | (simp; done) | (simp; omega) | (simp at *; omega))))).mono ?_; rintro e w1 ⟨i, rfl, hb1⟩)
  go_ret
  exact ⟨rfl, by ((repeat' first | with_reducible exact Below.refl _ _ | with_reducible assumption | with_reducible refine Below.alloc ?_ ?_ _ | with_reducible refine Below.setCell ?_ ?_ _ | with_reducible apply Below.drew | with_reducible apply below_drewN | with_reducible refine below_call ?_ (by with_reducible assumption) ?_) <;> (first | omega | (simp; done) | (simp; omega) | (simp at *; omega)))⟩
end Go.Proofs.YtmlhlananooclaaDoor
