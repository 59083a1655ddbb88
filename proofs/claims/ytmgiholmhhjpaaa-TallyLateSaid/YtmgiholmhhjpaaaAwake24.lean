/- The law TallyMeets: its walk, and why any two quorums meet. -/
import Derived.Test.YtmgiholmhhjpaaaPre
import Derived.WalkKit
import Derived.WalkSpells
import Derived.WalkLawsBesides
import Derived.Deep.RegionHeld3
import Derived.Deep.DrawnRows
import Derived.Deep.DeepCutAuto
import Derived.Deep.DeepFit
import Derived.Lib.Hide
import Derived.BigQuiet
import Derived.Deep.QuietTactic
namespace Go.Proofs.Ytmgiholmhhjpaaa
open Go.RowKit
set_option linter.unusedVariables false
set_option linter.unusedSimpArgs false
set_option maxRecDepth 20000
attribute [local go_sem ↓] Go.wp_at_zero Go.wp_at_succ
attribute [local go_sem] World.cell?_alloc_some frozen_alloc_some

def a0 : AttrT := ⟨none, 0, 0, 1, 1, []⟩
theorem attrs_two {W : World} {g : Nat} (h : Blk W g 24 #[.slice none 0 0, .int .i64 1, .int .i64 1, .slice none 0 0, .int .i64 1, .int .i64 1]) : AttrsAt W (some ⟨g, 0, none⟩) 2 [a0, a0] := by
  refine ⟨rfl, by decide, fun i a hi => ?_⟩
  have hc := h.cell
  match i, hi with
  | 0, hi => cases hi; exact ⟨IdsAt.nil, g, 0, rfl, hc 0, hc 1, hc 2⟩
  | 1, hi => cases hi; exact ⟨IdsAt.nil, g, 0, rfl, hc 3, hc 4, hc 5⟩
theorem attrs_one {W : World} {g : Nat} (h : Blk W g 24 #[.slice none 0 0, .int .i64 1, .int .i64 1]) : AttrsAt W (some ⟨g, 0, none⟩) 1 [a0] := by
  refine ⟨rfl, by decide, fun i a hi => ?_⟩
  have hc := h.cell
  match i, hi with
  | 0, hi => cases hi; exact ⟨IdsAt.nil, g, 0, rfl, hc 0, hc 1, hc 2⟩

set_option maxHeartbeats 1000000 in
attribute [local go_sem ↓ high] dec_field0 in
theorem awake24 (w : World) : Calls Try.prog 5 #[] w (Gives w (.bool true)) := by
  have hqu := fun W => quorum_any 5 W (by decide)
  have hfq := fun W => fastquorum_any 5 W
  rw [show quo 5 = 3 from rfl] at hqu
  rw [show max (5 : Int) 0 = 5 from rfl] at hfq
  go_enter Try.func5, Try.ntmps5
  go_wp2_with (first
    | (go_at_call 6; ((with_reducible refine (pre_commit 3 none _ 0 0 2 _ 1 1 [] [a0, a0] false _ IdsAt.nil ?h1 rfl (by decide) (by decide) (by decide)).mono ?_); (case h1 => exact attrs_two (Blk.newAt (by simp))); rintro e w1 ⟨rfl, hb1⟩; have hz1 := hb1.size; (try simp at hz1); unfold decV; have B0 : Blk w1 (w.heap.size) 24 #[.slice none 0 0, .int .i64 1, .int .i64 1] := (by (have h := Blk.keep ((Blk.new w _ _).alloc _) hb1; first | exact h | (simpa only [World.size_alloc] using h))); have B0c := B0.cell; have B0f := B0.frozen))
    | (go_at_call 6; (with_reducible refine (pre_wait 5 none _ 0 0 1 _ 1 1 [] [a0] true false true _ IdsAt.nil ?h1 rfl (by decide) (by decide) (by decide) (by decide) (.inl (by decide))).mono ?_); (case h1 => exact attrs_one (Blk.newAt rfl)); rintro e w3 ⟨rfl, hb3⟩; have hz3 := hb3.size; (try simp at hz3); unfold decV)
    | (go_at_call 10; refine (hfq _).mono ?_; rintro e w2 ⟨rfl, rfl⟩) | (go_at_call 7; refine (hqu _).mono ?_; rintro e w2 ⟨rfl, rfl⟩))
  go_ret
  exact ⟨rfl, by ((repeat' first | with_reducible exact Below.refl _ _ | with_reducible assumption | with_reducible refine Below.alloc ?_ ?_ _ | with_reducible refine Below.setCell ?_ ?_ _ | with_reducible apply Below.drew | with_reducible apply below_drewN | with_reducible refine below_call ?_ (by with_reducible assumption) ?_) <;> (first | omega | (simp; done) | (simp; omega) | (simp at *; omega)))⟩

end Go.Proofs.Ytmgiholmhhjpaaa
