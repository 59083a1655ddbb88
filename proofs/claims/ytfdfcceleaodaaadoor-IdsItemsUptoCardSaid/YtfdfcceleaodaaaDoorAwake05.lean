/- The document's example of ids. -/
import Derived.Test.YtfdfcceleaodaaaDoorIdCheck
import Derived.Test.YtfdfcceleaodaaaDoorShelf
import Derived.WalkKit
import Derived.WalkSpells
import Derived.WalkLawsBesides
import Derived.Deep.RegionHeld3
import Derived.Deep.DrawnRows
import Derived.Deep.DeepCutAuto
import Derived.Deep.DeepFit
import Derived.Lib.Hide
import Derived.BigQuiet
import Derived.Deep.QuietTactic
import Derived.Deep.RegionLaw
namespace Go.Proofs.YtfdfcceleaodaaaDoor
open Go.RowKit
set_option linter.unusedVariables false
set_option linter.unusedSimpArgs false
set_option maxRecDepth 20000
attribute [local go_sem ↓] Go.wp_at_zero Go.wp_at_succ
attribute [local go_sem] World.cell?_alloc_some frozen_alloc_some
open Go.Sort Go.Lib

set_option maxHeartbeats 1000000 in
theorem text_example (w : World) : Calls Tryd.prog 33 #[.agg #[.int .i64 2, .int .i64 17]] w (Gives w (.string ⟨#[50, 46, 49, 55]⟩)) := by
  have h1 := fun W => Tryd.strconv_Itoa_small 2 (by decide) W
  have h2 := fun W => Tryd.strconv_Itoa_small 17 (by decide) W
  rw [show Lib.decDigits 2 = [50] by decide +kernel, show ((2 : Nat) : Int) = 2 from rfl] at h1
  rw [show Lib.decDigits 17 = [49, 55] by decide +kernel, show ((17 : Nat) : Int) = 17 from rfl] at h2
  go_enter Tryd.func33, Tryd.ntmps33
  go_upto_region 1 with fail
  first | (go_region_law (first | (go_simp; go_at_call 60; (with_reducible refine (h1 _).mono ?_); rintro e w1 ⟨rfl, rfl⟩) | (go_simp; go_at_call 60; (with_reducible refine (h2 _).mono ?_); rintro e w1 ⟨rfl, rfl⟩))) | fail
  all_goals
    go_wp2_with fail
    go_ret
    exact ⟨by first | rfl | (simp; done) | decide, by ((repeat' first | with_reducible exact Below.refl _ _ | with_reducible assumption | with_reducible refine Below.alloc ?_ ?_ _ | with_reducible refine Below.setCell ?_ ?_ _ | with_reducible apply Below.drew | with_reducible apply below_drewN | with_reducible refine below_call ?_ (by with_reducible assumption) ?_) <;> (first | omega | (simp; done) | (simp; omega) | (simp at *; omega)))⟩
theorem ids_two5 {W : World} {g : Nat} {r n r2 n2 : Int} (h : Blk W g 48 #[.int .i64 r, .int .i64 n, .int .i64 r2, .int .i64 n2]) (h1 : (Lit.int .i64 r).wf = true) (h2 : (Lit.int .i64 n).wf = true) (h3 : (Lit.int .i64 r2).wf = true) (h4 : (Lit.int .i64 n2).wf = true) : IdsAt W (some ⟨g, 0, none⟩) 2 [(r, n), (r2, n2)] := by
  refine ⟨rfl, by decide, fun i x hi => ?_⟩
  have hc := h.cell
  match i, hi with
  | 0, hi => cases hi; exact ⟨h1, h2, g, 0, rfl, hc 0, hc 1⟩
  | 1, hi => cases hi; exact ⟨h3, h4, g, 0, rfl, hc 2, hc 3⟩
set_option maxHeartbeats 1000000 in
theorem awake05 (w : World) : Calls Tryd.prog 10 #[] w (Gives w (.bool true)) := by
  have ht := fun W => text_example W
  have hl := fun W => idless_any 1 3 0 4 W
  rw [show decide (idLt (1, 3) (0, 4)) = true from decide_eq_true (by unfold idLt; decide)] at hl
  have hc : ∀ g W, Blk W g 48 #[.int .i64 1, .int .i64 3, .int .i64 0, .int .i64 4] → Calls Tryd.prog 35 #[.slice (some ⟨g, 0, none⟩) 2 2] W (Gives W (.bool true)) := fun g W h => by
    have h2 := idscheck_any (some ⟨g, 0, none⟩) 2 2 _ W (ids_two5 h (by decide) (by decide) (by decide) (by decide))
    rwa [show idsOk [(1, 3), (0, 4)] = true by decide] at h2
  go_enter Tryd.func10, Tryd.ntmps10
  go_wp2_with (first | (go_at_call 33; refine (ht _).mono ?_; rintro e w1 ⟨rfl, hb1⟩; have hz1 := hb1.size; (try simp at hz1)) | (go_at_call 34; refine (hl _).mono ?_; rintro e w2 ⟨rfl, hb2⟩; have hz2 := hb2.size; (try simp at hz2)) | (go_at_call 35; refine (hc _ _ ?h1).mono ?_; (case h1 => exact Blk.newAt (by first | rfl | (simp; done) | (simp; omega))); rintro e w3 ⟨rfl, hb3⟩; have hz3 := hb3.size; (try simp at hz3)))
  go_ret
  exact ⟨rfl, by ((repeat' first | with_reducible exact Below.refl _ _ | with_reducible assumption | with_reducible refine Below.alloc ?_ ?_ _ | with_reducible refine Below.setCell ?_ ?_ _ | with_reducible apply Below.drew | with_reducible apply below_drewN | with_reducible refine below_call ?_ (by with_reducible assumption) ?_) <;> (first | omega | (simp; done) | (simp; omega) | (simp at *; omega)))⟩
end Go.Proofs.YtfdfcceleaodaaaDoor
