/- The document's example of attr. -/
import Derived.Test.YtfdfcceleaodaaaAttrItemsQ31
import Derived.WalkKit
import Derived.WalkSpells
import Derived.WalkLawsBesides
import Derived.Deep.RegionHeld3
import Derived.Deep.DrawnRows
import Derived.Deep.DeepCutAuto
import Derived.Deep.DeepFit
import Derived.Lib.Hide
import Derived.BigQuiet
import Derived.Deep.QuietTactic
namespace Go.Proofs.Ytfdfcceleaodaaa
open Go.RowKit
set_option linter.unusedVariables false
set_option linter.unusedSimpArgs false
set_option maxRecDepth 20000
attribute [local go_sem ↓] Go.wp_at_zero Go.wp_at_succ
attribute [local go_sem] World.cell?_alloc_some frozen_alloc_some

theorem ids_one {W : World} {g : Nat} {r n : Int} (h : Blk W g 42 #[.int .i64 r, .int .i64 n]) (h1 : (Lit.int .i64 r).wf = true) (h2 : (Lit.int .i64 n).wf = true) : IdsAt W (some ⟨g, 0, none⟩) 1 [(r, n)] := by
  refine ⟨rfl, by decide, fun i x hi => ?_⟩
  have hc := h.cell
  match i, hi with
  | 0, hi => cases hi; exact ⟨h1, h2, g, 0, rfl, hc 0, hc 1⟩
theorem ids_two {W : World} {g : Nat} {r n r2 n2 : Int} (h : Blk W g 42 #[.int .i64 r, .int .i64 n, .int .i64 r2, .int .i64 n2]) (h1 : (Lit.int .i64 r).wf = true) (h2 : (Lit.int .i64 n).wf = true) (h3 : (Lit.int .i64 r2).wf = true) (h4 : (Lit.int .i64 n2).wf = true) : IdsAt W (some ⟨g, 0, none⟩) 2 [(r, n), (r2, n2)] := by
  refine ⟨rfl, by decide, fun i x hi => ?_⟩
  have hc := h.cell
  match i, hi with
  | 0, hi => cases hi; exact ⟨h1, h2, g, 0, rfl, hc 0, hc 1⟩
  | 1, hi => cases hi; exact ⟨h3, h4, g, 0, rfl, hc 2, hc 3⟩
theorem join_example : ajoin ⟨[(0, 4)], 5, 1⟩ ⟨[(1, 3)], 2, 1⟩ = (⟨[(1, 3), (0, 4)], 5, 1⟩, 0) := by decide

set_option maxHeartbeats 2000000 in
theorem awake07 (w : World) : Calls Try.prog 5 #[] w (Gives w (.bool true)) := by
  have hJ : ∀ g1 g2 W, Blk W g1 42 #[.int .i64 0, .int .i64 4] → Blk W g2 42 #[.int .i64 1, .int .i64 3] →
      Calls Try.prog 17 #[.agg #[.slice (some ⟨g1, 0, none⟩) 1 1, .int .i64 5, .int .i64 1], .agg #[.slice (some ⟨g2, 0, none⟩) 1 1, .int .i64 2, .int .i64 1]] W
        fun e w' => ∃ A m c, e = .returned (.tuple #[.agg #[.slice A m c, .int .i64 5, .int .i64 1], .int .i64 0]) ∧ IdsAt w' A m [(1, 3), (0, 4)] ∧ Below W.heap.size W w' := fun g1 g2 W h1 h2 => by
    have h := attrjoin_any (some ⟨g1, 0, none⟩) (some ⟨g2, 0, none⟩) 1 1 1 1 5 1 2 1 [(0, 4)] [(1, 3)] W (ids_one h1 (by decide) (by decide)) (ids_one h2 (by decide) (by decide))
    rw [join_example] at h
    exact h
  have hS : ∀ A m c g W, IdsAt W A m [(1, 3), (0, 4)] → Blk W g 42 #[.int .i64 1, .int .i64 3, .int .i64 0, .int .i64 4] →
      Calls Try.prog 18 #[.agg #[.slice A m c, .int .i64 5, .int .i64 1], .agg #[.slice (some ⟨g, 0, none⟩) 2 2, .int .i64 5, .int .i64 1]] W (Gives W (.bool true)) := fun A m c g W h1 h2 => by
    have h := attrsame_any A (some ⟨g, 0, none⟩) m c 2 2 5 1 5 1 _ _ W h1 (ids_two h2 (by decide) (by decide) (by decide) (by decide))
    rwa [show asame (⟨[(1, 3), (0, 4)], 5, 1⟩ : AttrP) ⟨[(1, 3), (0, 4)], 5, 1⟩ = true by decide] at h
  have hC : ∀ W, Calls Try.prog 19 #[.agg #[.slice none 0 0, .int .i64 0, .int .i64 0]] W (Gives W (.int .i64 17)) := fun W => attrcheck_any none 0 0 0 0 [] W IdsAt.nil
  have HJ := Lib.hid hJ
  have HS := Lib.hid hS
  clear hJ hS
  go_enter Try.func5, Try.ntmps5
  go_wp2_with (first
    | (go_at_call 17; go_loud (refine (HJ.out _ _ _ ?h1 ?h2).mono ?_); (case h1 => exact (Blk.newAt (by first | rfl | (simp; done) | (simp; omega))).alloc _); (case h2 => exact Blk.newAt (by first | rfl | (simp; done) | (simp; omega))); rintro e w1 ⟨A3, m3, c3, rfl, hI, hb1⟩; have I3 := Lib.hid hI; clear hI; have hz1 := hb1.size; (try simp at hz1); have B0 : Blk w1 (w.heap.size) 42 #[.int .i64 1, .int .i64 3] := (by (have h := Blk.keep ((((Blk.new w _ _).alloc _).alloc _).alloc _) hb1; first | exact h | (simpa only [World.size_alloc] using h))); have B0c := B0.cell; have B0f := B0.frozen; have B1 : Blk w1 (w.heap.size + 1) 42 #[.int .i64 0, .int .i64 4] := (by (have h := Blk.keep (((Blk.new (w.alloc _) _ _).alloc _).alloc _) hb1; first | exact h | (simpa only [World.size_alloc] using h))); have B1c := B1.cell; have B1f := B1.frozen)
    | (go_at_call 18; go_loud (refine (HS.out _ _ _ _ _ ?h1 ?h2).mono ?_); (case h1 => exact I3.out.keep (by ((repeat' first | with_reducible exact Below.refl _ _ | with_reducible assumption | with_reducible refine Below.alloc ?_ ?_ _ | with_reducible refine Below.setCell ?_ ?_ _ | with_reducible apply Below.drew | with_reducible apply below_drewN | with_reducible refine below_call ?_ (by with_reducible assumption) ?_) <;> (first | omega | (simp; done) | (simp; omega) | (simp at *; omega))))); (case h2 => exact Blk.newAt (by first | rfl | (simp; done) | (simp; omega))); rintro e w2 ⟨rfl, hb2⟩; have hz2 := hb2.size; (try simp at hz2))
    | (go_at_call 19; refine (hC _).mono ?_; rintro e w3 ⟨rfl, hb3⟩; have hz3 := hb3.size; (try simp at hz3)))
  go_ret
  exact ⟨rfl, by ((repeat' first | with_reducible exact Below.refl _ _ | with_reducible assumption | with_reducible refine Below.alloc ?_ ?_ _ | with_reducible refine Below.setCell ?_ ?_ _ | with_reducible apply Below.drew | with_reducible apply below_drewN | with_reducible refine below_call ?_ (by with_reducible assumption) ?_) <;> (first | omega | (simp; done) | (simp; omega) | (simp at *; omega)))⟩
end Go.Proofs.Ytfdfcceleaodaaa
