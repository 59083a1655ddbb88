/- The walk of the law AttrThree. -/
import Derived.Test.YtbmognchbldfdaaAwake07
import Derived.WalkKit
import Derived.WalkSpells
import Derived.WalkLawsBesides
import Derived.Deep.RegionHeld3
import Derived.Deep.DrawnRows
import Derived.Deep.DeepCutAuto
import Derived.Deep.DeepFit
import Derived.Lib.Hide
import Derived.BigQuiet
import Derived.Deep.QuietTactic
namespace Go.Proofs.Ytbmognchbldfdaa
open Go.RowKit
set_option linter.unusedVariables false
set_option linter.unusedSimpArgs false
set_option maxRecDepth 20000
attribute [local go_sem ↓] Go.wp_at_zero Go.wp_at_succ
attribute [local go_sem] World.cell?_alloc_some frozen_alloc_some

set_option maxHeartbeats 8000000 in
theorem three_walk (A A2 A3 : Option Addr) (m c m2 c2 m3 c3 : Nat) (q t q2 t2 q3 t3 : Int) (l l2 l3 : List IdP) (w : World) (h1 : IdsAt w A m l) (h2 : IdsAt w A2 m2 l2) (h3 : IdsAt w A3 m3 l3) :
    Calls Try.prog 6 #[.agg #[.slice A m c, .int .i64 q, .int .i64 t], .agg #[.slice A2 m2 c2, .int .i64 q2, .int .i64 t2], .agg #[.slice A3 m3 c3, .int .i64 q3, .int .i64 t3]] w (Gives w (.bool true)) := by
  have haw := fun W => awake07 W
  have hl := h1.1
  have hl2 := h2.1
  have hl3 := h3.1
  have j12 := fun W (hb : Below w.heap.size w W) => attrjoin_any A A2 m c m2 c2 q t q2 t2 l l2 W (h1.keep hb) (h2.keep hb)
  have j23 := fun W (hb : Below w.heap.size w W) => attrjoin_any A2 A3 m2 c2 m3 c3 q2 t2 q3 t3 l2 l3 W (h2.keep hb) (h3.keep hb)
  have jx3 := fun A' m' c' q' t' l' W (hb : Below w.heap.size w W) (h : IdsAt W A' m' l') => attrjoin_any A' A3 m' c' m3 c3 q' t' q3 t3 l' l3 W h (h3.keep hb)
  have jay := fun A' m' c' q' t' l' W (hb : Below w.heap.size w W) (h : IdsAt W A' m' l') => attrjoin_any A A' m c m' c' q t q' t' l l' W (h1.keep hb) h
  have three := @ajoin_three ⟨l, q, t⟩ ⟨l2, q2, t2⟩ ⟨l3, q3, t3⟩
  simp only at three
  rw [← hl, ← hl2, ← hl3] at three
  obtain ⟨⟨⟨xl, xq, xt⟩, xe⟩, hX⟩ : ∃ X, X = ajoin ⟨l, q, t⟩ ⟨l2, q2, t2⟩ := ⟨_, rfl⟩
  obtain ⟨⟨⟨yl, yq, yt⟩, ye⟩, hY⟩ : ∃ X, X = ajoin ⟨l2, q2, t2⟩ ⟨l3, q3, t3⟩ := ⟨_, rfl⟩
  rw [← hX, ← hY] at three
  rw [← hX] at j12
  rw [← hY] at j23
  simp only at three j12 j23
  have J12 := Lib.hid j12
  have J23 := Lib.hid j23
  have Jx3 := Lib.hid jx3
  have Jay := Lib.hid jay
  have Three := Lib.hid three
  clear hX hY j12 j23 jx3 jay three h1 h2 h3 hl hl2 hl3
  by_cases g1 : 60 < m
  · have g1' : (60 : Int) < (m : Int) := by omega
    go_enter Try.func6, Try.ntmps6
    go_wp2_with (go_at_call 14; refine (haw _).mono ?_; rintro e w9 ⟨rfl, hb9⟩; have hz9 := hb9.size; (try simp at hz9))
    go_ret
    exact ⟨rfl, by ((repeat' first | with_reducible exact Below.refl _ _ | with_reducible assumption | with_reducible refine Below.alloc ?_ ?_ _ | with_reducible refine Below.setCell ?_ ?_ _ | with_reducible apply Below.drew | with_reducible apply below_drewN | with_reducible refine below_call ?_ (by with_reducible assumption) ?_) <;> (first | omega | (simp; done) | (simp; omega) | (simp at *; omega)))⟩
  have g1' : ¬ (60 : Int) < (m : Int) := by omega
  by_cases g2 : 60 < m2
  · have g2' : (60 : Int) < (m2 : Int) := by omega
    go_enter Try.func6, Try.ntmps6
    go_wp2_with (go_at_call 14; refine (haw _).mono ?_; rintro e w9 ⟨rfl, hb9⟩; have hz9 := hb9.size; (try simp at hz9))
    go_ret
    exact ⟨rfl, by ((repeat' first | with_reducible exact Below.refl _ _ | with_reducible assumption | with_reducible refine Below.alloc ?_ ?_ _ | with_reducible refine Below.setCell ?_ ?_ _ | with_reducible apply Below.drew | with_reducible apply below_drewN | with_reducible refine below_call ?_ (by with_reducible assumption) ?_) <;> (first | omega | (simp; done) | (simp; omega) | (simp at *; omega)))⟩
  have g2' : ¬ (60 : Int) < (m2 : Int) := by omega
  by_cases g3 : 60 < m3
  · have g3' : (60 : Int) < (m3 : Int) := by omega
    go_enter Try.func6, Try.ntmps6
    go_wp2_with (go_at_call 14; refine (haw _).mono ?_; rintro e w9 ⟨rfl, hb9⟩; have hz9 := hb9.size; (try simp at hz9))
    go_ret
    exact ⟨rfl, by ((repeat' first | with_reducible exact Below.refl _ _ | with_reducible assumption | with_reducible refine Below.alloc ?_ ?_ _ | with_reducible refine Below.setCell ?_ ?_ _ | with_reducible apply Below.drew | with_reducible apply below_drewN | with_reducible refine below_call ?_ (by with_reducible assumption) ?_) <;> (first | omega | (simp; done) | (simp; omega) | (simp at *; omega)))⟩
  have g3' : ¬ (60 : Int) < (m3 : Int) := by omega
  by_cases e1 : xe = 0
  case neg =>
    have e1' : ((xe : Int) != 0) = true := by simp; omega
    go_enter Try.func6, Try.ntmps6
    go_wp2_with (first | (go_at_call 15; (with_reducible refine (J12.out _ (by ((repeat' first | with_reducible exact Below.refl _ _ | with_reducible assumption | with_reducible refine Below.alloc ?_ ?_ _ | with_reducible refine Below.setCell ?_ ?_ _ | with_reducible apply Below.drew | with_reducible apply below_drewN | with_reducible refine below_call ?_ (by with_reducible assumption) ?_) <;> (first | omega | (simp; done) | (simp; omega) | (simp at *; omega))))).mono ?_); rintro e w1 ⟨Ax, mx, cx, rfl, hI, hb1⟩; have Ix := Lib.hid hI; clear hI; have hz1 := hb1.size; (try simp at hz1); have B0 : Blk w1 (w.heap.size) 27 #[.slice A m c, .int .i64 q, .int .i64 t] := (by (have h := Blk.keep (((Blk.new w _ _).alloc _).alloc _) hb1; first | exact h | (simpa only [World.size_alloc] using h))); have B0c := B0.cell; have B0f := B0.frozen; have B1 : Blk w1 (w.heap.size + 1) 27 #[.slice A2 m2 c2, .int .i64 q2, .int .i64 t2] := (by (have h := Blk.keep ((Blk.new (w.alloc _) _ _).alloc _) hb1; first | exact h | (simpa only [World.size_alloc] using h))); have B1c := B1.cell; have B1f := B1.frozen; have B2 : Blk w1 (w.heap.size + 1 + 1) 27 #[.slice A3 m3 c3, .int .i64 q3, .int .i64 t3] := (by (have h := Blk.keep (Blk.new ((w.alloc _).alloc _) _ _) hb1; first | exact h | (simpa only [World.size_alloc] using h))); have B2c := B2.cell; have B2f := B2.frozen) | (go_at_call 15; (with_reducible refine (J23.out _ (by ((repeat' first | with_reducible exact Below.refl _ _ | with_reducible assumption | with_reducible refine Below.alloc ?_ ?_ _ | with_reducible refine Below.setCell ?_ ?_ _ | with_reducible apply Below.drew | with_reducible apply below_drewN | with_reducible refine below_call ?_ (by with_reducible assumption) ?_) <;> (first | omega | (simp; done) | (simp; omega) | (simp at *; omega))))).mono ?_); rintro e w2 ⟨Ay, my, cy, rfl, hI, hb2⟩; have Iy := Lib.hid hI; clear hI; have hz2 := hb2.size; (try simp at hz2); have B0 := Blk.keep (B0.alloc _) hb2; have B0c := B0.cell; have B0f := B0.frozen; have B1 := Blk.keep (B1.alloc _) hb2; have B1c := B1.cell; have B1f := B1.frozen; have B2 := Blk.keep (B2.alloc _) hb2; have B2c := B2.cell; have B2f := B2.frozen; have B3 : Blk w2 (w1.heap.size) 27 #[.slice Ax mx cx, .int .i64 xq, .int .i64 xt] := (by (have h := Blk.keep (Blk.new w1 _ _) hb2; first | exact h | (simpa only [World.size_alloc] using h))); have B3c := B3.cell; have B3f := B3.frozen) | (go_at_call 14; refine (haw _).mono ?_; rintro e w9 ⟨rfl, hb9⟩; have hz9 := hb9.size; (try simp at hz9)))
    go_ret
    exact ⟨rfl, by ((repeat' first | with_reducible exact Below.refl _ _ | with_reducible assumption | with_reducible refine Below.alloc ?_ ?_ _ | with_reducible refine Below.setCell ?_ ?_ _ | with_reducible apply Below.drew | with_reducible apply below_drewN | with_reducible refine below_call ?_ (by with_reducible assumption) ?_) <;> (first | omega | (simp; done) | (simp; omega) | (simp at *; omega)))⟩
  by_cases e2 : ye = 0
  case neg =>
    have e2' : ((ye : Int) != 0) = true := by simp; omega
    subst e1
    go_enter Try.func6, Try.ntmps6
    go_wp2_with (first | (go_at_call 15; (with_reducible refine (J12.out _ (by ((repeat' first | with_reducible exact Below.refl _ _ | with_reducible assumption | with_reducible refine Below.alloc ?_ ?_ _ | with_reducible refine Below.setCell ?_ ?_ _ | with_reducible apply Below.drew | with_reducible apply below_drewN | with_reducible refine below_call ?_ (by with_reducible assumption) ?_) <;> (first | omega | (simp; done) | (simp; omega) | (simp at *; omega))))).mono ?_); rintro e w1 ⟨Ax, mx, cx, rfl, hI, hb1⟩; have Ix := Lib.hid hI; clear hI; have hz1 := hb1.size; (try simp at hz1); have B0 : Blk w1 (w.heap.size) 27 #[.slice A m c, .int .i64 q, .int .i64 t] := (by (have h := Blk.keep (((Blk.new w _ _).alloc _).alloc _) hb1; first | exact h | (simpa only [World.size_alloc] using h))); have B0c := B0.cell; have B0f := B0.frozen; have B1 : Blk w1 (w.heap.size + 1) 27 #[.slice A2 m2 c2, .int .i64 q2, .int .i64 t2] := (by (have h := Blk.keep ((Blk.new (w.alloc _) _ _).alloc _) hb1; first | exact h | (simpa only [World.size_alloc] using h))); have B1c := B1.cell; have B1f := B1.frozen; have B2 : Blk w1 (w.heap.size + 1 + 1) 27 #[.slice A3 m3 c3, .int .i64 q3, .int .i64 t3] := (by (have h := Blk.keep (Blk.new ((w.alloc _).alloc _) _ _) hb1; first | exact h | (simpa only [World.size_alloc] using h))); have B2c := B2.cell; have B2f := B2.frozen) | (go_at_call 15; (with_reducible refine (J23.out _ (by ((repeat' first | with_reducible exact Below.refl _ _ | with_reducible assumption | with_reducible refine Below.alloc ?_ ?_ _ | with_reducible refine Below.setCell ?_ ?_ _ | with_reducible apply Below.drew | with_reducible apply below_drewN | with_reducible refine below_call ?_ (by with_reducible assumption) ?_) <;> (first | omega | (simp; done) | (simp; omega) | (simp at *; omega))))).mono ?_); rintro e w2 ⟨Ay, my, cy, rfl, hI, hb2⟩; have Iy := Lib.hid hI; clear hI; have hz2 := hb2.size; (try simp at hz2); have B0 := Blk.keep (B0.alloc _) hb2; have B0c := B0.cell; have B0f := B0.frozen; have B1 := Blk.keep (B1.alloc _) hb2; have B1c := B1.cell; have B1f := B1.frozen; have B2 := Blk.keep (B2.alloc _) hb2; have B2c := B2.cell; have B2f := B2.frozen; have B3 : Blk w2 (w1.heap.size) 27 #[.slice Ax mx cx, .int .i64 xq, .int .i64 xt] := (by (have h := Blk.keep (Blk.new w1 _ _) hb2; first | exact h | (simpa only [World.size_alloc] using h))); have B3c := B3.cell; have B3f := B3.frozen) | (go_at_call 14; refine (haw _).mono ?_; rintro e w9 ⟨rfl, hb9⟩; have hz9 := hb9.size; (try simp at hz9)))
    go_ret
    exact ⟨rfl, by ((repeat' first | with_reducible exact Below.refl _ _ | with_reducible assumption | with_reducible refine Below.alloc ?_ ?_ _ | with_reducible refine Below.setCell ?_ ?_ _ | with_reducible apply Below.drew | with_reducible apply below_drewN | with_reducible refine below_call ?_ (by with_reducible assumption) ?_) <;> (first | omega | (simp; done) | (simp; omega) | (simp at *; omega)))⟩
  subst e1 e2
  obtain ⟨⟨dl, dq, dt⟩, d1, d2⟩ := Three.out rfl rfl (by omega)
  have D1 := Lib.hid (fun A' m' c' W hb h => by have h := Jx3.out A' m' c' xq xt xl W hb h; rw [d1] at h; exact h)
  have D2 := Lib.hid (fun A' m' c' W hb h => by have h := Jay.out A' m' c' yq yt yl W hb h; rw [d2] at h; exact h)
  simp only at D1 D2
  have hS := fun A m c A2 m2 c2 W (h1 : IdsAt W A m dl) (h2 : IdsAt W A2 m2 dl) => attrsame_any A A2 m c m2 c2 dq dt dq dt dl dl W h1 h2
  rw [show asame ⟨dl, dq, dt⟩ ⟨dl, dq, dt⟩ = true from asame_iff.2 rfl] at hS
  have HS := Lib.hid hS
  clear d1 d2 hS
  go_enter Try.func6, Try.ntmps6
  go_wp2_with (first | (go_at_call 15; (with_reducible refine (J12.out _ (by ((repeat' first | with_reducible exact Below.refl _ _ | with_reducible assumption | with_reducible refine Below.alloc ?_ ?_ _ | with_reducible refine Below.setCell ?_ ?_ _ | with_reducible apply Below.drew | with_reducible apply below_drewN | with_reducible refine below_call ?_ (by with_reducible assumption) ?_) <;> (first | omega | (simp; done) | (simp; omega) | (simp at *; omega))))).mono ?_); rintro e w1 ⟨Ax, mx, cx, rfl, hI, hb1⟩; have Ix := Lib.hid hI; clear hI; have hz1 := hb1.size; (try simp at hz1); have B0 : Blk w1 (w.heap.size) 27 #[.slice A m c, .int .i64 q, .int .i64 t] := (by (have h := Blk.keep (((Blk.new w _ _).alloc _).alloc _) hb1; first | exact h | (simpa only [World.size_alloc] using h))); have B0c := B0.cell; have B0f := B0.frozen; have B1 : Blk w1 (w.heap.size + 1) 27 #[.slice A2 m2 c2, .int .i64 q2, .int .i64 t2] := (by (have h := Blk.keep ((Blk.new (w.alloc _) _ _).alloc _) hb1; first | exact h | (simpa only [World.size_alloc] using h))); have B1c := B1.cell; have B1f := B1.frozen; have B2 : Blk w1 (w.heap.size + 1 + 1) 27 #[.slice A3 m3 c3, .int .i64 q3, .int .i64 t3] := (by (have h := Blk.keep (Blk.new ((w.alloc _).alloc _) _ _) hb1; first | exact h | (simpa only [World.size_alloc] using h))); have B2c := B2.cell; have B2f := B2.frozen) | (go_at_call 15; (with_reducible refine (J23.out _ (by ((repeat' first | with_reducible exact Below.refl _ _ | with_reducible assumption | with_reducible refine Below.alloc ?_ ?_ _ | with_reducible refine Below.setCell ?_ ?_ _ | with_reducible apply Below.drew | with_reducible apply below_drewN | with_reducible refine below_call ?_ (by with_reducible assumption) ?_) <;> (first | omega | (simp; done) | (simp; omega) | (simp at *; omega))))).mono ?_); rintro e w2 ⟨Ay, my, cy, rfl, hI, hb2⟩; have Iy := Lib.hid hI; clear hI; have hz2 := hb2.size; (try simp at hz2); have B0 := Blk.keep (B0.alloc _) hb2; have B0c := B0.cell; have B0f := B0.frozen; have B1 := Blk.keep (B1.alloc _) hb2; have B1c := B1.cell; have B1f := B1.frozen; have B2 := Blk.keep (B2.alloc _) hb2; have B2c := B2.cell; have B2f := B2.frozen; have B3 : Blk w2 (w1.heap.size) 27 #[.slice Ax mx cx, .int .i64 xq, .int .i64 xt] := (by (have h := Blk.keep (Blk.new w1 _ _) hb2; first | exact h | (simpa only [World.size_alloc] using h))); have B3c := B3.cell; have B3f := B3.frozen) | (go_at_call 15; (with_reducible refine (D1.out _ _ _ _ (by ((repeat' first | with_reducible exact Below.refl _ _ | with_reducible assumption | with_reducible refine Below.alloc ?_ ?_ _ | with_reducible refine Below.setCell ?_ ?_ _ | with_reducible apply Below.drew | with_reducible apply below_drewN | with_reducible refine below_call ?_ (by with_reducible assumption) ?_) <;> (first | omega | (simp; done) | (simp; omega) | (simp at *; omega)))) (Ix.out.keep (by ((repeat' first | with_reducible exact Below.refl _ _ | with_reducible assumption | with_reducible refine Below.alloc ?_ ?_ _ | with_reducible refine Below.setCell ?_ ?_ _ | with_reducible apply Below.drew | with_reducible apply below_drewN | with_reducible refine below_call ?_ (by with_reducible assumption) ?_) <;> (first | omega | (simp; done) | (simp; omega) | (simp at *; omega)))))).mono ?_); rintro e w3 ⟨Ap, mp, cp, rfl, hI, hb3⟩; have Ip := Lib.hid hI; clear hI; have hz3 := hb3.size; (try simp at hz3); have B0 := Blk.keep (B0.alloc _) hb3; have B0c := B0.cell; have B0f := B0.frozen; have B1 := Blk.keep (B1.alloc _) hb3; have B1c := B1.cell; have B1f := B1.frozen; have B2 := Blk.keep (B2.alloc _) hb3; have B2c := B2.cell; have B2f := B2.frozen; have B3 := Blk.keep (B3.alloc _) hb3; have B3c := B3.cell; have B3f := B3.frozen; have B4 : Blk w3 (w2.heap.size) 27 #[.slice Ay my cy, .int .i64 yq, .int .i64 yt] := (by (have h := Blk.keep (Blk.new w2 _ _) hb3; first | exact h | (simpa only [World.size_alloc] using h))); have B4c := B4.cell; have B4f := B4.frozen) | (go_at_call 15; (with_reducible refine (D2.out _ _ _ _ (by ((repeat' first | with_reducible exact Below.refl _ _ | with_reducible assumption | with_reducible refine Below.alloc ?_ ?_ _ | with_reducible refine Below.setCell ?_ ?_ _ | with_reducible apply Below.drew | with_reducible apply below_drewN | with_reducible refine below_call ?_ (by with_reducible assumption) ?_) <;> (first | omega | (simp; done) | (simp; omega) | (simp at *; omega)))) (Iy.out.keep (by ((repeat' first | with_reducible exact Below.refl _ _ | with_reducible assumption | with_reducible refine Below.alloc ?_ ?_ _ | with_reducible refine Below.setCell ?_ ?_ _ | with_reducible apply Below.drew | with_reducible apply below_drewN | with_reducible refine below_call ?_ (by with_reducible assumption) ?_) <;> (first | omega | (simp; done) | (simp; omega) | (simp at *; omega)))))).mono ?_); rintro e w4 ⟨Aq, mq, cq, rfl, hI, hb4⟩; have Iq := Lib.hid hI; clear hI; have hz4 := hb4.size; (try simp at hz4); have B0 := Blk.keep (B0.alloc _) hb4; have B0c := B0.cell; have B0f := B0.frozen; have B1 := Blk.keep (B1.alloc _) hb4; have B1c := B1.cell; have B1f := B1.frozen; have B2 := Blk.keep (B2.alloc _) hb4; have B2c := B2.cell; have B2f := B2.frozen; have B3 := Blk.keep (B3.alloc _) hb4; have B3c := B3.cell; have B3f := B3.frozen; have B4 := Blk.keep (B4.alloc _) hb4; have B4c := B4.cell; have B4f := B4.frozen; have B5 : Blk w4 (w3.heap.size) 27 #[.slice Ap mp cp, .int .i64 dq, .int .i64 dt] := (by (have h := Blk.keep (Blk.new w3 _ _) hb4; first | exact h | (simpa only [World.size_alloc] using h))); have B5c := B5.cell; have B5f := B5.frozen) | (go_at_call 18; (with_reducible refine (HS.out _ _ _ _ _ _ _ (Ip.out.keep (by ((repeat' first | with_reducible exact Below.refl _ _ | with_reducible assumption | with_reducible refine Below.alloc ?_ ?_ _ | with_reducible refine Below.setCell ?_ ?_ _ | with_reducible apply Below.drew | with_reducible apply below_drewN | with_reducible refine below_call ?_ (by with_reducible assumption) ?_) <;> (first | omega | (simp; done) | (simp; omega) | (simp at *; omega))))) (Iq.out.keep (by ((repeat' first | with_reducible exact Below.refl _ _ | with_reducible assumption | with_reducible refine Below.alloc ?_ ?_ _ | with_reducible refine Below.setCell ?_ ?_ _ | with_reducible apply Below.drew | with_reducible apply below_drewN | with_reducible refine below_call ?_ (by with_reducible assumption) ?_) <;> (first | omega | (simp; done) | (simp; omega) | (simp at *; omega)))))).mono ?_); rintro e w5 ⟨rfl, hb5⟩; have hz5 := hb5.size; (try simp at hz5)) | (go_at_call 14; refine (haw _).mono ?_; rintro e w9 ⟨rfl, hb9⟩; have hz9 := hb9.size; (try simp at hz9)))
  go_ret
  exact ⟨rfl, by ((repeat' first | with_reducible exact Below.refl _ _ | with_reducible assumption | with_reducible refine Below.alloc ?_ ?_ _ | with_reducible refine Below.setCell ?_ ?_ _ | with_reducible apply Below.drew | with_reducible apply below_drewN | with_reducible refine below_call ?_ (by with_reducible assumption) ?_) <;> (first | omega | (simp; done) | (simp; omega) | (simp at *; omega)))⟩
end Go.Proofs.Ytbmognchbldfdaa
