/- The walk of the law AttrJoins. -/
import Derived.Test.YtbmognchbldfdaaAwake07
import Derived.Deep.RegionHeld3
import Derived.WalkKit
import Derived.WalkSpells
import Derived.WalkLawsBesides
import Derived.Deep.RegionHeld3
import Derived.Deep.DrawnRows
import Derived.Deep.DeepCutAuto
import Derived.Deep.DeepFit
import Derived.Lib.Hide
import Derived.BigQuiet
import Derived.Deep.QuietTactic
namespace Go.Proofs.Ytbmognchbldfdaa
open Go.RowKit
set_option linter.unusedVariables false
set_option linter.unusedSimpArgs false
set_option maxRecDepth 20000
attribute [local go_sem ↓] Go.wp_at_zero Go.wp_at_succ
attribute [local go_sem] World.cell?_alloc_some frozen_alloc_some

/-- What a call leaves as it was. -/
structure Kept (P : World → Prop) : Prop where
  keep : ∀ {W W' : World}, P W → Below W.heap.size W W' → P W'
abbrev SJ (P : World → Prop) (g1 g2 b o : Nat) (v1 v2 v3 v4 : Value) (wx : World) : Prop := P wx ∧ wx.cell? ⟨g1, 0, none⟩ = some v1 ∧ wx.cell? ⟨g2, 0, none⟩ = some v2 ∧ wx.cell? ⟨b, o, none⟩ = some v3 ∧ wx.cell? ⟨b, o + 1, none⟩ = some v4
theorem SJ.keep {P : World → Prop} (k : Kept P) {g1 g2 b o : Nat} {v1 v2 v3 v4 : Value} {W W' : World} (hb : Below W.heap.size W W') (h : SJ P g1 g2 b o v1 v2 v3 v4 W) : SJ P g1 g2 b o v1 v2 v3 v4 W' :=
  ⟨k.keep h.1 hb, cell_keep hb h.2.1, cell_keep hb h.2.2.1, cell_keep hb h.2.2.2.1, cell_keep hb h.2.2.2.2⟩
theorem SJ.drew {P : World → Prop} (k : Kept P) {g1 g2 b o : Nat} {v1 v2 v3 v4 : Value} {W : World} (h : SJ P g1 g2 b o v1 v2 v3 v4 W) : SJ P g1 g2 b o v1 v2 v3 v4 W.drew := h.keep k (Below.refl _ _).drew
theorem ajoin_no {a b : AttrP} (h : (ajoin a b).2 ≠ 0) : (ajoin a b).1 = azero := by
  unfold ajoin at *
  split
  · rfl
  · rename_i h1
    split
    · rfl
    · rename_i h2
      split
      · rfl
      · rename_i h3
        rw [if_neg h1, if_neg h2, if_neg h3] at h
        exact absurd rfl h

set_option maxHeartbeats 8000000 in
theorem joins_walk (A A2 : Option Addr) (m c m2 c2 : Nat) (q t q2 t2 : Int) (l l2 : List IdP) (w : World) (h1 : IdsAt w A m l) (h2 : IdsAt w A2 m2 l2) :
    Calls Try.prog 7 #[.agg #[.slice A m c, .int .i64 q, .int .i64 t], .agg #[.slice A2 m2 c2, .int .i64 q2, .int .i64 t2]] w (Gives w (.bool true)) := by
  have haw := fun W => awake07 W
  have hl := h1.1
  have hmm := h1.2.1
  have j12 := fun W (hb : Below w.heap.size w W) => attrjoin_any A A2 m c m2 c2 q t q2 t2 l l2 W (h1.keep hb) (h2.keep hb)
  have j21 := fun W (hb : Below w.heap.size w W) => attrjoin_any A2 A m2 c2 m c q2 t2 q t l2 l W (h2.keep hb) (h1.keep hb)
  have jxa := fun A' m' c' q' t' l' W (hb : Below w.heap.size w W) (h : IdsAt W A' m' l') => attrjoin_any A' A m' c' m c q' t' q t l' l W h (h1.keep hb)
  rw [ajoin_comm ⟨l2, q2, t2⟩ ⟨l, q, t⟩] at j21
  have hno := @ajoin_no ⟨l, q, t⟩ ⟨l2, q2, t2⟩
  have hstay := @ajoin_stays ⟨l, q, t⟩ ⟨l2, q2, t2⟩
  have hright := @ajoin_right ⟨l, q, t⟩ ⟨l2, q2, t2⟩
  have hparts := @ajoin_ok ⟨l, q, t⟩ ⟨l2, q2, t2⟩
  obtain ⟨⟨⟨xl, xq, xt⟩, xe⟩, hX⟩ : ∃ X, X = ajoin ⟨l, q, t⟩ ⟨l2, q2, t2⟩ := ⟨_, rfl⟩
  rw [← hX] at j12 j21 hno hstay hright hparts
  simp only at j12 j21 hno hstay hright hparts
  have hS := fun A m c A2 m2 c2 W (h1 : IdsAt W A m xl) (h2 : IdsAt W A2 m2 xl) => attrsame_any A A2 m c m2 c2 xq xt xq xt xl xl W h1 h2
  rw [show asame ⟨xl, xq, xt⟩ ⟨xl, xq, xt⟩ = true from asame_iff.2 rfl] at hS
  have HS := Lib.hid hS
  have J12 := Lib.hid j12
  have J21 := Lib.hid j21
  have Jxa := Lib.hid jxa
  have Hno := Lib.hid hno
  have Hstay := Lib.hid hstay
  have Hright := Lib.hid hright
  have Hparts := Lib.hid hparts
  have H1 := Lib.hid h1
  have Hl := Lib.hid hl
  clear hX j12 j21 jxa hno hstay hright hparts h1 h2 hl hS
  by_cases g1 : 60 < m
  · have g1' : (60 : Int) < (m : Int) := by omega
    go_enter Try.func7, Try.ntmps7
    go_wp2_with (go_at_call 14; refine (haw _).mono ?_; rintro e w9 ⟨rfl, hb9⟩; have hz9 := hb9.size; (try simp at hz9))
    go_ret
    exact ⟨rfl, by ((repeat' first | with_reducible exact Below.refl _ _ | with_reducible assumption | with_reducible refine Below.alloc ?_ ?_ _ | with_reducible refine Below.setCell ?_ ?_ _ | with_reducible apply Below.drew | with_reducible apply below_drewN | with_reducible refine below_call ?_ (by with_reducible assumption) ?_) <;> (first | omega | (simp; done) | (simp; omega) | (simp at *; omega)))⟩
  have g1' : ¬ (60 : Int) < (m : Int) := by omega
  by_cases g2 : 60 < m2
  · have g2' : (60 : Int) < (m2 : Int) := by omega
    go_enter Try.func7, Try.ntmps7
    go_wp2_with (go_at_call 14; refine (haw _).mono ?_; rintro e w9 ⟨rfl, hb9⟩; have hz9 := hb9.size; (try simp at hz9))
    go_ret
    exact ⟨rfl, by ((repeat' first | with_reducible exact Below.refl _ _ | with_reducible assumption | with_reducible refine Below.alloc ?_ ?_ _ | with_reducible refine Below.setCell ?_ ?_ _ | with_reducible apply Below.drew | with_reducible apply below_drewN | with_reducible refine below_call ?_ (by with_reducible assumption) ?_) <;> (first | omega | (simp; done) | (simp; omega) | (simp at *; omega)))⟩
  have g2' : ¬ (60 : Int) < (m2 : Int) := by omega
  by_cases e1 : xe = 0
  case neg =>
    have e1' : ((xe : Int) != 0) = true := by simp; omega
    have Hz := Lib.hid (Hno.out e1)
    have hxt : (xt == (0 : Int)) = true := by have h := Hz.out; simp only [azero, AttrP.mk.injEq] at h; simp [h.2.2]
    have Hxl := Lib.hid (show xl = [] from by have h := Hz.out; simp only [azero, AttrP.mk.injEq] at h; exact h.1)
    have hef : ((xe : Int) != (xe : Int)) = false := by simp
    go_enter Try.func7, Try.ntmps7
    go_wp2_with (first | (go_at_call 15; (with_reducible refine (J12.out _ (by ((repeat' first | with_reducible exact Below.refl _ _ | with_reducible assumption | with_reducible refine Below.alloc ?_ ?_ _ | with_reducible refine Below.setCell ?_ ?_ _ | with_reducible apply Below.drew | with_reducible apply below_drewN | with_reducible refine below_call ?_ (by with_reducible assumption) ?_) <;> (first | omega | (simp; done) | (simp; omega) | (simp at *; omega))))).mono ?_); rintro e w1 ⟨Ax, mx, cx, rfl, hI, hb1⟩; have Ix := Lib.hid hI; clear hI; have hz1 := hb1.size; (try simp at hz1); have B0 : Blk w1 (w.heap.size) 27 #[.slice A m c, .int .i64 q, .int .i64 t] := (by (have h := Blk.keep ((Blk.new w _ _).alloc _) hb1; first | exact h | (simpa only [World.size_alloc] using h))); have B0c := B0.cell; have B0f := B0.frozen; have B1 : Blk w1 (w.heap.size + 1) 27 #[.slice A2 m2 c2, .int .i64 q2, .int .i64 t2] := (by (have h := Blk.keep (Blk.new (w.alloc _) _ _) hb1; first | exact h | (simpa only [World.size_alloc] using h))); have B1c := B1.cell; have B1f := B1.frozen; have hmx0 : ((mx : Int) == 0) = true := (by have h := Ix.out.1; rw [Hxl.out] at h; simp [h])) | (go_at_call 15; (with_reducible refine (J21.out _ (by ((repeat' first | with_reducible exact Below.refl _ _ | with_reducible assumption | with_reducible refine Below.alloc ?_ ?_ _ | with_reducible refine Below.setCell ?_ ?_ _ | with_reducible apply Below.drew | with_reducible apply below_drewN | with_reducible refine below_call ?_ (by with_reducible assumption) ?_) <;> (first | omega | (simp; done) | (simp; omega) | (simp at *; omega))))).mono ?_); rintro e w2 ⟨Ay, my, cy, rfl, hI, hb2⟩; have Iy := Lib.hid hI; clear hI; have hz2 := hb2.size; (try simp at hz2); have B0 := Blk.keep (B0.alloc _) hb2; have B0c := B0.cell; have B0f := B0.frozen; have B1 := Blk.keep (B1.alloc _) hb2; have B1c := B1.cell; have B1f := B1.frozen; have B3 : Blk w2 (w1.heap.size) 27 #[.slice Ax mx cx, .int .i64 xq, .int .i64 xt] := (by (have h := Blk.keep (Blk.new w1 _ _) hb2; first | exact h | (simpa only [World.size_alloc] using h))); have B3c := B3.cell; have B3f := B3.frozen) | (go_at_call 18; (with_reducible refine (HS.out _ _ _ _ _ _ _ (Ix.out.keep (by ((repeat' first | with_reducible exact Below.refl _ _ | with_reducible assumption | with_reducible refine Below.alloc ?_ ?_ _ | with_reducible refine Below.setCell ?_ ?_ _ | with_reducible apply Below.drew | with_reducible apply below_drewN | with_reducible refine below_call ?_ (by with_reducible assumption) ?_) <;> (first | omega | (simp; done) | (simp; omega) | (simp at *; omega))))) (Iy.out.keep (by ((repeat' first | with_reducible exact Below.refl _ _ | with_reducible assumption | with_reducible refine Below.alloc ?_ ?_ _ | with_reducible refine Below.setCell ?_ ?_ _ | with_reducible apply Below.drew | with_reducible apply below_drewN | with_reducible refine below_call ?_ (by with_reducible assumption) ?_) <;> (first | omega | (simp; done) | (simp; omega) | (simp at *; omega)))))).mono ?_); rintro e w3 ⟨rfl, hb3⟩; have hz3 := hb3.size; (try simp at hz3); have B0 := Blk.keep (B0.alloc _) hb3; have B0c := B0.cell; have B0f := B0.frozen; have B1 := Blk.keep (B1.alloc _) hb3; have B1c := B1.cell; have B1f := B1.frozen; have B3 := Blk.keep (B3.alloc _) hb3; have B3c := B3.cell; have B3f := B3.frozen) | (go_at_call 14; refine (haw _).mono ?_; rintro e w9 ⟨rfl, hb9⟩; have hz9 := hb9.size; (try simp at hz9)))
    go_ret
    exact ⟨rfl, by ((repeat' first | with_reducible exact Below.refl _ _ | with_reducible assumption | with_reducible refine Below.alloc ?_ ?_ _ | with_reducible refine Below.setCell ?_ ?_ _ | with_reducible apply Below.drew | with_reducible apply below_drewN | with_reducible refine below_call ?_ (by with_reducible assumption) ?_) <;> (first | omega | (simp; done) | (simp; omega) | (simp at *; omega)))⟩
  subst e1
  have hef : ((0 : Int) != (0 : Int)) = false := by simp
  have hst := Hstay.out rfl
  have D1 := Lib.hid (fun A' m' c' W hb h => by have h := Jxa.out A' m' c' xq xt xl W hb h; rw [hst] at h; exact h)
  simp only at D1
  clear hst
  have hrt := Hright.out rfl
  have hk := fun A' m' c' W (h : IdsAt W A' m' xl) => attrcheck_any A' m' c' xq xt xl W h
  rw [hrt] at hk
  have HK := Lib.hid hk
  have hidok := Lib.hid (acheck_iff.1 hrt).2
  have hp := (Hparts.out rfl).2.2.2.2
  simp only [AttrP.mk.injEq] at hp
  have hq1 : q ≤ xq := by have := hp.2.1; omega
  have hq2 : q2 ≤ xq := by have := hp.2.1; omega
  have hmem : ∀ (i : Nat) (x : IdP), l[i]? = some x → x ∈ xl := fun i x hi => by
    rw [hp.1, mem_idSet]
    exact List.mem_append.2 (.inl (List.mem_of_getElem? hi))
  have Hmem := Lib.hid hmem
  have hhas := fun A' m' c' W (h : IdsAt W A' m' xl) (i : Nat) (r n : Int) (hi : l[i]? = some (r, n)) => by
    have h := has_any A' m' c' xl r n W h hidok.out
    rw [show decide ((r, n) ∈ xl) = true from decide_eq_true (Hmem.out i _ hi)] at h
    exact h
  have HH := Lib.hid hhas
  clear hk hrt hp hmem hhas
  go_enter Try.func7, Try.ntmps7
  go_wp2_with (first | (go_at_call 15; (with_reducible refine (J12.out _ (by ((repeat' first | with_reducible exact Below.refl _ _ | with_reducible assumption | with_reducible refine Below.alloc ?_ ?_ _ | with_reducible refine Below.setCell ?_ ?_ _ | with_reducible apply Below.drew | with_reducible apply below_drewN | with_reducible refine below_call ?_ (by with_reducible assumption) ?_) <;> (first | omega | (simp; done) | (simp; omega) | (simp at *; omega))))).mono ?_); rintro e w1 ⟨Ax, mx, cx, rfl, hI, hb1⟩; have Ix := Lib.hid hI; clear hI; have hz1 := hb1.size; (try simp at hz1); have B0 : Blk w1 (w.heap.size) 27 #[.slice A m c, .int .i64 q, .int .i64 t] := (by (have h := Blk.keep ((Blk.new w _ _).alloc _) hb1; first | exact h | (simpa only [World.size_alloc] using h))); have B0c := B0.cell; have B0f := B0.frozen; have B1 : Blk w1 (w.heap.size + 1) 27 #[.slice A2 m2 c2, .int .i64 q2, .int .i64 t2] := (by (have h := Blk.keep (Blk.new (w.alloc _) _ _) hb1; first | exact h | (simpa only [World.size_alloc] using h))); have B1c := B1.cell; have B1f := B1.frozen) | (go_at_call 15; (with_reducible refine (J21.out _ (by ((repeat' first | with_reducible exact Below.refl _ _ | with_reducible assumption | with_reducible refine Below.alloc ?_ ?_ _ | with_reducible refine Below.setCell ?_ ?_ _ | with_reducible apply Below.drew | with_reducible apply below_drewN | with_reducible refine below_call ?_ (by with_reducible assumption) ?_) <;> (first | omega | (simp; done) | (simp; omega) | (simp at *; omega))))).mono ?_); rintro e w2 ⟨Ay, my, cy, rfl, hI, hb2⟩; have Iy := Lib.hid hI; clear hI; have hz2 := hb2.size; (try simp at hz2); have B0 := Blk.keep (B0.alloc _) hb2; have B0c := B0.cell; have B0f := B0.frozen; have B1 := Blk.keep (B1.alloc _) hb2; have B1c := B1.cell; have B1f := B1.frozen; have B3 : Blk w2 (w1.heap.size) 27 #[.slice Ax mx cx, .int .i64 xq, .int .i64 xt] := (by (have h := Blk.keep (Blk.new w1 _ _) hb2; first | exact h | (simpa only [World.size_alloc] using h))); have B3c := B3.cell; have B3f := B3.frozen) | (go_at_call 18; (with_reducible refine (HS.out _ _ _ _ _ _ _ (Ix.out.keep (by ((repeat' first | with_reducible exact Below.refl _ _ | with_reducible assumption | with_reducible refine Below.alloc ?_ ?_ _ | with_reducible refine Below.setCell ?_ ?_ _ | with_reducible apply Below.drew | with_reducible apply below_drewN | with_reducible refine below_call ?_ (by with_reducible assumption) ?_) <;> (first | omega | (simp; done) | (simp; omega) | (simp at *; omega))))) (Iy.out.keep (by ((repeat' first | with_reducible exact Below.refl _ _ | with_reducible assumption | with_reducible refine Below.alloc ?_ ?_ _ | with_reducible refine Below.setCell ?_ ?_ _ | with_reducible apply Below.drew | with_reducible apply below_drewN | with_reducible refine below_call ?_ (by with_reducible assumption) ?_) <;> (first | omega | (simp; done) | (simp; omega) | (simp at *; omega)))))).mono ?_); rintro e w3 ⟨rfl, hb3⟩; have hz3 := hb3.size; (try simp at hz3); have B0 := Blk.keep (B0.alloc _) hb3; have B0c := B0.cell; have B0f := B0.frozen; have B1 := Blk.keep (B1.alloc _) hb3; have B1c := B1.cell; have B1f := B1.frozen; have B3 := Blk.keep (B3.alloc _) hb3; have B3c := B3.cell; have B3f := B3.frozen) | (go_at_call 15; (with_reducible refine (D1.out _ _ _ _ (by ((repeat' first | with_reducible exact Below.refl _ _ | with_reducible assumption | with_reducible refine Below.alloc ?_ ?_ _ | with_reducible refine Below.setCell ?_ ?_ _ | with_reducible apply Below.drew | with_reducible apply below_drewN | with_reducible refine below_call ?_ (by with_reducible assumption) ?_) <;> (first | omega | (simp; done) | (simp; omega) | (simp at *; omega)))) (Ix.out.keep (by ((repeat' first | with_reducible exact Below.refl _ _ | with_reducible assumption | with_reducible refine Below.alloc ?_ ?_ _ | with_reducible refine Below.setCell ?_ ?_ _ | with_reducible apply Below.drew | with_reducible apply below_drewN | with_reducible refine below_call ?_ (by with_reducible assumption) ?_) <;> (first | omega | (simp; done) | (simp; omega) | (simp at *; omega)))))).mono ?_); rintro e w4 ⟨Az, mz, cz, rfl, hI, hb4⟩; have Iz := Lib.hid hI; clear hI; have hz4 := hb4.size; (try simp at hz4); have B0 := Blk.keep B0 hb4; have B0c := B0.cell; have B0f := B0.frozen; have B1 := Blk.keep B1 hb4; have B1c := B1.cell; have B1f := B1.frozen; have B3 := Blk.keep B3 hb4; have B3c := B3.cell; have B3f := B3.frozen) | (go_at_call 14; refine (haw _).mono ?_; rintro e w9 ⟨rfl, hb9⟩; have hz9 := hb9.size; (try simp at hz9)))
  obtain ⟨P, hP⟩ : ∃ P : World → Prop, P = fun W => Below w.heap.size w W ∧ IdsAt W Ax mx xl ∧ IdsAt W Az mz xl ∧ Blk W w.heap.size 27 #[.slice A m c, .int .i64 q, .int .i64 t] ∧ Blk W (w.heap.size + 1) 27 #[.slice A2 m2 c2, .int .i64 q2, .int .i64 t2] ∧ Blk W w1.heap.size 27 #[.slice Ax mx cx, .int .i64 xq, .int .i64 xt] ∧ Blk W w4.heap.size 27 #[.slice Az mz cz, .int .i64 xq, .int .i64 xt] ∧ w.heap.size < W.heap.size := ⟨_, rfl⟩
  have kP : Kept P := ⟨fun {W W'} h hb => by
    rw [hP] at h ⊢
    obtain ⟨p1, p2, p3, p4, p5, p6, p7, p8⟩ := h
    exact ⟨p1.trans (hb.mono p1.size), p2.keep hb, p3.keep hb, p4.keep hb, p5.keep hb, p6.keep hb, p7.keep hb, by have := hb.size; omega⟩⟩
  have oP : ∀ W, P W → Below w.heap.size w W ∧ IdsAt W Ax mx xl ∧ IdsAt W Az mz xl ∧ Blk W w.heap.size 27 #[.slice A m c, .int .i64 q, .int .i64 t] ∧ Blk W (w.heap.size + 1) 27 #[.slice A2 m2 c2, .int .i64 q2, .int .i64 t2] ∧ Blk W w1.heap.size 27 #[.slice Ax mx cx, .int .i64 xq, .int .i64 xt] ∧ Blk W w4.heap.size 27 #[.slice Az mz cz, .int .i64 xq, .int .i64 xt] ∧ w.heap.size < W.heap.size := fun W h => by rw [hP] at h; exact h
  have OP := Lib.hid oP
  have HP := Lib.hid hP
  clear hP oP
  go_loopw [11] (fun s11 wr => ∃ i : Nat, i ≤ m ∧ s11 = .int .i64 i ∧ P wr) (fun s11 _ => m - (intOf s11).toNat)
  case atStart =>
    refine ⟨0, by omega, rfl, ?_⟩
    rw [HP.out]
    exact ⟨by ((repeat' first | with_reducible exact Below.refl _ _ | with_reducible assumption | with_reducible refine Below.alloc ?_ ?_ _ | with_reducible refine Below.setCell ?_ ?_ _ | with_reducible apply Below.drew | with_reducible apply below_drewN | with_reducible refine below_call ?_ (by with_reducible assumption) ?_) <;> (first | omega | (simp; done) | (simp; omega) | (simp at *; omega))), (Ix.out.keep (by ((repeat' first | with_reducible exact Below.refl _ _ | with_reducible assumption | with_reducible refine Below.alloc ?_ ?_ _ | with_reducible refine Below.setCell ?_ ?_ _ | with_reducible apply Below.drew | with_reducible apply below_drewN | with_reducible refine below_call ?_ (by with_reducible assumption) ?_) <;> (first | omega | (simp; done) | (simp; omega) | (simp at *; omega))))), (Iz.out.keep (by ((repeat' first | with_reducible exact Below.refl _ _ | with_reducible assumption | with_reducible refine Below.alloc ?_ ?_ _ | with_reducible refine Below.setCell ?_ ?_ _ | with_reducible apply Below.drew | with_reducible apply below_drewN | with_reducible refine below_call ?_ (by with_reducible assumption) ?_) <;> (first | omega | (simp; done) | (simp; omega) | (simp at *; omega))))), B0.alloc _, B1.alloc _, B3.alloc _, Blk.newAt rfl, by simp; omega⟩
  case round =>
    obtain ⟨i, hi, rfl, hPr⟩ := hrel
    obtain ⟨hbr, hIx, hIz, K0, K1, K3, K4, hzr⟩ := OP.out _ hPr
    have K0c := K0.cell
    have K1c := K1.cell
    have K3c := K3.cell
    have K4c := K4.cell
    have IIx := Lib.hid hIx
    have IIz := Lib.hid hIz
    clear hIx hIz
    by_cases hlt : i < m
    · obtain ⟨r, n, b, o, e1, _, _, rfl, p0, p1⟩ := (H1.out.keep hbr).at_ hlt
      have i0 : (0 : Int) ≤ (i : Int) := by omega
      have i1 : (i : Int) < (m : Int) := by omega
      have hh := fun W (h : P W) => HH.out Ax mx cx W (OP.out W h).2.1 i r n e1
      have hpre : SJ P w1.heap.size w.heap.size b (o + i * 2) (.slice Ax mx cx) (.slice (some ⟨b, o, none⟩) m c) (.int .i64 r) (.int .i64 n) wr := ⟨hPr, by rw [K3c]; rfl, by rw [K0c]; rfl, p0, p1⟩
      clear e1
      go_upto_region 13 with fail
      go_region_held3 (fun wx => P wx ∧ wx.cell? ⟨w1.heap.size, 0, none⟩ = some (.slice Ax mx cx) ∧ wx.cell? ⟨w.heap.size, 0, none⟩ = some (.slice (some ⟨b, o, none⟩) m c) ∧ wx.cell? ⟨b, o + i * 2, none⟩ = some (.int .i64 r) ∧ wx.cell? ⟨b, o + i * 2 + 1, none⟩ = some (.int .i64 n)) ((repeat' first | with_reducible assumption | with_reducible refine SJ.drew kP ?_ | with_reducible refine SJ.keep kP (by with_reducible assumption) ?_)) ((go_at_call 20; (with_reducible refine (hh _ (by first | with_reducible assumption | exact (by assumption : SJ P w1.heap.size w.heap.size b (o + i * 2) (.slice Ax mx cx) (.slice (some ⟨b, o, none⟩) m c) (.int .i64 r) (.int .i64 n) _).1)).mono ?_); rintro e w6 ⟨rfl, hb6⟩; have hz6 := hb6.size; (try simp at hz6)))
      all_goals
        go_wp2_with fail
        go_roundw
        case rel =>
          have hS : SJ P w1.heap.size w.heap.size b (o + i * 2) (.slice Ax mx cx) (.slice (some ⟨b, o, none⟩) m c) (.int .i64 r) (.int .i64 n) w6 := by assumption
          exact ⟨i + 1, by omega, by go_num, hS.1⟩
        case measure => simp [intOf]; omega
    · have ni : ¬ (i : Int) < (m : Int) := by omega
      have hq1' : q ≤ xq := hq1
      go_wp2_with (first | (go_at_call 11; (with_reducible refine (HK.out _ _ _ _ (IIx.out.keep (by ((repeat' first | with_reducible exact Below.refl _ _ | with_reducible assumption | with_reducible refine Below.alloc ?_ ?_ _ | with_reducible refine Below.setCell ?_ ?_ _ | with_reducible apply Below.drew | with_reducible apply below_drewN | with_reducible refine below_call ?_ (by with_reducible assumption) ?_) <;> (first | omega | (simp; done) | (simp; omega) | (simp at *; omega)))))).mono ?_); rintro e w7 ⟨rfl, hb7⟩; have hz7 := hb7.size; (try simp at hz7); have K0 := Blk.keep K0 hb7; have K0c := K0.cell; have K0f := K0.frozen; have K1 := Blk.keep K1 hb7; have K1c := K1.cell; have K1f := K1.frozen; have K3 := Blk.keep K3 hb7; have K3c := K3.cell; have K3f := K3.frozen; have K4 := Blk.keep K4 hb7; have K4c := K4.cell; have K4f := K4.frozen) | (go_at_call 18; (with_reducible refine (HS.out _ _ _ _ _ _ _ (IIx.out.keep (by ((repeat' first | with_reducible exact Below.refl _ _ | with_reducible assumption | with_reducible refine Below.alloc ?_ ?_ _ | with_reducible refine Below.setCell ?_ ?_ _ | with_reducible apply Below.drew | with_reducible apply below_drewN | with_reducible refine below_call ?_ (by with_reducible assumption) ?_) <;> (first | omega | (simp; done) | (simp; omega) | (simp at *; omega))))) (IIz.out.keep (by ((repeat' first | with_reducible exact Below.refl _ _ | with_reducible assumption | with_reducible refine Below.alloc ?_ ?_ _ | with_reducible refine Below.setCell ?_ ?_ _ | with_reducible apply Below.drew | with_reducible apply below_drewN | with_reducible refine below_call ?_ (by with_reducible assumption) ?_) <;> (first | omega | (simp; done) | (simp; omega) | (simp at *; omega)))))).mono ?_); rintro e w8 ⟨rfl, hb8⟩; have hz8 := hb8.size; (try simp at hz8); have K0 := Blk.keep K0 hb8; have K0c := K0.cell; have K0f := K0.frozen; have K1 := Blk.keep K1 hb8; have K1c := K1.cell; have K1f := K1.frozen; have K3 := Blk.keep K3 hb8; have K3c := K3.cell; have K3f := K3.frozen; have K4 := Blk.keep K4 hb8; have K4c := K4.cell; have K4f := K4.frozen) | (go_at_call 14; refine (haw _).mono ?_; rintro e w9 ⟨rfl, hb9⟩; have hz9 := hb9.size; (try simp at hz9)))
      go_ret
      exact ⟨rfl, by ((repeat' first | with_reducible exact Below.refl _ _ | with_reducible assumption | with_reducible refine Below.alloc ?_ ?_ _ | with_reducible refine Below.setCell ?_ ?_ _ | with_reducible apply Below.drew | with_reducible apply below_drewN | with_reducible refine below_call ?_ (by with_reducible assumption) ?_) <;> (first | omega | (simp; done) | (simp; omega) | (simp at *; omega)))⟩
end Go.Proofs.Ytbmognchbldfdaa
