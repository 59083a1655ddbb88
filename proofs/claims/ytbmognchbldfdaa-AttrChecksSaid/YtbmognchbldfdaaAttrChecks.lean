/- The walk of the law AttrChecks. -/
import Derived.Test.YtbmognchbldfdaaAwake07
import Derived.Test.YtbmognchbldfdaaRef07
import Derived.Test.YtbmognchbldfdaaReg
import Derived.WalkKit
import Derived.WalkSpells
import Derived.WalkLawsBesides
import Derived.Deep.RegionHeld3
import Derived.Deep.DrawnRows
import Derived.Deep.DeepCutAuto
import Derived.Deep.DeepFit
import Derived.Lib.Hide
import Derived.BigQuiet
import Derived.Deep.QuietTactic
import Derived.Deep.RegionHeld3
namespace Go.Proofs.Ytbmognchbldfdaa
open Go.RowKit
set_option linter.unusedVariables false
set_option linter.unusedSimpArgs false
set_option maxRecDepth 20000
attribute [local go_sem ↓] Go.wp_at_zero Go.wp_at_succ
attribute [local go_sem] World.cell?_alloc_some frozen_alloc_some

abbrev SB4 (g1 g2 g3 g4 : Nat) (c1 c2 c3 c4 : Array Value) (wx : World) : Prop := (∀ i, wx.cell? ⟨g1, i, none⟩ = c1[i]?) ∧ (∀ i, wx.cell? ⟨g2, i, none⟩ = c2[i]?) ∧ (∀ i, wx.cell? ⟨g3, i, none⟩ = c3[i]?) ∧ (∀ i, wx.cell? ⟨g4, i, none⟩ = c4[i]?)
structure APre (w W : World) (gx gy : Nat) (A A2 Ax Ay : Option Addr) (m c m2 c2 mx cx my cy : Nat) (q t q2 t2 xq xt : Int) (l l2 xl : List IdP) : Prop where
  b : Below w.heap.size w W
  ba : Blk W w.heap.size 27 #[.slice A m c, .int .i64 q, .int .i64 t]
  bb : Blk W (w.heap.size + 1) 27 #[.slice A2 m2 c2, .int .i64 q2, .int .i64 t2]
  bx : Blk W gx 27 #[.slice Ax mx cx, .int .i64 xq, .int .i64 xt]
  b_y : Blk W gy 27 #[.slice Ay my cy, .int .i64 xq, .int .i64 xt]
  ha : IdsAt W A m l
  hb : IdsAt W A2 m2 l2
  hx : IdsAt W Ax mx xl
  hy : IdsAt W Ay my xl
section
variable {w W W' : World} {gx gy : Nat} {A A2 Ax Ay : Option Addr} {m c m2 c2 mx cx my cy : Nat} {q t q2 t2 xq xt : Int} {l l2 xl : List IdP}
theorem APre.keep (h : APre w W gx gy A A2 Ax Ay m c m2 c2 mx cx my cy q t q2 t2 xq xt l l2 xl) (hb : Below W.heap.size W W') : APre w W' gx gy A A2 Ax Ay m c m2 c2 mx cx my cy q t q2 t2 xq xt l l2 xl :=
  ⟨h.b.trans (hb.mono h.b.size), h.ba.keep hb, h.bb.keep hb, h.bx.keep hb, h.b_y.keep hb, h.ha.keep hb, h.hb.keep hb, h.hx.keep hb, h.hy.keep hb⟩
theorem APre.s (h : APre w W gx gy A A2 Ax Ay m c m2 c2 mx cx my cy q t q2 t2 xq xt l l2 xl) :
    SB4 w.heap.size (w.heap.size + 1) gx gy #[.slice A m c, .int .i64 q, .int .i64 t] #[.slice A2 m2 c2, .int .i64 q2, .int .i64 t2] #[.slice Ax mx cx, .int .i64 xq, .int .i64 xt] #[.slice Ay my cy, .int .i64 xq, .int .i64 xt] W :=
  ⟨h.ba.cell, h.bb.cell, h.bx.cell, h.b_y.cell⟩
end

set_option maxHeartbeats 8000000 in
theorem checks7_walk (A A2 : Option Addr) (m c m2 c2 : Nat) (q t q2 t2 : Int) (l l2 : List IdP) (w : World) (h1 : IdsAt w A m l) (h2 : IdsAt w A2 m2 l2) :
    Calls Try.prog 5 #[.agg #[.slice A m c, .int .i64 q, .int .i64 t], .agg #[.slice A2 m2 c2, .int .i64 q2, .int .i64 t2]] w (Gives w (.bool true)) := by
  have haw := fun W => awake07 W
  have hck := fun W (h : IdsAt W A m l) => attrcheck_any A m c q t l W h
  have hck7 := fun W (h : IdsAt W A m l) => check7_any A m c q t l W h
  have hsa := fun W (h : IdsAt W A m l) (h' : IdsAt W A2 m2 l2) => attrsame_any A A2 m c m2 c2 q t q2 t2 l l2 W h h'
  have hsa7 := fun W (h : IdsAt W A m l) (h' : IdsAt W A2 m2 l2) => same7_any A A2 m c m2 c2 q t q2 t2 l l2 W h h'
  have j12 := fun W (hb : Below w.heap.size w W) => attrjoin_any A A2 m c m2 c2 q t q2 t2 l l2 W (h1.keep hb) (h2.keep hb)
  have j21 := fun W (hb : Below w.heap.size w W) => join7_any A A2 m c m2 c2 q t q2 t2 l l2 W (h1.keep hb) (h2.keep hb)
  generalize acheck ⟨l, q, t⟩ = k1 at hck hck7
  generalize asame ⟨l, q, t⟩ ⟨l2, q2, t2⟩ = k2 at hsa hsa7
  obtain ⟨⟨⟨xl, xq, xt⟩, xe⟩, hX⟩ : ∃ X, X = ajoin ⟨l, q, t⟩ ⟨l2, q2, t2⟩ := ⟨_, rfl⟩
  rw [← hX] at j12 j21
  simp only at j12 j21
  have hxy := fun A m c A2 m2 c2 W (h1 : IdsAt W A m xl) (h2 : IdsAt W A2 m2 xl) => same7_any A A2 m c m2 c2 xq xt xq xt xl xl W h1 h2
  rw [show asame ⟨xl, xq, xt⟩ ⟨xl, xq, xt⟩ = true from asame_iff.2 rfl] at hxy
  have J12 := Lib.hid j12
  have J21 := Lib.hid j21
  have Hck := Lib.hid hck
  have Hck7 := Lib.hid hck7
  have Hsa := Lib.hid hsa
  have Hsa7 := Lib.hid hsa7
  have Hxy := Lib.hid hxy
  have H1 := Lib.hid h1
  have H2 := Lib.hid h2
  clear hX j12 j21 hck hck7 hsa hsa7 hxy h1 h2
  by_cases g1 : 60 < m
  · have g1' : (60 : Int) < (m : Int) := by omega
    go_enter Try.func5, Try.ntmps5
    go_wp2_with (go_at_call 14; refine (haw _).mono ?_; rintro e w9 ⟨rfl, hb9⟩; have hz9 := hb9.size; (try simp at hz9))
    go_ret
    exact ⟨rfl, by ((repeat' first | with_reducible exact Below.refl _ _ | with_reducible assumption | with_reducible refine Below.alloc ?_ ?_ _ | with_reducible refine Below.setCell ?_ ?_ _ | with_reducible apply Below.drew | with_reducible apply below_drewN | with_reducible refine below_call ?_ (by with_reducible assumption) ?_) <;> (first | omega | (simp; done) | (simp; omega) | (simp at *; omega)))⟩
  have g1' : ¬ (60 : Int) < (m : Int) := by omega
  by_cases g2 : 60 < m2
  · have g2' : (60 : Int) < (m2 : Int) := by omega
    go_enter Try.func5, Try.ntmps5
    go_wp2_with (go_at_call 14; refine (haw _).mono ?_; rintro e w9 ⟨rfl, hb9⟩; have hz9 := hb9.size; (try simp at hz9))
    go_ret
    exact ⟨rfl, by ((repeat' first | with_reducible exact Below.refl _ _ | with_reducible assumption | with_reducible refine Below.alloc ?_ ?_ _ | with_reducible refine Below.setCell ?_ ?_ _ | with_reducible apply Below.drew | with_reducible apply below_drewN | with_reducible refine below_call ?_ (by with_reducible assumption) ?_) <;> (first | omega | (simp; done) | (simp; omega) | (simp at *; omega)))⟩
  have g2' : ¬ (60 : Int) < (m2 : Int) := by omega
  go_enter Try.func5, Try.ntmps5
  go_wp2_with (first | (go_at_call 15; (with_reducible refine (J12.out _ (by ((repeat' first | with_reducible exact Below.refl _ _ | with_reducible assumption | with_reducible refine Below.alloc ?_ ?_ _ | with_reducible refine Below.setCell ?_ ?_ _ | with_reducible apply Below.drew | with_reducible apply below_drewN | with_reducible refine below_call ?_ (by with_reducible assumption) ?_) <;> (first | omega | (simp; done) | (simp; omega) | (simp at *; omega))))).mono ?_); rintro e w1 ⟨Ax, mx, cx, rfl, hI, hb1⟩; have Ix := Lib.hid hI; clear hI; have hz1 := hb1.size; (try simp at hz1); have B0 : Blk w1 (w.heap.size) 27 #[.slice A m c, .int .i64 q, .int .i64 t] := (by (have h := Blk.keep ((Blk.new w _ _).alloc _) hb1; first | exact h | (simpa only [World.size_alloc] using h))); have B0c := B0.cell; have B0f := B0.frozen; have B1 : Blk w1 (w.heap.size + 1) 27 #[.slice A2 m2 c2, .int .i64 q2, .int .i64 t2] := (by (have h := Blk.keep (Blk.new (w.alloc _) _ _) hb1; first | exact h | (simpa only [World.size_alloc] using h))); have B1c := B1.cell; have B1f := B1.frozen) | (go_at_call 16; (with_reducible refine (J21.out _ (by ((repeat' first | with_reducible exact Below.refl _ _ | with_reducible assumption | with_reducible refine Below.alloc ?_ ?_ _ | with_reducible refine Below.setCell ?_ ?_ _ | with_reducible apply Below.drew | with_reducible apply below_drewN | with_reducible refine below_call ?_ (by with_reducible assumption) ?_) <;> (first | omega | (simp; done) | (simp; omega) | (simp at *; omega))))).mono ?_); rintro e w2 ⟨Ay, my, cy, rfl, hI, hb2⟩; have Iy := Lib.hid hI; clear hI; have hz2 := hb2.size; (try simp at hz2); have B0 := Blk.keep (B0.alloc _) hb2; have B0c := B0.cell; have B0f := B0.frozen; have B1 := Blk.keep (B1.alloc _) hb2; have B1c := B1.cell; have B1f := B1.frozen; have B3 : Blk w2 (w1.heap.size) 27 #[.slice Ax mx cx, .int .i64 xq, .int .i64 xt] := (by (have h := Blk.keep (Blk.new w1 _ _) hb2; first | exact h | (simpa only [World.size_alloc] using h))); have B3c := B3.cell; have B3f := B3.frozen))
  go_upto_region 5 with fail
  have P4 : APre w (w2.alloc (.cells #[.slice Ay my cy, .int .i64 xq, .int .i64 xt] 27)).drew w1.heap.size w2.heap.size A A2 Ax Ay m c m2 c2 mx cx my cy q t q2 t2 xq xt l l2 xl := by
    refine APre.keep (W := w2.alloc (.cells #[.slice Ay my cy, .int .i64 xq, .int .i64 xt] 27)) ?_ (Below.refl _ _).drew
    have hbw : Below w.heap.size w (w2.alloc (.cells #[.slice Ay my cy, .int .i64 xq, .int .i64 xt] 27)) := by ((repeat' first | with_reducible exact Below.refl _ _ | with_reducible assumption | with_reducible refine Below.alloc ?_ ?_ _ | with_reducible refine Below.setCell ?_ ?_ _ | with_reducible apply Below.drew | with_reducible apply below_drewN | with_reducible refine below_call ?_ (by with_reducible assumption) ?_) <;> (first | omega | (simp; done) | (simp; omega) | (simp at *; omega)))
    exact ⟨hbw, B0.alloc _, B1.alloc _, B3.alloc _, Blk.new _ _ _, H1.out.keep hbw, H2.out.keep hbw, (Ix.out.keep (by ((repeat' first | with_reducible exact Below.refl _ _ | with_reducible assumption | with_reducible refine Below.alloc ?_ ?_ _ | with_reducible refine Below.setCell ?_ ?_ _ | with_reducible apply Below.drew | with_reducible apply below_drewN | with_reducible refine below_call ?_ (by with_reducible assumption) ?_) <;> (first | omega | (simp; done) | (simp; omega) | (simp at *; omega))))), (Iy.out.keep (by ((repeat' first | with_reducible exact Below.refl _ _ | with_reducible assumption | with_reducible refine Below.alloc ?_ ?_ _ | with_reducible refine Below.setCell ?_ ?_ _ | with_reducible apply Below.drew | with_reducible apply below_drewN | with_reducible refine below_call ?_ (by with_reducible assumption) ?_) <;> (first | omega | (simp; done) | (simp; omega) | (simp at *; omega)))))⟩
  clear B0 B1 B3 B0c B1c B3c B0f B1f B3f hb1 hb2 hz1 hz2 Ix Iy J12 J21 H1 H2
  (refine wp_region_held_drew (S := (SB4 w.heap.size (w.heap.size + 1) w1.heap.size w2.heap.size #[.slice A m c, .int .i64 q, .int .i64 t] #[.slice A2 m2 c2, .int .i64 q2, .int .i64 t2] #[.slice Ax mx cx, .int .i64 xq, .int .i64 xt] #[.slice Ay my cy, .int .i64 xq, .int .i64 xt])) (by kernel_rfl) ?_ (fun hHeld => ?_); (· exact P4.s))
  ((refine take_op (i := 0) (v := ?_) rfl (by kernel_rfl) (by kernel_rfl) (by kernel_rfl) (fun _ _ _ h => h) (by rfl) ?_ hHeld ?_; rotate_left; (· (intro wS hSw; (try dsimp only at hSw); go_simp; first | done | with_reducible rfl)); simp only [Act.put, List.setIfInBounds_toArray, List.set_cons_zero, List.set_cons_succ]); (refine take_op (i := 2) (v := ?_) rfl (by kernel_rfl) (by kernel_rfl) (by kernel_rfl) (fun _ _ _ h => h) (by rfl) ?_ hHeld ?_; rotate_left; (· (intro wS hSw; (try dsimp only at hSw); go_simp; first | done | with_reducible rfl)); simp only [Act.put, List.setIfInBounds_toArray, List.set_cons_zero, List.set_cons_succ]); (refine call_op (i := 1) rfl (by kernel_rfl) (by rfl) (fun K hK => ?_); go_simp; (go_at_call 11; (with_reducible refine (Hck.out _ P4.ha).mono ?_); rintro e w5 ⟨rfl, hb5⟩; have P5 := P4.keep hb5; clear P4); refine hK.out _ _ (P5.s) (fun hHeld2 => ?_); clear hK K hHeld; have hHeld := hHeld2; clear hHeld2; (try simp only [Act.put, List.setIfInBounds_toArray, List.set_cons_zero, List.set_cons_succ])); (refine call_op (i := 3) rfl (by kernel_rfl) (by rfl) (fun K hK => ?_); go_simp; (go_at_call 17; (with_reducible refine (Hck7.out _ P5.ha).mono ?_); rintro e w6 ⟨rfl, hb6⟩; have P6 := P5.keep hb6; clear P5); refine hK.out _ _ (P6.s) (fun hHeld2 => ?_); clear hK K hHeld; have hHeld := hHeld2; clear hHeld2; (try simp only [Act.put, List.setIfInBounds_toArray, List.set_cons_zero, List.set_cons_succ])); (refine take_op (i := 4) (v := ?_) rfl (by kernel_rfl) (by kernel_rfl) (by kernel_rfl) (fun _ _ _ h => h) (by rfl) ?_ hHeld ?_; rotate_left; (· (intro wS hSw; (try dsimp only at hSw); go_simp; first | done | with_reducible rfl)); simp only [Act.put, List.setIfInBounds_toArray, List.set_cons_zero, List.set_cons_succ]); (refine take_op (i := 5) (v := ?_) rfl (by kernel_rfl) (by kernel_rfl) (by kernel_rfl) (fun _ _ _ h => h) (by rfl) ?_ hHeld ?_; rotate_left; (· (intro wS hSw; (try dsimp only at hSw); go_simp; first | done | with_reducible rfl)); simp only [Act.put, List.setIfInBounds_toArray, List.set_cons_zero, List.set_cons_succ]); (refine take_op (i := 6) (v := ?_) rfl (by kernel_rfl) (by kernel_rfl) (by kernel_rfl) (fun _ _ _ h => h) (by rfl) ?_ hHeld ?_; rotate_left; (· (intro wS hSw; (try dsimp only at hSw); go_simp; first | done | with_reducible rfl)); simp only [Act.put, List.setIfInBounds_toArray, List.set_cons_zero, List.set_cons_succ]); (refine take_op (i := 7) (v := ?_) rfl (by kernel_rfl) (by kernel_rfl) (by kernel_rfl) (fun _ _ _ h => h) (by rfl) ?_ hHeld ?_; rotate_left; (· (intro wS hSw; (try dsimp only at hSw); go_simp; first | done | with_reducible rfl)); simp only [Act.put, List.setIfInBounds_toArray, List.set_cons_zero, List.set_cons_succ]); (refine take_op (i := 9) (v := ?_) rfl (by kernel_rfl) (by kernel_rfl) (by kernel_rfl) (fun _ _ _ h => h) (by rfl) ?_ hHeld ?_; rotate_left; (· (intro wS hSw; (try dsimp only at hSw); go_simp; first | done | with_reducible rfl)); simp only [Act.put, List.setIfInBounds_toArray, List.set_cons_zero, List.set_cons_succ]); (refine take_op (i := 10) (v := ?_) rfl (by kernel_rfl) (by kernel_rfl) (by kernel_rfl) (fun _ _ _ h => h) (by rfl) ?_ hHeld ?_; rotate_left; (· (intro wS hSw; (try dsimp only at hSw); go_simp; first | done | with_reducible rfl)); simp only [Act.put, List.setIfInBounds_toArray, List.set_cons_zero, List.set_cons_succ]); (refine call_op (i := 8) rfl (by kernel_rfl) (by rfl) (fun K hK => ?_); go_simp; (go_at_call 18; (with_reducible refine (Hsa.out _ P6.ha P6.hb).mono ?_); rintro e w7 ⟨rfl, hb7⟩; have P7 := P6.keep hb7; clear P6); refine hK.out _ _ (P7.s) (fun hHeld2 => ?_); clear hK K hHeld; have hHeld := hHeld2; clear hHeld2; (try simp only [Act.put, List.setIfInBounds_toArray, List.set_cons_zero, List.set_cons_succ])); (refine call_op (i := 11) rfl (by kernel_rfl) (by rfl) (fun K hK => ?_); go_simp; (go_at_call 19; (with_reducible refine (Hsa7.out _ P7.ha P7.hb).mono ?_); rintro e w8 ⟨rfl, hb8⟩; have P8 := P7.keep hb8; clear P7); refine hK.out _ _ (P8.s) (fun hHeld2 => ?_); clear hK K hHeld; have hHeld := hHeld2; clear hHeld2; (try simp only [Act.put, List.setIfInBounds_toArray, List.set_cons_zero, List.set_cons_succ])); (refine take_op (i := 12) (v := ?_) rfl (by kernel_rfl) (by kernel_rfl) (by kernel_rfl) (fun _ _ _ h => h) (by rfl) ?_ hHeld ?_; rotate_left; (· (intro wS hSw; (try dsimp only at hSw); go_simp; first | done | with_reducible rfl)); simp only [Act.put, List.setIfInBounds_toArray, List.set_cons_zero, List.set_cons_succ]); (refine take_op (i := 13) (v := ?_) rfl (by kernel_rfl) (by kernel_rfl) (by kernel_rfl) (fun _ _ _ h => h) (by rfl) ?_ hHeld ?_; rotate_left; (· (intro wS hSw; (try dsimp only at hSw); go_simp; first | done | with_reducible rfl)); simp only [Act.put, List.setIfInBounds_toArray, List.set_cons_zero, List.set_cons_succ]); (refine take_op (i := 14) (v := ?_) rfl (by kernel_rfl) (by kernel_rfl) (by kernel_rfl) (fun _ _ _ h => h) (by rfl) ?_ hHeld ?_; rotate_left; (· (intro wS hSw; (try dsimp only at hSw); go_simp; first | done | with_reducible rfl)); simp only [Act.put, List.setIfInBounds_toArray, List.set_cons_zero, List.set_cons_succ]); (refine take_op (i := 15) (v := ?_) rfl (by kernel_rfl) (by kernel_rfl) (by kernel_rfl) (fun _ _ _ h => h) (by rfl) ?_ hHeld ?_; rotate_left; (· (intro wS hSw; (try dsimp only at hSw); go_simp; first | done | with_reducible rfl)); simp only [Act.put, List.setIfInBounds_toArray, List.set_cons_zero, List.set_cons_succ]); (refine take_op (i := 16) (v := ?_) rfl (by kernel_rfl) (by kernel_rfl) (by kernel_rfl) (fun _ _ _ h => h) (by rfl) ?_ hHeld ?_; rotate_left; (· (intro wS hSw; (try dsimp only at hSw); go_simp; first | done | with_reducible rfl)); simp only [Act.put, List.setIfInBounds_toArray, List.set_cons_zero, List.set_cons_succ]); (refine call_op (i := 17) rfl (by kernel_rfl) (by rfl) (fun K hK => ?_); go_simp; (go_at_call 19; (with_reducible refine (Hxy.out _ _ _ _ _ _ _ P8.hx P8.hy).mono ?_); rintro e w9 ⟨rfl, hb9⟩; have P9 := P8.keep hb9; clear P8); refine hK.out _ _ (P9.s) (fun hHeld2 => ?_); clear hK K hHeld; have hHeld := hHeld2; clear hHeld2; (try simp only [Act.put, List.setIfInBounds_toArray, List.set_cons_zero, List.set_cons_succ])); (refine take_op (i := 18) (v := ?_) rfl (by kernel_rfl) (by kernel_rfl) (by kernel_rfl) (fun _ _ _ h => h) (by rfl) ?_ hHeld ?_; rotate_left; (· (intro wS hSw; (try dsimp only at hSw); go_simp; first | done | with_reducible rfl)); simp only [Act.put, List.setIfInBounds_toArray, List.set_cons_zero, List.set_cons_succ]); (refine take_op (i := 19) (v := ?_) rfl (by kernel_rfl) (by kernel_rfl) (by kernel_rfl) (fun _ _ _ h => h) (by rfl) ?_ hHeld ?_; rotate_left; (· (intro wS hSw; (try dsimp only at hSw); go_simp; first | done | with_reducible rfl)); simp only [Act.put, List.setIfInBounds_toArray, List.set_cons_zero, List.set_cons_succ]); (refine take_op (i := 20) (v := ?_) rfl (by kernel_rfl) (by kernel_rfl) (by kernel_rfl) (fun _ _ _ h => h) (by rfl) ?_ hHeld ?_; rotate_left; (· (intro wS hSw; (try dsimp only at hSw); go_simp; first | done | with_reducible rfl)); simp only [Act.put, List.setIfInBounds_toArray, List.set_cons_zero, List.set_cons_succ]); (refine take_op (i := 21) (v := ?_) rfl (by kernel_rfl) (by kernel_rfl) (by kernel_rfl) (fun _ _ _ h => h) (by rfl) ?_ hHeld ?_; rotate_left; (· (intro wS hSw; (try dsimp only at hSw); go_simp; first | done | with_reducible rfl)); simp only [Act.put, List.setIfInBounds_toArray, List.set_cons_zero, List.set_cons_succ]); (refine take_op (i := 22) (v := ?_) rfl (by kernel_rfl) (by kernel_rfl) (by kernel_rfl) (fun _ _ _ h => h) (by rfl) ?_ hHeld ?_; rotate_left; (· (intro wS hSw; (try dsimp only at hSw); go_simp; first | done | with_reducible rfl)); simp only [Act.put, List.setIfInBounds_toArray, List.set_cons_zero, List.set_cons_succ]); (refine take_op (i := 23) (v := ?_) rfl (by kernel_rfl) (by kernel_rfl) (by kernel_rfl) (fun _ _ _ h => h) (by rfl) ?_ hHeld ?_; rotate_left; (· (intro wS hSw; (try dsimp only at hSw); go_simp; first | done | with_reducible rfl)); simp only [Act.put, List.setIfInBounds_toArray, List.set_cons_zero, List.set_cons_succ]); (refine take_op (i := 24) (v := ?_) rfl (by kernel_rfl) (by kernel_rfl) (by kernel_rfl) (fun _ _ _ h => h) (by rfl) ?_ hHeld ?_; rotate_left; (· (intro wS hSw; (try dsimp only at hSw); go_simp; first | done | with_reducible rfl)); simp only [Act.put, List.setIfInBounds_toArray, List.set_cons_zero, List.set_cons_succ]); (refine call_op (i := 25) rfl (by kernel_rfl) (by rfl) (fun K hK => ?_); go_simp; (go_at_call 14; (with_reducible refine (haw _).mono ?_); rintro e w10 ⟨rfl, hb10⟩; have P10 := P9.keep hb10; clear P9); refine hK.out _ _ (P10.s) (fun hHeld2 => ?_); clear hK K hHeld; have hHeld := hHeld2; clear hHeld2; (try simp only [Act.put, List.setIfInBounds_toArray, List.set_cons_zero, List.set_cons_succ])); (refine take_op (i := 26) (v := ?_) rfl (by kernel_rfl) (by kernel_rfl) (by kernel_rfl) (fun _ _ _ h => h) (by rfl) ?_ hHeld ?_; rotate_left; (· (intro wS hSw; (try dsimp only at hSw); go_simp; first | done | with_reducible rfl)); simp only [Act.put, List.setIfInBounds_toArray, List.set_cons_zero, List.set_cons_succ]); (refine take_op (i := 27) (v := ?_) rfl (by kernel_rfl) (by kernel_rfl) (by kernel_rfl) (fun _ _ _ h => h) (by rfl) ?_ hHeld ?_; rotate_left; (· (intro wS hSw; (try dsimp only at hSw); go_simp; first | done | with_reducible rfl)); simp only [Act.put, List.setIfInBounds_toArray, List.set_cons_zero, List.set_cons_succ]); (refine wpAnyH_done (by kernel_rfl) ?_ _); have PF := P10)
  go_wp2_with fail
  go_ret
  exact ⟨rfl, PF.b⟩
end Go.Proofs.Ytbmognchbldfdaa
