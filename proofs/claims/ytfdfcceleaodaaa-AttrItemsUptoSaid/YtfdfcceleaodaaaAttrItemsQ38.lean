/- The walk of the law AttrItems. -/
import Derived.Test.YtfdfcceleaodaaaAttrItemsQ37
import Derived.Test.YtfdfcceleaodaaaAttrItemsQ28
import Derived.Test.YtfdfcceleaodaaaAttrItemsQ33
import Derived.Test.YtfdfcceleaodaaaAttrItemsQ13
import Derived.WalkKit
import Derived.WalkSpells
import Derived.WalkLawsBesides
import Derived.Deep.RegionHeld3
import Derived.Deep.DrawnRows
import Derived.Deep.DeepCutAuto
import Derived.Deep.DeepFit
import Derived.Lib.Hide
import Derived.BigQuiet
import Derived.Deep.QuietTactic
namespace Go.Proofs.Ytfdfcceleaodaaa
open Go.RowKit
set_option linter.unusedVariables false
set_option linter.unusedSimpArgs false
set_option maxRecDepth 20000
attribute [local go_sem ↓] Go.wp_at_zero Go.wp_at_succ
attribute [local go_sem] World.cell?_alloc_some frozen_alloc_some
attribute [local go_sem] lt2 lt3 lt4 lt5
attribute [local simp] lt2 lt3 lt4 lt5

abbrev atC (A : Option Addr) (m c : Nat) (q t : Int) : Array Value := #[.slice A m c, .int .i64 q, .int .i64 t]
theorem asame_self (a : AttrP) : asame a a = true := asame_iff.2 rfl
set_option maxHeartbeats 8000000 in
theorem attritems_walk (A : Option Addr) (m c : Nat) (q tg : Int) (l : List IdP) (t : Tree) (v : Value) (w : World) (h1 : IdsAt w A m l) (hv : Holds w t v) (hsz : tsize t ≤ 1048576) :
    Calls Try.prog 3 #[.agg #[.slice A m c, .int .i64 q, .int .i64 tg], v] w (Gives w (.bool true)) := by
  have aw := fun W => awake07 W
  have sz : ∀ W, Below w.heap.size w W → Calls Try.prog 4 #[v, .int .i64 300, .int .i64 40] W (Gives W (.int .i64 (csize 300 40 t : Int))) := fun W h => refsize_any 300 (by decide) 40 t _ W (Holds.keep h hv) hsz (by decide)
  have ck := fun W (h : Below w.heap.size w W) => check7_any A m c q tg l W (h1.keep h)
  have tk := fun W (h : Below w.heap.size w W) => attrtake_any t v W (Holds.keep h hv)
  have rtk := fun W (h : Below w.heap.size w W) => refattrtake_any t v W (Holds.keep h hv)
  have tko := fun W (h : Below w.heap.size w W) => attrtakeold_any t v W (Holds.keep h hv)
  have rtko := fun W (h : Below w.heap.size w W) => refattrtakeold_any t v W (Holds.keep h hv)
  have Hm := Lib.hid h1.1
  have H1 := Lib.hid h1
  obtain ⟨xk, xn, xs, lt⟩ := t
  obtain ⟨xA, xm, xc, rfl, -, -, -, -, -, -, -⟩ := hv.open_
  generalize csize 300 40 (.mk xk xn xs lt) = z at *
  unfold TkA at tk rtk tko rtko
  have s1 := fun W A c A2 c2 (i1 : IdsAt W A ((atake (.mk xk xn xs lt)).getD azero).l.length ((atake (.mk xk xn xs lt)).getD azero).l) (i2 : IdsAt W A2 ((atake (.mk xk xn xs lt)).getD azero).l.length ((atake (.mk xk xn xs lt)).getD azero).l) =>
    same7_any A A2 _ c _ c2 ((atake (.mk xk xn xs lt)).getD azero).q ((atake (.mk xk xn xs lt)).getD azero).t ((atake (.mk xk xn xs lt)).getD azero).q ((atake (.mk xk xn xs lt)).getD azero).t _ _ W i1 i2
  have s2 := fun W A c A2 c2 (i1 : IdsAt W A ((otake (.mk xk xn xs lt)).getD azero).l.length ((otake (.mk xk xn xs lt)).getD azero).l) (i2 : IdsAt W A2 ((otake (.mk xk xn xs lt)).getD azero).l.length ((otake (.mk xk xn xs lt)).getD azero).l) =>
    same7_any A A2 _ c _ c2 ((otake (.mk xk xn xs lt)).getD azero).q ((otake (.mk xk xn xs lt)).getD azero).t ((otake (.mk xk xn xs lt)).getD azero).q ((otake (.mk xk xn xs lt)).getD azero).t _ _ W i1 i2
  simp only [asame_self] at s1 s2
  generalize (atake (.mk xk xn xs lt)).isSome = b1 at *
  generalize (otake (.mk xk xn xs lt)).isSome = b2 at *
  generalize ((atake (.mk xk xn xs lt)).getD azero).l = G1 at *
  generalize ((atake (.mk xk xn xs lt)).getD azero).q = q1 at *
  generalize ((atake (.mk xk xn xs lt)).getD azero).t = t1 at *
  generalize ((otake (.mk xk xn xs lt)).getD azero).l = G2 at *
  generalize ((otake (.mk xk xn xs lt)).getD azero).q = q2 at *
  generalize ((otake (.mk xk xn xs lt)).getD azero).t = t2 at *
  have TK := Lib.hid tk
  have RTK := Lib.hid rtk
  have TKO := Lib.hid tko
  have RTKO := Lib.hid rtko
  have S1 := Lib.hid s1
  have S2 := Lib.hid s2
  have hbb1 : (b1 == b1) = true := by cases b1 <;> rfl
  have hbb2 : (b2 == b2) = true := by cases b2 <;> rfl
  clear hv h1 hsz tk rtk tko rtko s1 s2
  have XA : Blk ((w.alloc (.cells (atC A m c q tg) 24)).alloc (.cells #[.int .i64 xk, .int .u64 (xn : Int), .string xs, .slice xA xm xc] 28)) w.heap.size 24 (atC A m c q tg) := (Blk.new w _ _).alloc _
  have XI : Blk ((w.alloc (.cells (atC A m c q tg) 24)).alloc (.cells #[.int .i64 xk, .int .u64 (xn : Int), .string xs, .slice xA xm xc] 28)) (w.heap.size + 1) 28 #[.int .i64 xk, .int .u64 (xn : Int), .string xs, .slice xA xm xc] := Blk.newAt (by simp)
  have k0 : Below w.heap.size w ((w.alloc (.cells (atC A m c q tg) 24)).alloc (.cells #[.int .i64 xk, .int .u64 (xn : Int), .string xs, .slice xA xm xc] 28)) := by ((repeat' first | with_reducible exact Below.refl _ _ | with_reducible assumption | with_reducible refine Below.alloc ?_ ?_ _ | with_reducible refine Below.setCell ?_ ?_ _ | with_reducible apply Below.drew | with_reducible apply below_drewN | with_reducible refine below_call ?_ (by with_reducible assumption) ?_) <;> (first | omega | (simp; done) | (simp; omega) | (simp at *; omega)))
  have xa := XA.cell
  have xi := XI.cell
  by_cases g1 : 60 < m
  · have g1' : (60 : Int) < (m : Int) := by omega
    clear sz ck TK RTK TKO RTKO S1 S2
    go_enter Try.func3, Try.ntmps3
    go_wp2_with (go_at_call 5; (with_reducible refine (aw _).mono ?_); rintro e w1 ⟨rfl, hb1⟩; have k1 := below_call k0 hb1 k0.size)
    go_ret
    exact ⟨rfl, k1⟩
  have g1' : ¬ (60 : Int) < (m : Int) := by omega
  by_cases g2 : 300 < z
  · have g2' : (300 : Int) < (z : Int) := by omega
    clear ck TK RTK TKO RTKO S1 S2
    go_enter Try.func3, Try.ntmps3
    go_wp2_with (first | (go_at_call 4; (with_reducible refine (sz _ k0).mono ?_); rintro e w1 ⟨rfl, hb1⟩; have k1 := below_call k0 hb1 k0.size) | (go_at_call 5; (with_reducible refine (aw _).mono ?_); rintro e w2 ⟨rfl, hb2⟩; have k2 := below_call k1 hb2 k1.size))
    go_ret
    exact ⟨rfl, k2⟩
  have g2' : ¬ (300 : Int) < (z : Int) := by omega
  have ol := fun W (h : Below w.heap.size w W) => attrold_any A m c q tg l W (H1.out.keep h) (by omega)
  have OL := Lib.hid ol
  clear ol g1 g2
  by_cases z7 : acheck ⟨l, q, tg⟩ = 0
  case neg =>
    have e7 : oldE ⟨l, q, tg⟩ = 4 := by unfold oldE; rw [if_pos z7]
    rw [e7] at OL
    obtain ⟨g7, hg7⟩ : ∃ g, acheck ⟨l, q, tg⟩ = g := ⟨_, rfl⟩
    rw [hg7] at z7 ck
    have z7' : ((g7 : Int) != 0) = true := by simp; omega
    have z7'' : ((g7 : Int) == 0) = false := by simp; omega
    clear hg7 e7
    obtain ⟨T1, hT1⟩ : ∃ b, (tg != (1 : Int)) = b := ⟨_, rfl⟩
    cases T1
    all_goals
      go_enter Try.func3, Try.ntmps3
      go_upto_region 19 with (first
        | (go_at_call 4; (with_reducible refine (sz _ k0).mono ?_); rintro e w1 ⟨rfl, hb1⟩; have k1 := below_call k0 hb1 k0.size; have XA1 := XA.keep hb1; have XI1 := XI.keep hb1; have xa1 := XA1.cell)
        | (go_at_call 6; (with_reducible refine (OL.out _ k1).mono ?_); clear OL; rintro e w2 ⟨ok, on, os, oA, om, oc, rfl, -, hb2⟩; have k2' := below_call k1 hb2 k1.size; have k2 := k2'.alloc k2'.size (.cells #[.int .i64 ok, .int .u64 on, .string os, .slice oA om oc] 28); have XA2 := (XA1.keep hb2).alloc (.cells #[.int .i64 ok, .int .u64 on, .string os, .slice oA om oc] 28); have XI2 := (XI1.keep hb2).alloc (.cells #[.int .i64 ok, .int .u64 on, .string os, .slice oA om oc] 28); have xa2 := XA2.cell)
        | (go_at_call 7; (with_reducible refine (ck _ k2).mono ?_); rintro e w3 ⟨rfl, hb3⟩; have k3 := below_call k2 hb3 k2.size; have XA3 := XA2.keep hb3; have XI3 := XI2.keep hb3; have xa3 := XA3.cell)
        | (go_at_call 7; (with_reducible refine (ck _ k3).mono ?_); rintro e w4 ⟨rfl, hb4⟩; have kk := below_call k3 hb4 k3.size; have XX := XI3.keep hb4))
      clear XA XI k0 xa xi k1 XA1 XI1 xa1 k2' k2 XA2 XI2 xa2 k3 XA3 XI3 xa3 sz ck
    · have xx := XX.cell
      go_wp2_with (first
        | (go_at_call 8; (with_reducible refine (TK.out _ kk).mono ?_); clear TK; rintro e w7 ⟨A7, c7, rfl, i7, -, hb7⟩; have k7' := below_call kk hb7 kk.size; have k7 := k7'.alloc k7'.size (.cells #[.slice A7 G1.length c7, .int .i64 q1, .int .i64 t1] 24); have X7 := (XX.keep hb7).alloc (.cells #[.slice A7 G1.length c7, .int .i64 q1, .int .i64 t1] 24); have x7 := X7.cell; have B7 := Blk.new w7 24 #[.slice A7 G1.length c7, .int .i64 q1, .int .i64 t1]; have j7 := i7.keep (below_one (.cells #[.slice A7 G1.length c7, .int .i64 q1, .int .i64 t1] 24)))
        | (go_at_call 15; (with_reducible refine (RTK.out _ k7).mono ?_); clear RTK; rintro e w8 ⟨A8, c8, rfl, i8, -, hb8⟩; have k8' := below_call k7 hb8 k7.size; have k8 := k8'.alloc k8'.size (.cells #[.slice A8 G1.length c8, .int .i64 q1, .int .i64 t1] 24); have X8 := (X7.keep hb8).alloc (.cells #[.slice A8 G1.length c8, .int .i64 q1, .int .i64 t1] 24); have x8 := X8.cell; have B8 := Blk.new w8 24 #[.slice A8 G1.length c8, .int .i64 q1, .int .i64 t1]; have j8 := i8.keep (below_one (.cells #[.slice A8 G1.length c8, .int .i64 q1, .int .i64 t1] 24)); replace B7 := (B7.keep hb8).alloc (.cells #[.slice A8 G1.length c8, .int .i64 q1, .int .i64 t1] 24); replace j7 := (j7.keep hb8).keep (below_one (.cells #[.slice A8 G1.length c8, .int .i64 q1, .int .i64 t1] 24)))
        | (go_at_call 13; (with_reducible refine (TKO.out _ k8).mono ?_); clear TKO; rintro e w9 ⟨A9, c9, rfl, i9, -, hb9⟩; have k9' := below_call k8 hb9 k8.size; have k9 := k9'.alloc k9'.size (.cells #[.slice A9 G2.length c9, .int .i64 q2, .int .i64 t2] 24); have X9 := (X8.keep hb9).alloc (.cells #[.slice A9 G2.length c9, .int .i64 q2, .int .i64 t2] 24); have x9 := X9.cell; have B9 := Blk.new w9 24 #[.slice A9 G2.length c9, .int .i64 q2, .int .i64 t2]; have j9 := i9.keep (below_one (.cells #[.slice A9 G2.length c9, .int .i64 q2, .int .i64 t2] 24)); replace B7 := (B7.keep hb9).alloc (.cells #[.slice A9 G2.length c9, .int .i64 q2, .int .i64 t2] 24); replace j7 := (j7.keep hb9).keep (below_one (.cells #[.slice A9 G2.length c9, .int .i64 q2, .int .i64 t2] 24)); replace B8 := (B8.keep hb9).alloc (.cells #[.slice A9 G2.length c9, .int .i64 q2, .int .i64 t2] 24); replace j8 := (j8.keep hb9).keep (below_one (.cells #[.slice A9 G2.length c9, .int .i64 q2, .int .i64 t2] 24)))
        | (go_at_call 16; (with_reducible refine (RTKO.out _ k9).mono ?_); clear RTKO; rintro e w10 ⟨A10, c10, rfl, i10, -, hb10⟩; have k10' := below_call k9 hb10 k9.size; have k10 := k10'.alloc k10'.size (.cells #[.slice A10 G2.length c10, .int .i64 q2, .int .i64 t2] 24); have X10 := (X9.keep hb10).alloc (.cells #[.slice A10 G2.length c10, .int .i64 q2, .int .i64 t2] 24); have x10 := X10.cell; have B10 := Blk.new w10 24 #[.slice A10 G2.length c10, .int .i64 q2, .int .i64 t2]; have j10 := i10.keep (below_one (.cells #[.slice A10 G2.length c10, .int .i64 q2, .int .i64 t2] 24)); replace B7 := (B7.keep hb10).alloc (.cells #[.slice A10 G2.length c10, .int .i64 q2, .int .i64 t2] 24); replace j7 := (j7.keep hb10).keep (below_one (.cells #[.slice A10 G2.length c10, .int .i64 q2, .int .i64 t2] 24)); replace B8 := (B8.keep hb10).alloc (.cells #[.slice A10 G2.length c10, .int .i64 q2, .int .i64 t2] 24); replace j8 := (j8.keep hb10).keep (below_one (.cells #[.slice A10 G2.length c10, .int .i64 q2, .int .i64 t2] 24)); replace B9 := (B9.keep hb10).alloc (.cells #[.slice A10 G2.length c10, .int .i64 q2, .int .i64 t2] 24); replace j9 := (j9.keep hb10).keep (below_one (.cells #[.slice A10 G2.length c10, .int .i64 q2, .int .i64 t2] 24)); have b7 := B7.cell; have b8 := B8.cell; have b9 := B9.cell; have b10 := B10.cell)
        | (go_at_call 12; (with_reducible refine (S1.out _ _ _ _ _ j7 j8).mono ?_); clear S1; rintro e w11 ⟨rfl, hb11⟩; have k11 := below_call k10 hb11 k10.size; have b9' := (B9.keep hb11).cell; have b10' := (B10.keep hb11).cell; have j9' := j9.keep hb11; have j10' := j10.keep hb11)
        | (go_at_call 12; (with_reducible refine (S2.out _ _ _ _ _ j9' j10').mono ?_); clear S2; rintro e w12 ⟨rfl, hb12⟩; have k12 := below_call k11 hb12 k11.size)
        | (go_at_call 5; (with_reducible refine (aw _).mono ?_); rintro e w13 ⟨rfl, hb13⟩; have k13 := below_call k12 hb13 k12.size))
      go_ret
      exact ⟨rfl, k13⟩
    · have xx := XX.cell
      go_wp2_with (first
        | (go_at_call 8; (with_reducible refine (TK.out _ kk).mono ?_); clear TK; rintro e w7 ⟨A7, c7, rfl, i7, -, hb7⟩; have k7' := below_call kk hb7 kk.size; have k7 := k7'.alloc k7'.size (.cells #[.slice A7 G1.length c7, .int .i64 q1, .int .i64 t1] 24); have X7 := (XX.keep hb7).alloc (.cells #[.slice A7 G1.length c7, .int .i64 q1, .int .i64 t1] 24); have x7 := X7.cell; have B7 := Blk.new w7 24 #[.slice A7 G1.length c7, .int .i64 q1, .int .i64 t1]; have j7 := i7.keep (below_one (.cells #[.slice A7 G1.length c7, .int .i64 q1, .int .i64 t1] 24)))
        | (go_at_call 15; (with_reducible refine (RTK.out _ k7).mono ?_); clear RTK; rintro e w8 ⟨A8, c8, rfl, i8, -, hb8⟩; have k8' := below_call k7 hb8 k7.size; have k8 := k8'.alloc k8'.size (.cells #[.slice A8 G1.length c8, .int .i64 q1, .int .i64 t1] 24); have X8 := (X7.keep hb8).alloc (.cells #[.slice A8 G1.length c8, .int .i64 q1, .int .i64 t1] 24); have x8 := X8.cell; have B8 := Blk.new w8 24 #[.slice A8 G1.length c8, .int .i64 q1, .int .i64 t1]; have j8 := i8.keep (below_one (.cells #[.slice A8 G1.length c8, .int .i64 q1, .int .i64 t1] 24)); replace B7 := (B7.keep hb8).alloc (.cells #[.slice A8 G1.length c8, .int .i64 q1, .int .i64 t1] 24); replace j7 := (j7.keep hb8).keep (below_one (.cells #[.slice A8 G1.length c8, .int .i64 q1, .int .i64 t1] 24)))
        | (go_at_call 13; (with_reducible refine (TKO.out _ k8).mono ?_); clear TKO; rintro e w9 ⟨A9, c9, rfl, i9, -, hb9⟩; have k9' := below_call k8 hb9 k8.size; have k9 := k9'.alloc k9'.size (.cells #[.slice A9 G2.length c9, .int .i64 q2, .int .i64 t2] 24); have X9 := (X8.keep hb9).alloc (.cells #[.slice A9 G2.length c9, .int .i64 q2, .int .i64 t2] 24); have x9 := X9.cell; have B9 := Blk.new w9 24 #[.slice A9 G2.length c9, .int .i64 q2, .int .i64 t2]; have j9 := i9.keep (below_one (.cells #[.slice A9 G2.length c9, .int .i64 q2, .int .i64 t2] 24)); replace B7 := (B7.keep hb9).alloc (.cells #[.slice A9 G2.length c9, .int .i64 q2, .int .i64 t2] 24); replace j7 := (j7.keep hb9).keep (below_one (.cells #[.slice A9 G2.length c9, .int .i64 q2, .int .i64 t2] 24)); replace B8 := (B8.keep hb9).alloc (.cells #[.slice A9 G2.length c9, .int .i64 q2, .int .i64 t2] 24); replace j8 := (j8.keep hb9).keep (below_one (.cells #[.slice A9 G2.length c9, .int .i64 q2, .int .i64 t2] 24)))
        | (go_at_call 16; (with_reducible refine (RTKO.out _ k9).mono ?_); clear RTKO; rintro e w10 ⟨A10, c10, rfl, i10, -, hb10⟩; have k10' := below_call k9 hb10 k9.size; have k10 := k10'.alloc k10'.size (.cells #[.slice A10 G2.length c10, .int .i64 q2, .int .i64 t2] 24); have X10 := (X9.keep hb10).alloc (.cells #[.slice A10 G2.length c10, .int .i64 q2, .int .i64 t2] 24); have x10 := X10.cell; have B10 := Blk.new w10 24 #[.slice A10 G2.length c10, .int .i64 q2, .int .i64 t2]; have j10 := i10.keep (below_one (.cells #[.slice A10 G2.length c10, .int .i64 q2, .int .i64 t2] 24)); replace B7 := (B7.keep hb10).alloc (.cells #[.slice A10 G2.length c10, .int .i64 q2, .int .i64 t2] 24); replace j7 := (j7.keep hb10).keep (below_one (.cells #[.slice A10 G2.length c10, .int .i64 q2, .int .i64 t2] 24)); replace B8 := (B8.keep hb10).alloc (.cells #[.slice A10 G2.length c10, .int .i64 q2, .int .i64 t2] 24); replace j8 := (j8.keep hb10).keep (below_one (.cells #[.slice A10 G2.length c10, .int .i64 q2, .int .i64 t2] 24)); replace B9 := (B9.keep hb10).alloc (.cells #[.slice A10 G2.length c10, .int .i64 q2, .int .i64 t2] 24); replace j9 := (j9.keep hb10).keep (below_one (.cells #[.slice A10 G2.length c10, .int .i64 q2, .int .i64 t2] 24)); have b7 := B7.cell; have b8 := B8.cell; have b9 := B9.cell; have b10 := B10.cell)
        | (go_at_call 12; (with_reducible refine (S1.out _ _ _ _ _ j7 j8).mono ?_); clear S1; rintro e w11 ⟨rfl, hb11⟩; have k11 := below_call k10 hb11 k10.size; have b9' := (B9.keep hb11).cell; have b10' := (B10.keep hb11).cell; have j9' := j9.keep hb11; have j10' := j10.keep hb11)
        | (go_at_call 12; (with_reducible refine (S2.out _ _ _ _ _ j9' j10').mono ?_); clear S2; rintro e w12 ⟨rfl, hb12⟩; have k12 := below_call k11 hb12 k11.size)
        | (go_at_call 5; (with_reducible refine (aw _).mono ?_); rintro e w13 ⟨rfl, hb13⟩; have k13 := below_call k12 hb13 k12.size))
      go_ret
      exact ⟨rfl, k13⟩
  have it := fun W (h : Below w.heap.size w W) => attritem_any A m c q tg l W (H1.out.keep h) (by omega)
  have rit := fun W (h : Below w.heap.size w W) => refattritem_any A m c q tg l W (H1.out.keep h) (by omega)
  have ty := fun v W (h : Holds W (atree l q tg) v) => attrtake_any (atree l q tg) v W h
  rw [atake_item z7] at ty
  unfold TkA at ty
  simp only [Option.getD_some, Option.isSome_some] at ty
  have sm := fun v x W (h : Holds W (atree l q tg) v) (h2 : Holds W (atree l q tg) x) => codecsame_any (atree l q tg) (atree l q tg) v x W h h2
  rw [tsame_self] at sm
  have e6 := fun W A c A2 c2 (i1 : IdsAt W A m l) (i2 : IdsAt W A2 m l) => same7_any A A2 m c m c2 q tg q tg l l W i1 i2
  simp only [asame_self] at e6
  rw [← Hm.out] at ty
  unfold listV at it rit
  have IT := Lib.hid it
  have RIT := Lib.hid rit
  have TY := Lib.hid ty
  have SM := Lib.hid sm
  have E6 := Lib.hid e6
  clear it rit ty sm e6
  rw [z7] at ck
  by_cases ht1 : tg = 1
  case neg =>
    have e7 : oldE ⟨l, q, tg⟩ = 17 := by unfold oldE; rw [if_neg (by simp [z7]), if_pos (by simp [ht1])]
    rw [e7] at OL
    have hT1 : (tg != (1 : Int)) = true := by simp [ht1]
    clear e7 z7 ht1
    go_enter Try.func3, Try.ntmps3
    go_upto_region 13 with (first
        | (go_at_call 4; (with_reducible refine (sz _ k0).mono ?_); rintro e w1 ⟨rfl, hb1⟩; have k1 := below_call k0 hb1 k0.size; have XA1 := XA.keep hb1; have XI1 := XI.keep hb1; have xa1 := XA1.cell)
        | (go_at_call 6; (with_reducible refine (OL.out _ k1).mono ?_); clear OL; rintro e w2 ⟨ok, on, os, oA, om, oc, rfl, ho2, hb2⟩; have k2' := below_call k1 hb2 k1.size; have k2 := k2'.alloc k2'.size (.cells #[.int .i64 ok, .int .u64 on, .string os, .slice oA om oc] 28); have XA2 := (XA1.keep hb2).alloc (.cells #[.int .i64 ok, .int .u64 on, .string os, .slice oA om oc] 28); have XI2 := (XI1.keep hb2).alloc (.cells #[.int .i64 ok, .int .u64 on, .string os, .slice oA om oc] 28); have XO2 := Blk.new w2 28 #[.int .i64 ok, .int .u64 on, .string os, .slice oA om oc]; have xa2 := XA2.cell)
        | (go_at_call 7; (with_reducible refine (ck _ k2).mono ?_); rintro e w3 ⟨rfl, hb3⟩; have k3 := below_call k2 hb3 k2.size; have XA3 := XA2.keep hb3; have XI3 := XI2.keep hb3; have XO3 := XO2.keep hb3; have xa3 := XA3.cell)
        | (go_at_call 7; (with_reducible refine (ck _ k3).mono ?_); rintro e w4 ⟨rfl, hb4⟩; have k4 := below_call k3 hb4 k3.size; have XA4 := XA3.keep hb4; have XI4 := XI3.keep hb4; have XO4 := XO3.keep hb4; have xa4 := XA4.cell)
        | (go_at_call 9; (with_reducible refine (IT.out _ k4).mono ?_); rintro e w5 ⟨A5, c5, rfl, hi5, hb5⟩; have k5 := below_call k4 hb5 k4.size; have XA5 := XA4.keep hb5; have XI5 := XI4.keep hb5; have XO5 := XO4.keep hb5)
        | (go_at_call 8; (with_reducible refine (TY.out _ _ hi5.holds).mono ?_); clear TY; rintro e w6 ⟨A6, c6, rfl, i6, -, hb6⟩; have k6' := below_call k5 hb6 k5.size; have k6 := k6'.alloc k6'.size (.cells #[.slice A6 m c6, .int .i64 q, .int .i64 tg] 24); have XA6 := (XA5.keep hb6).alloc (.cells #[.slice A6 m c6, .int .i64 q, .int .i64 tg] 24); have XI6 := (XI5.keep hb6).alloc (.cells #[.slice A6 m c6, .int .i64 q, .int .i64 tg] 24); have XO6 := (XO5.keep hb6).alloc (.cells #[.slice A6 m c6, .int .i64 q, .int .i64 tg] 24); have XB6 := Blk.new w6 24 #[.slice A6 m c6, .int .i64 q, .int .i64 tg]; have j6 := i6.keep (below_one (.cells #[.slice A6 m c6, .int .i64 q, .int .i64 tg] 24))))
    have PA := XA6.drew
    have PI := XI6.drew
    have PO := XO6.drew
    have PB := XB6.drew
    have pk := k6.drew
    have pj := j6.keep (Below.refl _ _).drew
    have hb2d : Below w2.heap.size w2 (World.drew _) := ((((((below_one (.cells #[.int .i64 ok, .int .u64 on, .string os, .slice oA om oc] 28)).trans (hb3.mono (by simp))).trans (hb4.mono (by have := hb3.size; simp at this; omega))).trans (hb5.mono (by have := hb3.size; have := hb4.size; simp at *; omega))).trans (hb6.mono (by have := hb3.size; have := hb4.size; have := hb5.size; simp at *; omega))).alloc (by have := hb3.size; have := hb4.size; have := hb5.size; have := hb6.size; simp at *; omega) (.cells #[.slice A6 m c6, .int .i64 q, .int .i64 tg] 24)).drew
    clear XA XI k0 xa xi k1 XA1 XI1 xa1 k2' k2 XA2 XI2 XO2 xa2 k3 XA3 XI3 XO3 xa3 k4 XA4 XI4 XO4 xa4 k5 XA5 XI5 XO5 hi5 k6' k6 XA6 XI6 XO6 XB6 i6 j6 sz ck
    (refine wp_region_held_drew (S := (S11 w.heap.size w6.heap.size (atC A m c q tg) #[.slice A6 m c6, .int .i64 q, .int .i64 tg])) (by kernel_rfl) ?_ (fun hHeld => ?_); (· exact ⟨PA.cell, PB.cell⟩))
    revert hHeld PA PI PO PB pk pj hb2d
    generalize World.drew _ = wd
    intro PA PI PO PB pk pj hb2d hHeld
    (refine take_op (i := 0) (v := ?_) rfl (by kernel_rfl) (by kernel_rfl) (by kernel_rfl) (fun _ _ _ h => h) (by rfl) ?_ hHeld ?_; rotate_left; (· (intro wS hSw; (try dsimp only at hSw); go_simp; first | done | with_reducible rfl)); simp only [Act.put, List.setIfInBounds_toArray, List.set_cons_zero, List.set_cons_succ]); (refine take_op (i := 2) (v := ?_) rfl (by kernel_rfl) (by kernel_rfl) (by kernel_rfl) (fun _ _ _ h => h) (by rfl) ?_ hHeld ?_; rotate_left; (· (intro wS hSw; (try dsimp only at hSw); go_simp; first | done | with_reducible rfl)); simp only [Act.put, List.setIfInBounds_toArray, List.set_cons_zero, List.set_cons_succ])
    (refine call_op (i := 1) rfl (by kernel_rfl) (by rfl) (fun K hK => ?_); go_simp; (go_at_call 9; (with_reducible refine (IT.out _ pk).mono ?_); clear IT; rintro e w7 ⟨A7, c7, rfl, hi7, hb7⟩; replace PA := PA.keep hb7; replace PI := PI.keep hb7; replace PO := PO.keep hb7; replace PB := PB.keep hb7; replace pj := pj.keep hb7; replace hb2d := below_call hb2d hb7 hb2d.size; replace pk := below_call pk hb7 pk.size); refine hK.out _ _ ⟨PA.cell, PB.cell⟩ (fun hHeld2 => ?_); clear hK K hHeld; have hHeld := hHeld2; clear hHeld2; (try simp only [Act.put, List.setIfInBounds_toArray, List.set_cons_zero, List.set_cons_succ]))
    (refine call_op (i := 3) rfl (by kernel_rfl) (by rfl) (fun K hK => ?_); go_simp; (go_at_call 11; (with_reducible refine (RIT.out _ pk).mono ?_); clear RIT; rintro e w8 ⟨A8, c8, rfl, hi8, hb8⟩; have hi78 := hi7.holds.keep hb8; replace PA := PA.keep hb8; replace PI := PI.keep hb8; replace PO := PO.keep hb8; replace PB := PB.keep hb8; replace pj := pj.keep hb8; replace hb2d := below_call hb2d hb8 hb2d.size; replace pk := below_call pk hb8 pk.size); refine hK.out _ _ ⟨PA.cell, PB.cell⟩ (fun hHeld2 => ?_); clear hK K hHeld; have hHeld := hHeld2; clear hHeld2; (try simp only [Act.put, List.setIfInBounds_toArray, List.set_cons_zero, List.set_cons_succ]))
    (refine call_op (i := 4) rfl (by kernel_rfl) (by rfl) (fun K hK => ?_); go_simp; (go_at_call 10; (with_reducible refine (SM.out _ _ _ hi78 hi8.holds).mono ?_); clear SM; rintro e w9 ⟨rfl, hb9⟩; replace PA := PA.keep hb9; replace PI := PI.keep hb9; replace PO := PO.keep hb9; replace PB := PB.keep hb9; replace pj := pj.keep hb9; replace hb2d := below_call hb2d hb9 hb2d.size; replace pk := below_call pk hb9 pk.size); refine hK.out _ _ ⟨PA.cell, PB.cell⟩ (fun hHeld2 => ?_); clear hK K hHeld; have hHeld := hHeld2; clear hHeld2; (try simp only [Act.put, List.setIfInBounds_toArray, List.set_cons_zero, List.set_cons_succ]))
    (refine take_op (i := 5) (v := ?_) rfl (by kernel_rfl) (by kernel_rfl) (by kernel_rfl) (fun _ _ _ h => h) (by rfl) ?_ hHeld ?_; rotate_left; (· (intro wS hSw; (try dsimp only at hSw); go_simp; first | done | with_reducible rfl)); simp only [Act.put, List.setIfInBounds_toArray, List.set_cons_zero, List.set_cons_succ]); (refine take_op (i := 6) (v := ?_) rfl (by kernel_rfl) (by kernel_rfl) (by kernel_rfl) (fun _ _ _ h => h) (by rfl) ?_ hHeld ?_; rotate_left; (· (intro wS hSw; (try dsimp only at hSw); go_simp; first | done | with_reducible rfl)); simp only [Act.put, List.setIfInBounds_toArray, List.set_cons_zero, List.set_cons_succ]); (refine take_op (i := 7) (v := ?_) rfl (by kernel_rfl) (by kernel_rfl) (by kernel_rfl) (fun _ _ _ h => h) (by rfl) ?_ hHeld ?_; rotate_left; (· (intro wS hSw; (try dsimp only at hSw); go_simp; first | done | with_reducible rfl)); simp only [Act.put, List.setIfInBounds_toArray, List.set_cons_zero, List.set_cons_succ]); (refine take_op (i := 8) (v := ?_) rfl (by kernel_rfl) (by kernel_rfl) (by kernel_rfl) (fun _ _ _ h => h) (by rfl) ?_ hHeld ?_; rotate_left; (· (intro wS hSw; (try dsimp only at hSw); go_simp; first | done | with_reducible rfl)); simp only [Act.put, List.setIfInBounds_toArray, List.set_cons_zero, List.set_cons_succ]); (refine take_op (i := 9) (v := ?_) rfl (by kernel_rfl) (by kernel_rfl) (by kernel_rfl) (fun _ _ _ h => h) (by rfl) ?_ hHeld ?_; rotate_left; (· (intro wS hSw; (try dsimp only at hSw); go_simp; first | done | with_reducible rfl)); simp only [Act.put, List.setIfInBounds_toArray, List.set_cons_zero, List.set_cons_succ]); (refine take_op (i := 10) (v := ?_) rfl (by kernel_rfl) (by kernel_rfl) (by kernel_rfl) (fun _ _ _ h => h) (by rfl) ?_ hHeld ?_; rotate_left; (· (intro wS hSw; (try dsimp only at hSw); go_simp; first | done | with_reducible rfl)); simp only [Act.put, List.setIfInBounds_toArray, List.set_cons_zero, List.set_cons_succ]); (refine take_op (i := 11) (v := ?_) rfl (by kernel_rfl) (by kernel_rfl) (by kernel_rfl) (fun _ _ _ h => h) (by rfl) ?_ hHeld ?_; rotate_left; (· (intro wS hSw; (try dsimp only at hSw); go_simp; first | done | with_reducible rfl)); simp only [Act.put, List.setIfInBounds_toArray, List.set_cons_zero, List.set_cons_succ]); (refine take_op (i := 12) (v := ?_) rfl (by kernel_rfl) (by kernel_rfl) (by kernel_rfl) (fun _ _ _ h => h) (by rfl) ?_ hHeld ?_; rotate_left; (· (intro wS hSw; (try dsimp only at hSw); go_simp; first | done | with_reducible rfl)); simp only [Act.put, List.setIfInBounds_toArray, List.set_cons_zero, List.set_cons_succ])
    (refine call_op (i := 13) rfl (by kernel_rfl) (by rfl) (fun K hK => ?_); go_simp; (go_at_call 12; (with_reducible refine (E6.out _ _ _ _ _ (H1.out.keep pk) pj).mono ?_); rintro e w10 ⟨rfl, hb10⟩; replace PA := PA.keep hb10; replace PI := PI.keep hb10; replace PO := PO.keep hb10; replace PB := PB.keep hb10; replace pj := pj.keep hb10; replace hb2d := below_call hb2d hb10 hb2d.size; replace pk := below_call pk hb10 pk.size); refine hK.out _ _ ⟨PA.cell, PB.cell⟩ (fun hHeld2 => ?_); clear hK K hHeld; have hHeld := hHeld2; clear hHeld2; (try simp only [Act.put, List.setIfInBounds_toArray, List.set_cons_zero, List.set_cons_succ]))
    (refine take_op (i := 14) (v := ?_) rfl (by kernel_rfl) (by kernel_rfl) (by kernel_rfl) (fun _ _ _ h => h) (by rfl) ?_ hHeld ?_; rotate_left; (· (intro wS hSw; (try dsimp only at hSw); go_simp; first | done | with_reducible rfl)); simp only [Act.put, List.setIfInBounds_toArray, List.set_cons_zero, List.set_cons_succ]); (refine take_op (i := 15) (v := ?_) rfl (by kernel_rfl) (by kernel_rfl) (by kernel_rfl) (fun _ _ _ h => h) (by rfl) ?_ hHeld ?_; rotate_left; (· (intro wS hSw; (try dsimp only at hSw); go_simp; first | done | with_reducible rfl)); simp only [Act.put, List.setIfInBounds_toArray, List.set_cons_zero, List.set_cons_succ])
    (refine wpAnyH_done (by kernel_rfl) ?_ _)
    clear hHeld hi7 hi8 hi78 PB pj
    go_upto_region 19 with fail
    have kk := pk
    have XX := PI
    clear pk PI PA PO
    have xx := XX.cell
    go_wp2_with (first
      | (go_at_call 8; (with_reducible refine (TK.out _ kk).mono ?_); clear TK; rintro e w7 ⟨A7, c7, rfl, i7, -, hb7⟩; have k7' := below_call kk hb7 kk.size; have k7 := k7'.alloc k7'.size (.cells #[.slice A7 G1.length c7, .int .i64 q1, .int .i64 t1] 24); have X7 := (XX.keep hb7).alloc (.cells #[.slice A7 G1.length c7, .int .i64 q1, .int .i64 t1] 24); have x7 := X7.cell; have B7 := Blk.new w7 24 #[.slice A7 G1.length c7, .int .i64 q1, .int .i64 t1]; have j7 := i7.keep (below_one (.cells #[.slice A7 G1.length c7, .int .i64 q1, .int .i64 t1] 24)))
      | (go_at_call 15; (with_reducible refine (RTK.out _ k7).mono ?_); clear RTK; rintro e w8 ⟨A8, c8, rfl, i8, -, hb8⟩; have k8' := below_call k7 hb8 k7.size; have k8 := k8'.alloc k8'.size (.cells #[.slice A8 G1.length c8, .int .i64 q1, .int .i64 t1] 24); have X8 := (X7.keep hb8).alloc (.cells #[.slice A8 G1.length c8, .int .i64 q1, .int .i64 t1] 24); have x8 := X8.cell; have B8 := Blk.new w8 24 #[.slice A8 G1.length c8, .int .i64 q1, .int .i64 t1]; have j8 := i8.keep (below_one (.cells #[.slice A8 G1.length c8, .int .i64 q1, .int .i64 t1] 24)); replace B7 := (B7.keep hb8).alloc (.cells #[.slice A8 G1.length c8, .int .i64 q1, .int .i64 t1] 24); replace j7 := (j7.keep hb8).keep (below_one (.cells #[.slice A8 G1.length c8, .int .i64 q1, .int .i64 t1] 24)))
      | (go_at_call 13; (with_reducible refine (TKO.out _ k8).mono ?_); clear TKO; rintro e w9 ⟨A9, c9, rfl, i9, -, hb9⟩; have k9' := below_call k8 hb9 k8.size; have k9 := k9'.alloc k9'.size (.cells #[.slice A9 G2.length c9, .int .i64 q2, .int .i64 t2] 24); have X9 := (X8.keep hb9).alloc (.cells #[.slice A9 G2.length c9, .int .i64 q2, .int .i64 t2] 24); have x9 := X9.cell; have B9 := Blk.new w9 24 #[.slice A9 G2.length c9, .int .i64 q2, .int .i64 t2]; have j9 := i9.keep (below_one (.cells #[.slice A9 G2.length c9, .int .i64 q2, .int .i64 t2] 24)); replace B7 := (B7.keep hb9).alloc (.cells #[.slice A9 G2.length c9, .int .i64 q2, .int .i64 t2] 24); replace j7 := (j7.keep hb9).keep (below_one (.cells #[.slice A9 G2.length c9, .int .i64 q2, .int .i64 t2] 24)); replace B8 := (B8.keep hb9).alloc (.cells #[.slice A9 G2.length c9, .int .i64 q2, .int .i64 t2] 24); replace j8 := (j8.keep hb9).keep (below_one (.cells #[.slice A9 G2.length c9, .int .i64 q2, .int .i64 t2] 24)))
      | (go_at_call 16; (with_reducible refine (RTKO.out _ k9).mono ?_); clear RTKO; rintro e w10 ⟨A10, c10, rfl, i10, -, hb10⟩; have k10' := below_call k9 hb10 k9.size; have k10 := k10'.alloc k10'.size (.cells #[.slice A10 G2.length c10, .int .i64 q2, .int .i64 t2] 24); have X10 := (X9.keep hb10).alloc (.cells #[.slice A10 G2.length c10, .int .i64 q2, .int .i64 t2] 24); have x10 := X10.cell; have B10 := Blk.new w10 24 #[.slice A10 G2.length c10, .int .i64 q2, .int .i64 t2]; have j10 := i10.keep (below_one (.cells #[.slice A10 G2.length c10, .int .i64 q2, .int .i64 t2] 24)); replace B7 := (B7.keep hb10).alloc (.cells #[.slice A10 G2.length c10, .int .i64 q2, .int .i64 t2] 24); replace j7 := (j7.keep hb10).keep (below_one (.cells #[.slice A10 G2.length c10, .int .i64 q2, .int .i64 t2] 24)); replace B8 := (B8.keep hb10).alloc (.cells #[.slice A10 G2.length c10, .int .i64 q2, .int .i64 t2] 24); replace j8 := (j8.keep hb10).keep (below_one (.cells #[.slice A10 G2.length c10, .int .i64 q2, .int .i64 t2] 24)); replace B9 := (B9.keep hb10).alloc (.cells #[.slice A10 G2.length c10, .int .i64 q2, .int .i64 t2] 24); replace j9 := (j9.keep hb10).keep (below_one (.cells #[.slice A10 G2.length c10, .int .i64 q2, .int .i64 t2] 24)); have b7 := B7.cell; have b8 := B8.cell; have b9 := B9.cell; have b10 := B10.cell)
      | (go_at_call 12; (with_reducible refine (S1.out _ _ _ _ _ j7 j8).mono ?_); clear S1; rintro e w11 ⟨rfl, hb11⟩; have k11 := below_call k10 hb11 k10.size; have b9' := (B9.keep hb11).cell; have b10' := (B10.keep hb11).cell; have j9' := j9.keep hb11; have j10' := j10.keep hb11)
      | (go_at_call 12; (with_reducible refine (S2.out _ _ _ _ _ j9' j10').mono ?_); clear S2; rintro e w12 ⟨rfl, hb12⟩; have k12 := below_call k11 hb12 k11.size)
      | (go_at_call 5; (with_reducible refine (aw _).mono ?_); rintro e w13 ⟨rfl, hb13⟩; have k13 := below_call k12 hb13 k12.size))
    go_ret
    exact ⟨rfl, k13⟩
  · have e7 : oldE ⟨l, q, tg⟩ = 0 := by unfold oldE; rw [if_neg (by simp [z7]), if_neg (by simp [ht1])]
    rw [e7] at OL
    subst ht1
    have rol := fun W (h : Below w.heap.size w W) => refattrold_any A m c q 1 l W (H1.out.keep h) (by have := Hm.out; omega)
    have tyo := fun v W (h : Holds W (otree l q) v) => attrtakeold_any (otree l q) v W h
    rw [otake_item z7] at tyo
    unfold TkA at tyo
    simp only [Option.getD_some, Option.isSome_some] at tyo
    rw [← Hm.out] at tyo
    have smo := fun v x W (h : Holds W (otree l q) v) (h2 : Holds W (otree l q) x) => codecsame_any (otree l q) (otree l q) v x W h h2
    rw [tsame_self] at smo
    unfold listV at rol
    have ROL := Lib.hid rol
    have TYO := Lib.hid tyo
    have SMO := Lib.hid smo
    clear rol tyo smo e7 z7
    generalize hTG : (1 : Int) = tg at *
    have hT1 : (tg != (1 : Int)) = false := by rw [← hTG]; rfl
    have HTG := Lib.hid hTG
    clear hTG
    go_enter Try.func3, Try.ntmps3
    go_upto_region 13 with (first
        | (go_at_call 4; (with_reducible refine (sz _ k0).mono ?_); rintro e w1 ⟨rfl, hb1⟩; have k1 := below_call k0 hb1 k0.size; have XA1 := XA.keep hb1; have XI1 := XI.keep hb1; have xa1 := XA1.cell)
        | (go_at_call 6; (with_reducible refine (OL.out _ k1).mono ?_); clear OL; rintro e w2 ⟨ok, on, os, oA, om, oc, rfl, ho2, hb2⟩; have k2' := below_call k1 hb2 k1.size; have k2 := k2'.alloc k2'.size (.cells #[.int .i64 ok, .int .u64 on, .string os, .slice oA om oc] 28); have XA2 := (XA1.keep hb2).alloc (.cells #[.int .i64 ok, .int .u64 on, .string os, .slice oA om oc] 28); have XI2 := (XI1.keep hb2).alloc (.cells #[.int .i64 ok, .int .u64 on, .string os, .slice oA om oc] 28); have XO2 := Blk.new w2 28 #[.int .i64 ok, .int .u64 on, .string os, .slice oA om oc]; have xa2 := XA2.cell)
        | (go_at_call 7; (with_reducible refine (ck _ k2).mono ?_); rintro e w3 ⟨rfl, hb3⟩; have k3 := below_call k2 hb3 k2.size; have XA3 := XA2.keep hb3; have XI3 := XI2.keep hb3; have XO3 := XO2.keep hb3; have xa3 := XA3.cell)
        | (go_at_call 7; (with_reducible refine (ck _ k3).mono ?_); rintro e w4 ⟨rfl, hb4⟩; have k4 := below_call k3 hb4 k3.size; have XA4 := XA3.keep hb4; have XI4 := XI3.keep hb4; have XO4 := XO3.keep hb4; have xa4 := XA4.cell)
        | (go_at_call 9; (with_reducible refine (IT.out _ k4).mono ?_); rintro e w5 ⟨A5, c5, rfl, hi5, hb5⟩; have k5 := below_call k4 hb5 k4.size; have XA5 := XA4.keep hb5; have XI5 := XI4.keep hb5; have XO5 := XO4.keep hb5)
        | (go_at_call 8; (with_reducible refine (TY.out _ _ hi5.holds).mono ?_); clear TY; rintro e w6 ⟨A6, c6, rfl, i6, -, hb6⟩; have k6' := below_call k5 hb6 k5.size; have k6 := k6'.alloc k6'.size (.cells #[.slice A6 m c6, .int .i64 q, .int .i64 tg] 24); have XA6 := (XA5.keep hb6).alloc (.cells #[.slice A6 m c6, .int .i64 q, .int .i64 tg] 24); have XI6 := (XI5.keep hb6).alloc (.cells #[.slice A6 m c6, .int .i64 q, .int .i64 tg] 24); have XO6 := (XO5.keep hb6).alloc (.cells #[.slice A6 m c6, .int .i64 q, .int .i64 tg] 24); have XB6 := Blk.new w6 24 #[.slice A6 m c6, .int .i64 q, .int .i64 tg]; have j6 := i6.keep (below_one (.cells #[.slice A6 m c6, .int .i64 q, .int .i64 tg] 24))))
    have PA := XA6.drew
    have PI := XI6.drew
    have PO := XO6.drew
    have PB := XB6.drew
    have pk := k6.drew
    have pj := j6.keep (Below.refl _ _).drew
    have hb2d : Below w2.heap.size w2 (World.drew _) := ((((((below_one (.cells #[.int .i64 ok, .int .u64 on, .string os, .slice oA om oc] 28)).trans (hb3.mono (by simp))).trans (hb4.mono (by have := hb3.size; simp at this; omega))).trans (hb5.mono (by have := hb3.size; have := hb4.size; simp at *; omega))).trans (hb6.mono (by have := hb3.size; have := hb4.size; have := hb5.size; simp at *; omega))).alloc (by have := hb3.size; have := hb4.size; have := hb5.size; have := hb6.size; simp at *; omega) (.cells #[.slice A6 m c6, .int .i64 q, .int .i64 tg] 24)).drew
    clear XA XI k0 xa xi k1 XA1 XI1 xa1 k2' k2 XA2 XI2 XO2 xa2 k3 XA3 XI3 XO3 xa3 k4 XA4 XI4 XO4 xa4 k5 XA5 XI5 XO5 hi5 k6' k6 XA6 XI6 XO6 XB6 i6 j6 sz ck
    (refine wp_region_held_drew (S := (S11 w.heap.size w6.heap.size (atC A m c q tg) #[.slice A6 m c6, .int .i64 q, .int .i64 tg])) (by kernel_rfl) ?_ (fun hHeld => ?_); (· exact ⟨PA.cell, PB.cell⟩))
    revert hHeld PA PI PO PB pk pj hb2d
    generalize World.drew _ = wd
    intro PA PI PO PB pk pj hb2d hHeld
    (refine take_op (i := 0) (v := ?_) rfl (by kernel_rfl) (by kernel_rfl) (by kernel_rfl) (fun _ _ _ h => h) (by rfl) ?_ hHeld ?_; rotate_left; (· (intro wS hSw; (try dsimp only at hSw); go_simp; first | done | with_reducible rfl)); simp only [Act.put, List.setIfInBounds_toArray, List.set_cons_zero, List.set_cons_succ]); (refine take_op (i := 2) (v := ?_) rfl (by kernel_rfl) (by kernel_rfl) (by kernel_rfl) (fun _ _ _ h => h) (by rfl) ?_ hHeld ?_; rotate_left; (· (intro wS hSw; (try dsimp only at hSw); go_simp; first | done | with_reducible rfl)); simp only [Act.put, List.setIfInBounds_toArray, List.set_cons_zero, List.set_cons_succ])
    (refine call_op (i := 1) rfl (by kernel_rfl) (by rfl) (fun K hK => ?_); go_simp; (go_at_call 9; (with_reducible refine (IT.out _ pk).mono ?_); clear IT; rintro e w7 ⟨A7, c7, rfl, hi7, hb7⟩; replace PA := PA.keep hb7; replace PI := PI.keep hb7; replace PO := PO.keep hb7; replace PB := PB.keep hb7; replace pj := pj.keep hb7; replace hb2d := below_call hb2d hb7 hb2d.size; replace pk := below_call pk hb7 pk.size); refine hK.out _ _ ⟨PA.cell, PB.cell⟩ (fun hHeld2 => ?_); clear hK K hHeld; have hHeld := hHeld2; clear hHeld2; (try simp only [Act.put, List.setIfInBounds_toArray, List.set_cons_zero, List.set_cons_succ]))
    (refine call_op (i := 3) rfl (by kernel_rfl) (by rfl) (fun K hK => ?_); go_simp; (go_at_call 11; (with_reducible refine (RIT.out _ pk).mono ?_); clear RIT; rintro e w8 ⟨A8, c8, rfl, hi8, hb8⟩; have hi78 := hi7.holds.keep hb8; replace PA := PA.keep hb8; replace PI := PI.keep hb8; replace PO := PO.keep hb8; replace PB := PB.keep hb8; replace pj := pj.keep hb8; replace hb2d := below_call hb2d hb8 hb2d.size; replace pk := below_call pk hb8 pk.size); refine hK.out _ _ ⟨PA.cell, PB.cell⟩ (fun hHeld2 => ?_); clear hK K hHeld; have hHeld := hHeld2; clear hHeld2; (try simp only [Act.put, List.setIfInBounds_toArray, List.set_cons_zero, List.set_cons_succ]))
    (refine call_op (i := 4) rfl (by kernel_rfl) (by rfl) (fun K hK => ?_); go_simp; (go_at_call 10; (with_reducible refine (SM.out _ _ _ hi78 hi8.holds).mono ?_); clear SM; rintro e w9 ⟨rfl, hb9⟩; replace PA := PA.keep hb9; replace PI := PI.keep hb9; replace PO := PO.keep hb9; replace PB := PB.keep hb9; replace pj := pj.keep hb9; replace hb2d := below_call hb2d hb9 hb2d.size; replace pk := below_call pk hb9 pk.size); refine hK.out _ _ ⟨PA.cell, PB.cell⟩ (fun hHeld2 => ?_); clear hK K hHeld; have hHeld := hHeld2; clear hHeld2; (try simp only [Act.put, List.setIfInBounds_toArray, List.set_cons_zero, List.set_cons_succ]))
    (refine take_op (i := 5) (v := ?_) rfl (by kernel_rfl) (by kernel_rfl) (by kernel_rfl) (fun _ _ _ h => h) (by rfl) ?_ hHeld ?_; rotate_left; (· (intro wS hSw; (try dsimp only at hSw); go_simp; first | done | with_reducible rfl)); simp only [Act.put, List.setIfInBounds_toArray, List.set_cons_zero, List.set_cons_succ]); (refine take_op (i := 6) (v := ?_) rfl (by kernel_rfl) (by kernel_rfl) (by kernel_rfl) (fun _ _ _ h => h) (by rfl) ?_ hHeld ?_; rotate_left; (· (intro wS hSw; (try dsimp only at hSw); go_simp; first | done | with_reducible rfl)); simp only [Act.put, List.setIfInBounds_toArray, List.set_cons_zero, List.set_cons_succ]); (refine take_op (i := 7) (v := ?_) rfl (by kernel_rfl) (by kernel_rfl) (by kernel_rfl) (fun _ _ _ h => h) (by rfl) ?_ hHeld ?_; rotate_left; (· (intro wS hSw; (try dsimp only at hSw); go_simp; first | done | with_reducible rfl)); simp only [Act.put, List.setIfInBounds_toArray, List.set_cons_zero, List.set_cons_succ]); (refine take_op (i := 8) (v := ?_) rfl (by kernel_rfl) (by kernel_rfl) (by kernel_rfl) (fun _ _ _ h => h) (by rfl) ?_ hHeld ?_; rotate_left; (· (intro wS hSw; (try dsimp only at hSw); go_simp; first | done | with_reducible rfl)); simp only [Act.put, List.setIfInBounds_toArray, List.set_cons_zero, List.set_cons_succ]); (refine take_op (i := 9) (v := ?_) rfl (by kernel_rfl) (by kernel_rfl) (by kernel_rfl) (fun _ _ _ h => h) (by rfl) ?_ hHeld ?_; rotate_left; (· (intro wS hSw; (try dsimp only at hSw); go_simp; first | done | with_reducible rfl)); simp only [Act.put, List.setIfInBounds_toArray, List.set_cons_zero, List.set_cons_succ]); (refine take_op (i := 10) (v := ?_) rfl (by kernel_rfl) (by kernel_rfl) (by kernel_rfl) (fun _ _ _ h => h) (by rfl) ?_ hHeld ?_; rotate_left; (· (intro wS hSw; (try dsimp only at hSw); go_simp; first | done | with_reducible rfl)); simp only [Act.put, List.setIfInBounds_toArray, List.set_cons_zero, List.set_cons_succ]); (refine take_op (i := 11) (v := ?_) rfl (by kernel_rfl) (by kernel_rfl) (by kernel_rfl) (fun _ _ _ h => h) (by rfl) ?_ hHeld ?_; rotate_left; (· (intro wS hSw; (try dsimp only at hSw); go_simp; first | done | with_reducible rfl)); simp only [Act.put, List.setIfInBounds_toArray, List.set_cons_zero, List.set_cons_succ]); (refine take_op (i := 12) (v := ?_) rfl (by kernel_rfl) (by kernel_rfl) (by kernel_rfl) (fun _ _ _ h => h) (by rfl) ?_ hHeld ?_; rotate_left; (· (intro wS hSw; (try dsimp only at hSw); go_simp; first | done | with_reducible rfl)); simp only [Act.put, List.setIfInBounds_toArray, List.set_cons_zero, List.set_cons_succ])
    (refine call_op (i := 13) rfl (by kernel_rfl) (by rfl) (fun K hK => ?_); go_simp; (go_at_call 12; (with_reducible refine (E6.out _ _ _ _ _ (H1.out.keep pk) pj).mono ?_); rintro e w10 ⟨rfl, hb10⟩; replace PA := PA.keep hb10; replace PI := PI.keep hb10; replace PO := PO.keep hb10; replace PB := PB.keep hb10; replace pj := pj.keep hb10; replace hb2d := below_call hb2d hb10 hb2d.size; replace pk := below_call pk hb10 pk.size); refine hK.out _ _ ⟨PA.cell, PB.cell⟩ (fun hHeld2 => ?_); clear hK K hHeld; have hHeld := hHeld2; clear hHeld2; (try simp only [Act.put, List.setIfInBounds_toArray, List.set_cons_zero, List.set_cons_succ]))
    (refine take_op (i := 14) (v := ?_) rfl (by kernel_rfl) (by kernel_rfl) (by kernel_rfl) (fun _ _ _ h => h) (by rfl) ?_ hHeld ?_; rotate_left; (· (intro wS hSw; (try dsimp only at hSw); go_simp; first | done | with_reducible rfl)); simp only [Act.put, List.setIfInBounds_toArray, List.set_cons_zero, List.set_cons_succ]); (refine take_op (i := 15) (v := ?_) rfl (by kernel_rfl) (by kernel_rfl) (by kernel_rfl) (fun _ _ _ h => h) (by rfl) ?_ hHeld ?_; rotate_left; (· (intro wS hSw; (try dsimp only at hSw); go_simp; first | done | with_reducible rfl)); simp only [Act.put, List.setIfInBounds_toArray, List.set_cons_zero, List.set_cons_succ])
    (refine wpAnyH_done (by kernel_rfl) ?_ _)
    clear hHeld hi7 hi8 hi78 PB pj
    have ho := (ho2 (by trivial)).holds.keep hb2d
    have po := PO.cell
    go_upto_region 17 with (go_at_call 13; (with_reducible refine (TYO.out _ _ ho).mono ?_); clear TYO; rintro e w11 ⟨A11, c11, rfl, i11, -, hb11⟩)
    have QA := ((PA.keep hb11).alloc (.cells #[.slice A11 m c11, .int .i64 q, .int .i64 tg] 24)).drew
    have QI := ((PI.keep hb11).alloc (.cells #[.slice A11 m c11, .int .i64 q, .int .i64 tg] 24)).drew
    have QO := ((PO.keep hb11).alloc (.cells #[.slice A11 m c11, .int .i64 q, .int .i64 tg] 24)).drew
    have QB := (Blk.new w11 24 #[.slice A11 m c11, .int .i64 q, .int .i64 tg]).drew
    have qk := ((below_call pk hb11 pk.size).alloc (by have := pk.size; have := hb11.size; omega) (.cells #[.slice A11 m c11, .int .i64 q, .int .i64 tg] 24)).drew
    have qj := (i11.keep (below_one (.cells #[.slice A11 m c11, .int .i64 q, .int .i64 tg] 24))).keep (Below.refl _ _).drew
    have qo := ((ho.keep hb11).keep (below_one (.cells #[.slice A11 m c11, .int .i64 q, .int .i64 tg] 24))).keep (Below.refl _ _).drew
    clear PA PI PO pk ho po i11 hb2d
    (refine wp_region_held_drew (S := (fun W => S11 w.heap.size w11.heap.size (atC A m c q tg) #[.slice A11 m c11, .int .i64 q, .int .i64 tg] W ∧ ∀ i, W.cell? ⟨w2.heap.size, i, none⟩ = #[.int .i64 ok, .int .u64 on, .string os, .slice oA om oc][i]?)) (by kernel_rfl) ?_ (fun hHeld => ?_); (· exact ⟨⟨QA.cell, QB.cell⟩, QO.cell⟩))
    revert hHeld QA QI QO QB qk qj qo
    generalize World.drew _ = wd2
    intro QA QI QO QB qk qj qo hHeld
    (refine take_op (i := 0) (v := ?_) rfl (by kernel_rfl) (by kernel_rfl) (by kernel_rfl) (fun _ _ _ h => h) (by rfl) ?_ hHeld ?_; rotate_left; (· (intro wS hSw; (try dsimp only at hSw); go_simp; first | done | with_reducible rfl)); simp only [Act.put, List.setIfInBounds_toArray, List.set_cons_zero, List.set_cons_succ]); (refine take_op (i := 1) (v := ?_) rfl (by kernel_rfl) (by kernel_rfl) (by kernel_rfl) (fun _ _ _ h => h) (by rfl) ?_ hHeld ?_; rotate_left; (· (intro wS hSw; (try dsimp only at hSw); go_simp; first | done | with_reducible rfl)); simp only [Act.put, List.setIfInBounds_toArray, List.set_cons_zero, List.set_cons_succ])
    (refine call_op (i := 2) rfl (by kernel_rfl) (by rfl) (fun K hK => ?_); go_simp; (go_at_call 14; (with_reducible refine (ROL.out _ qk).mono ?_); clear ROL; rintro e w12 ⟨A12, c12, rfl, hi12, hb12⟩; replace QA := QA.keep hb12; replace QI := QI.keep hb12; replace QO := QO.keep hb12; replace QB := QB.keep hb12; replace qj := qj.keep hb12; replace qo := qo.keep hb12; replace qk := below_call qk hb12 qk.size); refine hK.out _ _ ⟨⟨QA.cell, QB.cell⟩, QO.cell⟩ (fun hHeld2 => ?_); clear hK K hHeld; have hHeld := hHeld2; clear hHeld2; (try simp only [Act.put, List.setIfInBounds_toArray, List.set_cons_zero, List.set_cons_succ]))
    (refine call_op (i := 3) rfl (by kernel_rfl) (by rfl) (fun K hK => ?_); go_simp; (go_at_call 10; (with_reducible refine (SMO.out _ _ _ qo hi12.holds).mono ?_); clear SMO; rintro e w13 ⟨rfl, hb13⟩; replace QA := QA.keep hb13; replace QI := QI.keep hb13; replace QO := QO.keep hb13; replace QB := QB.keep hb13; replace qj := qj.keep hb13; replace qo := qo.keep hb13; replace qk := below_call qk hb13 qk.size); refine hK.out _ _ ⟨⟨QA.cell, QB.cell⟩, QO.cell⟩ (fun hHeld2 => ?_); clear hK K hHeld; have hHeld := hHeld2; clear hHeld2; (try simp only [Act.put, List.setIfInBounds_toArray, List.set_cons_zero, List.set_cons_succ]))
    (refine take_op (i := 4) (v := ?_) rfl (by kernel_rfl) (by kernel_rfl) (by kernel_rfl) (fun _ _ _ h => h) (by rfl) ?_ hHeld ?_; rotate_left; (· (intro wS hSw; (try dsimp only at hSw); go_simp; first | done | with_reducible rfl)); simp only [Act.put, List.setIfInBounds_toArray, List.set_cons_zero, List.set_cons_succ]); (refine take_op (i := 5) (v := ?_) rfl (by kernel_rfl) (by kernel_rfl) (by kernel_rfl) (fun _ _ _ h => h) (by rfl) ?_ hHeld ?_; rotate_left; (· (intro wS hSw; (try dsimp only at hSw); go_simp; first | done | with_reducible rfl)); simp only [Act.put, List.setIfInBounds_toArray, List.set_cons_zero, List.set_cons_succ]); (refine take_op (i := 6) (v := ?_) rfl (by kernel_rfl) (by kernel_rfl) (by kernel_rfl) (fun _ _ _ h => h) (by rfl) ?_ hHeld ?_; rotate_left; (· (intro wS hSw; (try dsimp only at hSw); go_simp; first | done | with_reducible rfl)); simp only [Act.put, List.setIfInBounds_toArray, List.set_cons_zero, List.set_cons_succ]); (refine take_op (i := 7) (v := ?_) rfl (by kernel_rfl) (by kernel_rfl) (by kernel_rfl) (fun _ _ _ h => h) (by rfl) ?_ hHeld ?_; rotate_left; (· (intro wS hSw; (try dsimp only at hSw); go_simp; first | done | with_reducible rfl)); simp only [Act.put, List.setIfInBounds_toArray, List.set_cons_zero, List.set_cons_succ]); (refine take_op (i := 8) (v := ?_) rfl (by kernel_rfl) (by kernel_rfl) (by kernel_rfl) (fun _ _ _ h => h) (by rfl) ?_ hHeld ?_; rotate_left; (· (intro wS hSw; (try dsimp only at hSw); go_simp; first | done | with_reducible rfl)); simp only [Act.put, List.setIfInBounds_toArray, List.set_cons_zero, List.set_cons_succ]); (refine take_op (i := 9) (v := ?_) rfl (by kernel_rfl) (by kernel_rfl) (by kernel_rfl) (fun _ _ _ h => h) (by rfl) ?_ hHeld ?_; rotate_left; (· (intro wS hSw; (try dsimp only at hSw); go_simp; first | done | with_reducible rfl)); simp only [Act.put, List.setIfInBounds_toArray, List.set_cons_zero, List.set_cons_succ]); (refine take_op (i := 10) (v := ?_) rfl (by kernel_rfl) (by kernel_rfl) (by kernel_rfl) (fun _ _ _ h => h) (by rfl) ?_ hHeld ?_; rotate_left; (· (intro wS hSw; (try dsimp only at hSw); go_simp; first | done | with_reducible rfl)); simp only [Act.put, List.setIfInBounds_toArray, List.set_cons_zero, List.set_cons_succ]); (refine take_op (i := 11) (v := ?_) rfl (by kernel_rfl) (by kernel_rfl) (by kernel_rfl) (fun _ _ _ h => h) (by rfl) ?_ hHeld ?_; rotate_left; (· (intro wS hSw; (try dsimp only at hSw); go_simp; first | done | with_reducible rfl)); simp only [Act.put, List.setIfInBounds_toArray, List.set_cons_zero, List.set_cons_succ])
    (refine call_op (i := 12) rfl (by kernel_rfl) (by rfl) (fun K hK => ?_); go_simp; (go_at_call 12; (with_reducible refine (E6.out _ _ _ _ _ (H1.out.keep qk) qj).mono ?_); rintro e w14 ⟨rfl, hb14⟩; replace QA := QA.keep hb14; replace QI := QI.keep hb14; replace QO := QO.keep hb14; replace QB := QB.keep hb14; replace qj := qj.keep hb14; replace qo := qo.keep hb14; replace qk := below_call qk hb14 qk.size); refine hK.out _ _ ⟨⟨QA.cell, QB.cell⟩, QO.cell⟩ (fun hHeld2 => ?_); clear hK K hHeld; have hHeld := hHeld2; clear hHeld2; (try simp only [Act.put, List.setIfInBounds_toArray, List.set_cons_zero, List.set_cons_succ]))
    (refine take_op (i := 13) (v := ?_) rfl (by kernel_rfl) (by kernel_rfl) (by kernel_rfl) (fun _ _ _ h => h) (by rfl) ?_ hHeld ?_; rotate_left; (· (intro wS hSw; (try dsimp only at hSw); go_simp; first | done | with_reducible rfl)); simp only [Act.put, List.setIfInBounds_toArray, List.set_cons_zero, List.set_cons_succ]); (refine take_op (i := 14) (v := ?_) rfl (by kernel_rfl) (by kernel_rfl) (by kernel_rfl) (fun _ _ _ h => h) (by rfl) ?_ hHeld ?_; rotate_left; (· (intro wS hSw; (try dsimp only at hSw); go_simp; first | done | with_reducible rfl)); simp only [Act.put, List.setIfInBounds_toArray, List.set_cons_zero, List.set_cons_succ])
    (refine wpAnyH_done (by kernel_rfl) ?_ _)
    clear hHeld hi12 QB qj qo QA QO
    go_upto_region 19 with fail
    have kk := qk
    have XX := QI
    clear qk QI
    have xx := XX.cell
    go_wp2_with (first
      | (go_at_call 8; (with_reducible refine (TK.out _ kk).mono ?_); clear TK; rintro e w7 ⟨A7, c7, rfl, i7, -, hb7⟩; have k7' := below_call kk hb7 kk.size; have k7 := k7'.alloc k7'.size (.cells #[.slice A7 G1.length c7, .int .i64 q1, .int .i64 t1] 24); have X7 := (XX.keep hb7).alloc (.cells #[.slice A7 G1.length c7, .int .i64 q1, .int .i64 t1] 24); have x7 := X7.cell; have B7 := Blk.new w7 24 #[.slice A7 G1.length c7, .int .i64 q1, .int .i64 t1]; have j7 := i7.keep (below_one (.cells #[.slice A7 G1.length c7, .int .i64 q1, .int .i64 t1] 24)))
      | (go_at_call 15; (with_reducible refine (RTK.out _ k7).mono ?_); clear RTK; rintro e w8 ⟨A8, c8, rfl, i8, -, hb8⟩; have k8' := below_call k7 hb8 k7.size; have k8 := k8'.alloc k8'.size (.cells #[.slice A8 G1.length c8, .int .i64 q1, .int .i64 t1] 24); have X8 := (X7.keep hb8).alloc (.cells #[.slice A8 G1.length c8, .int .i64 q1, .int .i64 t1] 24); have x8 := X8.cell; have B8 := Blk.new w8 24 #[.slice A8 G1.length c8, .int .i64 q1, .int .i64 t1]; have j8 := i8.keep (below_one (.cells #[.slice A8 G1.length c8, .int .i64 q1, .int .i64 t1] 24)); replace B7 := (B7.keep hb8).alloc (.cells #[.slice A8 G1.length c8, .int .i64 q1, .int .i64 t1] 24); replace j7 := (j7.keep hb8).keep (below_one (.cells #[.slice A8 G1.length c8, .int .i64 q1, .int .i64 t1] 24)))
      | (go_at_call 13; (with_reducible refine (TKO.out _ k8).mono ?_); clear TKO; rintro e w9 ⟨A9, c9, rfl, i9, -, hb9⟩; have k9' := below_call k8 hb9 k8.size; have k9 := k9'.alloc k9'.size (.cells #[.slice A9 G2.length c9, .int .i64 q2, .int .i64 t2] 24); have X9 := (X8.keep hb9).alloc (.cells #[.slice A9 G2.length c9, .int .i64 q2, .int .i64 t2] 24); have x9 := X9.cell; have B9 := Blk.new w9 24 #[.slice A9 G2.length c9, .int .i64 q2, .int .i64 t2]; have j9 := i9.keep (below_one (.cells #[.slice A9 G2.length c9, .int .i64 q2, .int .i64 t2] 24)); replace B7 := (B7.keep hb9).alloc (.cells #[.slice A9 G2.length c9, .int .i64 q2, .int .i64 t2] 24); replace j7 := (j7.keep hb9).keep (below_one (.cells #[.slice A9 G2.length c9, .int .i64 q2, .int .i64 t2] 24)); replace B8 := (B8.keep hb9).alloc (.cells #[.slice A9 G2.length c9, .int .i64 q2, .int .i64 t2] 24); replace j8 := (j8.keep hb9).keep (below_one (.cells #[.slice A9 G2.length c9, .int .i64 q2, .int .i64 t2] 24)))
      | (go_at_call 16; (with_reducible refine (RTKO.out _ k9).mono ?_); clear RTKO; rintro e w10 ⟨A10, c10, rfl, i10, -, hb10⟩; have k10' := below_call k9 hb10 k9.size; have k10 := k10'.alloc k10'.size (.cells #[.slice A10 G2.length c10, .int .i64 q2, .int .i64 t2] 24); have X10 := (X9.keep hb10).alloc (.cells #[.slice A10 G2.length c10, .int .i64 q2, .int .i64 t2] 24); have x10 := X10.cell; have B10 := Blk.new w10 24 #[.slice A10 G2.length c10, .int .i64 q2, .int .i64 t2]; have j10 := i10.keep (below_one (.cells #[.slice A10 G2.length c10, .int .i64 q2, .int .i64 t2] 24)); replace B7 := (B7.keep hb10).alloc (.cells #[.slice A10 G2.length c10, .int .i64 q2, .int .i64 t2] 24); replace j7 := (j7.keep hb10).keep (below_one (.cells #[.slice A10 G2.length c10, .int .i64 q2, .int .i64 t2] 24)); replace B8 := (B8.keep hb10).alloc (.cells #[.slice A10 G2.length c10, .int .i64 q2, .int .i64 t2] 24); replace j8 := (j8.keep hb10).keep (below_one (.cells #[.slice A10 G2.length c10, .int .i64 q2, .int .i64 t2] 24)); replace B9 := (B9.keep hb10).alloc (.cells #[.slice A10 G2.length c10, .int .i64 q2, .int .i64 t2] 24); replace j9 := (j9.keep hb10).keep (below_one (.cells #[.slice A10 G2.length c10, .int .i64 q2, .int .i64 t2] 24)); have b7 := B7.cell; have b8 := B8.cell; have b9 := B9.cell; have b10 := B10.cell)
      | (go_at_call 12; (with_reducible refine (S1.out _ _ _ _ _ j7 j8).mono ?_); clear S1; rintro e w11 ⟨rfl, hb11⟩; have k11 := below_call k10 hb11 k10.size; have b9' := (B9.keep hb11).cell; have b10' := (B10.keep hb11).cell; have j9' := j9.keep hb11; have j10' := j10.keep hb11)
      | (go_at_call 12; (with_reducible refine (S2.out _ _ _ _ _ j9' j10').mono ?_); clear S2; rintro e w12 ⟨rfl, hb12⟩; have k12 := below_call k11 hb12 k11.size)
      | (go_at_call 5; (with_reducible refine (aw _).mono ?_); rintro e w13 ⟨rfl, hb13⟩; have k13 := below_call k12 hb13 k12.size))
    go_ret
    exact ⟨rfl, k13⟩
end Go.Proofs.Ytfdfcceleaodaaa
