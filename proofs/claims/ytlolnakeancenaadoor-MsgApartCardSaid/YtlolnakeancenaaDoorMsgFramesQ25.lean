/- The walks of stonecropref06.Int and of stonecropref06.Take at six. A right command's item is taken as the command. cmd.Take and the document's, at any item: one answer. The walk of cmd.Take at any item, against a plain function. A right set's item is taken as the set, in plain Lean. A row of items of its own that grows, beside one block that is written anew; a right command's item. The walks of the document's Great and Frame. -/
import Derived.Test.YtlolnakeancenaaDoorMsgFramesQ1
import Derived.Test.YtlolnakeancenaaDoorMsgFramesQ4
import Derived.Test.YtlolnakeancenaaDoorMsgFramesQ11
import Derived.Test.YtlolnakeancenaaDoorMsgFramesQ18
import Derived.Test.YtlolnakeancenaaDoorMsgFramesQ21
import Derived.Test.YtlolnakeancenaaDoorMsgFramesQ22
import Derived.Test.YtlolnakeancenaaDoorMsgFramesQ14
import Derived.Test.YtlolnakeancenaaDoorMsgFramesQ19
import Derived.Test.YtlolnakeancenaaDoorMsgFramesQ20
import Derived.Test.YtlolnakeancenaaDoorMsgFramesQ7
import Derived.WalkKit
import Derived.WalkSpells
import Derived.WalkLawsBesides
import Derived.Deep.RegionHeld3
import Derived.Deep.DrawnRows
import Derived.Deep.DeepCutAuto
import Derived.Deep.DeepFit
import Derived.Lib.Hide
import Derived.BigQuiet
import Derived.Deep.QuietTactic
namespace Go.Proofs.YtlolnakeancenaaDoor
open Go.RowKit
set_option linter.unusedVariables false
set_option linter.unusedSimpArgs false
set_option maxRecDepth 20000
attribute [local go_sem ↓] Go.wp_at_zero Go.wp_at_succ
attribute [local go_sem] World.cell?_alloc_some frozen_alloc_some
attribute [local go_sem] lt2 lt3 lt4 lt5
attribute [local simp] lt2 lt3 lt4 lt5

abbrev RkS (w : World) (kk nn : Int) (ss : ByteArray) (ad : Addr) (cc : Nat) (eb eo n em ec : Nat → Nat) (ek : Nat → Int) (es : Nat → ByteArray) (eA : Nat → Option Addr) (s3 s4 : ByteArray) (wx : World) : Prop := Below w.heap.size w wx ∧ w.heap.size + 1 < wx.heap.size ∧ wx.cell? ⟨w.heap.size, 0, none⟩ = some (.int .i64 kk) ∧ wx.cell? ⟨w.heap.size, 1, none⟩ = some (.int .u64 nn) ∧ wx.cell? ⟨w.heap.size, 2, none⟩ = some (.string ss) ∧ wx.cell? ⟨w.heap.size, 3, none⟩ = some (.slice (some ad) 6 cc) ∧ wx.cell? ⟨w.heap.size + 1, 0, none⟩ = some (.int .i64 0) ∧ wx.cell? ⟨w.heap.size + 1, 1, none⟩ = some (.int .i64 0) ∧ wx.cell? ⟨w.heap.size + 1, 2, none⟩ = some (.int .i64 0) ∧ wx.cell? ⟨w.heap.size + 1, 3, none⟩ = some (.string ByteArray.empty) ∧ wx.cell? ⟨w.heap.size + 1, 4, none⟩ = some (.string ByteArray.empty) ∧ wx.cell? ⟨w.heap.size + 1, 5, none⟩ = some (.int .i64 0) ∧ wx.frozen? ⟨w.heap.size + 1, 0, none⟩ = false ∧ wx.frozen? ⟨w.heap.size + 1, 1, none⟩ = false ∧ wx.frozen? ⟨w.heap.size + 1, 2, none⟩ = false ∧ wx.frozen? ⟨w.heap.size + 1, 3, none⟩ = false ∧ wx.frozen? ⟨w.heap.size + 1, 4, none⟩ = false ∧ wx.frozen? ⟨w.heap.size + 1, 5, none⟩ = false ∧ wx.cell? ⟨eb 0, eo 0, none⟩ = some (.int .i64 (ek 0)) ∧ wx.cell? ⟨eb 0, eo 0 + 1, none⟩ = some (.int .u64 (n 0 : Int)) ∧ wx.cell? ⟨eb 0, eo 0 + 2, none⟩ = some (.string (es 0)) ∧ wx.cell? ⟨eb 0, eo 0 + 3, none⟩ = some (.slice (eA 0) (em 0) (ec 0)) ∧ wx.cell? ⟨eb 1, eo 1, none⟩ = some (.int .i64 (ek 1)) ∧ wx.cell? ⟨eb 1, eo 1 + 1, none⟩ = some (.int .u64 (n 1 : Int)) ∧ wx.cell? ⟨eb 1, eo 1 + 2, none⟩ = some (.string (es 1)) ∧ wx.cell? ⟨eb 1, eo 1 + 3, none⟩ = some (.slice (eA 1) (em 1) (ec 1)) ∧ wx.cell? ⟨eb 2, eo 2, none⟩ = some (.int .i64 (ek 2)) ∧ wx.cell? ⟨eb 2, eo 2 + 1, none⟩ = some (.int .u64 (n 2 : Int)) ∧ wx.cell? ⟨eb 2, eo 2 + 2, none⟩ = some (.string (es 2)) ∧ wx.cell? ⟨eb 2, eo 2 + 3, none⟩ = some (.slice (eA 2) (em 2) (ec 2)) ∧ wx.cell? ⟨eb 5, eo 5, none⟩ = some (.int .i64 (ek 5)) ∧ wx.cell? ⟨eb 5, eo 5 + 1, none⟩ = some (.int .u64 (n 5 : Int)) ∧ wx.cell? ⟨eb 5, eo 5 + 2, none⟩ = some (.string (es 5)) ∧ wx.cell? ⟨eb 5, eo 5 + 3, none⟩ = some (.slice (eA 5) (em 5) (ec 5)) ∧ wx.cell? ⟨eb 3, eo 3 + 2, none⟩ = some (.string s3) ∧ wx.cell? ⟨eb 4, eo 4 + 2, none⟩ = some (.string s4)
theorem RkS.drew {w : World} {kk nn : Int} {ss : ByteArray} {ad : Addr} {cc : Nat} {eb eo n em ec : Nat → Nat} {ek : Nat → Int} {es : Nat → ByteArray} {eA : Nat → Option Addr} {s3 s4 : ByteArray} {W : World} (h : RkS w kk nn ss ad cc eb eo n em ec ek es eA s3 s4 W) : RkS w kk nn ss ad cc eb eo n em ec ek es eA s3 s4 W.drew := ⟨h.1.drew, h.2⟩
theorem RkS.keep {w : World} {kk nn : Int} {ss : ByteArray} {ad : Addr} {cc : Nat} {eb eo n em ec : Nat → Nat} {ek : Nat → Int} {es : Nat → ByteArray} {eA : Nat → Option Addr} {s3 s4 : ByteArray} {W w1 : World} (hb : Below W.heap.size W w1) (h : RkS w kk nn ss ad cc eb eo n em ec ek es eA s3 s4 W) : RkS w kk nn ss ad cc eb eo n em ec ek es eA s3 s4 w1 := by
 obtain ⟨h1, h2, a0, a1, a2, a3, z0, z1, z2, z3, z4, z5, f0, f1, f2, f3, f4, f5, e00, e01, e02, e03, e10, e11, e12, e13, e20, e21, e22, e23, e50, e51, e52, e53, t3, t4⟩ := h
 have hz := hb.size
 exact ⟨below_call h1 hb (by omega), by omega, cell_keep hb a0, cell_keep hb a1, cell_keep hb a2, cell_keep hb a3, cell_keep hb z0, cell_keep hb z1, cell_keep hb z2, cell_keep hb z3, cell_keep hb z4, cell_keep hb z5, frozen_keep hb z0 f0, frozen_keep hb z1 f1, frozen_keep hb z2 f2, frozen_keep hb z3 f3, frozen_keep hb z4 f4, frozen_keep hb z5 f5, cell_keep hb e00, cell_keep hb e01, cell_keep hb e02, cell_keep hb e03, cell_keep hb e10, cell_keep hb e11, cell_keep hb e12, cell_keep hb e13, cell_keep hb e20, cell_keep hb e21, cell_keep hb e22, cell_keep hb e23, cell_keep hb e50, cell_keep hb e51, cell_keep hb e52, cell_keep hb e53, cell_keep hb t3, cell_keep hb t4⟩
theorem RkS.alloc {w : World} {kk nn : Int} {ss : ByteArray} {ad : Addr} {cc : Nat} {eb eo n em ec : Nat → Nat} {ek : Nat → Int} {es : Nat → ByteArray} {eA : Nat → Option Addr} {s3 s4 : ByteArray} {W : World} (h : RkS w kk nn ss ad cc eb eo n em ec ek es eA s3 s4 W) (o : Obj) : RkS w kk nn ss ad cc eb eo n em ec ek es eA s3 s4 (W.alloc o) := h.keep (below_one o)
abbrev RgS (G : Nat) (w : World) (kk nn : Int) (ss : ByteArray) (ad : Addr) (cc : Nat) (eb eo n em ec : Nat → Nat) (ek : Nat → Int) (es : Nat → ByteArray) (eA : Nat → Option Addr) (s3 s4 : ByteArray) (wx : World) : Prop := RkS w kk nn ss ad cc eb eo n em ec ek es eA s3 s4 wx ∧ G < wx.heap.size ∧ wx.cell? ⟨G, 0, none⟩ = some (.int .i64 (clamp (n 0) : Int)) ∧ wx.cell? ⟨G, 1, none⟩ = some (.int .i64 (clamp (n 1) : Int)) ∧ wx.cell? ⟨G, 2, none⟩ = some (.int .i64 (clamp (n 2) : Int)) ∧ wx.cell? ⟨G, 3, none⟩ = some (.string s3) ∧ wx.cell? ⟨G, 4, none⟩ = some (.string s4) ∧ wx.cell? ⟨G, 5, none⟩ = some (.int .i64 (clamp (n 5) : Int))
theorem RgS.keep {G : Nat} {w : World} {kk nn : Int} {ss : ByteArray} {ad : Addr} {cc : Nat} {eb eo n em ec : Nat → Nat} {ek : Nat → Int} {es : Nat → ByteArray} {eA : Nat → Option Addr} {s3 s4 : ByteArray} {W w1 : World} (hb : Below W.heap.size W w1) (h : RgS G w kk nn ss ad cc eb eo n em ec ek es eA s3 s4 W) : RgS G w kk nn ss ad cc eb eo n em ec ek es eA s3 s4 w1 := by
 obtain ⟨h0, hG, g0, g1, g2, g3, g4, g5⟩ := h
 have hz := hb.size
 exact ⟨h0.keep hb, by omega, cell_keep hb g0, cell_keep hb g1, cell_keep hb g2, cell_keep hb g3, cell_keep hb g4, cell_keep hb g5⟩
theorem RgS.drew {G : Nat} {w : World} {kk nn : Int} {ss : ByteArray} {ad : Addr} {cc : Nat} {eb eo n em ec : Nat → Nat} {ek : Nat → Int} {es : Nat → ByteArray} {eA : Nat → Option Addr} {s3 s4 : ByteArray} {W : World} (h : RgS G w kk nn ss ad cc eb eo n em ec ek es eA s3 s4 W) : RgS G w kk nn ss ad cc eb eo n em ec ek es eA s3 s4 W.drew := ⟨h.1.drew, h.2⟩
end Go.Proofs.YtlolnakeancenaaDoor

namespace Go.Proofs.YtlolnakeancenaaDoor
open Go.RowKit
set_option linter.unusedVariables false
set_option linter.unusedSimpArgs false
set_option maxRecDepth 20000
attribute [local go_sem ↓] Go.wp_at_zero Go.wp_at_succ
attribute [local go_sem] World.cell?_alloc_some frozen_alloc_some

theorem clamp_small {n : Nat} (h : n ≤ 4611686018427387904) : clamp n = n := Nat.min_eq_left h
/-- The parts of a right command. -/
theorem ccheck_right {k c q : Int} {y x : ByteArray} {r : Int} (h : ccheck k c q y x r = 0) : 0 ≤ k ∧ k ≤ 6 ∧ 0 ≤ c ∧ c ≤ 1048576 ∧ 0 ≤ q ∧ q ≤ 1099511627776 ∧ 0 ≤ r ∧ r ≤ 1099511627776 := by
 unfold ccheck at h
 by_cases h1 : cform k c q y x r = true
 ·rw [if_pos h1] at h; cases h
 ·rw [if_neg h1] at h
  by_cases h2 : crange c q r = true
  ·rw [if_pos h2] at h; cases h
  ·unfold cform at h1
   unfold crange at h2
   simp only [Bool.or_eq_true, Bool.not_eq_true', decide_eq_false_iff_not, not_or, Decidable.not_not] at h1 h2
   omega
end Go.Proofs.YtlolnakeancenaaDoor

namespace Go.Proofs.YtlolnakeancenaaDoor
open Go.RowKit
set_option linter.unusedVariables false
set_option linter.unusedSimpArgs false
set_option maxRecDepth 20000
attribute [local go_sem ↓] Go.wp_at_zero Go.wp_at_succ
attribute [local go_sem] World.cell?_alloc_some frozen_alloc_some
attribute [local go_sem] lt2 lt3 lt4 lt5
attribute [local simp] lt2 lt3 lt4 lt5

set_option maxHeartbeats 4000000 in
theorem take_short (kk nn : Int) (ss : ByteArray) (A : Option Addr) (m cc : Nat) (w : World) (hm : m ≠ 6) :
  Calls Tryd.prog 62 #[.agg #[.int .i64 kk, .int .u64 nn, .string ss, .slice A m cc]] w (Gives w (.tuple #[.agg #[.int .i64 0, .int .i64 0, .int .i64 0, .string ByteArray.empty, .string ByteArray.empty, .int .i64 0], .bool false])) := by
 have hm' : ((m : Int) != 6) = true := by simp; omega
 go_enter Tryd.func62, Tryd.ntmps62
 go_wp2_with fail
 refine bodyPost_ret (v := .tuple #[.agg #[.int .i64 0, .int .i64 0, .int .i64 0, .string ByteArray.empty, .string ByteArray.empty, .int .i64 0], .bool false]) (by simp [results, Tryd.results62, go_sem, *] <;> rfl) rfl ?_
 exact ⟨rfl, blw⟩
/-- An element's four cells. -/
theorem Items.elem7 {w : World} {ad : Addr} {m c : Nat} {l : List Tree} (h : Items w (some ad) m c l) {i : Nat} {t : Tree} (hi : l[i]? = some t) :
  ∃ (eb eo : Nat) (ek : Int) (n : Nat) (es : ByteArray) (eA : Option Addr) (em ec : Nat), ad.add (i * 4) = ⟨eb, eo, none⟩ ∧ n < 2 ^ 64 ∧ es.size ≤ maxLen ∧ w.cell? ⟨eb, eo, none⟩ = some (.int .i64 ek) ∧ w.cell? ⟨eb, eo + 1, none⟩ = some (.int .u64 (n : Int)) ∧ w.cell? ⟨eb, eo + 2, none⟩ = some (.string es) ∧ w.cell? ⟨eb, eo + 3, none⟩ = some (.slice eA em ec) ∧ cnum t = clamp n ∧ ctxt t = es := by
 obtain ⟨k, n, s, l'⟩ := t
 obtain ⟨ad', u, e, hu, b, o, k2, n2, s2, A2, m2, c2, ea, rfl, q0, q1, q2, q3⟩ := h.elem hi
 injection e with e
 subst e
 obtain ⟨A3, m3, c3, e3, _, hn, hs, _⟩ := hu.open_
 injection e3 with e3
 simp at e3
 obtain ⟨rfl, rfl, rfl, rfl, rfl, rfl⟩ := e3
 exact ⟨b, o, _, n, _, _, _, _, ea, hn, hs, q0, q1, q2, q3, rfl, rfl⟩
end Go.Proofs.YtlolnakeancenaaDoor

namespace Go.Proofs.YtlolnakeancenaaDoor
open Go.RowKit
set_option linter.unusedVariables false
set_option linter.unusedSimpArgs false
set_option maxRecDepth 20000
attribute [local go_sem ↓] Go.wp_at_zero Go.wp_at_succ
attribute [local go_sem] World.cell?_alloc_some frozen_alloc_some

/-- A command that was taken, and whether it was. -/
structure CmdR where
 k : Int
 c : Int
 q : Int
 y : ByteArray
 x : ByteArray
 r : Int
 b : Bool
def CmdR.v (a : CmdR) : Value := .tuple #[.agg #[.int .i64 a.k, .int .i64 a.c, .int .i64 a.q, .string a.y, .string a.x, .int .i64 a.r], .bool a.b]
def czero : CmdR := ⟨0, 0, 0, ByteArray.empty, ByteArray.empty, 0, false⟩
noncomputable def ctk (T : Tree) (n0 n1 n2 : Nat) (s3 s4 : ByteArray) (n5 : Nat) : CmdR :=
 if ccheck (n0 : Int) (n1 : Int) (n2 : Int) s3 s4 (n5 : Int) = 0 ∧ tsame T (ctree n0 n1 n2 s3 s4 n5) = true then ⟨(n0 : Int), (n1 : Int), (n2 : Int), s3, s4, (n5 : Int), true⟩ else czero
noncomputable def ctake : Tree → CmdR
 | .mk k n s [t0, t1, t2, t3, t4, t5] => ctk (.mk k n s [t0, t1, t2, t3, t4, t5]) (cnum t0) (cnum t1) (cnum t2) (ctxt t3) (ctxt t4) (cnum t5)
 | _ => czero
theorem ctake_none {k : Int} {n : Nat} {s : ByteArray} {l : List Tree} (h : l.length ≠ 6) : ctake (.mk k n s l) = czero := by
 match l, h with
 | [], _ => rfl
 | [a], _ => rfl
 | [a, b], _ => rfl
 | [a, b, c], _ => rfl
 | [a, b, c, d], _ => rfl
 | [a, b, c, d, e], _ => rfl
 | [a, b, c, d, e, f], h => exact absurd rfl h
 | a :: b :: c :: d :: e :: f :: g :: l, _ => rfl
set_option maxHeartbeats 4000000 in
theorem cmdtake_any (t : Tree) (v : Value) (w : World) (hv : Holds w t v) (hT : Tabs w) : Calls Tryd.prog 62 #[v] w (Gives w (ctake t).v) := by
 obtain ⟨kk, nn, ss, l⟩ := t
 obtain ⟨A, m, cc, rfl, _, _, _, hm, _, _, _⟩ := hv.open_
 have hi := hv.items
 by_cases h6 : m = 6
 ·subst h6
  obtain ⟨t0, t1, t2, t3, t4, t5, rfl⟩ : ∃ t0 t1 t2 t3 t4 t5, l = [t0, t1, t2, t3, t4, t5] := by
   match l, hm with
   | [a, b, c, d, e, f], _ => exact ⟨a, b, c, d, e, f, rfl⟩
  obtain ⟨ad, rfl⟩ : ∃ ad, A = some ad := by
   obtain ⟨ad, u, e, _⟩ := hi.elem (i := 0) rfl
   exact ⟨ad, e⟩
  obtain ⟨eb0, eo0, ek0, n0, es0, eA0, em0, ec0, a0, l0, z0, p0, q0, r0, s0, u0, v0⟩ := hi.elem7 (i := 0) rfl
  obtain ⟨eb1, eo1, ek1, n1, es1, eA1, em1, ec1, a1, l1, z1, p1, q1, r1, s1, u1, v1⟩ := hi.elem7 (i := 1) rfl
  obtain ⟨eb2, eo2, ek2, n2, es2, eA2, em2, ec2, a2, l2, z2, p2, q2, r2, s2, u2, v2⟩ := hi.elem7 (i := 2) rfl
  obtain ⟨eb3, eo3, ek3, n3, es3, eA3, em3, ec3, a3, l3, z3, p3, q3, r3, s3, u3, v3⟩ := hi.elem7 (i := 3) rfl
  obtain ⟨eb4, eo4, ek4, n4, es4, eA4, em4, ec4, a4, l4, z4, p4, q4, r4, s4, u4, v4⟩ := hi.elem7 (i := 4) rfl
  obtain ⟨eb5, eo5, ek5, n5, es5, eA5, em5, ec5, a5, l5, z5, p5, q5, r5, s5, u5, v5⟩ := hi.elem7 (i := 5) rfl
  have h := take_six _ (kk : Int) (nn : Int) ss ad cc (fun i => match i with | 0 => eb0 | 1 => eb1 | 2 => eb2 | 3 => eb3 | 4 => eb4 | _ => eb5) (fun i => match i with | 0 => eo0 | 1 => eo1 | 2 => eo2 | 3 => eo3 | 4 => eo4 | _ => eo5) (fun i => match i with | 0 => n0 | 1 => n1 | 2 => n2 | 3 => n3 | 4 => n4 | _ => n5) es3 es4 w hT hv z3 z4 (fun i hi => by match i, hi with | 0, _ => exact l0 | 1, _ => exact l1 | 2, _ => exact l2 | 3, _ => exact l3 | 4, _ => exact l4 | 5, _ => exact l5 | i + 6, hi => omega) (fun i hi => by match i, hi with | 0, _ => exact a0 | 1, _ => exact a1 | 2, _ => exact a2 | 3, _ => exact a3 | 4, _ => exact a4 | 5, _ => exact a5 | i + 6, hi => omega) (fun i hi => by match i, hi with | 0, _ => exact q0 | 1, _ => exact q1 | 2, _ => exact q2 | 3, _ => exact q3 | 4, _ => exact q4 | 5, _ => exact q5 | i + 6, hi => omega) r3 r4
  have e : ctake (.mk kk nn ss [t0, t1, t2, t3, t4, t5]) = ctk (.mk kk nn ss [t0, t1, t2, t3, t4, t5]) (clamp n0) (clamp n1) (clamp n2) es3 es4 (clamp n5) := by
   show ctk _ (cnum t0) (cnum t1) (cnum t2) (ctxt t3) (ctxt t4) (cnum t5) = _
   rw [u0, u1, u2, v3, v4, u5]
  rw [e]
  by_cases hc : ccheck (clamp n0 : Int) (clamp n1 : Int) (clamp n2 : Int) es3 es4 (clamp n5 : Int) = 0 ∧ tsame (.mk kk nn ss [t0, t1, t2, t3, t4, t5]) (ctree (clamp n0) (clamp n1) (clamp n2) es3 es4 (clamp n5)) = true
  ·unfold ctk
   rw [if_pos hc]
   exact h.mono fun e w' ⟨h1, h2⟩ => ⟨h1.trans (congrArg Ending.returned (if_pos hc)), h2⟩
  ·unfold ctk
   rw [if_neg hc]
   exact h.mono fun e w' ⟨h1, h2⟩ => ⟨h1.trans (congrArg Ending.returned (if_neg hc)), h2⟩
 ·rw [ctake_none (by omega)]
  exact take_short _ _ _ A m cc w h6
end Go.Proofs.YtlolnakeancenaaDoor

namespace Go.Proofs.YtlolnakeancenaaDoor
open Go.RowKit
set_option linter.unusedVariables false
set_option linter.unusedSimpArgs false
set_option maxRecDepth 20000
attribute [local go_sem ↓] Go.wp_at_zero Go.wp_at_succ
attribute [local go_sem] World.cell?_alloc_some frozen_alloc_some
theorem isN_mk (k : Int) (n : Nat) (s : ByteArray) (l : List Tree) : isN (.mk k n s l) = true ↔ k = 0 ∧ s.size = 0 ∧ l = [] := by
 unfold isN
 rw [tsame_iff]
 constructor
 ·intro h
  injection h with h1 h2 h3 h4
  exact ⟨h1, by rw [h3]; rfl, h4⟩
 ·rintro ⟨rfl, h2, rfl⟩
  rw [size0 h2]; rfl
/-- A right set's item is taken as the set. -/
theorem isN_ntree (a : Int) : isN (ntree a) = true := (isN_mk _ _ _ _).2 ⟨rfl, rfl, rfl⟩
theorem inums_get (l : List IdP) (j : Nat) (h : j < l.length) : (inums l)[2 * j]? = some l[j].1 ∧ (inums l)[2 * j + 1]? = some l[j].2 := by
 induction l generalizing j with
 | nil => simp at h
 | cons p l ih =>
  have e : inums (p :: l) = p.1 :: p.2 :: inums l := rfl
  rw [e]
  cases j with
  | zero => exact ⟨rfl, rfl⟩
  | succ j =>
   have := ih j (by simpa using h)
   rw [show 2 * (j + 1) = 2 * j + 1 + 1 by omega]
   simpa using this
theorem itake_item (l : List IdP) (h : idsOk l = true) : itake (ltree (itrees l)) = some l := by
 have hl : (itrees l).length = 2 * l.length := by simp [itrees, inums_length]
 have hk := idsOk_iff.1 h
 have h2 : l.length ≤ 4096 := hk.2.2
 have e2 : (itrees l).length / 2 = l.length := by omega
 have hg : ∀ j, (hj : j < l.length) → gd (itrees l) j = true ∧ pa (itrees l) j = l[j] := fun j hj => by
  obtain ⟨g1, g2⟩ := inums_get l j hj
  have q1 : (itrees l)[2 * j]? = some (ntree l[j].1) := by unfold itrees; rw [List.getElem?_map, g1]; rfl
  have q2 : (itrees l)[2 * j + 1]? = some (ntree l[j].2) := by unfold itrees; rw [List.getElem?_map, g2]; rfl
  have r1 : (itrees l).getD (2 * j) default = ntree l[j].1 := by simp [List.getD, q1]
  have r2 : (itrees l).getD (2 * j + 1) default = ntree l[j].2 := by simp [List.getD, q2]
  have hr := idRight_iff.1 (hk.1 l[j] (List.getElem_mem hj))
  refine ⟨?_, ?_⟩
  ·unfold gd; rw [r1, r2, isN_ntree, isN_ntree]; rfl
  ·unfold pa
   rw [r1, r2]
   have e1 : tN (ntree l[j].1) = u64n l[j].1 := rfl
   have e2 : tN (ntree l[j].2) = u64n l[j].2 := rfl
   rw [e1, e2, u64n_of hr.1 (by omega), u64n_of hr.2.2.1 (by omega)]
   refine Prod.ext ?_ ?_
   ·show ((clamp l[j].1.toNat : Nat) : Int) = l[j].1
    unfold clamp; omega
   ·show ((clamp l[j].2.toNat : Nat) : Int) = l[j].2
    unfold clamp; omega
 have hm : (List.range l.length).map (pa (itrees l)) = l := by
  apply List.ext_getElem
  ·simp
  ·intro i h1 h2
   simp only [List.getElem_map, List.getElem_range]
   exact (hg i h2).2
 unfold ltree
 rw [itake_mk, e2, hm, if_pos]
 exact ⟨by unfold tkHead; simp [hl]; omega, fun j hj => (hg j hj).1, h⟩
end Go.Proofs.YtlolnakeancenaaDoor

namespace Go.Proofs.YtlolnakeancenaaDoor
open Go.RowKit
set_option linter.unusedVariables false
set_option linter.unusedSimpArgs false
set_option maxRecDepth 20000
attribute [local go_sem ↓] Go.wp_at_zero Go.wp_at_succ
attribute [local go_sem] World.cell?_alloc_some frozen_alloc_some

/-- A row of its own of the items of all trees of a list; nothing of it lies in the block gx. -/
structure RowX (w : World) (base gx : Nat) (v : Value) (n : Nat) (l : List Tree) (us : List Value) : Prop where
 own : w.ownsRow base 25 4 v n (flatL us)
 ln : n = l.length
 len : us.length = n
 ne : v.ownBlock ≠ some gx
 sub : ∀ (i : Nat) (t : Tree) (u : Value), l[i]? = some t → us[i]? = some u → HoldsIn w (fun b => base ≤ b ∧ b ≠ gx ∧ some b ≠ v.ownBlock) t u
theorem RowX.keep {w w' : World} {base gx : Nat} {v : Value} {n : Nat} {l : List Tree} {us : List Value} (h : RowX w base gx v n l us) (hb : Below w.heap.size w w') : RowX w' base gx v n l us :=
 ⟨h.own.kept (grown_of_below hb none) (by cases v.ownBlock <;> simp), h.ln, h.len, h.ne, fun i t u ht hu => (h.sub i t u ht hu).under hb⟩
theorem RowX.alloc {w : World} {base gx : Nat} {v : Value} {n : Nat} {l : List Tree} {us : List Value} (h : RowX w base gx v n l us) (o : Obj) : RowX (w.alloc o) base gx v n l us := h.keep (below_one o)
theorem ownsRow_setCell_ne {w : World} {base : Nat} {e : TypeId} {size : Nat} {v : Value} {n : Nat} {xs : List Value} (h : w.ownsRow base e size v n xs) {p : Addr} (hp : v.ownBlock ≠ some p.block) (u : Value) : (w.setCell p u).ownsRow base e size v n xs :=
 own_far h (fun e => hp e) u
theorem RowX.set {w : World} {base gx : Nat} {v : Value} {n : Nat} {l : List Tree} {us : List Value} (h : RowX w base gx v n l us) {p : Addr} (hp : p.block = gx) (u : Value) : RowX (w.setCell p u) base gx v n l us :=
 ⟨ownsRow_setCell_ne h.own (by rw [hp]; exact h.ne) u, h.ln, h.len, h.ne, fun i t x ht hx => (h.sub i t x ht hx).set (by omega) u⟩
theorem RowX.form {w : World} {base gx : Nat} {v : Value} {n : Nat} {l : List Tree} {us : List Value} (h : RowX w base gx v n l us) : ∃ A c, v = .slice A n c ∧ n ≤ c ∧ c ≤ maxLen := own_form7 h.own
theorem RowX.app {w w' : World} {base gx : Nat} {v v' : Value} {n n' : Nat} {l ts : List Tree} {us us' : List Value} (h : RowX w base gx v n l us) (hl : us'.length = ts.length) (hn : n' = n + us'.length)
  (hu : ∀ (i : Nat) (t : Tree) (u : Value), ts[i]? = some t → us'[i]? = some u → HoldsIn w (fun b => base ≤ b ∧ b ≠ gx ∧ some b ≠ v.ownBlock) t u)
  (hown : w'.ownsRow base 25 4 v' (n + us'.length) (flatL us ++ flatL us')) (hgr : w.grownBy w' v.ownBlock) (hat : v'.ownBlock = v.ownBlock ∨ v'.ownBlock = some w.heap.size) (hgx : gx < w.heap.size) :
  RowX w' base gx v' n' (l ++ ts) (us ++ us') := by
 subst hn
 have h1 := h.ln
 have h2 := h.len
 have key : ∀ (i : Nat) (t : Tree) (x : Value), (l ++ ts)[i]? = some t → (us ++ us')[i]? = some x → HoldsIn w (fun b => (base ≤ b ∧ b ≠ gx ∧ some b ≠ v.ownBlock) ∧ b < w.heap.size) t x := by
  intro i t' x hi hx
  by_cases hlt : i < n
  ·rw [List.getElem?_append_left (by omega)] at hi hx
   exact (h.sub i t' x hi hx).there
  ·rw [List.getElem?_append_right (by omega)] at hi hx
   rw [show i - us.length = i - l.length by omega] at hx
   exact (hu _ t' x hi hx).there
 refine ⟨?_, by simp; omega, by simp; omega, ?_, fun i t' x hi hx => ?_⟩
 ·have e : flatL (us ++ us') = flatL us ++ flatL us' := by simp [flatL]
  rw [e]; exact hown
 ·rcases hat with e | e
  ·rw [e]; exact h.ne
  ·rw [e]; intro e2; injection e2 with e2; omega
 refine ((key i t' x hi hx).grown hgr fun b hb => hb.1.2.2).mono fun b hb => ⟨hb.1.1, hb.1.2.1, ?_⟩
 rcases hat with e | e
 ·rw [e]; exact hb.1.2.2
 ·rw [e]
  intro e2
  injection e2 with e2
  have := hb.2
  omega
theorem RowX.node {w : World} {base gx : Nat} {A : Option Addr} {m n c : Nat} {l : List Tree} {us : List Value} (h : RowX w base gx (.slice A m c) n l us) : HoldsIn w (fun b => base ≤ b) (ltree l) (listV A m c) := by
 obtain ⟨A', c', e, -, -⟩ := h.form
 injection e with e1 e2 e3
 subst e1 e2 e3
 have hs : RowS w base (.slice A m c) l us := ⟨by have := h.own; rwa [h.len], by have := h.ln; have := h.len; omega, fun i t u ht hu => (h.sub i t u ht hu).mono fun b hb => ⟨hb.1, hb.2.2⟩⟩
 exact hs.node (by have := h.ln; have := h.len; omega)
/-- Leaves lie nowhere. -/
theorem holds_leaf {w : World} {S : Nat → Prop} {k : Int} {n : Nat} {s : ByteArray} {v : Value} (h : Holds w (.mk k n s []) v) : HoldsIn w S (.mk k n s []) v := by
 cases h with
 | mk k n s l A m c vs hk hn hs hm hmc hc hcell hsub =>
  exact .mk k n s [] A m c vs hk hn hs hm hmc hc (fun i hi => by simp at hm; omega) (fun i t ht => by simp at ht)
theorem flat4_flatL (vs : Nat → Value) (m : Nat) : flat4 vs m = flatL ((List.range m).map vs) := by
 induction m with
 | zero => rfl
 | succ m ih => rw [flat4, ih, List.range_succ, List.map_append]; simp [flatL]
theorem RowI.leaves {w : World} {base : Nat} {A : Option Addr} {k c m : Nat} {l : List Tree} (h : RowI w base (.slice A k c) m l) (hl : ∀ t ∈ l, ∃ k n s, t = .mk k n s []) : HoldsIn w (fun b => base ≤ b) (ltree l) (listV A k c) := by
 obtain ⟨hm, vs, hown, hsub⟩ := h
 obtain ⟨A', c', e, -, -⟩ := own_form7 hown
 injection e with e1 e2 e3
 subst e1 e2 e3
 have hs : RowS w base (.slice A k c) l ((List.range k).map vs) := ⟨by rw [← flat4_flatL]; simpa using hown, by simp; omega, fun i t u ht hu => by
  obtain ⟨k1, n1, s1, rfl⟩ := hl t (List.mem_of_getElem? ht)
  have hik : i < k := by
   rcases Nat.lt_or_ge i k with h | h
   ·exact h
   ·rw [List.getElem?_eq_none (by simp; omega)] at hu; cases hu
  rw [List.getElem?_map, List.getElem?_range hik] at hu
  simp at hu
  subst hu
  exact holds_leaf (hsub i _ ht)⟩
 exact hs.node (by simp; omega)
theorem cmditem_right (k c q : Int) (y x : ByteArray) (r : Int) (hy : y.size ≤ maxLen) (hx : x.size ≤ maxLen) (h : ccheck k c q y x r = 0) (w : World) :
  Calls Tryd.prog 57 #[.agg #[.int .i64 k, .int .i64 c, .int .i64 q, .string y, .string x, .int .i64 r]] w
   (fun e w' => ∃ A c', e = .returned (listV A 6 c') ∧ HoldsIn w' (fun b => w.heap.size ≤ b) (ctree k.toNat c.toNat q.toNat y x r.toNat) (listV A 6 c') ∧ Below w.heap.size w w') := by
 obtain ⟨hk0, hk1, hc0, hc1, hq0, hq1, hr0, hr1⟩ := ccheck_right h
 have hit := cmditem_any k.toNat c.toNat q.toNat y x r.toNat (by omega) (by omega) (by omega) hy hx (by omega) w
 rw [show ((k.toNat : Nat) : Int) = k by omega, show ((c.toNat : Nat) : Int) = c by omega, show ((q.toNat : Nat) : Int) = q by omega, show ((r.toNat : Nat) : Int) = r by omega] at hit
 refine hit.mono ?_
 rintro e w' ⟨A, c', rfl, hr, hb⟩
 refine ⟨A, c', rfl, (hr.leaves fun t ht => ?_).mono fun b hb => by omega, hb⟩
 simp at ht
 rcases ht with rfl | rfl | rfl | rfl | rfl | rfl <;> exact ⟨_, _, _, rfl⟩
end Go.Proofs.YtlolnakeancenaaDoor

namespace Go.Proofs.YtlolnakeancenaaDoor
open Go.RowKit
set_option linter.unusedVariables false
set_option linter.unusedSimpArgs false
set_option maxRecDepth 20000
attribute [local go_sem ↓] Go.wp_at_zero Go.wp_at_succ
attribute [local go_sem] World.cell?_alloc_some frozen_alloc_some

/-- Is a message more than is looked at? -/
def mgreat (M : MsgT) : Bool := decide (60 < M.m) || cgreat M.cy M.cx
theorem mgreat_no {M : MsgT} (h : mgreat M = false) : M.m ≤ 60 ∧ M.cy.size ≤ 200 ∧ M.cx.size ≤ 2000 := by
 unfold mgreat cgreat at h
 simp only [Bool.or_eq_false_iff, decide_eq_false_iff_not, Nat.not_lt] at h
 exact h
attribute [local go_sem ↓ high] loadVar_msg storeVar_msg msg_store_new
set_option maxHeartbeats 2000000 in
theorem great10_any (M : MsgT) (w : World) : Calls Tryd.prog 16 #[M.v] w (Gives w (.bool (mgreat M))) := by
 have hg := fun W => great_any M.ck M.cc M.cq M.cy M.cx M.cr W
 unfold mgreat
 obtain ⟨k, i, n, br, bb, tr, tb, st, ck, cc, cq, cy, cx, cr, A, m, cap, sq, tg, ver, l⟩ := M
 simp only [MsgT.v] at hg ⊢
 generalize cgreat cy cx = g at *
 by_cases h : 60 < m
 ·have h' : ((60 : Int) < (m : Int)) := by omega
  rw [decide_eq_true h]
  have HG := Lib.hid hg
  clear hg h
  go_enter Tryd.func16, Tryd.ntmps16
  go_wp2_with fail
  go_ret
  exact ⟨rfl, blw⟩
 ·have h' : ¬ ((60 : Int) < (m : Int)) := by omega
  rw [decide_eq_false h]
  have HG := Lib.hid hg
  clear hg h
  go_enter Tryd.func16, Tryd.ntmps16
  go_wp2_with (go_at_call 34; (with_reducible refine (HG.out _).mono ?_); rintro e w1 ⟨rfl, hb1⟩; have hz1 := hb1.size; (try simp at hz1))
  go_ret
  exact ⟨rfl, blw⟩
set_option maxHeartbeats 2000000 in
theorem refframe_any (ver : Nat) (hver : ver < 256) (t : Tree) (v : Value) (w : World) (hc : check t 0 = 0) (hsz : tsize t ≤ 10000000) (ht : Holds w t v) :
  Calls Tryd.prog 14 #[.int .i64 (ver : Int), v] w (Makes w 5 (mframe ver (tform t))) := by
 have hform := fun W (h : Below w.heap.size w W) => reform_any t 0 v W hc hsz (ht.keep h)
 have hpl : (tform t).length ≤ 100000000 := by have := tform_len t ht.fit; omega
 obtain ⟨k, n, s, l⟩ := t
 obtain ⟨A, m, c, rfl, -, -, -, -, -, -, -⟩ := ht.open_
 generalize tform (.mk k n s l) = P at *
 obtain ⟨S, hS⟩ : ∃ S, crc P = S := ⟨_, rfl⟩
 have hs := crc_lt P
 rw [hS] at hs
 obtain ⟨i0, hi, hz0, hz1, hz2⟩ := info_parts info_u8
 have hsum := fun W A' m' c' (hb : Bytes W A' m' P) => refsum_any A' m' c' P W hb
 simp only [hS] at hsum
 have X : Blk (w.alloc (.cells #[.int .i64 k, .int .u64 (n : Int), .string s, .slice A m c] 25)) w.heap.size 25 #[.int .i64 k, .int .u64 (n : Int), .string s, .slice A m c] := Blk.new w _ _
 have kk : Below w.heap.size w (w.alloc (.cells #[.int .i64 k, .int .u64 (n : Int), .string s, .slice A m c] 25)) := below_one _
 have Hform := Lib.hid hform
 have Hsum := Lib.hid hsum
 have HS := Lib.hid hS
 clear hform hsum hS ht hsz hc
 have hv0 : (0 : Int) ≤ (ver : Int) := by omega
 have hv1 : (ver : Int) < 256 := by omega
 have hvw : IntKind.u8.wrap (ver : Int) = (ver : Int) := by simp [IntKind.wrap, IntKind.bits, IntKind.signed]; omega
 go_enter Tryd.func14, Tryd.ntmps14
 go_upto_region 3 with (first
  | (go_at_call 29; (with_reducible refine (Hform.out _ kk).mono ?_); clear Hform; rintro e w1 ⟨v1, rfl, hown1, hb1⟩; replace kk := below_call kk hb1 kk.size; obtain ⟨A1, c1, rfl, _, _⟩ := hown1.form; have by1 := hown1.bytes.2.2)
  | (go_at_call 32; (with_reducible refine (Hsum.out _ _ _ _ by1).mono ?_); clear Hsum; rintro e w2 ⟨rfl, hb2⟩; have kb := below_call kk hb2 kk.size; have by2 := by1.keep hb2; have own2 := hown1.keep hb2))
 have hs16 : IntKind.u8.wrap ((S : Int) / 16777216) = (S : Int) / 16777216 := by simp [IntKind.wrap, IntKind.bits, IntKind.signed]; omega
 have src2 := Src.of_bytes (by2.keep (below_one (.cells #[.int .u8 (ver : Int), .int .u8 ((S : Int) / 16777216), .int .u8 ((S : Int) / 65536 % 256), .int .u8 ((S : Int) / 256 % 256), .int .u8 ((S : Int) % 256)] 5)))
 have own5 := made5 w2 ver S hver hs
 have hzb := kb.size
 have HB := Lib.hid own2.2
 clear own2 by2 by1 hown1
 go_wp2_with ((at_builtin; go_loud (refine wpList_app _ rfl (.tmp 27) (.tmp 28) 28 rfl _ 5 i0 _ 1 1 Tryd.underlying28 hi hz0 hz1 hz2 rfl (by omega) _ _ _ rfl own5 _ _ _ _ rfl src2 ?h63 ?hby ?hbase ?_); (case h63 => (unfold maxLen; first | omega | (simp; done) | (simp; omega))); (case hby => first | omega | (simp; done) | (simp; omega)); (case hbase => first | omega | (simp; done) | (simp; omega)); intro v5 w5 hownw5 hgroww5 hatw5 holdw5))
 have hb5 := below_app (B := w.heap.size) (kb.alloc kb.size _) own5 hgroww5 (by omega) (by simp; omega)
 have hall : ∀ x ∈ (ver :: be4 S), x < 256 := fun x hx => by simp [be4] at hx; omega
 have own6 : OwnB w5 w.heap.size 5 v5 ((ver :: be4 S) ++ P) := OwnB.join (show w5.ownsRow w.heap.size 5 1 v5 ((ver :: be4 S).length + P.length) (u8s (ver :: be4 S) ++ u8s P) from own_lowr hownw5 (by omega)) hall HB.out
 refine bodyPost_ret (v := v5) (by simp [results, Tryd.results14, go_sem, *] <;> rfl) rfl ?_
 exact ⟨_, rfl, by unfold mframe; rw [HS.out]; exact own6, hb5⟩
end Go.Proofs.YtlolnakeancenaaDoor
