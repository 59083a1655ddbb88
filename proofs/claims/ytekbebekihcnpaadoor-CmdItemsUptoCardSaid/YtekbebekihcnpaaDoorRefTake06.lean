/- The walks of stonecropref06.Int and of stonecropref06.Take at six. -/
import Derived.Test.YtekbebekihcnpaaDoorRefItem06
import Derived.Test.YtekbebekihcnpaaDoorCmdTake
import Derived.Test.YtekbebekihcnpaaDoorDocEq
namespace Go.Proofs.YtekbebekihcnpaaDoor
open Go.RowKit
set_option linter.unusedVariables false
set_option linter.unusedSimpArgs false
set_option maxRecDepth 20000
attribute [local go_sem ↓] Go.wp_at_zero Go.wp_at_succ
attribute [local go_sem] World.cell?_alloc_some frozen_alloc_some
attribute [local go_sem] lt2 lt3 lt4 lt5
attribute [local simp] lt2 lt3 lt4 lt5

theorem int_any (k : Int) (n : Nat) (s : ByteArray) (A : Option Addr) (m c : Nat) (hn : n < 2 ^ 64) (w : World) :
    Calls Tryd.prog 47 #[.agg #[.int .i64 k, .int .u64 (n : Int), .string s, .slice A m c]] w (fun e w' => e = .returned (.int .i64 (clamp n : Int)) ∧ w' = w.alloc (.cells #[.int .i64 k, .int .u64 (n : Int), .string s, .slice A m c] 33)) := by
  by_cases h : 4611686018427387904 < n
  · have h' : (4611686018427387904 : Int) < (n : Int) := by omega
    have hc : clamp n = 4611686018427387904 := by unfold clamp; omega
    rw [hc]
    go_enter Tryd.func47, Tryd.ntmps47
    go_wp2_with fail
    go_ret
    exact ⟨rfl, rfl⟩
  · have h' : ¬ (4611686018427387904 : Int) < (n : Int) := by omega
    have hc : clamp n = n := by unfold clamp; omega
    have hw1 : wrap64 (n : Int) = (n : Int) := by simp only [wrap64]; omega
    have hw2 : IntKind.i64.wrap (n : Int) = (n : Int) := IntWalk.i64_in _ (by omega)
    rw [hc]
    go_enter Tryd.func47, Tryd.ntmps47
    go_wp2_with fail
    go_ret
    exact ⟨rfl, rfl⟩
abbrev RkS (w : World) (kk nn : Int) (ss : ByteArray) (ad : Addr) (cc : Nat) (eb eo n em ec : Nat → Nat) (ek : Nat → Int) (es : Nat → ByteArray) (eA : Nat → Option Addr) (s3 s4 : ByteArray) (wx : World) : Prop := Below w.heap.size w wx ∧ w.heap.size + 1 < wx.heap.size ∧ wx.cell? ⟨w.heap.size, 0, none⟩ = some (.int .i64 kk) ∧ wx.cell? ⟨w.heap.size, 1, none⟩ = some (.int .u64 nn) ∧ wx.cell? ⟨w.heap.size, 2, none⟩ = some (.string ss) ∧ wx.cell? ⟨w.heap.size, 3, none⟩ = some (.slice (some ad) 6 cc) ∧ wx.cell? ⟨w.heap.size + 1, 0, none⟩ = some (.int .i64 0) ∧ wx.cell? ⟨w.heap.size + 1, 1, none⟩ = some (.int .i64 0) ∧ wx.cell? ⟨w.heap.size + 1, 2, none⟩ = some (.int .i64 0) ∧ wx.cell? ⟨w.heap.size + 1, 3, none⟩ = some (.string ByteArray.empty) ∧ wx.cell? ⟨w.heap.size + 1, 4, none⟩ = some (.string ByteArray.empty) ∧ wx.cell? ⟨w.heap.size + 1, 5, none⟩ = some (.int .i64 0) ∧ wx.frozen? ⟨w.heap.size + 1, 0, none⟩ = false ∧ wx.frozen? ⟨w.heap.size + 1, 1, none⟩ = false ∧ wx.frozen? ⟨w.heap.size + 1, 2, none⟩ = false ∧ wx.frozen? ⟨w.heap.size + 1, 3, none⟩ = false ∧ wx.frozen? ⟨w.heap.size + 1, 4, none⟩ = false ∧ wx.frozen? ⟨w.heap.size + 1, 5, none⟩ = false ∧ wx.cell? ⟨eb 0, eo 0, none⟩ = some (.int .i64 (ek 0)) ∧ wx.cell? ⟨eb 0, eo 0 + 1, none⟩ = some (.int .u64 (n 0 : Int)) ∧ wx.cell? ⟨eb 0, eo 0 + 2, none⟩ = some (.string (es 0)) ∧ wx.cell? ⟨eb 0, eo 0 + 3, none⟩ = some (.slice (eA 0) (em 0) (ec 0)) ∧ wx.cell? ⟨eb 1, eo 1, none⟩ = some (.int .i64 (ek 1)) ∧ wx.cell? ⟨eb 1, eo 1 + 1, none⟩ = some (.int .u64 (n 1 : Int)) ∧ wx.cell? ⟨eb 1, eo 1 + 2, none⟩ = some (.string (es 1)) ∧ wx.cell? ⟨eb 1, eo 1 + 3, none⟩ = some (.slice (eA 1) (em 1) (ec 1)) ∧ wx.cell? ⟨eb 2, eo 2, none⟩ = some (.int .i64 (ek 2)) ∧ wx.cell? ⟨eb 2, eo 2 + 1, none⟩ = some (.int .u64 (n 2 : Int)) ∧ wx.cell? ⟨eb 2, eo 2 + 2, none⟩ = some (.string (es 2)) ∧ wx.cell? ⟨eb 2, eo 2 + 3, none⟩ = some (.slice (eA 2) (em 2) (ec 2)) ∧ wx.cell? ⟨eb 5, eo 5, none⟩ = some (.int .i64 (ek 5)) ∧ wx.cell? ⟨eb 5, eo 5 + 1, none⟩ = some (.int .u64 (n 5 : Int)) ∧ wx.cell? ⟨eb 5, eo 5 + 2, none⟩ = some (.string (es 5)) ∧ wx.cell? ⟨eb 5, eo 5 + 3, none⟩ = some (.slice (eA 5) (em 5) (ec 5)) ∧ wx.cell? ⟨eb 3, eo 3 + 2, none⟩ = some (.string s3) ∧ wx.cell? ⟨eb 4, eo 4 + 2, none⟩ = some (.string s4)
theorem RkS.drew {w : World} {kk nn : Int} {ss : ByteArray} {ad : Addr} {cc : Nat} {eb eo n em ec : Nat → Nat} {ek : Nat → Int} {es : Nat → ByteArray} {eA : Nat → Option Addr} {s3 s4 : ByteArray} {W : World} (h : RkS w kk nn ss ad cc eb eo n em ec ek es eA s3 s4 W) : RkS w kk nn ss ad cc eb eo n em ec ek es eA s3 s4 W.drew := ⟨h.1.drew, h.2⟩
theorem RkS.keep {w : World} {kk nn : Int} {ss : ByteArray} {ad : Addr} {cc : Nat} {eb eo n em ec : Nat → Nat} {ek : Nat → Int} {es : Nat → ByteArray} {eA : Nat → Option Addr} {s3 s4 : ByteArray} {W w1 : World} (hb : Below W.heap.size W w1) (h : RkS w kk nn ss ad cc eb eo n em ec ek es eA s3 s4 W) : RkS w kk nn ss ad cc eb eo n em ec ek es eA s3 s4 w1 := by
  obtain ⟨h1, h2, a0, a1, a2, a3, z0, z1, z2, z3, z4, z5, f0, f1, f2, f3, f4, f5, e00, e01, e02, e03, e10, e11, e12, e13, e20, e21, e22, e23, e50, e51, e52, e53, t3, t4⟩ := h
  have hz := hb.size
  exact ⟨below_call h1 hb (by omega), by omega, cell_keep hb a0, cell_keep hb a1, cell_keep hb a2, cell_keep hb a3, cell_keep hb z0, cell_keep hb z1, cell_keep hb z2, cell_keep hb z3, cell_keep hb z4, cell_keep hb z5, frozen_keep hb z0 f0, frozen_keep hb z1 f1, frozen_keep hb z2 f2, frozen_keep hb z3 f3, frozen_keep hb z4 f4, frozen_keep hb z5 f5, cell_keep hb e00, cell_keep hb e01, cell_keep hb e02, cell_keep hb e03, cell_keep hb e10, cell_keep hb e11, cell_keep hb e12, cell_keep hb e13, cell_keep hb e20, cell_keep hb e21, cell_keep hb e22, cell_keep hb e23, cell_keep hb e50, cell_keep hb e51, cell_keep hb e52, cell_keep hb e53, cell_keep hb t3, cell_keep hb t4⟩
theorem RkS.alloc {w : World} {kk nn : Int} {ss : ByteArray} {ad : Addr} {cc : Nat} {eb eo n em ec : Nat → Nat} {ek : Nat → Int} {es : Nat → ByteArray} {eA : Nat → Option Addr} {s3 s4 : ByteArray} {W : World} (h : RkS w kk nn ss ad cc eb eo n em ec ek es eA s3 s4 W) (o : Obj) : RkS w kk nn ss ad cc eb eo n em ec ek es eA s3 s4 (W.alloc o) := h.keep (below_one o)
theorem far6 {W : World} {a : Addr} {v : Value} {g : Nat} (h : W.cell? a = some v) (hne : g ≠ a.block) (v0 v1 v2 v3 v4 v5 : Value) : ((((((W.setCell ⟨g, 0, none⟩ v0).setCell ⟨g, 1, none⟩ v1).setCell ⟨g, 2, none⟩ v2).setCell ⟨g, 3, none⟩ v3).setCell ⟨g, 4, none⟩ v4).setCell ⟨g, 5, none⟩ v5).cell? a = some v :=
  cell_far (cell_far (cell_far (cell_far (cell_far (cell_far h hne) hne) hne) hne) hne) hne
theorem fz6 {W : World} {a : Addr} {b : Bool} {g : Nat} (h : W.frozen? a = b) (v0 v1 v2 v3 v4 v5 : Value) : ((((((W.setCell ⟨g, 0, none⟩ v0).setCell ⟨g, 1, none⟩ v1).setCell ⟨g, 2, none⟩ v2).setCell ⟨g, 3, none⟩ v3).setCell ⟨g, 4, none⟩ v4).setCell ⟨g, 5, none⟩ v5).frozen? a = b := by
  rw [← h]; simp [go_sem]
theorem RkS.set6 {w : World} {kk nn : Int} {ss : ByteArray} {ad : Addr} {cc : Nat} {eb eo n em ec : Nat → Nat} {ek : Nat → Int} {es : Nat → ByteArray} {eA : Nat → Option Addr} {s3 s4 : ByteArray} {W : World} {g : Nat} (h : RkS w kk nn ss ad cc eb eo n em ec ek es eA s3 s4 W) (hg : w.heap.size + 2 ≤ g) (he : ∀ i, i < 6 → eb i < w.heap.size) (v0 v1 v2 v3 v4 v5 : Value) : RkS w kk nn ss ad cc eb eo n em ec ek es eA s3 s4 ((((((W.setCell ⟨g, 0, none⟩ v0).setCell ⟨g, 1, none⟩ v1).setCell ⟨g, 2, none⟩ v2).setCell ⟨g, 3, none⟩ v3).setCell ⟨g, 4, none⟩ v4).setCell ⟨g, 5, none⟩ v5) := by
  obtain ⟨h1, h2, a0, a1, a2, a3, z0, z1, z2, z3, z4, z5, f0, f1, f2, f3, f4, f5, e00, e01, e02, e03, e10, e11, e12, e13, e20, e21, e22, e23, e50, e51, e52, e53, t3, t4⟩ := h
  have n0 : g ≠ w.heap.size := by omega
  have n1 : g ≠ w.heap.size + 1 := by omega
  have m0 : g ≠ eb 0 := by have := he 0 (by decide); omega
  have m1 : g ≠ eb 1 := by have := he 1 (by decide); omega
  have m2 : g ≠ eb 2 := by have := he 2 (by decide); omega
  have m3 : g ≠ eb 3 := by have := he 3 (by decide); omega
  have m4 : g ≠ eb 4 := by have := he 4 (by decide); omega
  have m5 : g ≠ eb 5 := by have := he 5 (by decide); omega
  exact ⟨by ((repeat' first | with_reducible exact Below.refl _ _ | with_reducible assumption | with_reducible refine Below.alloc ?_ ?_ _ | with_reducible refine Below.setCell ?_ ?_ _ | with_reducible apply Below.drew | with_reducible apply below_drewN | with_reducible refine below_call ?_ (by with_reducible assumption) ?_) <;> (first | omega | (simp; done) | (simp; omega) | (simp at *; omega))), by simp; omega, far6 a0 n0 _ _ _ _ _ _, far6 a1 n0 _ _ _ _ _ _, far6 a2 n0 _ _ _ _ _ _, far6 a3 n0 _ _ _ _ _ _, far6 z0 n1 _ _ _ _ _ _, far6 z1 n1 _ _ _ _ _ _, far6 z2 n1 _ _ _ _ _ _, far6 z3 n1 _ _ _ _ _ _, far6 z4 n1 _ _ _ _ _ _, far6 z5 n1 _ _ _ _ _ _, fz6 f0 _ _ _ _ _ _, fz6 f1 _ _ _ _ _ _, fz6 f2 _ _ _ _ _ _, fz6 f3 _ _ _ _ _ _, fz6 f4 _ _ _ _ _ _, fz6 f5 _ _ _ _ _ _, far6 e00 m0 _ _ _ _ _ _, far6 e01 m0 _ _ _ _ _ _, far6 e02 m0 _ _ _ _ _ _, far6 e03 m0 _ _ _ _ _ _, far6 e10 m1 _ _ _ _ _ _, far6 e11 m1 _ _ _ _ _ _, far6 e12 m1 _ _ _ _ _ _, far6 e13 m1 _ _ _ _ _ _, far6 e20 m2 _ _ _ _ _ _, far6 e21 m2 _ _ _ _ _ _, far6 e22 m2 _ _ _ _ _ _, far6 e23 m2 _ _ _ _ _ _, far6 e50 m5 _ _ _ _ _ _, far6 e51 m5 _ _ _ _ _ _, far6 e52 m5 _ _ _ _ _ _, far6 e53 m5 _ _ _ _ _ _, far6 t3 m3 _ _ _ _ _ _, far6 t4 m4 _ _ _ _ _ _⟩
abbrev RgS (G : Nat) (w : World) (kk nn : Int) (ss : ByteArray) (ad : Addr) (cc : Nat) (eb eo n em ec : Nat → Nat) (ek : Nat → Int) (es : Nat → ByteArray) (eA : Nat → Option Addr) (s3 s4 : ByteArray) (wx : World) : Prop := RkS w kk nn ss ad cc eb eo n em ec ek es eA s3 s4 wx ∧ G < wx.heap.size ∧ wx.cell? ⟨G, 0, none⟩ = some (.int .i64 (clamp (n 0) : Int)) ∧ wx.cell? ⟨G, 1, none⟩ = some (.int .i64 (clamp (n 1) : Int)) ∧ wx.cell? ⟨G, 2, none⟩ = some (.int .i64 (clamp (n 2) : Int)) ∧ wx.cell? ⟨G, 3, none⟩ = some (.string s3) ∧ wx.cell? ⟨G, 4, none⟩ = some (.string s4) ∧ wx.cell? ⟨G, 5, none⟩ = some (.int .i64 (clamp (n 5) : Int))
theorem RgS.keep {G : Nat} {w : World} {kk nn : Int} {ss : ByteArray} {ad : Addr} {cc : Nat} {eb eo n em ec : Nat → Nat} {ek : Nat → Int} {es : Nat → ByteArray} {eA : Nat → Option Addr} {s3 s4 : ByteArray} {W w1 : World} (hb : Below W.heap.size W w1) (h : RgS G w kk nn ss ad cc eb eo n em ec ek es eA s3 s4 W) : RgS G w kk nn ss ad cc eb eo n em ec ek es eA s3 s4 w1 := by
  obtain ⟨h0, hG, g0, g1, g2, g3, g4, g5⟩ := h
  have hz := hb.size
  exact ⟨h0.keep hb, by omega, cell_keep hb g0, cell_keep hb g1, cell_keep hb g2, cell_keep hb g3, cell_keep hb g4, cell_keep hb g5⟩
theorem RgS.drew {G : Nat} {w : World} {kk nn : Int} {ss : ByteArray} {ad : Addr} {cc : Nat} {eb eo n em ec : Nat → Nat} {ek : Nat → Int} {es : Nat → ByteArray} {eA : Nat → Option Addr} {s3 s4 : ByteArray} {W : World} (h : RgS G w kk nn ss ad cc eb eo n em ec ek es eA s3 s4 W) : RgS G w kk nn ss ad cc eb eo n em ec ek es eA s3 s4 W.drew := ⟨h.1.drew, h.2⟩
set_option maxHeartbeats 16000000 in
theorem reftake_six (t : Tree) (kk nn : Int) (ss : ByteArray) (ad : Addr) (cc : Nat) (eb eo n em ec : Nat → Nat) (ek : Nat → Int) (es : Nat → ByteArray) (eA : Nat → Option Addr) (s3 s4 : ByteArray) (w : World) (hx : Holds w t (.agg #[.int .i64 kk, .int .u64 nn, .string ss, .slice (some ad) 6 cc])) (hs3 : s3.size ≤ 1000000000) (hs4 : s4.size ≤ maxLen) (hn : ∀ i, i < 6 → n i < 2 ^ 64) (ha : ∀ i, i < 6 → ad.add (i * 4) = ⟨eb i, eo i, none⟩)
    (he0 : ∀ i, i < 6 → w.cell? ⟨eb i, eo i, none⟩ = some (.int .i64 (ek i))) (he : ∀ i, i < 6 → w.cell? ⟨eb i, eo i + 1, none⟩ = some (.int .u64 (n i : Int))) (he2 : ∀ i, i < 6 → w.cell? ⟨eb i, eo i + 2, none⟩ = some (.string (es i))) (he3 : ∀ i, i < 6 → w.cell? ⟨eb i, eo i + 3, none⟩ = some (.slice (eA i) (em i) (ec i))) (h3 : w.cell? ⟨eb 3, eo 3 + 2, none⟩ = some (.string s3)) (h4 : w.cell? ⟨eb 4, eo 4 + 2, none⟩ = some (.string s4)) :
    Calls Tryd.prog 21 #[(.agg #[.int .i64 kk, .int .u64 nn, .string ss, .slice (some ad) 6 cc])] w (fun e w' => e = .returned (if (ccheck (clamp (n 0) : Int) (clamp (n 1) : Int) (clamp (n 2) : Int) s3 s4 (clamp (n 5) : Int)) = 0 ∧ tsame t (ctree (clamp (n 0)) (clamp (n 1)) (clamp (n 2)) s3 s4 (clamp (n 5))) = true then .tuple #[.agg #[.int .i64 (clamp (n 0) : Int), .int .i64 (clamp (n 1) : Int), .int .i64 (clamp (n 2) : Int), .string s3, .string s4, .int .i64 (clamp (n 5) : Int)], .bool true] else .tuple #[.agg #[.int .i64 0, .int .i64 0, .int .i64 0, .string ByteArray.empty, .string ByteArray.empty, .int .i64 0], .bool false]) ∧ Below w.heap.size w w') := by
  have hT0 := fun W => int_any (ek 0) (n 0) (es 0) (eA 0) (em 0) (ec 0) (hn 0 (by decide)) W
  have hT1 := fun W => int_any (ek 1) (n 1) (es 1) (eA 1) (em 1) (ec 1) (hn 1 (by decide)) W
  have hT2 := fun W => int_any (ek 2) (n 2) (es 2) (eA 2) (em 2) (ec 2) (hn 2 (by decide)) W
  have hT5 := fun W => int_any (ek 5) (n 5) (es 5) (eA 5) (em 5) (ec 5) (hn 5 (by decide)) W
  have ha3 : ad.add 12 = ⟨eb 3, eo 3, none⟩ := ha 3 (by decide)
  have ha4 : ad.add 16 = ⟨eb 4, eo 4, none⟩ := ha 4 (by decide)
  have ha0 : ad.add 0 = ⟨eb 0, eo 0, none⟩ := ha 0 (by decide)
  have ha1 : ad.add 4 = ⟨eb 1, eo 1, none⟩ := ha 1 (by decide)
  have ha2 : ad.add 8 = ⟨eb 2, eo 2, none⟩ := ha 2 (by decide)
  have ha5 : ad.add 20 = ⟨eb 5, eo 5, none⟩ := ha 5 (by decide)
  have hpre : RkS w kk nn ss ad cc eb eo n em ec ek es eA s3 s4 ((w.alloc (.cells #[.int .i64 kk, .int .u64 nn, .string ss, .slice (some ad) 6 cc] 33)).alloc (.cells #[.int .i64 0, .int .i64 0, .int .i64 0, .string ⟨#[]⟩, .string ⟨#[]⟩, .int .i64 0] 23)) :=
    ⟨by ((repeat' first | with_reducible exact Below.refl _ _ | with_reducible assumption | with_reducible refine Below.alloc ?_ ?_ _ | with_reducible refine Below.setCell ?_ ?_ _ | with_reducible apply Below.drew | with_reducible apply below_drewN | with_reducible refine below_call ?_ (by with_reducible assumption) ?_) <;> (first | omega | (simp; done) | (simp; omega) | (simp at *; omega))), by simp, by simp [go_sem], by simp [go_sem], by simp [go_sem], by simp [go_sem], (by simp [go_sem] <;> rfl), (by simp [go_sem] <;> rfl), (by simp [go_sem] <;> rfl), (by simp [go_sem] <;> rfl), (by simp [go_sem] <;> rfl), (by simp [go_sem] <;> rfl), by simp [go_sem], by simp [go_sem], by simp [go_sem], by simp [go_sem], by simp [go_sem], by simp [go_sem], cell_alloc (cell_alloc (he0 0 (by decide))), cell_alloc (cell_alloc (he 0 (by decide))), cell_alloc (cell_alloc (he2 0 (by decide))), cell_alloc (cell_alloc (he3 0 (by decide))), cell_alloc (cell_alloc (he0 1 (by decide))), cell_alloc (cell_alloc (he 1 (by decide))), cell_alloc (cell_alloc (he2 1 (by decide))), cell_alloc (cell_alloc (he3 1 (by decide))), cell_alloc (cell_alloc (he0 2 (by decide))), cell_alloc (cell_alloc (he 2 (by decide))), cell_alloc (cell_alloc (he2 2 (by decide))), cell_alloc (cell_alloc (he3 2 (by decide))), cell_alloc (cell_alloc (he0 5 (by decide))), cell_alloc (cell_alloc (he 5 (by decide))), cell_alloc (cell_alloc (he2 5 (by decide))), cell_alloc (cell_alloc (he3 5 (by decide))), cell_alloc (cell_alloc h3), cell_alloc (cell_alloc h4)⟩
  have hbl : ∀ i, i < 6 → eb i < w.heap.size := fun i hi => World.block_lt_of_cell? _ _ (he0 i hi)
  have hck : ∀ W, Below w.heap.size w W → Calls Tryd.prog 11 #[.agg #[.int .i64 (clamp (n 0) : Int), .int .i64 (clamp (n 1) : Int), .int .i64 (clamp (n 2) : Int), .string s3, .string s4, .int .i64 (clamp (n 5) : Int)]] W (Gives W (.int .i64 ((ccheck (clamp (n 0) : Int) (clamp (n 1) : Int) (clamp (n 2) : Int) s3 s4 (clamp (n 5) : Int)) : Int))) := fun W _ => by rw [ccheck_eq]; exact dcheck_any _ _ _ s3 s4 _ W hs3
  have hit := fun W => refitem_any (clamp (n 0)) (clamp (n 1)) (clamp (n 2)) s3 s4 (clamp (n 5)) (clamp_lt _) (clamp_lt _) (clamp_lt _) (by unfold maxLen; omega) hs4 (clamp_lt _) W
  have hsm : ∀ (W : World) (g9 : Nat), Below w.heap.size w W → Holds W (ctree (clamp (n 0)) (clamp (n 1)) (clamp (n 2)) s3 s4 (clamp (n 5))) (.agg #[.int .i64 2, .int .u64 ((0 : Nat) : Int), .string ByteArray.empty, .slice (some ⟨g9, 0, none⟩) 6 6]) → Calls Tryd.prog 48 #[(.agg #[.int .i64 kk, .int .u64 nn, .string ss, .slice (some ad) 6 cc]), .agg #[.int .i64 2, .int .u64 0, .string ByteArray.empty, .slice (some ⟨g9, 0, none⟩) 6 6]] W (Gives W (.bool (tsame t (ctree (clamp (n 0)) (clamp (n 1)) (clamp (n 2)) s3 s4 (clamp (n 5)))))) := fun W g9 h hy => resame_any t _ _ _ W (hx.keep h) hy
  obtain ⟨R, hR⟩ : ∃ R : Value, R = if (ccheck (clamp (n 0) : Int) (clamp (n 1) : Int) (clamp (n 2) : Int) s3 s4 (clamp (n 5) : Int)) = 0 ∧ tsame t (ctree (clamp (n 0)) (clamp (n 1)) (clamp (n 2)) s3 s4 (clamp (n 5))) = true then .tuple #[.agg #[.int .i64 (clamp (n 0) : Int), .int .i64 (clamp (n 1) : Int), .int .i64 (clamp (n 2) : Int), .string s3, .string s4, .int .i64 (clamp (n 5) : Int)], .bool true] else .tuple #[.agg #[.int .i64 0, .int .i64 0, .int .i64 0, .string ByteArray.empty, .string ByteArray.empty, .int .i64 0], .bool false] := ⟨_, rfl⟩
  rw [← hR]
  generalize (ccheck (clamp (n 0) : Int) (clamp (n 1) : Int) (clamp (n 2) : Int) s3 s4 (clamp (n 5) : Int)) = E at *
  generalize hsb : tsame t (ctree (clamp (n 0)) (clamp (n 1)) (clamp (n 2)) s3 s4 (clamp (n 5))) = sb at *
  have HR := Lib.hid hR
  clear ha he he0 he2 he3 hn h3 h4 hR hx hsb
  go_enter Tryd.func21, Tryd.ntmps21
  go_upto_region 3 with fail
  go_cut [4] (fun sv wx => ∃ G, sv = .pointer (some ⟨G, 0, none⟩) ∧ RgS G w kk nn ss ad cc eb eo n em ec ek es eA s3 s4 wx)
  case first =>
    go_region_held3 (fun wx => Below w.heap.size w wx ∧ w.heap.size + 1 < wx.heap.size ∧ wx.cell? ⟨w.heap.size, 0, none⟩ = some (.int .i64 kk) ∧ wx.cell? ⟨w.heap.size, 1, none⟩ = some (.int .u64 nn) ∧ wx.cell? ⟨w.heap.size, 2, none⟩ = some (.string ss) ∧ wx.cell? ⟨w.heap.size, 3, none⟩ = some (.slice (some ad) 6 cc) ∧ wx.cell? ⟨w.heap.size + 1, 0, none⟩ = some (.int .i64 0) ∧ wx.cell? ⟨w.heap.size + 1, 1, none⟩ = some (.int .i64 0) ∧ wx.cell? ⟨w.heap.size + 1, 2, none⟩ = some (.int .i64 0) ∧ wx.cell? ⟨w.heap.size + 1, 3, none⟩ = some (.string ByteArray.empty) ∧ wx.cell? ⟨w.heap.size + 1, 4, none⟩ = some (.string ByteArray.empty) ∧ wx.cell? ⟨w.heap.size + 1, 5, none⟩ = some (.int .i64 0) ∧ wx.frozen? ⟨w.heap.size + 1, 0, none⟩ = false ∧ wx.frozen? ⟨w.heap.size + 1, 1, none⟩ = false ∧ wx.frozen? ⟨w.heap.size + 1, 2, none⟩ = false ∧ wx.frozen? ⟨w.heap.size + 1, 3, none⟩ = false ∧ wx.frozen? ⟨w.heap.size + 1, 4, none⟩ = false ∧ wx.frozen? ⟨w.heap.size + 1, 5, none⟩ = false ∧ wx.cell? ⟨eb 0, eo 0, none⟩ = some (.int .i64 (ek 0)) ∧ wx.cell? ⟨eb 0, eo 0 + 1, none⟩ = some (.int .u64 (n 0 : Int)) ∧ wx.cell? ⟨eb 0, eo 0 + 2, none⟩ = some (.string (es 0)) ∧ wx.cell? ⟨eb 0, eo 0 + 3, none⟩ = some (.slice (eA 0) (em 0) (ec 0)) ∧ wx.cell? ⟨eb 1, eo 1, none⟩ = some (.int .i64 (ek 1)) ∧ wx.cell? ⟨eb 1, eo 1 + 1, none⟩ = some (.int .u64 (n 1 : Int)) ∧ wx.cell? ⟨eb 1, eo 1 + 2, none⟩ = some (.string (es 1)) ∧ wx.cell? ⟨eb 1, eo 1 + 3, none⟩ = some (.slice (eA 1) (em 1) (ec 1)) ∧ wx.cell? ⟨eb 2, eo 2, none⟩ = some (.int .i64 (ek 2)) ∧ wx.cell? ⟨eb 2, eo 2 + 1, none⟩ = some (.int .u64 (n 2 : Int)) ∧ wx.cell? ⟨eb 2, eo 2 + 2, none⟩ = some (.string (es 2)) ∧ wx.cell? ⟨eb 2, eo 2 + 3, none⟩ = some (.slice (eA 2) (em 2) (ec 2)) ∧ wx.cell? ⟨eb 5, eo 5, none⟩ = some (.int .i64 (ek 5)) ∧ wx.cell? ⟨eb 5, eo 5 + 1, none⟩ = some (.int .u64 (n 5 : Int)) ∧ wx.cell? ⟨eb 5, eo 5 + 2, none⟩ = some (.string (es 5)) ∧ wx.cell? ⟨eb 5, eo 5 + 3, none⟩ = some (.slice (eA 5) (em 5) (ec 5)) ∧ wx.cell? ⟨eb 3, eo 3 + 2, none⟩ = some (.string s3) ∧ wx.cell? ⟨eb 4, eo 4 + 2, none⟩ = some (.string s4))
      ((repeat' first | with_reducible assumption | with_reducible refine RkS.drew ?_ | with_reducible refine RkS.alloc ?_ _ | with_reducible refine RkS.set6 ?_ (by first | omega | (simp; omega) | simp) (by with_reducible assumption) _ _ _ _ _ _ | with_reducible refine RkS.keep (by with_reducible assumption) ?_))
      (first | (go_at_call 47; (with_reducible refine (hT0 _).mono ?_); rintro e w1 ⟨rfl, rfl⟩) | (go_at_call 47; (with_reducible refine (hT1 _).mono ?_); rintro e w1 ⟨rfl, rfl⟩) | (go_at_call 47; (with_reducible refine (hT2 _).mono ?_); rintro e w1 ⟨rfl, rfl⟩) | (go_at_call 47; (with_reducible refine (hT5 _).mono ?_); rintro e w1 ⟨rfl, rfl⟩))
    all_goals
      go_wp2_with fail
      go_meet
      refine ⟨_, rfl, ?_, ?_, ?_, ?_, ?_, ?_, ?_, ?_⟩
      · repeat' first | with_reducible exact hpre | with_reducible refine RkS.drew ?_ | with_reducible refine RkS.alloc ?_ _ | with_reducible refine RkS.set6 ?_ (by simp; omega) (by with_reducible assumption) _ _ _ _ _ _
      · simp
      all_goals simp [go_sem, *]
  case rest =>
    obtain ⟨G, rfl, T⟩ := hcut
    by_cases hE : E = 0
    · subst hE
      cases sb
      · go_wp2_with fail
        first | (go_region_law (first | (go_simp; go_at_call 11; (with_reducible refine (hck _ ?hbel).mono ?_); (case hbel => first | exact T.1.1 | exact T.1.1.drew); rintro e w1 ⟨rfl, hb1⟩; have hz1 := hb1.size; have T := RgS.keep hb1 (by first | exact T | exact T.drew); skip) | (go_simp; go_at_call 20; (with_reducible refine (hit _).mono ?_); rintro e w1 ⟨g9, rfl, hrow, hb1⟩; have hz1 := hb1.size; have T := RgS.keep hb1 (by first | exact T | exact T.drew); have hy9 := hrow.node (k := 2) (n := 0) (s := ByteArray.empty) (by decide) (by decide) (by decide)) | (go_simp; go_at_call 48; (with_reducible refine (hsm _ _ ?hbel hy9).mono ?_); (case hbel => first | exact T.1.1 | exact T.1.1.drew); rintro e w1 ⟨rfl, hb1⟩; have hz1 := hb1.size; have T := RgS.keep hb1 (by first | exact T | exact T.drew); skip))) | fail
        all_goals
            obtain ⟨T1, hG, g0, g1, g2, g3, g4, g5⟩ := T
            obtain ⟨h1, h2, a0, a1, a2, a3, z0, z1, z2, z3, z4, z5, f0, f1, f2, f3, f4, f5, e00, e01, e02, e03, e10, e11, e12, e13, e20, e21, e22, e23, e50, e51, e52, e53, t3, t4⟩ := T1
            clear a0 a1 a2 a3 e00 e01 e02 e03 e10 e11 e12 e13 e20 e21 e22 e23 e50 e51 e52 e53 t3 t4
            go_wp2_with fail
            refine bodyPost_ret (v := .tuple #[.agg #[.int .i64 0, .int .i64 0, .int .i64 0, .string ByteArray.empty, .string ByteArray.empty, .int .i64 0], .bool false]) (by simp [results, Tryd.results21, go_sem, *] <;> rfl) rfl ?_
            exact ⟨by rw [HR.out]; simp [*], by ((repeat' first | with_reducible exact Below.refl _ _ | with_reducible assumption | with_reducible refine Below.alloc ?_ ?_ _ | with_reducible refine Below.setCell ?_ ?_ _ | with_reducible apply Below.drew | with_reducible apply below_drewN | with_reducible refine below_call ?_ (by with_reducible assumption) ?_) <;> (first | omega | (simp; done) | (simp; omega) | (simp at *; omega)))⟩
      · go_wp2_with fail
        first | (go_region_law (first | (go_simp; go_at_call 11; (with_reducible refine (hck _ ?hbel).mono ?_); (case hbel => first | exact T.1.1 | exact T.1.1.drew); rintro e w1 ⟨rfl, hb1⟩; have hz1 := hb1.size; have T := RgS.keep hb1 (by first | exact T | exact T.drew); skip) | (go_simp; go_at_call 20; (with_reducible refine (hit _).mono ?_); rintro e w1 ⟨g9, rfl, hrow, hb1⟩; have hz1 := hb1.size; have T := RgS.keep hb1 (by first | exact T | exact T.drew); have hy9 := hrow.node (k := 2) (n := 0) (s := ByteArray.empty) (by decide) (by decide) (by decide)) | (go_simp; go_at_call 48; (with_reducible refine (hsm _ _ ?hbel hy9).mono ?_); (case hbel => first | exact T.1.1 | exact T.1.1.drew); rintro e w1 ⟨rfl, hb1⟩; have hz1 := hb1.size; have T := RgS.keep hb1 (by first | exact T | exact T.drew); skip))) | fail
        all_goals
            obtain ⟨T1, hG, g0, g1, g2, g3, g4, g5⟩ := T
            obtain ⟨h1, h2, a0, a1, a2, a3, z0, z1, z2, z3, z4, z5, f0, f1, f2, f3, f4, f5, e00, e01, e02, e03, e10, e11, e12, e13, e20, e21, e22, e23, e50, e51, e52, e53, t3, t4⟩ := T1
            clear a0 a1 a2 a3 e00 e01 e02 e03 e10 e11 e12 e13 e20 e21 e22 e23 e50 e51 e52 e53 t3 t4
            go_wp2_with fail
            refine bodyPost_ret (v := .tuple #[.agg #[.int .i64 (clamp (n 0) : Int), .int .i64 (clamp (n 1) : Int), .int .i64 (clamp (n 2) : Int), .string s3, .string s4, .int .i64 (clamp (n 5) : Int)], .bool true]) (by simp [results, Tryd.results21, go_sem, *] <;> rfl) rfl ?_
            exact ⟨by rw [HR.out]; simp [*], by ((repeat' first | with_reducible exact Below.refl _ _ | with_reducible assumption | with_reducible refine Below.alloc ?_ ?_ _ | with_reducible refine Below.setCell ?_ ?_ _ | with_reducible apply Below.drew | with_reducible apply below_drewN | with_reducible refine below_call ?_ (by with_reducible assumption) ?_) <;> (first | omega | (simp; done) | (simp; omega) | (simp at *; omega)))⟩
    · have hE' : ((E : Int) != 0) = true := by simp; omega
      go_wp2_with fail
      first | (go_region_law (first | (go_simp; go_at_call 11; (with_reducible refine (hck _ ?hbel).mono ?_); (case hbel => first | exact T.1.1 | exact T.1.1.drew); rintro e w1 ⟨rfl, hb1⟩; have hz1 := hb1.size; have T := RgS.keep hb1 (by first | exact T | exact T.drew); skip) | (go_simp; go_at_call 20; (with_reducible refine (hit _).mono ?_); rintro e w1 ⟨g9, rfl, hrow, hb1⟩; have hz1 := hb1.size; have T := RgS.keep hb1 (by first | exact T | exact T.drew); have hy9 := hrow.node (k := 2) (n := 0) (s := ByteArray.empty) (by decide) (by decide) (by decide)) | (go_simp; go_at_call 48; (with_reducible refine (hsm _ _ ?hbel hy9).mono ?_); (case hbel => first | exact T.1.1 | exact T.1.1.drew); rintro e w1 ⟨rfl, hb1⟩; have hz1 := hb1.size; have T := RgS.keep hb1 (by first | exact T | exact T.drew); skip))) | fail
      all_goals
          obtain ⟨T1, hG, g0, g1, g2, g3, g4, g5⟩ := T
          obtain ⟨h1, h2, a0, a1, a2, a3, z0, z1, z2, z3, z4, z5, f0, f1, f2, f3, f4, f5, e00, e01, e02, e03, e10, e11, e12, e13, e20, e21, e22, e23, e50, e51, e52, e53, t3, t4⟩ := T1
          clear a0 a1 a2 a3 e00 e01 e02 e03 e10 e11 e12 e13 e20 e21 e22 e23 e50 e51 e52 e53 t3 t4
          go_wp2_with fail
          refine bodyPost_ret (v := .tuple #[.agg #[.int .i64 0, .int .i64 0, .int .i64 0, .string ByteArray.empty, .string ByteArray.empty, .int .i64 0], .bool false]) (by simp [results, Tryd.results21, go_sem, *] <;> rfl) rfl ?_
          exact ⟨by rw [HR.out]; simp [*], by ((repeat' first | with_reducible exact Below.refl _ _ | with_reducible assumption | with_reducible refine Below.alloc ?_ ?_ _ | with_reducible refine Below.setCell ?_ ?_ _ | with_reducible apply Below.drew | with_reducible apply below_drewN | with_reducible refine below_call ?_ (by with_reducible assumption) ?_) <;> (first | omega | (simp; done) | (simp; omega) | (simp at *; omega)))⟩
end Go.Proofs.YtekbebekihcnpaaDoor
