/- A record that came in, opened. -/
import Derived.Test.YtmgiholmhhjpaaaDoorRescueFastQ12
import Derived.WalkKit
import Derived.WalkSpells
import Derived.WalkLawsBesides
import Derived.Deep.RegionHeld3
import Derived.Deep.DrawnRows
import Derived.Deep.DeepCutAuto
import Derived.Deep.DeepFit
import Derived.Lib.Hide
import Derived.BigQuiet
import Derived.Deep.QuietTactic
namespace Go.Proofs.YtmgiholmhhjpaaaDoor
open Go.RowKit
set_option linter.unusedVariables false
set_option linter.unusedSimpArgs false
set_option maxRecDepth 20000
attribute [local go_sem ↓] Go.wp_at_zero Go.wp_at_succ
attribute [local go_sem] World.cell?_alloc_some frozen_alloc_some
open Go.ChangeShapes Go.WideShapes Go.ChangeAt Go.Deep Go.Joins
section
variable {H : Type} {enc : TypeId × Value → H} {w : World} {base : Nat} {spare : Nat → Bool} {held : Bool}
theorem list16 {α : Type} {cs : List α} (h : cs.length = 16) : ∃ c0 c1 c2 c3 c4 c5 c6 c7 c8 c9 c10 c11 c12 c13 c14 c15, cs = [c0, c1, c2, c3, c4, c5, c6, c7, c8, c9, c10, c11, c12, c13, c14, c15] := by
  match cs, h with
  | [c0, c1, c2, c3, c4, c5, c6, c7, c8, c9, c10, c11, c12, c13, c14, c15], _ => exact ⟨c0, c1, c2, c3, c4, c5, c6, c7, c8, c9, c10, c11, c12, c13, c14, c15, rfl⟩
theorem open_two {t : TypeId} {f0 f1 : Field} {fuel : Nat} {a b : Value} {x : DataW H × List MemPlace} (ht : Tryd.prog.underlying t = some (.struct #[f0, f1])) (e0 : f0.type = 3) (e1 : f1.type = 3) (o0 : f0.offset = 0) (o1 : f1.offset = 1)
    (h : DataW.trod enc Tryd.prog w base spare held fuel t [a, b] = some x) : ∃ i j : Int, a = .int .i64 i ∧ b = .int .i64 j ∧ (Lit.int .i64 i).wf = true ∧ (Lit.int .i64 j).wf = true := by
  obtain ⟨xs, n, _, _, hl, hlen, hf⟩ := DataW.trod_struct ht h
  have hi : Tryd.prog.cellsOf 3 = 1 := by kernel_rfl
  match xs, hlen with
  | [y0, y1], _ =>
    have g0 := hf 0 f0 rfl
    have g1 := hf 1 f1 rfl
    rw [e0, o0, hi] at g0
    rw [e1, o1, hi] at g1
    obtain ⟨i, h0, _, w0⟩ := DataW.trod_int Tryd.underlying3 (x := y0) (by simpa using g0)
    obtain ⟨j, h1, _, w1⟩ := DataW.trod_int Tryd.underlying3 (x := y1) (by simpa using g1)
    simp at h0 h1
    exact ⟨i, j, h0, h1, w0, w1⟩
theorem open_cmd_cells {fuel : Nat} {a b c d e f : Value} {x : DataW H × List MemPlace} (h : DataW.trod enc Tryd.prog w base spare held fuel 23 [a, b, c, d, e, f] = some x) :
    ∃ (k cl sq : Int) (ke va : ByteArray) (rv : Int), a = .int .i64 k ∧ b = .int .i64 cl ∧ c = .int .i64 sq ∧ d = .string ke ∧ e = .string va ∧ f = .int .i64 rv ∧
      (Lit.int .i64 k).wf = true ∧ (Lit.int .i64 cl).wf = true ∧ (Lit.int .i64 sq).wf = true ∧ ke.size ≤ maxLen ∧ va.size ≤ maxLen ∧ (Lit.int .i64 rv).wf = true := by
  obtain ⟨xs, n, _, _, hl, hlen, hf⟩ := DataW.trod_struct Tryd.underlying23 h
  have hi : Tryd.prog.cellsOf 3 = 1 := by kernel_rfl
  have hs : Tryd.prog.cellsOf 9 = 1 := by kernel_rfl
  match xs, hlen with
  | [y0, y1, y2, y3, y4, y5], _ =>
    have g0 := hf 0 _ rfl
    have g1 := hf 1 _ rfl
    have g2 := hf 2 _ rfl
    have g3 := hf 3 _ rfl
    have g4 := hf 4 _ rfl
    have g5 := hf 5 _ rfl
    simp only [List.getElem_toArray, List.getElem_cons_zero, List.getElem_cons_succ, hi, hs] at g0 g1 g2 g3 g4 g5
    obtain ⟨a0, e0, _, w0⟩ := DataW.trod_int Tryd.underlying3 (x := y0) (by simpa using g0)
    obtain ⟨a1, e1, _, w1⟩ := DataW.trod_int Tryd.underlying3 (x := y1) (by simpa using g1)
    obtain ⟨a2, e2, _, w2⟩ := DataW.trod_int Tryd.underlying3 (x := y2) (by simpa using g2)
    obtain ⟨a3, e3, _, w3⟩ := DataW.trod_string Tryd.underlying9 (x := y3) (by simpa using g3)
    obtain ⟨a4, e4, _, w4⟩ := DataW.trod_string Tryd.underlying9 (x := y4) (by simpa using g4)
    obtain ⟨a5, e5, _, w5⟩ := DataW.trod_int Tryd.underlying3 (x := y5) (by simpa using g5)
    simp at e0 e1 e2 e3 e4 e5
    exact ⟨a0, a1, a2, a3, a4, a5, e0, e1, e2, e3, e4, e5, w0, w1, w2, w3, w4, w5⟩
theorem open_rec {r : Reach} {b0 : Nat} {v : Value} {d : DataW H} {p : List MemPlace} (hv : Value.okWide Tryd.prog w r b0 33 v) (h : DataW.Trod enc Tryd.prog w base spare held 33 v d p) :
    ∃ R : RecT, v = R.v ∧ R.Ok w := by
  obtain ⟨cs, rfl, hsz⟩ := okWide_struct Tryd.underlying33 hv
  obtain ⟨fuel, hf⟩ := h
  have hC : Tryd.prog.cellsOf 33 = 16 := by kernel_rfl
  obtain ⟨cs⟩ := cs
  obtain ⟨c0, c1, c2, c3, c4, c5, c6, c7, c8, c9, c10, c11, c12, c13, c14, c15, rfl⟩ := list16 (cs := cs) (by simpa [hC] using hsz)
  simp only [Value.cells] at hf
  obtain ⟨xs, n, _, _, hl, hlen, hf⟩ := DataW.trod_struct Tryd.underlying33 hf
  have hi : Tryd.prog.cellsOf 3 = 1 := by kernel_rfl
  have h1 : Tryd.prog.cellsOf 28 = 2 := by kernel_rfl
  have h2 : Tryd.prog.cellsOf 30 = 2 := by kernel_rfl
  have h3 : Tryd.prog.cellsOf 23 = 6 := by kernel_rfl
  have h4 : Tryd.prog.cellsOf 26 = 3 := by kernel_rfl
  match xs, hlen with
  | [y0, y1, y2, y3, y4, y5], _ =>
    have g0 := hf 0 _ rfl
    have g1 := hf 1 _ rfl
    have g2 := hf 2 _ rfl
    have g3 := hf 3 _ rfl
    have g4 := hf 4 _ rfl
    have g5 := hf 5 _ rfl
    simp only [List.getElem_toArray, List.getElem_cons_zero, List.getElem_cons_succ, hi, h1, h2, h3, h4] at g0 g1 g2 g3 g4 g5
    obtain ⟨i, n', rfl, rfl, wi, wn⟩ := open_two Tryd.underlying28 rfl rfl rfl rfl (x := y0) (by simpa using g0)
    obtain ⟨st, es, _, ws⟩ := DataW.trod_int Tryd.underlying3 (x := y1) (by simpa using g1)
    obtain ⟨br, bb, rfl, rfl, wbr, wbb⟩ := open_two Tryd.underlying30 rfl rfl rfl rfl (x := y2) (by simpa using g2)
    obtain ⟨tr, tb, rfl, rfl, wtr, wtb⟩ := open_two Tryd.underlying30 rfl rfl rfl rfl (x := y3) (by simpa using g3)
    obtain ⟨k, c, q, ke, va, rv, rfl, rfl, rfl, rfl, rfl, rfl, wk, wc, wq, wke, wva, wrv⟩ := open_cmd_cells (x := y4) (by simpa using g4)
    obtain ⟨A, m, cap, sq, tg, l, ea, hm, hcap, hI, wsq, wtg⟩ := open_attr_cells (x := y5) (by simpa using g5)
    simp at es ea
    obtain ⟨rfl, rfl, rfl⟩ := ea
    subst es
    exact ⟨⟨i, n', st, br, bb, tr, tb, k, c, q, ke, va, rv, A, m, cap, sq, tg, l⟩, rfl, ⟨wi, wn, ws, wbr, wbb, wtr, wtb, wk, wc, wq, wke, wva, wrv, hm, hcap, hI, wsq, wtg⟩⟩
end
end Go.Proofs.YtmgiholmhhjpaaaDoor
