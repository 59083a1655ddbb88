/- Items in memory: which tree a value of type api.Item is; the opening of one that came in. -/
import Derived.Test.YtfdfcceleaodaaaDoorBase
import Derived.Test.YtfdfcceleaodaaaDoorTree
import Derived.Lib.SmallJoins
namespace Go.Proofs.YtfdfcceleaodaaaDoor
open Go.RowKit Go.ChangeShapes Go.WideShapes Go.Joins Go.Deep
set_option linter.unusedVariables false
set_option linter.unusedSimpArgs false
set_option linter.unnecessarySimpa false

/-- The value is the tree t; what lies behind it in w. -/
inductive Holds (w : World) : Tree → Value → Prop where
  | mk (k : Int) (n : Nat) (s : ByteArray) (l : List Tree) (A : Option Addr) (m c : Nat) (vs : Nat → Value)
    (hk : (Lit.int .i64 k).wf = true) (hn : n < 2 ^ 64) (hs : s.size ≤ maxLen) (hm : m = l.length) (hmc : m ≤ c) (hc : c ≤ maxLen)
    (hcell : ∀ i, i < m → ∃ ad, A = some ad ∧ ∀ j u, (vs i).cells[j]? = some u → w.cell? (ad.add (4 * i + j)) = some u)
    (hsub : ∀ i t, l[i]? = some t → Holds w t (vs i)) :
    Holds w (.mk k n s l) (.agg #[.int .i64 k, .int .u64 (n : Int), .string s, .slice A m c])

theorem Holds.keep {w w' : World} (hb : Below w.heap.size w w') {t : Tree} {v : Value} (h : Holds w t v) : Holds w' t v := by
  induction h with
  | mk k n s l A m c vs hk hn hs hm hmc hc hcell hsub ih =>
    exact .mk k n s l A m c vs hk hn hs hm hmc hc (fun i hi => by
      obtain ⟨ad, e, h⟩ := hcell i hi
      exact ⟨ad, e, fun j u hu => cell_keep hb (h j u hu)⟩) ih
/-- One item of a list, field by field. -/
theorem Holds.open_ {w : World} {k : Int} {n : Nat} {s : ByteArray} {l : List Tree} {v : Value} (h : Holds w (.mk k n s l) v) :
    ∃ A m c, v = .agg #[.int .i64 k, .int .u64 (n : Int), .string s, .slice A m c] ∧ (Lit.int .i64 k).wf = true ∧ n < 2 ^ 64 ∧ s.size ≤ maxLen ∧ m = l.length ∧ m ≤ c ∧ c ≤ maxLen ∧
      ∀ i t, l[i]? = some t → ∃ ad u, A = some ad ∧ Holds w t u ∧ ∀ j x, u.cells[j]? = some x → w.cell? (ad.add (4 * i + j)) = some x := by
  cases h with
  | mk k n s l A m c vs hk hn hs hm hmc hc hcell hsub =>
    refine ⟨A, m, c, rfl, hk, hn, hs, hm, hmc, hc, fun i t hi => ?_⟩
    have hil : i < m := by
      rw [hm]
      rcases Nat.lt_or_ge i l.length with h | h
      · exact h
      · rw [List.getElem?_eq_none h] at hi; cases hi
    obtain ⟨ad, e, h⟩ := hcell i hil
    exact ⟨ad, vs i, e, hsub i t hi, h⟩
/-- An item's four cells. -/
theorem Holds.cells {w : World} {t : Tree} {v : Value} {a : Addr} (h : Holds w t v) (hc : ∀ j x, v.cells[j]? = some x → w.cell? (a.add j) = some x) :
    ∃ k n s A m c, v = .agg #[.int .i64 k, .int .u64 n, .string s, .slice A m c] ∧ w.cell? (a.add 0) = some (.int .i64 k) ∧ w.cell? (a.add 1) = some (.int .u64 n) ∧ w.cell? (a.add 2) = some (.string s) ∧ w.cell? (a.add 3) = some (.slice A m c) := by
  cases h with
  | mk k n s l A m c vs hk hn hs hm hmc hc2 hcell hsub =>
    exact ⟨k, n, s, A, m, c, rfl, hc 0 _ rfl, hc 1 _ rfl, hc 2 _ rfl, hc 3 _ rfl⟩

/-- The address of an item's first cell, its four cells, and the item that they are. -/
def Cells4 (w : World) (a : Addr) (u : Value) : Prop := ∃ (b o : Nat) (k n : Int) (s : ByteArray) (A : Option Addr) (m c : Nat), a = ⟨b, o, none⟩ ∧ u = .agg #[.int .i64 k, .int .u64 n, .string s, .slice A m c] ∧
  w.cell? ⟨b, o, none⟩ = some (.int .i64 k) ∧ w.cell? ⟨b, o + 1, none⟩ = some (.int .u64 n) ∧ w.cell? ⟨b, o + 2, none⟩ = some (.string s) ∧ w.cell? ⟨b, o + 3, none⟩ = some (.slice A m c)
theorem Cells4.keep {w w' : World} {a : Addr} {u : Value} (h : Cells4 w a u) (hb : Below w.heap.size w w') : Cells4 w' a u := by
  obtain ⟨b, o, k, n, s, A, m, c, e1, e2, h0, h1, h2, h3⟩ := h
  exact ⟨b, o, k, n, s, A, m, c, e1, e2, cell_keep hb h0, cell_keep hb h1, cell_keep hb h2, cell_keep hb h3⟩
theorem Holds.elem {w : World} {k : Int} {n : Nat} {s : ByteArray} {l : List Tree} {A : Option Addr} {m c : Nat} {kk nn : Int} {ss : ByteArray} (h : Holds w (.mk k n s l) (.agg #[.int .i64 kk, .int .u64 nn, .string ss, .slice A m c])) {i : Nat} {t : Tree} (hi : l[i]? = some t) :
    ∃ ad u, A = some ad ∧ Holds w t u ∧ Cells4 w (ad.add (i * 4)) u := by
  obtain ⟨A', m', c', e, _, _, _, _, _, _, hel⟩ := h.open_
  injection e with e
  injection e with e
  injection e with _ e
  injection e with _ e
  injection e with _ e
  injection e with e _
  injection e with e _ _
  subst e
  obtain ⟨ad, u, e1, hu, hc⟩ := hel i t hi
  refine ⟨ad, u, e1, hu, ?_⟩
  obtain ⟨k2, n2, s2, A2, m2, c2, e2, h0, h1, h2, h3⟩ := hu.cells (a := ad.add (i * 4)) (fun j x hx => by
    rw [add_of_add, Nat.mul_comm]; exact hc j x hx)
  rcases hx : ad.add (i * 4) with ⟨b, o, sp⟩
  have hs : sp = none := by
    rw [hx] at h0
    simpa [Addr.add] using World.cell?_spot h0
  subst hs
  rw [hx] at h0 h1 h2 h3
  exact ⟨b, o, k2, n2, s2, A2, m2, c2, rfl, e2, by simpa [Addr.add] using h0, by simpa [Addr.add] using h1, by simpa [Addr.add] using h2, by simpa [Addr.add] using h3⟩

section
variable {H : Type} {enc : TypeId × Value → H} {P : Program} {w : World} {base : Nat} {spare : Nat → Bool} {held : Bool}
theorem list4 {α : Type} {l : List α} (h : l.length = 4) : ∃ c0 c1 c2 c3, l = [c0, c1, c2, c3] := by
  match l, h with
  | [c0, c1, c2, c3], _ => exact ⟨c0, c1, c2, c3, rfl⟩
/-- An item that came in is a tree. -/
theorem open_item_cells {t sl ik uk st : TypeId} {f0 f1 f2 f3 : Field} (ht : P.underlying t = some (.struct #[f0, f1, f2, f3])) (hone : oneCellFields P #[f0, f1, f2, f3] = true) (hC : P.cellsOf t = 4)
    (h0 : P.underlying f0.type = some (.int .i64)) (h1 : P.underlying f1.type = some (.int .u64)) (h2 : P.underlying f2.type = some .string) (h3 : P.underlying f3.type = some (.slice t)) :
    ∀ (fuel : Nat) (cs : List Value) (x : DataW H × List MemPlace), DataW.trod enc P w base spare held fuel t cs = some x → ∃ tr, Holds w tr (.agg cs.toArray) := by
  intro fuel
  induction fuel using Nat.strongRecOn with
  | _ fuel ih =>
    intro cs x h
    obtain ⟨xs, n, hn, _, hl, hlen, hf⟩ := DataW.trod_struct ht h
    rw [hC] at hl
    obtain ⟨c0, c1, c2, c3, rfl⟩ := list4 hl
    obtain ⟨y0, y1, y2, y3, rfl⟩ := list4 (show xs.length = 4 by simpa using hlen)
    obtain ⟨o0, k0⟩ := hone_of hone 0 f0 rfl
    obtain ⟨o1, k1⟩ := hone_of hone 1 f1 rfl
    obtain ⟨o2, k2⟩ := hone_of hone 2 f2 rfl
    obtain ⟨o3, k3⟩ := hone_of hone 3 f3 rfl
    have g0 : DataW.trod enc P w base spare held n f0.type [c0] = some y0 := by simpa [o0, k0] using hf 0 f0 rfl
    have g1 : DataW.trod enc P w base spare held n f1.type [c1] = some y1 := by simpa [o1, k1] using hf 1 f1 rfl
    have g2 : DataW.trod enc P w base spare held n f2.type [c2] = some y2 := by simpa [o2, k2] using hf 2 f2 rfl
    have g3 : DataW.trod enc P w base spare held n f3.type [c3] = some y3 := by simpa [o3, k3] using hf 3 f3 rfl
    obtain ⟨a, e0, _, wa⟩ := DataW.trod_int h0 g0
    obtain ⟨b, e1, _, wb⟩ := DataW.trod_int h1 g1
    obtain ⟨s, e2, _, ws⟩ := DataW.trod_string h2 g2
    simp at e0 e1 e2
    subst e0 e1 e2
    have hb := wf_u64 wb
    obtain ⟨bn, rfl⟩ := Int.eq_ofNat_of_zero_le hb.1
    rcases DataW.trod_slice h3 g3 with ⟨e3, _⟩ | ⟨A, len, cap, elems, rest, q, hq, e3, _, hbA, hle, hcap, hel, helem, _, _⟩
    · simp at e3
      subst e3
      exact ⟨.mk a bn s [], .mk a bn s [] none 0 0 (fun _ => .int .i64 0) wa (by omega) ws rfl (Nat.le_refl _) (Nat.zero_le _) (fun i hi => absurd hi (by omega)) (fun i t hi => by simp at hi)⟩
    · simp at e3
      subst e3
      have hex : ∀ i, i < len → ∃ p : Tree × List Value, Holds w p.1 (.agg p.2.toArray) ∧ ∀ j u, p.2[j]? = some u → w.cell? (A.add (4 * i + j)) = some u := by
        intro i hi
        have key := helem i hi
        rw [List.getElem?_eq_getElem (by omega)] at key
        obtain ⟨cs', h1', h2'⟩ := Option.bind_eq_some_iff.1 key
        obtain ⟨tr, htr⟩ := ih q (by omega) cs' _ h2'
        obtain ⟨_, hlc, hcell⟩ := World.cells?_some h1'
        refine ⟨(tr, cs'), htr, fun j u hu => ?_⟩
        have hj : j < P.cellsOf t := by
          rw [← hlc]
          rcases Nat.lt_or_ge j cs'.length with h | h
          · exact h
          · rw [List.getElem?_eq_none h] at hu; cases hu
        have := hcell j hj
        rw [add_of_add, hC, Nat.mul_comm i 4] at this
        rw [this]; exact hu
      obtain ⟨F, hF⟩ := choose_lt hex
      refine ⟨.mk a bn s ((List.range len).map fun i => (F i).1), .mk a bn s _ (some A) len cap (fun i => .agg (F i).2.toArray) wa (by omega) ws (by simp) hle hcap (fun i hi => ⟨A, rfl, fun j u hu => (hF i hi).2 j u ?_⟩) (fun i t hi => ?_)⟩
      · simpa [Value.cells] using hu
      · simp only [List.getElem?_map, Option.map_eq_some_iff] at hi
        obtain ⟨r, hr, rfl⟩ := hi
        obtain ⟨hlt, hv⟩ := List.getElem?_eq_some_iff.1 hr
        simp at hlt hv
        subst hv
        exact (hF i hlt).1
end
end Go.Proofs.YtfdfcceleaodaaaDoor
