/- What is done with a wheel, as it came in. -/
import Derived.Test.YtpdlhcfepafjeaaIds
namespace Go.Proofs.Ytpdlhcfepafjeaa
open Go.RowKit Go.ChangeShapes Go.WideShapes Go.Joins Go.Deep Go.ChangeAt
set_option linter.unusedVariables false
set_option maxRecDepth 20000
set_option linter.unusedSimpArgs false

/-- What is done, with which id, at which tick. -/
abbrev ActP := Int × IdP × Int
def ActsAt (w : World) (A : Option Addr) (m : Nat) (l : List ActP) : Prop :=
  m = l.length ∧ m ≤ maxLen ∧ ∀ (i : Nat) (x : ActP), l[i]? = some x → ((Lit.int .i64 x.1).wf = true ∧ (Lit.int .i64 x.2.1.1).wf = true ∧ (Lit.int .i64 x.2.1.2).wf = true ∧ (Lit.int .i64 x.2.2).wf = true) ∧
    ∃ b o, A = some ⟨b, o, none⟩ ∧ w.cell? ⟨b, o + i * 4, none⟩ = some (.int .i64 x.1) ∧ w.cell? ⟨b, o + i * 4 + 1, none⟩ = some (.int .i64 x.2.1.1) ∧ w.cell? ⟨b, o + i * 4 + 2, none⟩ = some (.int .i64 x.2.1.2) ∧ w.cell? ⟨b, o + i * 4 + 3, none⟩ = some (.int .i64 x.2.2)
theorem ActsAt.keep {w w' : World} {A : Option Addr} {m : Nat} {l : List ActP} (h : ActsAt w A m l) (hb : Below w.heap.size w w') : ActsAt w' A m l :=
  ⟨h.1, h.2.1, fun i x hi => by
    obtain ⟨w1, b, o, e, h1, h2, h3, h4⟩ := h.2.2 i x hi
    exact ⟨w1, b, o, e, cell_keep hb h1, cell_keep hb h2, cell_keep hb h3, cell_keep hb h4⟩⟩
theorem ActsAt.nil {w : World} {A : Option Addr} : ActsAt w A 0 [] := ⟨rfl, Nat.zero_le _, fun i x h => by simp at h⟩
theorem ActsAt.at_ {w : World} {A : Option Addr} {m : Nat} {l : List ActP} (h : ActsAt w A m l) {i : Nat} (hi : i < m) :
    ∃ d r n t b o, l[i]? = some (d, (r, n), t) ∧ ((Lit.int .i64 r).wf = true ∧ (Lit.int .i64 n).wf = true) ∧ (Lit.int .i64 t).wf = true ∧ A = some ⟨b, o, none⟩ ∧ w.cell? ⟨b, o + i * 4, none⟩ = some (.int .i64 d) ∧ w.cell? ⟨b, o + i * 4 + 1, none⟩ = some (.int .i64 r) ∧ w.cell? ⟨b, o + i * 4 + 2, none⟩ = some (.int .i64 n) ∧ w.cell? ⟨b, o + i * 4 + 3, none⟩ = some (.int .i64 t) := by
  have hl : i < l.length := by rw [← h.1]; exact hi
  obtain ⟨⟨_, w1, w2, w3⟩, b, o, e, h1, h2, h3, h4⟩ := h.2.2 i l[i] (List.getElem?_eq_getElem hl)
  exact ⟨_, _, _, _, b, o, List.getElem?_eq_getElem hl, ⟨w1, w2⟩, w3, e, h1, h2, h3, h4⟩

section
variable {H : Type} {enc : TypeId × Value → H} {w : World} {base : Nat} {spare : Nat → Bool} {held : Bool}
theorem list4 {α : Type} {l : List α} (h : l.length = 4) : ∃ c0 c1 c2 c3, l = [c0, c1, c2, c3] := by
  match l, h with
  | [c0, c1, c2, c3], _ => exact ⟨c0, c1, c2, c3, rfl⟩
theorem open_act {fuel : Nat} {cs : List Value} {x : DataW H × List MemPlace} (h : DataW.trod enc Try.prog w base spare held fuel 41 cs = some x) :
    ∃ d r n t : Int, cs = [.int .i64 d, .int .i64 r, .int .i64 n, .int .i64 t] ∧ (Lit.int .i64 d).wf = true ∧ (Lit.int .i64 r).wf = true ∧ (Lit.int .i64 n).wf = true ∧ (Lit.int .i64 t).wf = true := by
  obtain ⟨y0, y1, y2, n, _, hl, h0, h1, h2⟩ := trod_struct3 Try.underlying41 h
  have hC : Try.prog.cellsOf 41 = 4 := by kernel_rfl
  have hi : Try.prog.cellsOf 3 = 1 := by kernel_rfl
  have hd : Try.prog.cellsOf 34 = 2 := by kernel_rfl
  obtain ⟨c0, c1, c2, c3, rfl⟩ := list4 (hl.trans hC)
  simp only [hi, hd] at h0 h1 h2
  obtain ⟨a, e0, _, wa⟩ := DataW.trod_int Try.underlying3 h0
  obtain ⟨r, nn, e1, w1, w2⟩ := open_id h1
  obtain ⟨t, e2, _, wt⟩ := DataW.trod_int Try.underlying3 h2
  simp at e0 e1 e2
  obtain ⟨rfl, rfl⟩ := e1
  subst e0 e2
  exact ⟨_, _, _, _, rfl, wa, w1, w2, wt⟩
theorem open_acts {fuel : Nat} {cs : List Value} {x : DataW H × List MemPlace} (h : DataW.trod enc Try.prog w base spare held fuel 38 cs = some x) :
    ∃ (A : Option Addr) (m c : Nat) (l : List ActP), cs = [.slice A m c] ∧ m ≤ c ∧ c ≤ maxLen ∧ ActsAt w A m l := by
  rcases DataW.trod_slice Try.underlying38 h with ⟨e3, _⟩ | ⟨A, len, cap, elems, rest, q, hq, e3, _, hbA, hle, hcap, hel, helem, _, _⟩
  · exact ⟨none, 0, 0, [], e3, Nat.le_refl _, Nat.zero_le _, ActsAt.nil⟩
  · have hC : Try.prog.cellsOf 41 = 4 := by kernel_rfl
    have hex : ∀ i, i < len → ∃ x : ActP, ((Lit.int .i64 x.1).wf = true ∧ (Lit.int .i64 x.2.1.1).wf = true ∧ (Lit.int .i64 x.2.1.2).wf = true ∧ (Lit.int .i64 x.2.2).wf = true) ∧ ∃ b o, A = ⟨b, o, none⟩ ∧ w.cell? ⟨b, o + i * 4, none⟩ = some (.int .i64 x.1) ∧ w.cell? ⟨b, o + i * 4 + 1, none⟩ = some (.int .i64 x.2.1.1) ∧ w.cell? ⟨b, o + i * 4 + 2, none⟩ = some (.int .i64 x.2.1.2) ∧ w.cell? ⟨b, o + i * 4 + 3, none⟩ = some (.int .i64 x.2.2) := by
      intro i hi
      have key := helem i hi
      rw [List.getElem?_eq_getElem (by omega), hC] at key
      obtain ⟨cs', h1', h2'⟩ := Option.bind_eq_some_iff.1 key
      obtain ⟨d, r, n, t, rfl, wd, w1, w2, wt⟩ := open_act h2'
      obtain ⟨_, hlc, hcell⟩ := World.cells?_some h1'
      have c0 := hcell 0 (by omega)
      have c1 := hcell 1 (by omega)
      have c2 := hcell 2 (by omega)
      have c3 := hcell 3 (by omega)
      rw [add_of_add] at c0 c1 c2 c3
      have hs : A.spot = none := by
        have key := helem 0 (by omega)
        rw [List.getElem?_eq_getElem (by omega), hC] at key
        obtain ⟨cs', h1', h2'⟩ := Option.bind_eq_some_iff.1 key
        obtain ⟨d, r, n, t, rfl, _⟩ := open_act h2'
        obtain ⟨_, hlc, hcell⟩ := World.cells?_some h1'
        have c0 := hcell 0 (by omega)
        have := World.cell?_spot c0
        simpa [Addr.add] using this
      rcases A with ⟨b, o, sp⟩
      simp only at hs
      subst hs
      have e : ∀ k, (Addr.mk b o none).add k = ⟨b, o + k, none⟩ := fun k => by
        unfold Addr.add
        split
        · simp_all
        · rfl
      rw [e] at c0 c1 c2 c3
      exact ⟨(d, (r, n), t), ⟨wd, w1, w2, wt⟩, b, o, rfl, c0, c1, c2, c3⟩
    obtain ⟨F, hF⟩ := choose_lt hex
    refine ⟨some A, len, cap, (List.range len).map F, e3, hle, hcap, by simp, by omega, fun i x hi => ?_⟩
    simp only [List.getElem?_map, Option.map_eq_some_iff] at hi
    obtain ⟨r, hr, rfl⟩ := hi
    obtain ⟨hlt, hv⟩ := List.getElem?_eq_some_iff.1 hr
    simp at hlt hv
    subst hv
    obtain ⟨w1, b, o, e, h1, h2, h3, h4⟩ := hF i hlt
    exact ⟨w1, b, o, by rw [e], h1, h2, h3, h4⟩
end
end Go.Proofs.Ytpdlhcfepafjeaa
