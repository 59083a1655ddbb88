/- Lists of ids in memory, attributes by value; the opening of those that came in. -/
import Derived.Test.YtfdfcceleaodaaaDoorIdMath
import Derived.Lib.SmallJoins
import Derived.ProofKit
import Derived.ChangeOld
namespace Go.Proofs.YtfdfcceleaodaaaDoor
open Go.RowKit Go.ChangeShapes Go.WideShapes Go.Joins Go.Deep Go.ChangeAt
set_option linter.unusedVariables false
set_option maxRecDepth 20000
set_option linter.unusedSimpArgs false

theorem Blk.newAt {w : World} {g : Nat} {t : TypeId} {cs : Array Value} (h : w.heap.size = g) : Blk (w.alloc (.cells cs t)) g t cs := by subst h; exact Blk.new w t cs
/-- A slice of ids, nil let in, that reads as the list l. -/
def IdsAt (w : World) (A : Option Addr) (m : Nat) (l : List IdP) : Prop :=
  m = l.length ∧ m ≤ maxLen ∧ ∀ (i : Nat) (x : IdP), l[i]? = some x → (Lit.int .i64 x.1).wf = true ∧ (Lit.int .i64 x.2).wf = true ∧
    ∃ b o, A = some ⟨b, o, none⟩ ∧ w.cell? ⟨b, o + i * 2, none⟩ = some (.int .i64 x.1) ∧ w.cell? ⟨b, o + i * 2 + 1, none⟩ = some (.int .i64 x.2)
theorem IdsAt.keep {w w' : World} {A : Option Addr} {m : Nat} {l : List IdP} (h : IdsAt w A m l) (hb : Below w.heap.size w w') : IdsAt w' A m l :=
  ⟨h.1, h.2.1, fun i x hi => by
    obtain ⟨w1, w2, b, o, e, h1, h2⟩ := h.2.2 i x hi
    exact ⟨w1, w2, b, o, e, cell_keep hb h1, cell_keep hb h2⟩⟩
theorem IdsAt.nil {w : World} {A : Option Addr} : IdsAt w A 0 [] := ⟨rfl, Nat.zero_le _, fun i x h => by simp at h⟩
theorem IdsAt.at_ {w : World} {A : Option Addr} {m : Nat} {l : List IdP} (h : IdsAt w A m l) {i : Nat} (hi : i < m) :
    ∃ r n b o, l[i]? = some (r, n) ∧ (Lit.int .i64 r).wf = true ∧ (Lit.int .i64 n).wf = true ∧ A = some ⟨b, o, none⟩ ∧ w.cell? ⟨b, o + i * 2, none⟩ = some (.int .i64 r) ∧ w.cell? ⟨b, o + i * 2 + 1, none⟩ = some (.int .i64 n) := by
  have hl : i < l.length := by rw [← h.1]; exact hi
  obtain ⟨w1, w2, b, o, e, h1, h2⟩ := h.2.2 i l[i] (List.getElem?_eq_getElem hl)
  exact ⟨_, _, b, o, List.getElem?_eq_getElem hl, w1, w2, e, h1, h2⟩

section
variable {H : Type} {enc : TypeId × Value → H} {w : World} {base : Nat} {spare : Nat → Bool} {held : Bool}
theorem list2 {α : Type} {l : List α} (h : l.length = 2) : ∃ c0 c1, l = [c0, c1] := by
  match l, h with
  | [c0, c1], _ => exact ⟨c0, c1, rfl⟩
theorem open_id {fuel : Nat} {cs : List Value} {x : DataW H × List MemPlace} (h : DataW.trod enc Tryd.prog w base spare held fuel 48 cs = some x) :
    ∃ r n : Int, cs = [.int .i64 r, .int .i64 n] ∧ (Lit.int .i64 r).wf = true ∧ (Lit.int .i64 n).wf = true := by
  obtain ⟨y0, y1, n, _, hl, h0, h1⟩ := trod_struct2 Tryd.underlying48 h
  have hC : Tryd.prog.cellsOf 48 = 2 := by kernel_rfl
  have hi : Tryd.prog.cellsOf 3 = 1 := by kernel_rfl
  obtain ⟨c0, c1, rfl⟩ := list2 (hl.trans hC)
  simp only [hi] at h0 h1
  obtain ⟨a, e0, _, wa⟩ := DataW.trod_int Tryd.underlying3 h0
  obtain ⟨b, e1, _, wb⟩ := DataW.trod_int Tryd.underlying3 h1
  simp at e0 e1
  subst e0 e1
  exact ⟨a, b, rfl, wa, wb⟩
theorem open_ids {fuel : Nat} {cs : List Value} {x : DataW H × List MemPlace} (h : DataW.trod enc Tryd.prog w base spare held fuel 22 cs = some x) :
    ∃ (A : Option Addr) (m c : Nat) (l : List IdP), cs = [.slice A m c] ∧ m ≤ c ∧ c ≤ maxLen ∧ IdsAt w A m l := by
  rcases DataW.trod_slice Tryd.underlying22 h with ⟨e3, _⟩ | ⟨A, len, cap, elems, rest, q, hq, e3, _, hbA, hle, hcap, hel, helem, _, _⟩
  · exact ⟨none, 0, 0, [], e3, Nat.le_refl _, Nat.zero_le _, IdsAt.nil⟩
  · have hC : Tryd.prog.cellsOf 48 = 2 := by kernel_rfl
    have hex : ∀ i, i < len → ∃ x : IdP, (Lit.int .i64 x.1).wf = true ∧ (Lit.int .i64 x.2).wf = true ∧ ∃ b o, A = ⟨b, o, none⟩ ∧ w.cell? ⟨b, o + i * 2, none⟩ = some (.int .i64 x.1) ∧ w.cell? ⟨b, o + i * 2 + 1, none⟩ = some (.int .i64 x.2) := by
      intro i hi
      have key := helem i hi
      rw [List.getElem?_eq_getElem (by omega), hC] at key
      obtain ⟨cs', h1', h2'⟩ := Option.bind_eq_some_iff.1 key
      obtain ⟨r, n, rfl, w1, w2⟩ := open_id h2'
      obtain ⟨_, hlc, hcell⟩ := World.cells?_some h1'
      have c0 := hcell 0 (by omega)
      have c1 := hcell 1 (by omega)
      rw [add_of_add] at c0 c1
      have hs : A.spot = none := by
        have key := helem 0 (by omega)
        rw [List.getElem?_eq_getElem (by omega), hC] at key
        obtain ⟨cs', h1', h2'⟩ := Option.bind_eq_some_iff.1 key
        obtain ⟨r, n, rfl, w1, w2⟩ := open_id h2'
        obtain ⟨_, hlc, hcell⟩ := World.cells?_some h1'
        have c0 := hcell 0 (by omega)
        have := World.cell?_spot c0
        simpa [Addr.add] using this
      rcases A with ⟨b, o, sp⟩
      simp only at hs
      subst hs
      have e : ∀ k, (Addr.mk b o none).add k = ⟨b, o + k, none⟩ := fun k => by
        unfold Addr.add
        split
        · simp_all
        · rfl
      rw [e] at c0 c1
      exact ⟨(r, n), w1, w2, b, o, rfl, c0, c1⟩
    obtain ⟨F, hF⟩ := choose_lt hex
    refine ⟨some A, len, cap, (List.range len).map F, e3, hle, hcap, by simp, by omega, fun i x hi => ?_⟩
    simp only [List.getElem?_map, Option.map_eq_some_iff] at hi
    obtain ⟨r, hr, rfl⟩ := hi
    obtain ⟨hlt, hv⟩ := List.getElem?_eq_some_iff.1 hr
    simp at hlt hv
    subst hv
    obtain ⟨w1, w2, b, o, e, h1, h2⟩ := hF i hlt
    exact ⟨w1, w2, b, o, by rw [e], h1, h2⟩
/-- What an instance hangs on, by value: the slice's cell, the number, the tag. -/
theorem open_attr_cells {fuel : Nat} {cs : List Value} {x : DataW H × List MemPlace} (h : DataW.trod enc Tryd.prog w base spare held fuel 54 cs = some x) :
    ∃ (A : Option Addr) (m c : Nat) (q t : Int) (l : List IdP), cs = [.slice A m c, .int .i64 q, .int .i64 t] ∧ m ≤ c ∧ c ≤ maxLen ∧ IdsAt w A m l ∧ (Lit.int .i64 q).wf = true ∧ (Lit.int .i64 t).wf = true := by
  obtain ⟨y0, y1, y2, n, _, hl, h0, h1, h2⟩ := trod_struct3 Tryd.underlying54 h
  have hC : Tryd.prog.cellsOf 54 = 3 := by kernel_rfl
  have hi : Tryd.prog.cellsOf 3 = 1 := by kernel_rfl
  have hs : Tryd.prog.cellsOf 22 = 1 := by kernel_rfl
  obtain ⟨c0, c1, c2, rfl⟩ : ∃ c0 c1 c2, cs = [c0, c1, c2] := by
    match cs, hl.trans hC with
    | [c0, c1, c2], _ => exact ⟨c0, c1, c2, rfl⟩
  simp only [hi, hs] at h0 h1 h2
  obtain ⟨A, m, c, l, e0, hmc, hc, hI⟩ := open_ids h0
  obtain ⟨a, e1, _, wa⟩ := DataW.trod_int Tryd.underlying3 h1
  obtain ⟨b, e2, _, wb⟩ := DataW.trod_int Tryd.underlying3 h2
  simp at e0 e1 e2
  subst e0 e1 e2
  exact ⟨A, m, c, a, b, l, rfl, hmc, hc, hI, wa, wb⟩
theorem open_attr {r : Reach} {b0 : Nat} {v : Value} {d : DataW H} {p : List MemPlace} (hv : Value.okWide Tryd.prog w r b0 54 v) (h : DataW.Trod enc Tryd.prog w base spare held 54 v d p) :
    ∃ (A : Option Addr) (m c : Nat) (q t : Int) (l : List IdP), v = .agg #[.slice A m c, .int .i64 q, .int .i64 t] ∧ m ≤ c ∧ c ≤ maxLen ∧ IdsAt w A m l ∧ (Lit.int .i64 q).wf = true ∧ (Lit.int .i64 t).wf = true := by
  obtain ⟨cs, rfl, hsz⟩ := okWide_struct Tryd.underlying54 hv
  obtain ⟨fuel, hf⟩ := h
  obtain ⟨A, m, c, q, t, l, e, h1, h2, h3, h4, h5⟩ := open_attr_cells (by simpa [Value.cells] using hf)
  exact ⟨A, m, c, q, t, l, by rw [← e], h1, h2, h3, h4, h5⟩
end
end Go.Proofs.YtfdfcceleaodaaaDoor
