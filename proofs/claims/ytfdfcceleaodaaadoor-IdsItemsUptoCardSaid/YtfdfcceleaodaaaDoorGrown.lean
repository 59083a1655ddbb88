/- A call that only lays blocks and draws: in the sort's own words. -/
import Derived.Test.YtfdfcceleaodaaaDoorBase
import Derived.Sort.Grow
import Derived.Deep.Draws
namespace Go.Proofs.YtfdfcceleaodaaaDoor
open Go.RowKit Go.Sort
set_option linter.unusedVariables false

/-- Nothing that was there has turned; draws only went on. -/
def Lays (w w' : World) : Prop := Below w.heap.size w w' ∧ w.drawn ≤ w'.drawn
theorem Lays.refl (w : World) : Lays w w := ⟨Below.refl _ _, Nat.le_refl _⟩
theorem Lays.trans {a b c : World} (h : Lays a b) (k : Lays b c) : Lays a c := ⟨h.1.trans (k.1.mono h.1.size), Nat.le_trans h.2 k.2⟩
theorem Lays.drewN {a w : World} (h : Lays a w) (n : Nat) : Lays a (w.drewN n) := ⟨below_drewN h.1 n, Nat.le_trans h.2 (Nat.le_add_right _ _)⟩
theorem drawn_alloc (w : World) (o : Obj) : (w.alloc o).drawn = w.drawn := rfl
theorem drawn_drew (w : World) : w.drew.drawn = w.drawn + 1 := rfl
theorem drawn_set (w : World) (a : Addr) (v : Value) : (w.setCell a v).drawn = w.drawn := rfl
theorem Lays.grow {w w' : World} (h : Lays w w') : ∃ q os, w' = grow (w.drewN q) os := by
  obtain ⟨⟨h1, h2, h3, h4, h5⟩, hd⟩ := h
  refine ⟨w'.drawn - w.drawn, w'.heap.extract w.heap.size w'.heap.size, ?_⟩
  obtain ⟨heap, tape, drawn, os, out⟩ := w
  obtain ⟨heap', tape', drawn', os', out'⟩ := w'
  simp only at h1 h2 h3 h4 h5 hd
  subst h1 h2 h3
  unfold Go.Sort.grow World.drewN
  simp only [World.mk.injEq, and_true, true_and]
  refine ⟨?_, by omega⟩
  apply Array.ext_getElem?
  intro i
  rcases Nat.lt_or_ge i heap.size with hi | hi
  · rw [Array.getElem?_append_left hi, h5 i hi]
  · rw [Array.getElem?_append_right hi]
    simp only [Array.getElem?_extract]
    rcases Nat.lt_or_ge i heap'.size with hk | hk
    · rw [if_pos (by omega), show heap.size + (i - heap.size) = i by omega]
    · rw [if_neg (by omega), Array.getElem?_eq_none hk]
end Go.Proofs.YtfdfcceleaodaaaDoor
