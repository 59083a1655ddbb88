/- A list of ids without one of them: what slices.DeleteFunc does, in plain Lean. -/
import Derived.Test.YtmlhlananooclaaDoorIdMath
namespace Go.Proofs.YtmlhlananooclaaDoor
set_option linter.unusedVariables false
set_option linter.unusedSimpArgs false

def fl (x : IdP) (l : List IdP) : List IdP := l.filter fun y => decide (y ≠ x)
theorem fl_step {x y : IdP} {l : List IdP} {j : Nat} (hy : l[j]? = some y) : fl x (l.take (j + 1)) = fl x (l.take j) ++ (if y = x then [] else [y]) := by
  unfold fl
  rw [List.take_add_one, hy, List.filter_append]
  congr 1
  by_cases h : y = x <;> simp [h]
theorem fl_none {x : IdP} {l : List IdP} (h : x ∉ l) : fl x l = l := by
  unfold fl
  rw [List.filter_eq_self]
  intro y hy
  exact decide_eq_true fun e => h (e ▸ hy)
theorem fl_not {x : IdP} {l : List IdP} : x ∉ fl x l := by simp [fl]
theorem fl_sub {x y : IdP} {l : List IdP} (h : y ∈ fl x l) : y ∈ l := (List.mem_filter.1 h).1
theorem fl_asc {x : IdP} {l : List IdP} (h : Asc l) : Asc (fl x l) := h.filter _
/-- The loop's relation: of the first j the kept ones lie at the row's head; from j on the row is as it was. -/
structure DelInv (l R : List IdP) (x : IdP) (j kk : Nat) : Prop where
  len : R.length = l.length
  cnt : (fl x (l.take j)).length = kk
  low : ∀ p, p < kk → R[p]? = (fl x (l.take j))[p]?
  high : ∀ p, j ≤ p → R[p]? = l[p]?
  lt : kk < j
theorem DelInv.start {l : List IdP} {x : IdP} {i : Nat} (hi : l[i]? = some x) (h : x ∉ l.take i) : DelInv l l x (i + 1) i := by
  have hil : i < l.length := (List.getElem?_eq_some_iff.1 hi).1
  have e : fl x (l.take (i + 1)) = l.take i := by rw [fl_step hi, if_pos rfl, List.append_nil, fl_none h]
  exact ⟨rfl, by rw [e, List.length_take]; omega, fun p hp => by rw [e, List.getElem?_take, if_pos hp], fun _ _ => rfl, Nat.lt_succ_self _⟩
theorem DelInv.skip {l R : List IdP} {x : IdP} {j kk : Nat} (h : DelInv l R x j kk) (hy : l[j]? = some x) : DelInv l R x (j + 1) kk := by
  have e : fl x (l.take (j + 1)) = fl x (l.take j) := by rw [fl_step hy, if_pos rfl, List.append_nil]
  exact ⟨h.len, by rw [e]; exact h.cnt, fun p hp => by rw [e]; exact h.low p hp, fun p hp => h.high p (by omega), by have := h.lt; omega⟩
theorem DelInv.keep {l R : List IdP} {x y : IdP} {j kk : Nat} (h : DelInv l R x j kk) (hy : l[j]? = some y) (hne : y ≠ x) : DelInv l (R.set kk y) x (j + 1) (kk + 1) := by
  have hjl : j < l.length := (List.getElem?_eq_some_iff.1 hy).1
  have hlt := h.lt
  have hlen := h.len
  have e : fl x (l.take (j + 1)) = fl x (l.take j) ++ [y] := by rw [fl_step hy, if_neg hne]
  refine ⟨by simp [hlen], by rw [e, List.length_append, h.cnt]; rfl, fun p hp => ?_, fun p hp => ?_, by omega⟩
  · rw [e]
    by_cases hpk : p = kk
    · subst hpk
      rw [List.getElem?_set_self (by omega), List.getElem?_append_right (by rw [h.cnt]; exact Nat.le_refl _), h.cnt, Nat.sub_self]
      rfl
    · rw [List.getElem?_set_ne (fun e => hpk e.symm), List.getElem?_append_left (by rw [h.cnt]; omega)]
      exact h.low p (by omega)
  · rw [List.getElem?_set_ne (by omega)]
    exact h.high p (by omega)
theorem DelInv.done {l R : List IdP} {x : IdP} {kk : Nat} (h : DelInv l R x l.length kk) : (fl x l).length = kk ∧ ∀ (p : Nat) (y : IdP), (fl x l)[p]? = some y → R[p]? = some y := by
  have hc := h.cnt
  have hl := h.low
  rw [List.take_length] at hc hl
  refine ⟨hc, fun p y hp => ?_⟩
  have : p < kk := by rw [← hc]; exact (List.getElem?_eq_some_iff.1 hp).1
  rw [hl p this, hp]
end Go.Proofs.YtmlhlananooclaaDoor
