/- A right set's item is taken as the set, in plain Lean. -/
import Derived.Test.YtfdfcceleaodaaaAttrItemsQ29
import Derived.Test.YtfdfcceleaodaaaAttrItemsQ20
namespace Go.Proofs.Ytfdfcceleaodaaa
open Go.RowKit
set_option linter.unusedVariables false
set_option linter.unusedSimpArgs false
set_option maxRecDepth 20000
attribute [local go_sem ↓] Go.wp_at_zero Go.wp_at_succ
attribute [local go_sem] World.cell?_alloc_some frozen_alloc_some
theorem isN_mk (k : Int) (n : Nat) (s : ByteArray) (l : List Tree) : isN (.mk k n s l) = true ↔ k = 0 ∧ s.size = 0 ∧ l = [] := by
  unfold isN
  rw [tsame_iff]
  constructor
  · intro h
    injection h with h1 h2 h3 h4
    exact ⟨h1, by rw [h3]; rfl, h4⟩
  · rintro ⟨rfl, h2, rfl⟩
    rw [size0 h2]; rfl
/-- A right set's item is taken as the set. -/
theorem isN_ntree (a : Int) : isN (ntree a) = true := (isN_mk _ _ _ _).2 ⟨rfl, rfl, rfl⟩
theorem inums_get (l : List IdP) (j : Nat) (h : j < l.length) : (inums l)[2 * j]? = some l[j].1 ∧ (inums l)[2 * j + 1]? = some l[j].2 := by
  induction l generalizing j with
  | nil => simp at h
  | cons p l ih =>
    have e : inums (p :: l) = p.1 :: p.2 :: inums l := rfl
    rw [e]
    cases j with
    | zero => exact ⟨rfl, rfl⟩
    | succ j =>
      have := ih j (by simpa using h)
      rw [show 2 * (j + 1) = 2 * j + 1 + 1 by omega]
      simpa using this
theorem itake_item (l : List IdP) (h : idsOk l = true) : itake (ltree (itrees l)) = some l := by
  have hl : (itrees l).length = 2 * l.length := by simp [itrees, inums_length]
  have hk := idsOk_iff.1 h
  have h2 : l.length ≤ 4096 := hk.2.2
  have e2 : (itrees l).length / 2 = l.length := by omega
  have hg : ∀ j, (hj : j < l.length) → gd (itrees l) j = true ∧ pa (itrees l) j = l[j] := fun j hj => by
    obtain ⟨g1, g2⟩ := inums_get l j hj
    have q1 : (itrees l)[2 * j]? = some (ntree l[j].1) := by unfold itrees; rw [List.getElem?_map, g1]; rfl
    have q2 : (itrees l)[2 * j + 1]? = some (ntree l[j].2) := by unfold itrees; rw [List.getElem?_map, g2]; rfl
    have r1 : (itrees l).getD (2 * j) default = ntree l[j].1 := by simp [List.getD, q1]
    have r2 : (itrees l).getD (2 * j + 1) default = ntree l[j].2 := by simp [List.getD, q2]
    have hr := idRight_iff.1 (hk.1 l[j] (List.getElem_mem hj))
    refine ⟨?_, ?_⟩
    · unfold gd; rw [r1, r2, isN_ntree, isN_ntree]; rfl
    · unfold pa
      rw [r1, r2]
      have e1 : tN (ntree l[j].1) = u64n l[j].1 := rfl
      have e2 : tN (ntree l[j].2) = u64n l[j].2 := rfl
      rw [e1, e2, u64n_of hr.1 (by omega), u64n_of hr.2.2.1 (by omega)]
      refine Prod.ext ?_ ?_
      · show ((clamp l[j].1.toNat : Nat) : Int) = l[j].1
        unfold clamp; omega
      · show ((clamp l[j].2.toNat : Nat) : Int) = l[j].2
        unfold clamp; omega
  have hm : (List.range l.length).map (pa (itrees l)) = l := by
    apply List.ext_getElem
    · simp
    · intro i h1 h2
      simp only [List.getElem_map, List.getElem_range]
      exact (hg i h2).2
  unfold ltree
  rw [itake_mk, e2, hm, if_pos]
  exact ⟨by unfold tkHead; simp [hl]; omega, fun j hj => (hg j hj).1, h⟩
end Go.Proofs.Ytfdfcceleaodaaa
