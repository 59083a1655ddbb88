/- The walks of package stonecropref03 on items: Same. -/
import Derived.Test.YtfdfcceleaodaaaDoorCodecE
namespace Go.Proofs.YtfdfcceleaodaaaDoor
open Go.RowKit
set_option linter.unusedVariables false
set_option linter.unusedSimpArgs false
set_option maxRecDepth 20000
attribute [local go_sem ↓] Go.wp_at_zero Go.wp_at_succ
attribute [local go_sem] World.cell?_alloc_some frozen_alloc_some
attribute [local go_sem] lt2 lt3 lt4 lt5
attribute [local simp] lt2 lt3 lt4 lt5

open Classical in
/-- Two trees are one. -/
noncomputable def tsame (t u : Tree) : Bool := decide (t = u)
theorem tsame_self (t : Tree) : tsame t t = true := by simp [tsame]
theorem tsame_iff {t u : Tree} : tsame t u = true ↔ t = u := by simp [tsame]
theorem tsame_no {t u : Tree} (h : t ≠ u) : tsame t u = false := by simp [tsame, h]
theorem list_parts {l m : List Tree} {j : Nat} (h : l.take j = m.take j) (h1 : j < l.length) (h2 : j < m.length) (he : l[j] = m[j]) : l.take (j + 1) = m.take (j + 1) := by
  rw [List.take_add_one, List.take_add_one, h, List.getElem?_eq_getElem h1, List.getElem?_eq_getElem h2, he]

theorem toList_inj {s t : ByteArray} (h : s.toList = t.toList) : s = t := by
  obtain ⟨⟨a⟩⟩ := s
  obtain ⟨⟨b⟩⟩ := t
  simp only [ByteArray.toList_eq] at h
  rw [show a = b from h]

end Go.Proofs.YtfdfcceleaodaaaDoor
