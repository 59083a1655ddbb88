/- ids.Right, ids.Less, ids.Check, attr.Check. -/
import Derived.Test.YtpdfbkkhmfnnjaaIndexMeetsQ2
import Derived.WalkKit
import Derived.WalkSpells
import Derived.WalkLawsBesides
import Derived.Deep.RegionHeld3
import Derived.Deep.DrawnRows
import Derived.Deep.DeepCutAuto
import Derived.Deep.DeepFit
import Derived.Lib.Hide
import Derived.BigQuiet
import Derived.Deep.QuietTactic
namespace Go.Proofs.Ytpdfbkkhmfnnjaa
open Go.RowKit
set_option linter.unusedVariables false
set_option linter.unusedSimpArgs false
set_option maxRecDepth 20000
attribute [local go_sem ↓] Go.wp_at_zero Go.wp_at_succ
attribute [local go_sem] World.cell?_alloc_some frozen_alloc_some

theorem idRight_no {x : IdP} (h : ¬ (0 ≤ x.1 ∧ x.1 < 7 ∧ 0 ≤ x.2 ∧ x.2 ≤ 1099511627776)) : idRight x = false := by
  rw [← Bool.not_eq_true]; intro h1; exact h (idRight_iff.1 h1)
/-- What the loop of a set's check has seen. -/
def seenOk (l : List IdP) : Bool := decide ((∀ x ∈ l, idRight x = true) ∧ Asc l)
theorem idsOk_seen {l : List IdP} : idsOk l = (seenOk l && decide (l.length ≤ 4096)) := by
  rw [Bool.eq_iff_iff, idsOk_iff, Bool.and_eq_true, seenOk, decide_eq_true_eq, decide_eq_true_eq, and_assoc]
theorem seenOk_nil : seenOk [] = true := by simp [seenOk]
theorem seenOk_step {l : List IdP} {j : Nat} {x : IdP} (h : seenOk (l.take j) = true) (hx : l[j]? = some x) (hr : idRight x = true) (hl : ∀ y, 0 < j → l[j - 1]? = some y → idLt y x) : seenOk (l.take (j + 1)) = true := by
  unfold seenOk at *
  rw [decide_eq_true_eq] at *
  rw [List.take_add_one, hx]
  simp only [Option.toList]
  obtain ⟨h1, h2⟩ := h
  refine ⟨fun z hz => ?_, ?_⟩
  · rcases List.mem_append.1 hz with hz | hz
    · exact h1 z hz
    · simp at hz; subst hz; exact hr
  · refine List.pairwise_append.2 ⟨h2, by simp, fun a ha b hb => ?_⟩
    simp at hb
    subst hb
    obtain ⟨hjx, _⟩ := List.getElem?_eq_some_iff.1 hx
    have hlen : (l.take j).length = j := by rw [List.length_take]; omega
    obtain ⟨i, hi, rfl⟩ := List.getElem_of_mem ha
    have hjl : j - 1 < l.length := by omega
    have hlast := hl l[j - 1] (by omega) (List.getElem?_eq_getElem hjl)
    rcases Nat.lt_or_ge i (j - 1) with hi2 | hi2
    · refine idLt_trans ?_ hlast
      have := List.pairwise_iff_getElem.1 h2 i (j - 1) (by omega) (by omega) hi2
      simpa using this
    · have hij : i = j - 1 := by omega
      subst hij
      simpa using hlast
theorem seenOk_no {l : List IdP} {j : Nat} {x : IdP} (hx : l[j]? = some x) (h : idRight x = false ∨ ∃ y, 0 < j ∧ l[j - 1]? = some y ∧ ¬ idLt y x) : idsOk l = false := by
  rw [← Bool.not_eq_true, idsOk_iff]
  rintro ⟨h1, h2, _⟩
  obtain ⟨hj, rfl⟩ := List.getElem?_eq_some_iff.1 hx
  rcases h with h | ⟨y, h0, hy, hn⟩
  · rw [h1 _ (List.getElem_mem hj)] at h; cases h
  · obtain ⟨hj2, rfl⟩ := List.getElem?_eq_some_iff.1 hy
    exact hn (List.pairwise_iff_getElem.1 h2 (j - 1) j hj2 hj (by omega))

theorem below_one1 {w : World} (o : Obj) : Below w.heap.size w (w.alloc o) := (Below.refl _ _).alloc (Nat.le_refl _) o
abbrev CkS (w : World) (b o : Nat) (r n r2 n2 : Int) (wx : World) : Prop := Below w.heap.size w wx ∧ w.heap.size < wx.heap.size ∧ wx.cell? ⟨w.heap.size, 0, none⟩ = some (.int .i64 r) ∧ wx.cell? ⟨w.heap.size, 1, none⟩ = some (.int .i64 n) ∧ wx.cell? ⟨b, o, none⟩ = some (.int .i64 r2) ∧ wx.cell? ⟨b, o + 1, none⟩ = some (.int .i64 n2)
theorem CkS.start {w : World} {b o : Nat} {r n r2 n2 : Int} (h0 : w.cell? ⟨b, o, none⟩ = some (.int .i64 r2)) (h1 : w.cell? ⟨b, o + 1, none⟩ = some (.int .i64 n2)) : CkS w b o r n r2 n2 (w.alloc (.cells #[.int .i64 r, .int .i64 n] 26)) :=
  ⟨below_one1 _, by simp, (new_cell w #[.int .i64 r, .int .i64 n] 26 0 rfl).1, (new_cell w #[.int .i64 r, .int .i64 n] 26 1 rfl).1, cell_alloc h0, cell_alloc h1⟩
theorem CkS.drew {w W : World} {b o : Nat} {r n r2 n2 : Int} (h : CkS w b o r n r2 n2 W) : CkS w b o r n r2 n2 W.drew := ⟨h.1.drew, h.2⟩
theorem CkS.keep {w W w1 : World} {b o : Nat} {r n r2 n2 : Int} (hb : Below W.heap.size W w1) (h : CkS w b o r n r2 n2 W) : CkS w b o r n r2 n2 w1 :=
  ⟨h.1.trans (hb.mono (by have := h.1.size; omega)), by have := hb.size; have := h.2.1; omega, cell_keep hb h.2.2.1, cell_keep hb h.2.2.2.1, cell_keep hb h.2.2.2.2.1, cell_keep hb h.2.2.2.2.2⟩
theorem CkS.alloc {w W : World} {b o : Nat} {r n r2 n2 : Int} (h : CkS w b o r n r2 n2 W) (ob : Obj) : CkS w b o r n r2 n2 (W.alloc ob) := h.keep (below_one1 ob)
end Go.Proofs.Ytpdfbkkhmfnnjaa
