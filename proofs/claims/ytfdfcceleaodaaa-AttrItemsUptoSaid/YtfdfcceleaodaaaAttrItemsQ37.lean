/- attr.Take, TakeOld and the document's at any item, in one word each; a right one's item is taken as it. -/
import Derived.Test.YtfdfcceleaodaaaAttrItemsQ36
import Derived.Test.YtfdfcceleaodaaaAttrItemsQ32
import Derived.WalkKit
import Derived.WalkSpells
import Derived.WalkLawsBesides
import Derived.Deep.RegionHeld3
import Derived.Deep.DrawnRows
import Derived.Deep.DeepCutAuto
import Derived.Deep.DeepFit
import Derived.Lib.Hide
import Derived.BigQuiet
import Derived.Deep.QuietTactic
namespace Go.Proofs.Ytfdfcceleaodaaa
open Go.RowKit
set_option linter.unusedVariables false
set_option linter.unusedSimpArgs false
set_option maxRecDepth 20000
attribute [local go_sem ↓] Go.wp_at_zero Go.wp_at_succ
attribute [local go_sem] World.cell?_alloc_some frozen_alloc_some

theorem atake_none {k : Int} {n : Nat} {s : ByteArray} {l : List Tree} (h : l.length ≠ 3) : atake (.mk k n s l) = none := by
  match l, h with
  | [], _ => rfl
  | [_], _ => rfl
  | [_, _], _ => rfl
  | [_, _, _], h => exact absurd rfl h
  | _ :: _ :: _ :: _ :: _, _ => rfl
theorem otake_none {k : Int} {n : Nat} {s : ByteArray} {l : List Tree} (h : l.length ≠ 2) : otake (.mk k n s l) = none := by
  match l, h with
  | [], _ => rfl
  | [_], _ => rfl
  | [_, _], h => exact absurd rfl h
  | _ :: _ :: _ :: _, _ => rfl
theorem tkA_none {w : World} {e : Ending} {w' : World} (h : Gives w (.tuple #[.agg #[.slice none 0 0, .int .i64 0, .int .i64 0], .bool false]) e w') : TkA w none e w' :=
  ⟨none, 0, h.1, IdsAt.nil, ⟨Nat.le_refl _, fun ad h => by cases h⟩, h.2⟩
theorem attrtake_any (t : Tree) (v : Value) (w : World) (hv : Holds w t v) : Calls Try.prog 8 #[v] w (TkA w (atake t)) := by
  obtain ⟨k, n, s, l⟩ := t
  obtain ⟨A, m, c, rfl, -, -, -, hm, -, -, -⟩ := hv.open_
  by_cases h : l.length = 3
  · match l, h with
    | [t0, t1, t2], _ => subst hm; exact attrtake_good k n s A c t0 t1 t2 w hv
  · rw [atake_none h]
    exact (attrtake_many k n s A m c w (by omega)).mono fun e w' h => tkA_none h
theorem attrtakeold_any (t : Tree) (v : Value) (w : World) (hv : Holds w t v) : Calls Try.prog 13 #[v] w (TkA w (otake t)) := by
  obtain ⟨k, n, s, l⟩ := t
  obtain ⟨A, m, c, rfl, -, -, -, hm, -, -, -⟩ := hv.open_
  by_cases h : l.length = 2
  · match l, h with
    | [t0, t1], _ => subst hm; exact attrtakeold_good k n s A c t0 t1 w hv
  · rw [otake_none h]
    exact (attrtakeold_many k n s A m c w (by omega)).mono fun e w' h => tkA_none h
theorem refattrtake_any (t : Tree) (v : Value) (w : World) (hv : Holds w t v) : Calls Try.prog 15 #[v] w (TkA w (atake t)) := by
  obtain ⟨k, n, s, l⟩ := t
  obtain ⟨A, m, c, rfl, -, -, -, hm, -, -, -⟩ := hv.open_
  by_cases h : l.length = 3
  · match l, h with
    | [t0, t1, t2], _ => subst hm; exact refattrtake_good k n s A c t0 t1 t2 w hv
  · rw [atake_none h]
    exact (refattrtake_many k n s A m c w (by omega)).mono fun e w' h => tkA_none h
theorem refattrtakeold_any (t : Tree) (v : Value) (w : World) (hv : Holds w t v) : Calls Try.prog 16 #[v] w (TkA w (otake t)) := by
  obtain ⟨k, n, s, l⟩ := t
  obtain ⟨A, m, c, rfl, -, -, -, hm, -, -, -⟩ := hv.open_
  by_cases h : l.length = 2
  · match l, h with
    | [t0, t1], _ => subst hm; exact refattrtakeold_good k n s A c t0 t1 w hv
  · rw [otake_none h]
    exact (refattrtakeold_many k n s A m c w (by omega)).mono fun e w' h => tkA_none h
theorem clampZ {a : Int} (h0 : 0 ≤ a) (h1 : a ≤ 1099511627776) : ((clamp (tN (ntree a)) : Nat) : Int) = a := by
  show ((clamp (u64n a) : Nat) : Int) = a
  rw [u64n_of h0 (by omega)]; unfold clamp; omega
theorem acheck_bounds {l : List IdP} {q t : Int} (h : acheck ⟨l, q, t⟩ = 0) : idsOk l = true ∧ 0 ≤ q ∧ q ≤ 1099511627776 ∧ 0 ≤ t ∧ t ≤ 1099511627776 := by
  obtain ⟨h1, h2⟩ := acheck_iff.1 h
  simp only at h1 h2
  refine ⟨h2, ?_⟩
  rcases h1 with ⟨a, b, c⟩ | ⟨a, b⟩ <;> omega
theorem atake_item {l : List IdP} {q t : Int} (h : acheck ⟨l, q, t⟩ = 0) : atake (atree l q t) = some ⟨l, q, t⟩ := by
  obtain ⟨h2, h3, h4, h5, h6⟩ := acheck_bounds h
  show aTk (itake (ltree (itrees l))).isSome ((itake (ltree (itrees l))).getD []) (clamp (tN (ntree q))) (clamp (tN (ntree t))) (atree l q t) (atree ((itake (ltree (itrees l))).getD []) (clamp (tN (ntree q))) (clamp (tN (ntree t)))) = _
  rw [itake_item l h2, clampZ h3 h4, clampZ h5 h6]
  unfold aTk
  rw [if_pos]
  · rfl
  · simp only [Option.getD_some, Option.isSome_some, tsame_self, h]; rfl
theorem otake_item {l : List IdP} {q : Int} (h : acheck ⟨l, q, 1⟩ = 0) : otake (otree l q) = some ⟨l, q, 1⟩ := by
  obtain ⟨h2, h3, h4, _, _⟩ := acheck_bounds h
  show aTk (itake (ltree (itrees l))).isSome ((itake (ltree (itrees l))).getD []) (clamp (tN (ntree q))) 1 (otree l q) (otree ((itake (ltree (itrees l))).getD []) (clamp (tN (ntree q)))) = _
  rw [itake_item l h2, clampZ h3 h4]
  unfold aTk
  rw [if_pos]
  · rfl
  · simp only [Option.getD_some, Option.isSome_some, tsame_self, h]; rfl
end Go.Proofs.Ytfdfcceleaodaaa
