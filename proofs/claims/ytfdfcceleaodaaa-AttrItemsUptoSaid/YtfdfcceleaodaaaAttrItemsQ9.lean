/- A row of ids of the call's own, cell by cell. -/
import Derived.Test.YtfdfcceleaodaaaAttrItemsQ5
import Derived.Test.YtfdfcceleaodaaaAttrItemsQ1
import Derived.WalkKit
import Derived.WalkSpells
import Derived.WalkLawsBesides
import Derived.Deep.RegionHeld3
import Derived.Deep.DrawnRows
import Derived.Deep.DeepCutAuto
import Derived.Deep.DeepFit
import Derived.Lib.Hide
import Derived.BigQuiet
import Derived.Deep.QuietTactic
namespace Go.Proofs.Ytfdfcceleaodaaa
open Go.RowKit
set_option linter.unusedVariables false
set_option linter.unusedSimpArgs false
set_option maxRecDepth 20000
attribute [local go_sem ↓] Go.wp_at_zero Go.wp_at_succ
attribute [local go_sem] World.cell?_alloc_some frozen_alloc_some
/-- The ids of l lie at block g from its beginning on, none frozen. -/
def RowAt (w : World) (g : Nat) (l : List IdP) : Prop := ∀ (i : Nat) (x : IdP), l[i]? = some x →
  w.cell? ⟨g, i * 2, none⟩ = some (.int .i64 x.1) ∧ w.cell? ⟨g, i * 2 + 1, none⟩ = some (.int .i64 x.2) ∧ w.frozen? ⟨g, i * 2, none⟩ = false ∧ w.frozen? ⟨g, i * 2 + 1, none⟩ = false
theorem RowAt.keep {w w' : World} {g : Nat} {l : List IdP} (h : RowAt w g l) (hb : Below w.heap.size w w') : RowAt w' g l := fun i x hi => by
  obtain ⟨h1, h2, h3, h4⟩ := h i x hi
  exact ⟨cell_keep hb h1, cell_keep hb h2, frozen_keep hb h1 h3, frozen_keep hb h2 h4⟩
theorem RowAt.set {w : World} {g : Nat} {l : List IdP} (h : RowAt w g l) {k : Nat} (hk : k < l.length) (y : IdP) :
    RowAt ((w.setCell ⟨g, k * 2, none⟩ (.int .i64 y.1)).setCell ⟨g, k * 2 + 1, none⟩ (.int .i64 y.2)) g (l.set k y) := fun i x hi => by
  obtain ⟨k1, k2, k3, k4⟩ := h k l[k] (List.getElem?_eq_getElem hk)
  by_cases e : k = i
  · subst e
    rw [List.getElem?_set_self hk] at hi
    cases hi
    refine ⟨?_, ?_, ?_, ?_⟩
    · rw [World.cell?_setCell_other _ _ _ _ (by simp)]
      exact World.cell?_setCell_same _ _ _ k1
    · exact World.cell?_setCell_same _ _ _ (u := .int .i64 l[k].2) (by rw [World.cell?_setCell_other _ _ _ _ (by simp)]; exact k2)
    · simp [World.frozen?_setCell, k3]
    · simp [World.frozen?_setCell, k4]
  · rw [List.getElem?_set_ne e] at hi
    obtain ⟨h1, h2, h3, h4⟩ := h i x hi
    refine ⟨?_, ?_, ?_, ?_⟩
    · rw [World.cell?_setCell_other _ _ _ _ (by simp <;> omega), World.cell?_setCell_other _ _ _ _ (by simp <;> omega)]; exact h1
    · rw [World.cell?_setCell_other _ _ _ _ (by simp <;> omega), World.cell?_setCell_other _ _ _ _ (by simp <;> omega)]; exact h2
    · simp [World.frozen?_setCell, h3]
    · simp [World.frozen?_setCell, h4]
theorem RowAt.ids {w : World} {g : Nat} {l s : List IdP} {m : Nat} (h : RowAt w g l) (hs : s.length = m) (hm : m ≤ maxLen) (hp : ∀ (i : Nat) (x : IdP), s[i]? = some x → l[i]? = some x) (hwf : ∀ x ∈ s, (Lit.int .i64 x.1).wf = true ∧ (Lit.int .i64 x.2).wf = true) : IdsAt w (some ⟨g, 0, none⟩) m s :=
  ⟨hs.symm, hm, fun i x hi => by
    obtain ⟨h1, h2, _, _⟩ := h i x (hp i x hi)
    obtain ⟨w1, w2⟩ := hwf x (List.mem_of_getElem? hi)
    exact ⟨w1, w2, g, 0, rfl, by simpa using h1, by simpa using h2⟩⟩

def encId (x : IdP) : List Value := [.int .i64 x.1, .int .i64 x.2]
def flat2 (l : List IdP) : List Value := l.flatMap encId
theorem flat2_length (l : List IdP) : (flat2 l).length = l.length * 2 := by
  induction l with
  | nil => rfl
  | cons x l ih => simp only [flat2, List.flatMap_cons, List.length_append, List.length_cons] at *; rw [ih]; simp [encId]; omega
theorem flat2_get : ∀ (l : List IdP) (i : Nat) (x : IdP), l[i]? = some x → (flat2 l)[i * 2]? = some (.int .i64 x.1) ∧ (flat2 l)[i * 2 + 1]? = some (.int .i64 x.2)
  | [], i, x, h => by simp at h
  | y :: l, 0, x, h => by
    simp at h; subst h
    exact ⟨rfl, rfl⟩
  | y :: l, i + 1, x, h => by
    obtain ⟨h1, h2⟩ := flat2_get l i x (by simpa using h)
    have e : flat2 (y :: l) = Value.int .i64 y.1 :: Value.int .i64 y.2 :: flat2 l := rfl
    rw [e, show (i + 1) * 2 = i * 2 + 1 + 1 by omega]
    simp only [List.getElem?_cons_succ]
    exact ⟨h1, h2⟩
theorem flat2_inv {l : List IdP} {j : Nat} {u : Value} (h : (flat2 l)[j]? = some u) : ∃ i x, l[i]? = some x ∧ (j = i * 2 ∧ u = .int .i64 x.1 ∨ j = i * 2 + 1 ∧ u = .int .i64 x.2) := by
  have hj : j < l.length * 2 := by
    rw [← flat2_length]
    exact (List.getElem?_eq_some_iff.1 h).1
  have hi : j / 2 < l.length := by omega
  obtain ⟨h1, h2⟩ := flat2_get l (j / 2) _ (List.getElem?_eq_getElem hi)
  refine ⟨j / 2, _, List.getElem?_eq_getElem hi, ?_⟩
  rcases Nat.mod_two_eq_zero_or_one j with e | e
  · rw [show j / 2 * 2 = j by omega, h] at h1
    injection h1 with h1
    exact .inl ⟨by omega, h1⟩
  · rw [show j / 2 * 2 + 1 = j by omega, h] at h2
    injection h2 with h2
    exact .inr ⟨by omega, h2⟩
theorem flat2_one {l : List IdP} : ∀ u ∈ flat2 l, u.oneCell' = true := fun u hu => by
  obtain ⟨j, hj, rfl⟩ := List.getElem_of_mem hu
  obtain ⟨i, x, _, h | h⟩ := flat2_inv (List.getElem?_eq_getElem hj)
  · rw [h.2]; rfl
  · rw [h.2]; rfl
theorem flat2_append (l m : List IdP) : flat2 (l ++ m) = flat2 l ++ flat2 m := by simp [flat2]
theorem IdsAt.cells {w : World} {b o m : Nat} {l : List IdP} (h : IdsAt w (some ⟨b, o, none⟩) m l) {j : Nat} {u : Value} (hj : (flat2 l)[j]? = some u) : w.cell? ⟨b, o + j, none⟩ = some u := by
  obtain ⟨i, x, hi, hx⟩ := flat2_inv hj
  obtain ⟨_, _, b2, o2, e, h1, h2⟩ := h.2.2 i x hi
  injection e with e
  injection e with e1 e2
  subst e1 e2
  rcases hx with ⟨rfl, rfl⟩ | ⟨rfl, rfl⟩
  · exact h1
  · exact h2
theorem IdsAt.wf {w : World} {A : Option Addr} {m : Nat} {l : List IdP} (h : IdsAt w A m l) : ∀ x ∈ l, (Lit.int .i64 x.1).wf = true ∧ (Lit.int .i64 x.2).wf = true := fun x hx => by
  obtain ⟨i, hi, rfl⟩ := List.getElem_of_mem hx
  obtain ⟨w1, w2, _⟩ := h.2.2 i _ (List.getElem?_eq_getElem hi)
  exact ⟨w1, w2⟩
/-- A row that the call owns. -/
theorem row_of_own {w : World} {base : Nat} {e : TypeId} {v : Value} {n : Nat} {l : List IdP} (h : w.ownsRow base e 2 v n (flat2 l)) (hv : v ≠ .slice none 0 0) :
    ∃ g cap, v = .slice (some ⟨g, 0, none⟩) n cap ∧ base ≤ g ∧ g < w.heap.size ∧ n ≤ cap ∧ cap ≤ maxLen ∧ l.length = n ∧ RowAt w g l := by
  have hl : l.length = n := by have := h.1; rw [flat2_length] at this; omega
  rcases h.2 with ⟨e0, _⟩ | ⟨g, cap, cur, rfl, hb, hg, hn, hm, hs, ht⟩
  · exact absurd e0 hv
  · have hlt : g < w.heap.size := (Array.getElem?_eq_some_iff.1 hg).1
    have hc : ∀ j u, (flat2 l)[j]? = some u → w.cell? ⟨g, j, none⟩ = some u := fun j u hj => by
      rw [cell_of_row w g j cur e (0, 0) hg, ← Array.getElem?_toList]
      rw [← ht, List.getElem?_take] at hj
      split at hj
      · exact hj
      · cases hj
    have hf : ∀ j, w.frozen? ⟨g, j, none⟩ = false := fun j => by simp [World.frozen?, hg]
    exact ⟨g, cap, rfl, hb, hlt, hn, hm, hl, fun i x hi => ⟨hc _ _ (flat2_get l i x hi).1, hc _ _ (flat2_get l i x hi).2, hf _, hf _⟩⟩
theorem addr_add (b o k : Nat) : (Addr.mk b o none).add k = ⟨b, o + k, none⟩ := by
  unfold Addr.add
  split
  · simp_all
  · rfl
theorem IdsAt.src {w : World} {A : Option Addr} {m : Nat} {l : List IdP} (h : IdsAt w A m l) : Src w 2 A m (flat2 l) :=
  ⟨by rw [flat2_length, h.1], fun j u hu => by
    obtain ⟨i, x, hi, hx⟩ := flat2_inv hu
    obtain ⟨_, _, b, o, e, h1, h2⟩ := h.2.2 i x hi
    refine ⟨_, e, ?_⟩
    rw [addr_add]
    rcases hx with ⟨rfl, rfl⟩ | ⟨rfl, rfl⟩
    · exact h1
    · exact h2, flat2_one⟩
theorem Src.keep2 {w w' : World} {size : Nat} {A : Option Addr} {m : Nat} {news : List Value} (h : Src w size A m news) (hb : Below w.heap.size w w') : Src w' size A m news :=
  ⟨h.1, fun j u hj => by
    obtain ⟨ad, e, hc⟩ := h.2.1 j u hj
    exact ⟨ad, e, cell_keep hb hc⟩, h.2.2⟩
theorem own_form5 {w : World} {base : Nat} {e : TypeId} {size : Nat} {v : Value} {n : Nat} {xs : List Value} (h : w.ownsRow base e size v n xs) : ∃ A c, v = .slice A n c ∧ n ≤ c ∧ c ≤ maxLen := by
  rcases h.2 with ⟨rfl, rfl⟩ | ⟨g, cap, cur, rfl, _, _, hn, hm, _⟩
  · exact ⟨none, 0, rfl, Nat.le_refl _, Nat.zero_le _⟩
  · exact ⟨_, _, rfl, hn, hm⟩
theorem size_zeroCells (z : Array Value) (n : Nat) : (Builtin.zeroCells z n).size = n * z.size := by simp [Builtin.zeroCells]
theorem ids_of_own {w : World} {base : Nat} {e : TypeId} {A : Option Addr} {n c : Nat} {l : List IdP} (h : w.ownsRow base e 2 (.slice A n c) n (flat2 l)) (hm : n ≤ maxLen) (hwf : ∀ x ∈ l, (Lit.int .i64 x.1).wf = true ∧ (Lit.int .i64 x.2).wf = true) :
    IdsAt w A n l ∧ n ≤ c ∧ ∀ ad, A = some ad → ad.spot = none := by
  by_cases hv : (.slice A n c : Value) = .slice none 0 0
  · injection hv with e1 e2 e3
    subst e1 e2 e3
    have hl : l = [] := by
      have := h.1
      rw [flat2_length] at this
      exact List.length_eq_zero_iff.1 (by omega)
    subst hl
    exact ⟨IdsAt.nil, Nat.le_refl _, fun ad h => by cases h⟩
  · obtain ⟨g, cap, e, _, _, hn, _, hl, hr⟩ := row_of_own h hv
    injection e with e1 e2 e3
    subst e1 e3
    exact ⟨hr.ids hl hm (fun _ _ h => h) hwf, hn, fun ad h => by cases h; rfl⟩
theorem src_two {w : World} {x : IdP} : Src (w.alloc (.cells #[.int .i64 x.1, .int .i64 x.2] 42)) 2 (some ⟨w.heap.size, 0, none⟩) 1 (flat2 [x]) := by
  refine ⟨rfl, fun j u hj => ⟨_, rfl, ?_⟩, flat2_one⟩
  rw [addr_add, Nat.zero_add]
  have hb := Blk.new w 42 #[.int .i64 x.1, .int .i64 x.2]
  rw [hb.cell, List.getElem?_toArray]
  exact hj
theorem src_two' {w : World} {r n : Int} : Src (w.alloc (.cells #[.int .i64 r, .int .i64 n] 42)) 2 (some ⟨w.heap.size, 0, none⟩) 1 (flat2 [(r, n)]) := src_two (x := (r, n))
end Go.Proofs.Ytfdfcceleaodaaa
