/- A row of ids of the call's own; the library's clone and sort at it. -/
import Derived.Test.YtpdlhcfepafjeaaIdOrd
import Derived.Test.YtpdlhcfepafjeaaSortL
import Derived.Lib.OwnBridge
import Derived.Lib.SlicesCompact
import Derived.WalkKit
import Derived.WalkSpells
import Derived.WalkLawsBesides
import Derived.Deep.RegionHeld3
import Derived.Deep.DrawnRows
import Derived.Deep.DeepCutAuto
import Derived.Deep.DeepFit
import Derived.Lib.Hide
import Derived.BigQuiet
import Derived.Deep.QuietTactic
namespace Go.Proofs.Ytpdlhcfepafjeaa
open Go.RowKit
set_option linter.unusedVariables false
set_option linter.unusedSimpArgs false
set_option maxRecDepth 20000
attribute [local go_sem ↓] Go.wp_at_zero Go.wp_at_succ
attribute [local go_sem] World.cell?_alloc_some frozen_alloc_some
open Go.Sort Go.Lib Go.Shelf

/-- The ids of l lie at block g from its beginning on, none frozen. -/
def RowAt (w : World) (g : Nat) (l : List IdP) : Prop := ∀ (i : Nat) (x : IdP), l[i]? = some x →
  w.cell? ⟨g, i * 2, none⟩ = some (.int .i64 x.1) ∧ w.cell? ⟨g, i * 2 + 1, none⟩ = some (.int .i64 x.2) ∧ w.frozen? ⟨g, i * 2, none⟩ = false ∧ w.frozen? ⟨g, i * 2 + 1, none⟩ = false
theorem RowAt.keep {w w' : World} {g : Nat} {l : List IdP} (h : RowAt w g l) (hb : Below w.heap.size w w') : RowAt w' g l := fun i x hi => by
  obtain ⟨h1, h2, h3, h4⟩ := h i x hi
  exact ⟨cell_keep hb h1, cell_keep hb h2, frozen_keep hb h1 h3, frozen_keep hb h2 h4⟩
theorem RowAt.set {w : World} {g : Nat} {l : List IdP} (h : RowAt w g l) {k : Nat} (hk : k < l.length) (y : IdP) :
    RowAt ((w.setCell ⟨g, k * 2, none⟩ (.int .i64 y.1)).setCell ⟨g, k * 2 + 1, none⟩ (.int .i64 y.2)) g (l.set k y) := fun i x hi => by
  obtain ⟨k1, k2, k3, k4⟩ := h k l[k] (List.getElem?_eq_getElem hk)
  by_cases e : k = i
  · subst e
    rw [List.getElem?_set_self hk] at hi
    cases hi
    refine ⟨?_, ?_, ?_, ?_⟩
    · rw [World.cell?_setCell_other _ _ _ _ (by simp)]
      exact World.cell?_setCell_same _ _ _ k1
    · exact World.cell?_setCell_same _ _ _ (u := .int .i64 l[k].2) (by rw [World.cell?_setCell_other _ _ _ _ (by simp)]; exact k2)
    · simp [World.frozen?_setCell, k3]
    · simp [World.frozen?_setCell, k4]
  · rw [List.getElem?_set_ne e] at hi
    obtain ⟨h1, h2, h3, h4⟩ := h i x hi
    refine ⟨?_, ?_, ?_, ?_⟩
    · rw [World.cell?_setCell_other _ _ _ _ (by simp <;> omega), World.cell?_setCell_other _ _ _ _ (by simp <;> omega)]; exact h1
    · rw [World.cell?_setCell_other _ _ _ _ (by simp <;> omega), World.cell?_setCell_other _ _ _ _ (by simp <;> omega)]; exact h2
    · simp [World.frozen?_setCell, h3]
    · simp [World.frozen?_setCell, h4]
theorem RowAt.ids {w : World} {g : Nat} {l s : List IdP} {m : Nat} (h : RowAt w g l) (hs : s.length = m) (hm : m ≤ maxLen) (hp : ∀ (i : Nat) (x : IdP), s[i]? = some x → l[i]? = some x) (hwf : ∀ x ∈ s, (Lit.int .i64 x.1).wf = true ∧ (Lit.int .i64 x.2).wf = true) : IdsAt w (some ⟨g, 0, none⟩) m s :=
  ⟨hs.symm, hm, fun i x hi => by
    obtain ⟨h1, h2, _, _⟩ := h i x (hp i x hi)
    obtain ⟨w1, w2⟩ := hwf x (List.mem_of_getElem? hi)
    exact ⟨w1, w2, g, 0, rfl, by simpa using h1, by simpa using h2⟩⟩

def encId (x : IdP) : List Value := [.int .i64 x.1, .int .i64 x.2]
def flat2 (l : List IdP) : List Value := l.flatMap encId
theorem flat2_length (l : List IdP) : (flat2 l).length = l.length * 2 := by
  induction l with
  | nil => rfl
  | cons x l ih => simp only [flat2, List.flatMap_cons, List.length_append, List.length_cons] at *; rw [ih]; simp [encId]; omega
theorem flat2_get : ∀ (l : List IdP) (i : Nat) (x : IdP), l[i]? = some x → (flat2 l)[i * 2]? = some (.int .i64 x.1) ∧ (flat2 l)[i * 2 + 1]? = some (.int .i64 x.2)
  | [], i, x, h => by simp at h
  | y :: l, 0, x, h => by
    simp at h; subst h
    exact ⟨rfl, rfl⟩
  | y :: l, i + 1, x, h => by
    obtain ⟨h1, h2⟩ := flat2_get l i x (by simpa using h)
    have e : flat2 (y :: l) = Value.int .i64 y.1 :: Value.int .i64 y.2 :: flat2 l := rfl
    rw [e, show (i + 1) * 2 = i * 2 + 1 + 1 by omega]
    simp only [List.getElem?_cons_succ]
    exact ⟨h1, h2⟩
theorem flat2_inv {l : List IdP} {j : Nat} {u : Value} (h : (flat2 l)[j]? = some u) : ∃ i x, l[i]? = some x ∧ (j = i * 2 ∧ u = .int .i64 x.1 ∨ j = i * 2 + 1 ∧ u = .int .i64 x.2) := by
  have hj : j < l.length * 2 := by
    rw [← flat2_length]
    exact (List.getElem?_eq_some_iff.1 h).1
  have hi : j / 2 < l.length := by omega
  obtain ⟨h1, h2⟩ := flat2_get l (j / 2) _ (List.getElem?_eq_getElem hi)
  refine ⟨j / 2, _, List.getElem?_eq_getElem hi, ?_⟩
  rcases Nat.mod_two_eq_zero_or_one j with e | e
  · rw [show j / 2 * 2 = j by omega, h] at h1
    injection h1 with h1
    exact .inl ⟨by omega, h1⟩
  · rw [show j / 2 * 2 + 1 = j by omega, h] at h2
    injection h2 with h2
    exact .inr ⟨by omega, h2⟩
theorem flat2_one {l : List IdP} : ∀ u ∈ flat2 l, u.oneCell' = true := fun u hu => by
  obtain ⟨j, hj, rfl⟩ := List.getElem_of_mem hu
  obtain ⟨i, x, _, h | h⟩ := flat2_inv (List.getElem?_eq_getElem hj)
  · rw [h.2]; rfl
  · rw [h.2]; rfl
theorem flat2_append (l m : List IdP) : flat2 (l ++ m) = flat2 l ++ flat2 m := by simp [flat2]
theorem IdsAt.cells {w : World} {b o m : Nat} {l : List IdP} (h : IdsAt w (some ⟨b, o, none⟩) m l) {j : Nat} {u : Value} (hj : (flat2 l)[j]? = some u) : w.cell? ⟨b, o + j, none⟩ = some u := by
  obtain ⟨i, x, hi, hx⟩ := flat2_inv hj
  obtain ⟨_, _, b2, o2, e, h1, h2⟩ := h.2.2 i x hi
  injection e with e
  injection e with e1 e2
  subst e1 e2
  rcases hx with ⟨rfl, rfl⟩ | ⟨rfl, rfl⟩
  · exact h1
  · exact h2
theorem IdsAt.wf {w : World} {A : Option Addr} {m : Nat} {l : List IdP} (h : IdsAt w A m l) : ∀ x ∈ l, (Lit.int .i64 x.1).wf = true ∧ (Lit.int .i64 x.2).wf = true := fun x hx => by
  obtain ⟨i, hi, rfl⟩ := List.getElem_of_mem hx
  obtain ⟨w1, w2, _⟩ := h.2.2 i _ (List.getElem?_eq_getElem hi)
  exact ⟨w1, w2⟩
/-- A row that the call owns. -/
theorem row_of_own {w : World} {base : Nat} {e : TypeId} {v : Value} {n : Nat} {l : List IdP} (h : w.ownsRow base e 2 v n (flat2 l)) (hv : v ≠ .slice none 0 0) :
    ∃ g cap, v = .slice (some ⟨g, 0, none⟩) n cap ∧ base ≤ g ∧ g < w.heap.size ∧ n ≤ cap ∧ cap ≤ maxLen ∧ l.length = n ∧ RowAt w g l := by
  have hl : l.length = n := by have := h.1; rw [flat2_length] at this; omega
  rcases h.2 with ⟨e0, _⟩ | ⟨g, cap, cur, rfl, hb, hg, hn, hm, hs, ht⟩
  · exact absurd e0 hv
  · have hlt : g < w.heap.size := (Array.getElem?_eq_some_iff.1 hg).1
    have hc : ∀ j u, (flat2 l)[j]? = some u → w.cell? ⟨g, j, none⟩ = some u := fun j u hj => by
      rw [cell_of_row w g j cur e (0, 0) hg, ← Array.getElem?_toList]
      rw [← ht, List.getElem?_take] at hj
      split at hj
      · exact hj
      · cases hj
    have hf : ∀ j, w.frozen? ⟨g, j, none⟩ = false := fun j => by simp [World.frozen?, hg]
    exact ⟨g, cap, rfl, hb, hlt, hn, hm, hl, fun i x hi => ⟨hc _ _ (flat2_get l i x hi).1, hc _ _ (flat2_get l i x hi).2, hf _, hf _⟩⟩
theorem holdsK_of_row {w : World} {g : Nat} {l : List IdP} (h : RowAt w g l) : HoldsK encId 2 w g 0 l.toArray := by
  intro t ht
  rw [size_flatK] at ht
  rw [get_flatK _ _ _ _ ht]
  have hi : t / 2 < l.length := by simp at ht; omega
  obtain ⟨h1, h2, h3, h4⟩ := h (t / 2) l[t / 2] (List.getElem?_eq_getElem hi)
  have e : l.toArray[t / 2]! = l[t / 2] := by simp [hi]
  rw [e, Nat.zero_add]
  rcases Nat.mod_two_eq_zero_or_one t with e2 | e2
  · rw [e2]
    have e3 : t = t / 2 * 2 := by omega
    constructor
    · rw [show (⟨g, t, none⟩ : Addr) = ⟨g, t / 2 * 2, none⟩ by rw [← e3]]; exact h1
    · rw [show (⟨g, t, none⟩ : Addr) = ⟨g, t / 2 * 2, none⟩ by rw [← e3]]; exact h3
  · rw [e2]
    have e3 : t = t / 2 * 2 + 1 := by omega
    constructor
    · rw [show (⟨g, t, none⟩ : Addr) = ⟨g, t / 2 * 2 + 1, none⟩ by rw [← e3]]; exact h2
    · rw [show (⟨g, t, none⟩ : Addr) = ⟨g, t / 2 * 2 + 1, none⟩ by rw [← e3]]; exact h4
theorem row_of_holdsK {w : World} {g : Nat} {d : Array IdP} (h : HoldsK encId 2 w g 0 d) : RowAt w g d.toList := by
  intro i x hi
  have hi2 : i < d.size := by simpa using (List.getElem?_eq_some_iff.1 hi).1
  have e : d[i]! = x := by
    rw [getElem!_pos d i hi2]
    have := (List.getElem?_eq_some_iff.1 hi).2
    simpa using this
  obtain ⟨h1, h2⟩ := h.cell hi2 (c := 0) (by decide)
  obtain ⟨h3, h4⟩ := h.cell hi2 (c := 1) (by decide)
  rw [e] at h1 h3
  simp only [Nat.zero_add, Nat.add_zero] at h1 h2 h3 h4
  exact ⟨h1, h3, h2, h4⟩

/-- The library's sort puts ids in their order. -/
def idLe (x y : IdP) : Bool := !(ltOf idCmp) y x
theorem ltOf_idCmp (x y : IdP) : ltOf idCmp x y = decide (idLt x y) := by
  unfold ltOf; rw [Bool.eq_iff_iff, decide_eq_true_iff, decide_eq_true_iff]; exact idCmp_lt
theorem swo_id : SWO (ltOf idCmp) where
  irrefl x := by rw [ltOf_idCmp]; exact decide_eq_false (idLt_irrefl x)
  trans x y z h1 h2 := by rw [ltOf_idCmp] at *; exact decide_eq_true (idLt_trans (of_decide_eq_true h1) (of_decide_eq_true h2))
  ntrans x y z h1 h2 := by
    rw [ltOf_idCmp] at *
    have h1 := of_decide_eq_false h1
    have h2 := of_decide_eq_false h2
    refine decide_eq_false fun h => ?_
    unfold idLt at *
    omega
def idSort (l : List IdP) : List IdP := l.mergeSort idLe
theorem idSort_length (l : List IdP) : (idSort l).length = l.length := List.length_mergeSort ..
theorem mem_idSort {l : List IdP} {x : IdP} : x ∈ idSort l ↔ x ∈ l := List.mem_mergeSort
theorem idSort_pairwise (l : List IdP) : (idSort l).Pairwise fun x y => ¬ idLt y x := by
  have h := List.pairwise_mergeSort (le := idLe) (fun a b c h1 h2 => ?_) (fun a b => ?_) l
  · refine h.imp fun {a b} hab => ?_
    simp only [idLe, ltOf_idCmp, Bool.not_eq_true', decide_eq_false_iff_not] at hab
    exact hab
  · simp only [idLe, ltOf_idCmp, Bool.not_eq_true', decide_eq_false_iff_not] at *
    unfold idLt at *
    omega
  · simp only [idLe, ltOf_idCmp, Bool.or_eq_true, Bool.not_eq_true', decide_eq_false_iff_not]
    rcases idLt_total a b with h | h | h
    · exact .inl (idLt_asymm h)
    · subst h; exact .inl (idLt_irrefl a)
    · exact .inr (idLt_asymm h)

theorem sort_row (g cap : Nat) (l : List IdP) (w : World) (hr : RowAt w g l) (hg : g < w.heap.size) (hl : l.length ≤ 1000000) :
    Calls Try.prog 56 #[.slice (some ⟨g, 0, none⟩) l.length cap, .func (.func 92) #[] #[]] w
      fun e w' => e = .returned (.tuple #[]) ∧ RowAt w' g (idSort l) ∧ g < w'.heap.size ∧ ∀ B, B ≤ g → Below B w w' := by
  have eg : ∀ args w, (callFunc 92 args).run Try.prog w = .ok (.enter 92 args) w := enters_of Try.func92 (by kernel_rfl) rfl
  have hcmp : CmpLays Try.prog 92 #[] encId 2 idCmp g 0 l.toArray.size w := fun m os dk _ x y =>
    (order_any x.1 x.2 y.1 y.2 _).mono fun e w' ⟨he, hL⟩ => ⟨he, hL.grow⟩
  have hH := holdsK_of_row hr
  have hcon := AnyQ.slices_SortFunc_total Try.sortIds 2 Try.isAgg34 Try.sizeOf34 encId (fun _ => rfl) (fun x v hv => by simp [encId] at hv; rcases hv with rfl | rfl <;> rfl) idCmp swo_id 92 #[] g 0 cap l.toArray w eg hcmp hH hg (by simp; omega)
    (fun x y h1 h2 => by
      rw [ltOf_idCmp] at h1 h2
      rcases idLt_total x y with h | h | h
      · exact absurd h (of_decide_eq_false h1)
      · exact h
      · exact absurd h (of_decide_eq_false h2))
  rw [show l.toArray.size = l.length by simp] at hcon
  change Calls Try.prog 56 _ _ _ at hcon
  refine hcon.mono fun e w' ⟨he, n, os, hw⟩ => ?_
  have hs : (List.mergeSort l.toArray.toList fun x y => !(ltOf idCmp) y x) = idSort l := by simp [idSort, idLe]; rfl
  rw [hs] at hw
  have hK : HoldsK encId 2 w' g 0 (idSort l).toArray := by rw [hw]; exact holdsK_sortWorldK_c encId 2 w g 0 l.toArray (idSort l).toArray n os hH hg (by simp [idSort_length])
  have hsz : w.heap.size ≤ w'.heap.size := by rw [hw]; exact size_sortWorldK_c encId 2 w g 0 n (idSort l).toArray os
  refine ⟨he, by simpa using row_of_holdsK hK, by omega, fun B hB => ?_⟩
  rw [hw]
  unfold sortWorldK putRowK
  have h1 : Below B w (putRow id (Sort.ahead w n) g 0 (flatK encId 2 (idSort l).toArray)) := Lib.below_putRow (Below.refl _ _) hB
  exact ⟨h1.os, h1.tape, h1.output, by have := h1.size; simp only [grow, Array.size_append] at *; omega, fun k hk => by
    rw [heap_grow_old _ _ (by have := h1.size; omega)]
    exact h1.block k hk⟩
end Go.Proofs.Ytpdlhcfepafjeaa
