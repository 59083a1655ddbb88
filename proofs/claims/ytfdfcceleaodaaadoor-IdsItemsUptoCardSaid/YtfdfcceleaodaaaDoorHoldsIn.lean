/- Items whose lists lie in blocks of a set; a row of such items that a call itself makes. -/
import Derived.Test.YtfdfcceleaodaaaDoorItems
namespace Go.Proofs.YtfdfcceleaodaaaDoor
open Go.RowKit
set_option linter.unusedVariables false
set_option linter.unusedSimpArgs false
set_option maxRecDepth 20000
attribute [local go_sem ↓] Go.wp_at_zero Go.wp_at_succ
attribute [local go_sem] World.cell?_alloc_some frozen_alloc_some

/-- The value is the tree; all that lies behind it lies in blocks of S. -/
inductive HoldsIn (w : World) (S : Nat → Prop) : Tree → Value → Prop
  | mk (k : Int) (n : Nat) (s : ByteArray) (l : List Tree) (A : Option Addr) (m c : Nat) (vs : Nat → Value)
    (hk : (Lit.int .i64 k).wf = true) (hn : n < 2 ^ 64) (hs : s.size ≤ maxLen) (hm : m = l.length) (hmc : m ≤ c) (hc : c ≤ maxLen)
    (hcell : ∀ i, i < m → ∃ b o, A = some ⟨b, o, none⟩ ∧ S b ∧ ∀ j u, (vs i).cells[j]? = some u → w.cell? ⟨b, o + (4 * i + j), none⟩ = some u)
    (hsub : ∀ i t, l[i]? = some t → HoldsIn w S t (vs i)) :
    HoldsIn w S (.mk k n s l) (.agg #[.int .i64 k, .int .u64 (n : Int), .string s, .slice A m c])

theorem HoldsIn.holds {w : World} {S : Nat → Prop} {t : Tree} {v : Value} (h : HoldsIn w S t v) : Holds w t v := by
  induction h with
  | mk k n s l A m c vs hk hn hs hm hmc hc hcell hsub ih =>
    exact .mk k n s l A m c vs hk hn hs hm hmc hc (fun i hi => by
      obtain ⟨b, o, e, hb, h⟩ := hcell i hi
      refine ⟨_, e, fun j u hu => ?_⟩
      have hadd : (⟨b, o, none⟩ : Addr).add (4 * i + j) = ⟨b, o + (4 * i + j), none⟩ := by unfold Addr.add; split <;> simp_all
      rw [hadd]; exact h j u hu) ih
theorem HoldsIn.mono {w : World} {S S' : Nat → Prop} {t : Tree} {v : Value} (h : HoldsIn w S t v) (hS : ∀ b, S b → S' b) : HoldsIn w S' t v := by
  induction h with
  | mk k n s l A m c vs hk hn hs hm hmc hc hcell hsub ih =>
    exact .mk k n s l A m c vs hk hn hs hm hmc hc (fun i hi => by
      obtain ⟨b, o, e, hb, h⟩ := hcell i hi
      exact ⟨b, o, e, hS b hb, h⟩) ih
theorem HoldsIn.four {w : World} {S : Nat → Prop} {t : Tree} {v : Value} (h : HoldsIn w S t v) : v.cells.size = 4 ∧ ∀ u ∈ v.cells.toList, u.oneCell' = true := h.holds.four
theorem HoldsIn.there {w : World} {S : Nat → Prop} {t : Tree} {v : Value} (h : HoldsIn w S t v) : HoldsIn w (fun b => S b ∧ b < w.heap.size) t v := by
  induction h with
  | mk k n s l A m c vs hk hn hs hm hmc hc hcell hsub ih =>
    exact .mk k n s l A m c vs hk hn hs hm hmc hc (fun i hi => by
      obtain ⟨b, o, e, hb, h⟩ := hcell i hi
      have hsz := (hsub i l[i] (List.getElem?_eq_getElem (by omega))).four.1
      have hlt : b < w.heap.size := World.block_lt_of_cell? _ _ (h 0 _ (Array.getElem?_eq_getElem (by omega)))
      exact ⟨b, o, e, ⟨hb, hlt⟩, h⟩) ih
theorem HoldsIn.keep {w w' : World} {S : Nat → Prop} {t : Tree} {v : Value} (h : HoldsIn w S t v) (hk : ∀ b, S b → b < w.heap.size → w'.heap[b]? = w.heap[b]?) : HoldsIn w' S t v := by
  induction h with
  | mk k n s l A m c vs hk' hn hs hm hmc hc hcell hsub ih =>
    exact .mk k n s l A m c vs hk' hn hs hm hmc hc (fun i hi => by
      obtain ⟨b, o, e, hb, h⟩ := hcell i hi
      refine ⟨b, o, e, hb, fun j u hu => ?_⟩
      have hcl := h j u hu
      have hlt : b < w.heap.size := World.block_lt_of_cell? _ _ hcl
      rw [← hcl]; exact World.cell?_of_block (w := w) (hk b hb hlt)) ih
theorem HoldsIn.under {w w' : World} {S : Nat → Prop} {t : Tree} {v : Value} (h : HoldsIn w S t v) (hb : Below w.heap.size w w') : HoldsIn w' S t v := h.keep fun b _ hl => hb.block b hl
theorem HoldsIn.grown {w w' : World} {S : Nat → Prop} {t : Tree} {v : Value} {row : Option Nat} (h : HoldsIn w S t v) (hg : w.grownBy w' row) (hS : ∀ b, S b → some b ≠ row) : HoldsIn w' S t v := h.keep fun b hb hl => hg.block b hl (hS b hb)
/-- A store into a block that is not one of S. -/
theorem HoldsIn.set {w : World} {S : Nat → Prop} {t : Tree} {v : Value} (h : HoldsIn w S t v) {p : Addr} (hp : ¬ S p.block) (u : Value) : HoldsIn (w.setCell p u) S t v :=
  h.keep fun b hb _ => Below.heap_setCell w p u b fun e => hp (e ▸ hb)
theorem HoldsIn.form {w : World} {S : Nat → Prop} {t : Tree} {v : Value} (h : HoldsIn w S t v) : ∃ (k n : Int) (s : ByteArray) (A : Option Addr) (m c : Nat), v = .agg #[.int .i64 k, .int .u64 n, .string s, .slice A m c] := by
  cases h with
  | mk k n s l A m c vs hk hn hs hm hmc hc hcell hsub => exact ⟨_, _, _, _, _, _, rfl⟩

/-- The cells of items, one behind the other. -/
def flatL (us : List Value) : List Value := us.flatMap fun u => u.cells.toList
theorem flatL_snoc (us : List Value) (u : Value) : flatL (us ++ [u]) = flatL us ++ u.cells.toList := by simp [flatL]
theorem flatL_length {us : List Value} (h : ∀ u ∈ us, u.cells.size = 4) : (flatL us).length = us.length * 4 := by
  induction us with
  | nil => rfl
  | cons u us ih =>
    have h1 := ih fun v hv => h v (List.mem_cons_of_mem _ hv)
    have h2 := h u (List.mem_cons_self ..)
    simp only [flatL, List.flatMap_cons, List.length_append, Array.length_toList, List.length_cons] at h1 ⊢
    omega
theorem flatL_get {us : List Value} (h : ∀ u ∈ us, u.cells.size = 4) {i j : Nat} {u : Value} (hi : us[i]? = some u) (hj : j < 4) : (flatL us)[4 * i + j]? = u.cells[j]? := by
  induction us generalizing i with
  | nil => simp at hi
  | cons v us ih =>
    have h2 := h v (List.mem_cons_self ..)
    cases i with
    | zero =>
      simp at hi; subst hi
      simp only [flatL, List.flatMap_cons]
      rw [List.getElem?_append_left (by rw [Array.length_toList]; omega), Array.getElem?_toList]
      simp
    | succ i =>
      simp only [flatL, List.flatMap_cons]
      rw [List.getElem?_append_right (by rw [Array.length_toList]; omega), Array.length_toList, h2, show 4 * (i + 1) + j - 4 = 4 * i + j by omega]
      exact ih (fun u hu => h u (List.mem_cons_of_mem _ hu)) (by simpa using hi)

/-- A row of its own of items: of the first so many of a list of trees. -/
structure RowS (w : World) (base : Nat) (v : Value) (l : List Tree) (us : List Value) : Prop where
  own : w.ownsRow base 26 4 v us.length (flatL us)
  le : us.length ≤ l.length
  sub : ∀ (i : Nat) (t : Tree) (u : Value), l[i]? = some t → us[i]? = some u → HoldsIn w (fun b => base ≤ b ∧ some b ≠ v.ownBlock) t u
theorem RowS.nil_ (w : World) (base : Nat) (l : List Tree) : RowS w base (.slice none 0 0) l [] := ⟨World.ownsRow_nil _ _ _ _, Nat.zero_le _, fun i t u _ hu => by simp at hu⟩
theorem RowS.form {w : World} {base : Nat} {v : Value} {l : List Tree} {us : List Value} (h : RowS w base v l us) : ∃ A c, v = .slice A us.length c ∧ us.length ≤ c ∧ c ≤ maxLen := by
  rcases h.own.2 with ⟨rfl, hl⟩ | ⟨g, cap, cur, rfl, _, _, hle, hm, _⟩
  · exact ⟨none, 0, by rw [hl], by omega, Nat.zero_le _⟩
  · exact ⟨_, cap, rfl, hle, hm⟩
theorem RowS.below {w w' : World} {base : Nat} {v : Value} {l : List Tree} {us : List Value} (h : RowS w base v l us) (hb : Below w.heap.size w w') : RowS w' base v l us :=
  ⟨h.own.kept (grown_of_below hb none) (by cases v.ownBlock <;> simp), h.le, fun i t u ht hu => (h.sub i t u ht hu).under hb⟩
/-- A store below the base. -/
theorem RowS.set {w : World} {base : Nat} {v : Value} {l : List Tree} {us : List Value} (h : RowS w base v l us) {p : Addr} (hp : p.block < base) (u : Value) : RowS (w.setCell p u) base v l us :=
  ⟨ownsRow_setCell_below h.own hp u, h.le, fun i t x ht hx => (h.sub i t x ht hx).set (by omega) u⟩
theorem RowS.more {w : World} {base : Nat} {v : Value} {l : List Tree} {us : List Value} (h : RowS w base v l us) (hl : us.length = l.length) (t : Tree) : RowS w base v (l ++ [t]) us :=
  ⟨h.own, by have := h.le; simp; omega, fun i t' u ht hu => by
    have hi : i < us.length := by
      rcases Nat.lt_or_ge i us.length with h | h
      · exact h
      · rw [List.getElem?_eq_none h] at hu; cases hu
    rw [List.getElem?_append_left (by omega)] at ht
    exact h.sub i t' u ht hu⟩
/-- One more is appended. -/
theorem RowS.step {w w' : World} {base g : Nat} {v v' : Value} {l : List Tree} {us : List Value} {t : Tree} {u : Value} (h : RowS w base v l us) (ht : l[us.length]? = some t)
    (hu : HoldsIn w (fun b => g ≤ b) t u) (hg : base ≤ g) (hv : ∀ k, v.ownBlock = some k → k < g)
    (hown : w'.ownsRow base 26 4 v' (us.length + 1) (flatL us ++ u.cells.toList)) (hgr : w.grownBy w' v.ownBlock) (hat : v'.ownBlock = v.ownBlock ∨ v'.ownBlock = some w.heap.size) : RowS w' base v' l (us ++ [u]) := by
  have hle : us.length < l.length := by
    rcases Nat.lt_or_ge us.length l.length with h | h
    · exact h
    · rw [List.getElem?_eq_none h] at ht; cases ht
  have key : ∀ (i : Nat) (t : Tree) (x : Value), l[i]? = some t → (us ++ [u])[i]? = some x → HoldsIn w (fun b => (base ≤ b ∧ some b ≠ v.ownBlock) ∧ b < w.heap.size) t x := by
    intro i t' x hi hx
    by_cases hlt : i < us.length
    · rw [List.getElem?_append_left hlt] at hx
      exact (h.sub i t' x hi hx).there
    · have : i = us.length := by
        have : i < (us ++ [u]).length := by
          rcases Nat.lt_or_ge i (us ++ [u]).length with h | h
          · exact h
          · rw [List.getElem?_eq_none h] at hx; cases hx
        simp at this; omega
      subst this
      rw [ht] at hi
      simp at hi hx
      subst hi hx
      exact (hu.mono fun b hb => (⟨by omega, fun e => by have := hv b e.symm; omega⟩ : base ≤ b ∧ some b ≠ v.ownBlock)).there
  refine ⟨by rw [flatL_snoc]; simpa using hown, by simp; omega, fun i t' x hi hx => ?_⟩
  refine ((key i t' x hi hx).grown hgr fun b hb => hb.1.2).mono fun b hb => ⟨hb.1.1, ?_⟩
  rcases hat with e | e
  · rw [e]; exact hb.1.2
  · rw [e]
    intro e2
    injection e2 with e2
    have := hb.2
    omega
/-- A whole row is an item's list. -/
theorem RowS.node {w : World} {base : Nat} {A : Option Addr} {m c : Nat} {l : List Tree} {us : List Value} (h : RowS w base (.slice A m c) l us) (hl : us.length = l.length) :
    HoldsIn w (fun b => base ≤ b) (.mk 2 0 ByteArray.empty l) (.agg #[.int .i64 2, .int .u64 ((0 : Nat) : Int), .string ByteArray.empty, .slice A m c]) := by
  obtain ⟨A', c', e, hle, hm⟩ := h.form
  injection e with e1 e2 e3
  subst e1 e2 e3
  have hg : ∀ i, i < us.length → us[i]? = some (us.getD i .nilIface) := fun i hi => by simp [List.getD, List.getElem?_eq_getElem hi]
  have h4 : ∀ u ∈ us, u.cells.size = 4 := fun u hu => by
    obtain ⟨i, hi, rfl⟩ := List.mem_iff_getElem.1 hu
    exact (h.sub i l[i] _ (List.getElem?_eq_getElem (by omega)) (List.getElem?_eq_getElem hi)).four.1
  refine .mk 2 0 _ l A us.length c (fun i => us.getD i .nilIface) (by decide) (by decide) (by decide) hl hle hm (fun i hi => ?_) fun i t ht => ?_
  · rcases h.own.2 with ⟨hv, hn⟩ | ⟨g, cap, cur, hv, hb, _⟩
    · omega
    · injection hv with hv _ _
      subst hv
      refine ⟨g, 0, rfl, hb, fun j u hu => ?_⟩
      have hj : j < 4 := by
        rw [← h4 _ (List.mem_of_getElem? (hg i hi))]
        exact (Array.getElem?_eq_some_iff.1 hu).1
      have := h.own.cells (g := g) rfl (4 * i + j) u (by rw [flatL_get h4 (hg i hi) hj]; exact hu)
      rw [← this]
      congr 1
      unfold Addr.add; split <;> simp_all
  · have hi : i < us.length := by
      rw [hl]
      rcases Nat.lt_or_ge i l.length with h | h
      · exact h
      · rw [List.getElem?_eq_none h] at ht; cases ht
    exact (h.sub i t _ ht (hg i hi)).mono fun b hb => hb.1
/-- One item that the call has laid in a block of its own, as the source of an append. -/
theorem src_item {w : World} {e : TypeId} {u : Value} (h4 : u.cells.size = 4) (h1 : ∀ x ∈ u.cells.toList, x.oneCell' = true) : Src (w.alloc (.cells u.cells e)) 4 (some ⟨w.heap.size, 0, none⟩) 1 u.cells.toList :=
  ⟨by simp [h4], fun j x hj => ⟨_, rfl, by
    have hadd : (⟨w.heap.size, 0, none⟩ : Addr).add j = ⟨w.heap.size, j, none⟩ := by unfold Addr.add; split <;> simp_all
    rw [hadd]
    exact (new_cell w u.cells e j (by simpa using hj)).1⟩, h1⟩
end Go.Proofs.YtfdfcceleaodaaaDoor
