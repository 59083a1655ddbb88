/- Items whose lists lie in blocks of a set; a row of such items that a call itself makes. codec.List of items whose blocks lie from a place on: what it gives lies there too. Items of numbers: how the program turns them. -/
import Derived.Test.YtfdfcceleaodaaaAttrItemsQ17
import Derived.Test.YtfdfcceleaodaaaAttrItemsQ5
import Derived.Test.YtfdfcceleaodaaaAttrItemsQ6
import Derived.WalkKit
import Derived.WalkSpells
import Derived.WalkLawsBesides
import Derived.Deep.RegionHeld3
import Derived.Deep.DrawnRows
import Derived.Deep.DeepCutAuto
import Derived.Deep.DeepFit
import Derived.Lib.Hide
import Derived.BigQuiet
import Derived.Deep.QuietTactic
namespace Go.Proofs.Ytfdfcceleaodaaa
open Go.RowKit
set_option linter.unusedVariables false
set_option linter.unusedSimpArgs false
set_option maxRecDepth 20000
attribute [local go_sem ↓] Go.wp_at_zero Go.wp_at_succ
attribute [local go_sem] World.cell?_alloc_some frozen_alloc_some

/-- The value is the tree; all that lies behind it lies in blocks of S. -/
inductive HoldsIn (w : World) (S : Nat → Prop) : Tree → Value → Prop
  | mk (k : Int) (n : Nat) (s : ByteArray) (l : List Tree) (A : Option Addr) (m c : Nat) (vs : Nat → Value)
    (hk : (Lit.int .i64 k).wf = true) (hn : n < 2 ^ 64) (hs : s.size ≤ maxLen) (hm : m = l.length) (hmc : m ≤ c) (hc : c ≤ maxLen)
    (hcell : ∀ i, i < m → ∃ b o, A = some ⟨b, o, none⟩ ∧ S b ∧ ∀ j u, (vs i).cells[j]? = some u → w.cell? ⟨b, o + (4 * i + j), none⟩ = some u)
    (hsub : ∀ i t, l[i]? = some t → HoldsIn w S t (vs i)) :
    HoldsIn w S (.mk k n s l) (.agg #[.int .i64 k, .int .u64 (n : Int), .string s, .slice A m c])

theorem HoldsIn.holds {w : World} {S : Nat → Prop} {t : Tree} {v : Value} (h : HoldsIn w S t v) : Holds w t v := by
  induction h with
  | mk k n s l A m c vs hk hn hs hm hmc hc hcell hsub ih =>
    exact .mk k n s l A m c vs hk hn hs hm hmc hc (fun i hi => by
      obtain ⟨b, o, e, hb, h⟩ := hcell i hi
      refine ⟨_, e, fun j u hu => ?_⟩
      have hadd : (⟨b, o, none⟩ : Addr).add (4 * i + j) = ⟨b, o + (4 * i + j), none⟩ := by unfold Addr.add; split <;> simp_all
      rw [hadd]; exact h j u hu) ih
theorem HoldsIn.mono {w : World} {S S' : Nat → Prop} {t : Tree} {v : Value} (h : HoldsIn w S t v) (hS : ∀ b, S b → S' b) : HoldsIn w S' t v := by
  induction h with
  | mk k n s l A m c vs hk hn hs hm hmc hc hcell hsub ih =>
    exact .mk k n s l A m c vs hk hn hs hm hmc hc (fun i hi => by
      obtain ⟨b, o, e, hb, h⟩ := hcell i hi
      exact ⟨b, o, e, hS b hb, h⟩) ih
theorem HoldsIn.four {w : World} {S : Nat → Prop} {t : Tree} {v : Value} (h : HoldsIn w S t v) : v.cells.size = 4 ∧ ∀ u ∈ v.cells.toList, u.oneCell' = true := h.holds.four
theorem HoldsIn.there {w : World} {S : Nat → Prop} {t : Tree} {v : Value} (h : HoldsIn w S t v) : HoldsIn w (fun b => S b ∧ b < w.heap.size) t v := by
  induction h with
  | mk k n s l A m c vs hk hn hs hm hmc hc hcell hsub ih =>
    exact .mk k n s l A m c vs hk hn hs hm hmc hc (fun i hi => by
      obtain ⟨b, o, e, hb, h⟩ := hcell i hi
      have hsz := (hsub i l[i] (List.getElem?_eq_getElem (by omega))).four.1
      have hlt : b < w.heap.size := World.block_lt_of_cell? _ _ (h 0 _ (Array.getElem?_eq_getElem (by omega)))
      exact ⟨b, o, e, ⟨hb, hlt⟩, h⟩) ih
theorem HoldsIn.keep {w w' : World} {S : Nat → Prop} {t : Tree} {v : Value} (h : HoldsIn w S t v) (hk : ∀ b, S b → b < w.heap.size → w'.heap[b]? = w.heap[b]?) : HoldsIn w' S t v := by
  induction h with
  | mk k n s l A m c vs hk' hn hs hm hmc hc hcell hsub ih =>
    exact .mk k n s l A m c vs hk' hn hs hm hmc hc (fun i hi => by
      obtain ⟨b, o, e, hb, h⟩ := hcell i hi
      refine ⟨b, o, e, hb, fun j u hu => ?_⟩
      have hcl := h j u hu
      have hlt : b < w.heap.size := World.block_lt_of_cell? _ _ hcl
      rw [← hcl]; exact World.cell?_of_block (w := w) (hk b hb hlt)) ih
theorem HoldsIn.under {w w' : World} {S : Nat → Prop} {t : Tree} {v : Value} (h : HoldsIn w S t v) (hb : Below w.heap.size w w') : HoldsIn w' S t v := h.keep fun b _ hl => hb.block b hl
theorem HoldsIn.grown {w w' : World} {S : Nat → Prop} {t : Tree} {v : Value} {row : Option Nat} (h : HoldsIn w S t v) (hg : w.grownBy w' row) (hS : ∀ b, S b → some b ≠ row) : HoldsIn w' S t v := h.keep fun b hb hl => hg.block b hl (hS b hb)
/-- A store into a block that is not one of S. -/
theorem HoldsIn.set {w : World} {S : Nat → Prop} {t : Tree} {v : Value} (h : HoldsIn w S t v) {p : Addr} (hp : ¬ S p.block) (u : Value) : HoldsIn (w.setCell p u) S t v :=
  h.keep fun b hb _ => Below.heap_setCell w p u b fun e => hp (e ▸ hb)
theorem HoldsIn.form {w : World} {S : Nat → Prop} {t : Tree} {v : Value} (h : HoldsIn w S t v) : ∃ (k n : Int) (s : ByteArray) (A : Option Addr) (m c : Nat), v = .agg #[.int .i64 k, .int .u64 n, .string s, .slice A m c] := by
  cases h with
  | mk k n s l A m c vs hk hn hs hm hmc hc hcell hsub => exact ⟨_, _, _, _, _, _, rfl⟩

/-- The cells of items, one behind the other. -/
def flatL (us : List Value) : List Value := us.flatMap fun u => u.cells.toList
theorem flatL_snoc (us : List Value) (u : Value) : flatL (us ++ [u]) = flatL us ++ u.cells.toList := by simp [flatL]
theorem flatL_length {us : List Value} (h : ∀ u ∈ us, u.cells.size = 4) : (flatL us).length = us.length * 4 := by
  induction us with
  | nil => rfl
  | cons u us ih =>
    have h1 := ih fun v hv => h v (List.mem_cons_of_mem _ hv)
    have h2 := h u (List.mem_cons_self ..)
    simp only [flatL, List.flatMap_cons, List.length_append, Array.length_toList, List.length_cons] at h1 ⊢
    omega
theorem flatL_get {us : List Value} (h : ∀ u ∈ us, u.cells.size = 4) {i j : Nat} {u : Value} (hi : us[i]? = some u) (hj : j < 4) : (flatL us)[4 * i + j]? = u.cells[j]? := by
  induction us generalizing i with
  | nil => simp at hi
  | cons v us ih =>
    have h2 := h v (List.mem_cons_self ..)
    cases i with
    | zero =>
      simp at hi; subst hi
      simp only [flatL, List.flatMap_cons]
      rw [List.getElem?_append_left (by rw [Array.length_toList]; omega), Array.getElem?_toList]
      simp
    | succ i =>
      simp only [flatL, List.flatMap_cons]
      rw [List.getElem?_append_right (by rw [Array.length_toList]; omega), Array.length_toList, h2, show 4 * (i + 1) + j - 4 = 4 * i + j by omega]
      exact ih (fun u hu => h u (List.mem_cons_of_mem _ hu)) (by simpa using hi)

/-- A row of its own of items: of the first so many of a list of trees. -/
structure RowS (w : World) (base : Nat) (v : Value) (l : List Tree) (us : List Value) : Prop where
  own : w.ownsRow base 28 4 v us.length (flatL us)
  le : us.length ≤ l.length
  sub : ∀ (i : Nat) (t : Tree) (u : Value), l[i]? = some t → us[i]? = some u → HoldsIn w (fun b => base ≤ b ∧ some b ≠ v.ownBlock) t u
theorem RowS.nil_ (w : World) (base : Nat) (l : List Tree) : RowS w base (.slice none 0 0) l [] := ⟨World.ownsRow_nil _ _ _ _, Nat.zero_le _, fun i t u _ hu => by simp at hu⟩
theorem RowS.form {w : World} {base : Nat} {v : Value} {l : List Tree} {us : List Value} (h : RowS w base v l us) : ∃ A c, v = .slice A us.length c ∧ us.length ≤ c ∧ c ≤ maxLen := by
  rcases h.own.2 with ⟨rfl, hl⟩ | ⟨g, cap, cur, rfl, _, _, hle, hm, _⟩
  · exact ⟨none, 0, by rw [hl], by omega, Nat.zero_le _⟩
  · exact ⟨_, cap, rfl, hle, hm⟩
theorem RowS.below {w w' : World} {base : Nat} {v : Value} {l : List Tree} {us : List Value} (h : RowS w base v l us) (hb : Below w.heap.size w w') : RowS w' base v l us :=
  ⟨h.own.kept (grown_of_below hb none) (by cases v.ownBlock <;> simp), h.le, fun i t u ht hu => (h.sub i t u ht hu).under hb⟩
/-- A store below the base. -/
theorem RowS.set {w : World} {base : Nat} {v : Value} {l : List Tree} {us : List Value} (h : RowS w base v l us) {p : Addr} (hp : p.block < base) (u : Value) : RowS (w.setCell p u) base v l us :=
  ⟨ownsRow_setCell_below h.own hp u, h.le, fun i t x ht hx => (h.sub i t x ht hx).set (by omega) u⟩
theorem RowS.more {w : World} {base : Nat} {v : Value} {l : List Tree} {us : List Value} (h : RowS w base v l us) (hl : us.length = l.length) (t : Tree) : RowS w base v (l ++ [t]) us :=
  ⟨h.own, by have := h.le; simp; omega, fun i t' u ht hu => by
    have hi : i < us.length := by
      rcases Nat.lt_or_ge i us.length with h | h
      · exact h
      · rw [List.getElem?_eq_none h] at hu; cases hu
    rw [List.getElem?_append_left (by omega)] at ht
    exact h.sub i t' u ht hu⟩
/-- One more is appended. -/
theorem RowS.step {w w' : World} {base g : Nat} {v v' : Value} {l : List Tree} {us : List Value} {t : Tree} {u : Value} (h : RowS w base v l us) (ht : l[us.length]? = some t)
    (hu : HoldsIn w (fun b => g ≤ b) t u) (hg : base ≤ g) (hv : ∀ k, v.ownBlock = some k → k < g)
    (hown : w'.ownsRow base 28 4 v' (us.length + 1) (flatL us ++ u.cells.toList)) (hgr : w.grownBy w' v.ownBlock) (hat : v'.ownBlock = v.ownBlock ∨ v'.ownBlock = some w.heap.size) : RowS w' base v' l (us ++ [u]) := by
  have hle : us.length < l.length := by
    rcases Nat.lt_or_ge us.length l.length with h | h
    · exact h
    · rw [List.getElem?_eq_none h] at ht; cases ht
  have key : ∀ (i : Nat) (t : Tree) (x : Value), l[i]? = some t → (us ++ [u])[i]? = some x → HoldsIn w (fun b => (base ≤ b ∧ some b ≠ v.ownBlock) ∧ b < w.heap.size) t x := by
    intro i t' x hi hx
    by_cases hlt : i < us.length
    · rw [List.getElem?_append_left hlt] at hx
      exact (h.sub i t' x hi hx).there
    · have : i = us.length := by
        have : i < (us ++ [u]).length := by
          rcases Nat.lt_or_ge i (us ++ [u]).length with h | h
          · exact h
          · rw [List.getElem?_eq_none h] at hx; cases hx
        simp at this; omega
      subst this
      rw [ht] at hi
      simp at hi hx
      subst hi hx
      exact (hu.mono fun b hb => (⟨by omega, fun e => by have := hv b e.symm; omega⟩ : base ≤ b ∧ some b ≠ v.ownBlock)).there
  refine ⟨by rw [flatL_snoc]; simpa using hown, by simp; omega, fun i t' x hi hx => ?_⟩
  refine ((key i t' x hi hx).grown hgr fun b hb => hb.1.2).mono fun b hb => ⟨hb.1.1, ?_⟩
  rcases hat with e | e
  · rw [e]; exact hb.1.2
  · rw [e]
    intro e2
    injection e2 with e2
    have := hb.2
    omega
/-- A whole row is an item's list. -/
theorem RowS.node {w : World} {base : Nat} {A : Option Addr} {m c : Nat} {l : List Tree} {us : List Value} (h : RowS w base (.slice A m c) l us) (hl : us.length = l.length) :
    HoldsIn w (fun b => base ≤ b) (.mk 2 0 ByteArray.empty l) (.agg #[.int .i64 2, .int .u64 ((0 : Nat) : Int), .string ByteArray.empty, .slice A m c]) := by
  obtain ⟨A', c', e, hle, hm⟩ := h.form
  injection e with e1 e2 e3
  subst e1 e2 e3
  have hg : ∀ i, i < us.length → us[i]? = some (us.getD i .nilIface) := fun i hi => by simp [List.getD, List.getElem?_eq_getElem hi]
  have h4 : ∀ u ∈ us, u.cells.size = 4 := fun u hu => by
    obtain ⟨i, hi, rfl⟩ := List.mem_iff_getElem.1 hu
    exact (h.sub i l[i] _ (List.getElem?_eq_getElem (by omega)) (List.getElem?_eq_getElem hi)).four.1
  refine .mk 2 0 _ l A us.length c (fun i => us.getD i .nilIface) (by decide) (by decide) (by decide) hl hle hm (fun i hi => ?_) fun i t ht => ?_
  · rcases h.own.2 with ⟨hv, hn⟩ | ⟨g, cap, cur, hv, hb, _⟩
    · omega
    · injection hv with hv _ _
      subst hv
      refine ⟨g, 0, rfl, hb, fun j u hu => ?_⟩
      have hj : j < 4 := by
        rw [← h4 _ (List.mem_of_getElem? (hg i hi))]
        exact (Array.getElem?_eq_some_iff.1 hu).1
      have := h.own.cells (g := g) rfl (4 * i + j) u (by rw [flatL_get h4 (hg i hi) hj]; exact hu)
      rw [← this]
      congr 1
      unfold Addr.add; split <;> simp_all
  · have hi : i < us.length := by
      rw [hl]
      rcases Nat.lt_or_ge i l.length with h | h
      · exact h
      · rw [List.getElem?_eq_none h] at ht; cases ht
    exact (h.sub i t _ ht (hg i hi)).mono fun b hb => hb.1
/-- One item that the call has laid in a block of its own, as the source of an append. -/
theorem src_item {w : World} {e : TypeId} {u : Value} (h4 : u.cells.size = 4) (h1 : ∀ x ∈ u.cells.toList, x.oneCell' = true) : Src (w.alloc (.cells u.cells e)) 4 (some ⟨w.heap.size, 0, none⟩) 1 u.cells.toList :=
  ⟨by simp [h4], fun j x hj => ⟨_, rfl, by
    have hadd : (⟨w.heap.size, 0, none⟩ : Addr).add j = ⟨w.heap.size, j, none⟩ := by unfold Addr.add; split <;> simp_all
    rw [hadd]
    exact (new_cell w u.cells e j (by simpa using hj)).1⟩, h1⟩
end Go.Proofs.Ytfdfcceleaodaaa

namespace Go.Proofs.Ytfdfcceleaodaaa
open Go.RowKit
set_option linter.unusedVariables false
set_option linter.unusedSimpArgs false
set_option maxRecDepth 20000
attribute [local go_sem ↓] Go.wp_at_zero Go.wp_at_succ
attribute [local go_sem] World.cell?_alloc_some frozen_alloc_some
attribute [local go_sem] lt2 lt3 lt4 lt5
attribute [local simp] lt2 lt3 lt4 lt5

theorem hin_num (w : World) (S : Nat → Prop) {n : Nat} (hn : n < 2 ^ 64) : HoldsIn w S (.mk 0 n ByteArray.empty []) (numV n) :=
  .mk 0 n _ [] none 0 0 (fun _ => .nilIface) (by decide) hn (by decide) rfl (Nat.le_refl _) (Nat.zero_le _) (fun i hi => absurd hi (by omega)) (fun i t hi => by simp at hi)
theorem hin_text (w : World) (S : Nat → Prop) {s : ByteArray} (hs : s.size ≤ maxLen) : HoldsIn w S (.mk 1 0 s []) (textV s) :=
  .mk 1 0 s [] none 0 0 (fun _ => .nilIface) (by decide) (by decide) hs rfl (Nat.le_refl _) (Nat.zero_le _) (fun i hi => absurd hi (by omega)) (fun i t hi => by simp at hi)
theorem hin_nil (w : World) (S : Nat → Prop) : HoldsIn w S (.mk 2 0 ByteArray.empty []) (.agg #[.int .i64 2, .int .u64 0, .string ByteArray.empty, .slice none 0 0]) :=
  .mk 2 0 _ [] none 0 0 (fun _ => .nilIface) (by decide) (by decide) (by decide) rfl (Nat.le_refl _) (Nat.zero_le _) (fun i hi => absurd hi (by omega)) (fun i t hi => by simp at hi)
set_option maxHeartbeats 2000000 in
theorem clone_src (ad : Addr) (m c : Nat) (news : List Value) (w0 w : World) (hb0 : Below w0.heap.size w0 w) (h : Src w0 4 (some ad) m news) (hm : m ≤ 1000000000) :
    Calls Try.prog 43 #[.slice (some ad) m c] w (fun e w' => ∃ A' c', e = .returned (.slice A' m c') ∧ w'.ownsRow w.heap.size 28 4 (.slice A' m c') m news ∧ Below w.heap.size w w') := by
  obtain ⟨i1, hi, hz0, hz1, hz2⟩ := info_item
  have hk : Below w.heap.size w (w.alloc (.cells #[] 28)) := below_one _
  have hnil := fun W : World => Lib.run_eql_slice_some_nil (P := Try.prog) W ad m c Try.underlying26
  have hsrc := (h.keep hb0).keep hk
  have hown : (w.alloc (.cells #[] 28)).ownsRow w.heap.size 28 4 (.slice (some ⟨w.heap.size, 0, none⟩) 0 0) 0 [] := World.ownsRow_made w #[] 0 (Nat.le_refl _) (Nat.zero_le _) (by simp)
  go_enter Try.func43, Try.ntmps43
  go_wp2_with (at_builtin; go_loud (refine wpList_app _ rfl (.tmp 5) (.tmp 6) 26 rfl _ 28 i1 _ 4 56 Try.underlying26 hi hz0 hz1 hz2 rfl (by omega) _ _ _ rfl hown _ _ _ _ rfl hsrc ?h63 ?hby ?hbase ?_); (case h63 => (unfold maxLen; first | omega | (simp; done) | (simp; omega))); (case hby => first | omega | (simp; done) | (simp; omega)); (case hbase => first | omega | (simp; done) | (simp; omega)); intro v2 w2 hownw2 hgroww2 hatw2 holdw2)
  have hb2 := below_app hk hown hgroww2 (Nat.le_refl _) (by simp)
  have hown2 : w2.ownsRow w.heap.size 28 4 v2 m news := by simpa using hownw2
  obtain ⟨A2, c2, rfl, _, _⟩ : ∃ A c, v2 = .slice A m c ∧ m ≤ c ∧ c ≤ maxLen := by
    rcases hown2.2 with ⟨rfl, hl⟩ | ⟨g, cap, cur, rfl, _, _, hle, hm, _⟩
    · exact ⟨none, 0, by rw [hl], by omega, Nat.zero_le _⟩
    · exact ⟨_, cap, rfl, hle, hm⟩
  go_ret
  exact ⟨_, _, rfl, hown2, hb2⟩
theorem codeclist_src (ad : Addr) (m c : Nat) (news : List Value) (w : World) (h : Src w 4 (some ad) m news) (hm : m ≤ 1000000000) :
    Calls Try.prog 25 #[.slice (some ad) m c] w (fun e w' => ∃ A' c', e = .returned (.agg #[.int .i64 2, .int .u64 0, .string ByteArray.empty, .slice A' m c']) ∧ w'.ownsRow (w.heap.size + 1) 28 4 (.slice A' m c') m news ∧ Below w.heap.size w w') := by
  have hcl : ∀ W, Below w.heap.size w W → Calls Try.prog 43 #[.slice (some ad) m c] W (fun e w' => ∃ A' c', e = .returned (.slice A' m c') ∧ w'.ownsRow W.heap.size 28 4 (.slice A' m c') m news ∧ Below W.heap.size W w') := fun W hb => clone_src ad m c news w W hb h hm
  clear h
  go_enter Try.func25, Try.ntmps25
  go_wp2_with fail
  refine (hcl _ (by ((repeat' first | with_reducible exact Below.refl _ _ | with_reducible assumption | with_reducible refine Below.alloc ?_ ?_ _ | with_reducible refine Below.setCell ?_ ?_ _ | with_reducible apply Below.drew | with_reducible apply below_drewN | with_reducible refine below_call ?_ (by with_reducible assumption) ?_) <;> (first | omega | (simp; done) | (simp; omega) | (simp at *; omega))))).mono ?_
  rintro e w1 ⟨A', c', rfl, hit, hb1⟩
  have hz1 := hb1.size
  simp at hz1
  obtain ⟨q0, r0⟩ := new_keep hb1 0 rfl
  obtain ⟨q1, r1⟩ := new_keep hb1 1 rfl
  obtain ⟨q2, r2⟩ := new_keep hb1 2 rfl
  obtain ⟨q3, r3⟩ := new_keep hb1 3 rfl
  simp only [World.size_alloc] at hit
  have Hit := Lib.hid hit
  clear hit
  go_wp2_with fail
  have hbw : Below w.heap.size w w1 := by ((repeat' first | with_reducible exact Below.refl _ _ | with_reducible assumption | with_reducible refine Below.alloc ?_ ?_ _ | with_reducible refine Below.setCell ?_ ?_ _ | with_reducible apply Below.drew | with_reducible apply below_drewN | with_reducible refine below_call ?_ (by with_reducible assumption) ?_) <;> (first | omega | (simp; done) | (simp; omega) | (simp at *; omega)))
  refine bodyPost_ret (v := .agg #[.int .i64 2, .int .u64 0, .string ByteArray.empty, .slice A' m c']) (by simp [results, Try.results25, go_sem, *] <;> rfl) rfl ?_
  have hb4 : Below w.heap.size w ((((w1.setCell ⟨w.heap.size, 0, none⟩ (.int .i64 2)).setCell ⟨w.heap.size, 1, none⟩ (.int .u64 0)).setCell ⟨w.heap.size, 2, none⟩ (.string ByteArray.empty)).setCell ⟨w.heap.size, 3, none⟩ (.slice A' m c')) := by ((repeat' first | with_reducible exact Below.refl _ _ | with_reducible assumption | with_reducible refine Below.alloc ?_ ?_ _ | with_reducible refine Below.setCell ?_ ?_ _ | with_reducible apply Below.drew | with_reducible apply below_drewN | with_reducible refine below_call ?_ (by with_reducible assumption) ?_) <;> (first | omega | (simp; done) | (simp; omega) | (simp at *; omega)))
  exact ⟨_, _, rfl, ownsRow_setCell_below (ownsRow_setCell_below (ownsRow_setCell_below (ownsRow_setCell_below Hit.out (by simp) _) (by simp) _) (by simp) _) (by simp) _, hb4⟩
/-- Items that lie one behind the other in the newest block, as a source. -/
theorem src_items {us : List Value} {cs : Array Value} (w : World) (hcs : cs = (flatL us).toArray) (h4 : ∀ u ∈ us, u.cells.size = 4 ∧ ∀ x ∈ u.cells.toList, x.oneCell' = true) :
    Src (w.alloc (.cells cs 28)) 4 (some ⟨w.heap.size, 0, none⟩) us.length (flatL us) := by
  subst hcs
  refine ⟨by rw [flatL_length fun u hu => (h4 u hu).1]; try omega, fun j x hj => ⟨_, rfl, ?_⟩, fun x hx => ?_⟩
  · have hadd : (⟨w.heap.size, 0, none⟩ : Addr).add j = ⟨w.heap.size, j, none⟩ := by unfold Addr.add; split <;> simp_all
    rw [hadd]
    exact (new_cell w (flatL us).toArray 28 j (by simpa using hj)).1
  · simp only [flatL, List.mem_flatMap] at hx
    obtain ⟨u, hu, hx⟩ := hx
    exact (h4 u hu).2 x hx
theorem own_below {w w' : World} {base : Nat} {e : TypeId} {size : Nat} {v : Value} {n : Nat} {xs : List Value} (h : w.ownsRow base e size v n xs) (hb : Below w.heap.size w w') : w'.ownsRow base e size v n xs :=
  h.kept (grown_of_below hb none) (by cases v.ownBlock <;> simp)
/-- The list of the items that lie one behind the other in the newest block. -/
theorem list_inS {S : Nat → Prop} {l : List Tree} {us : List Value} {m : Nat} {cs : Array Value} (w W : World) (hW : Below (w.alloc (.cells cs 28)).heap.size (w.alloc (.cells cs 28)) W) (hcs : cs = (flatL us).toArray) (hm : m = us.length) (hl : us.length = l.length) (hmm : m ≤ 1000000000)
    (sub : ∀ (i : Nat) (t : Tree) (u : Value), l[i]? = some t → us[i]? = some u → HoldsIn w S t u) :
    Calls Try.prog 25 #[.slice (some ⟨w.heap.size, 0, none⟩) m m] W
      (fun e w' => ∃ A' c', e = .returned (.agg #[.int .i64 2, .int .u64 0, .string ByteArray.empty, .slice A' m c']) ∧ HoldsIn w' (fun b => S b ∨ W.heap.size + 1 ≤ b) (.mk 2 0 ByteArray.empty l) (.agg #[.int .i64 2, .int .u64 0, .string ByteArray.empty, .slice A' m c']) ∧ Below W.heap.size W w') := by
  subst hcs hm
  have hg : ∀ i, i < us.length → us[i]? = some (us.getD i .nilIface) := fun i hi => by simp [List.getD, List.getElem?_eq_getElem hi]
  have h4 : ∀ u ∈ us, u.cells.size = 4 ∧ ∀ x ∈ u.cells.toList, x.oneCell' = true := fun u hu => by
    obtain ⟨i, hi, rfl⟩ := List.mem_iff_getElem.1 hu
    exact (sub i l[i] _ (List.getElem?_eq_getElem (by omega)) (List.getElem?_eq_getElem hi)).four
  have hsrc : Src (w.alloc (.cells (flatL us).toArray 28)) 4 (some ⟨w.heap.size, 0, none⟩) us.length (flatL us) := by
    refine ⟨by rw [flatL_length fun u hu => (h4 u hu).1]; try omega, fun j x hj => ⟨_, rfl, ?_⟩, fun x hx => ?_⟩
    · have hadd : (⟨w.heap.size, 0, none⟩ : Addr).add j = ⟨w.heap.size, j, none⟩ := by unfold Addr.add; split <;> simp_all
      rw [hadd]
      exact (new_cell w (flatL us).toArray 28 j (by simpa using hj)).1
    · simp only [flatL, List.mem_flatMap] at hx
      obtain ⟨u, hu, hx⟩ := hx
      exact (h4 u hu).2 x hx
  refine (codeclist_src _ us.length us.length (flatL us) W (hsrc.keep hW) hmm).mono ?_
  rintro e w' ⟨A', c', rfl, hown, hb⟩
  have hb0 : Below w.heap.size w w' := by
    exact below_call (below_call (below_one _) hW (by simp)) hb (by have := hW.size; simp at this; omega)
  refine ⟨A', c', rfl, ?_, hb⟩
  have ho : ∃ c, c = c' ∧ us.length ≤ c ∧ c ≤ maxLen ∧ (us.length ≠ 0 → ∃ g, A' = some ⟨g, 0, none⟩ ∧ W.heap.size + 1 ≤ g ∧ ∀ j u, (flatL us)[j]? = some u → w'.cell? ⟨g, j, none⟩ = some u) := by
    rcases hown.2 with ⟨hv, hn⟩ | ⟨g, cap, cur, hv, hb', _, hle, hmx, _⟩
    · injection hv with hv1 hv2 hv3
      exact ⟨c', rfl, by omega, by unfold maxLen; omega, fun h => absurd hn h⟩
    · injection hv with hv1 hv2 hv3
      subst hv1 hv3
      refine ⟨_, rfl, hle, hmx, fun _ => ⟨g, rfl, by omega, fun j u hj => ?_⟩⟩
      have := hown.cells (g := g) rfl j u hj
      rw [← this]
      congr 1
      unfold Addr.add; split <;> simp_all
  obtain ⟨_, rfl, hlc, hcm, hcell⟩ := ho
  refine .mk 2 0 _ l A' us.length _ (fun i => us.getD i .nilIface) (by decide) (by decide) (by decide) hl hlc hcm (fun i hi => ?_) fun i t ht => ?_
  · obtain ⟨g, rfl, hg2, hc⟩ := hcell (by omega)
    refine ⟨g, 0, rfl, .inr hg2, fun j u hu => ?_⟩
    have hj : j < 4 := by
      rw [← (h4 _ (List.mem_of_getElem? (hg i hi))).1]
      exact (Array.getElem?_eq_some_iff.1 hu).1
    have := hc (4 * i + j) u (by rw [flatL_get (fun u hu => (h4 u hu).1) (hg i hi) hj]; exact hu)
    rw [Nat.zero_add]; exact this
  · have hi : i < us.length := by
      rw [hl]
      rcases Nat.lt_or_ge i l.length with h | h
      · exact h
      · rw [List.getElem?_eq_none h] at ht; cases ht
    exact ((sub i t _ ht (hg i hi)).under hb0).mono fun b hb => .inl hb
/-- The list of the items that lie one behind the other in the newest block. -/
theorem list_in {base : Nat} {l : List Tree} {us : List Value} {m : Nat} {cs : Array Value} (w : World) (hcs : cs = (flatL us).toArray) (hm : m = us.length) (hl : us.length = l.length) (hbase : base ≤ w.heap.size) (hmm : m ≤ 1000000000)
    (sub : ∀ (i : Nat) (t : Tree) (u : Value), l[i]? = some t → us[i]? = some u → HoldsIn w (fun b => base ≤ b) t u) :
    Calls Try.prog 25 #[.slice (some ⟨w.heap.size, 0, none⟩) m m] (w.alloc (.cells cs 28))
      (fun e w' => ∃ A' c', e = .returned (.agg #[.int .i64 2, .int .u64 0, .string ByteArray.empty, .slice A' m c']) ∧ HoldsIn w' (fun b => base ≤ b) (.mk 2 0 ByteArray.empty l) (.agg #[.int .i64 2, .int .u64 0, .string ByteArray.empty, .slice A' m c']) ∧ Below (w.alloc (.cells cs 28)).heap.size (w.alloc (.cells cs 28)) w') := by
  subst hcs hm
  have hg : ∀ i, i < us.length → us[i]? = some (us.getD i .nilIface) := fun i hi => by simp [List.getD, List.getElem?_eq_getElem hi]
  have h4 : ∀ u ∈ us, u.cells.size = 4 ∧ ∀ x ∈ u.cells.toList, x.oneCell' = true := fun u hu => by
    obtain ⟨i, hi, rfl⟩ := List.mem_iff_getElem.1 hu
    exact (sub i l[i] _ (List.getElem?_eq_getElem (by omega)) (List.getElem?_eq_getElem hi)).four
  have hsrc : Src (w.alloc (.cells (flatL us).toArray 28)) 4 (some ⟨w.heap.size, 0, none⟩) us.length (flatL us) := by
    refine ⟨by rw [flatL_length fun u hu => (h4 u hu).1]; try omega, fun j x hj => ⟨_, rfl, ?_⟩, fun x hx => ?_⟩
    · have hadd : (⟨w.heap.size, 0, none⟩ : Addr).add j = ⟨w.heap.size, j, none⟩ := by unfold Addr.add; split <;> simp_all
      rw [hadd]
      exact (new_cell w (flatL us).toArray 28 j (by simpa using hj)).1
    · simp only [flatL, List.mem_flatMap] at hx
      obtain ⟨u, hu, hx⟩ := hx
      exact (h4 u hu).2 x hx
  refine (codeclist_src _ us.length us.length (flatL us) _ hsrc hmm).mono ?_
  rintro e w' ⟨A', c', rfl, hown, hb⟩
  have hb0 : Below w.heap.size w w' := by
    exact below_call (below_one _) hb (by simp)
  refine ⟨A', c', rfl, ?_, hb⟩
  have hrow : RowS w' base (.slice A' us.length c') l us := by
    refine ⟨⟨hown.1, hown.2.imp id fun ⟨g, cap, cur, hv, hg, hr⟩ => ⟨g, cap, cur, hv, by simp at hg; omega, hr⟩⟩, by omega, fun i t u ht hu => ?_⟩
    refine ((sub i t u ht hu).there.under hb0).mono fun b hb => ⟨hb.1, fun e => ?_⟩
    have := (hown.lt b e.symm).1
    simp at this
    omega
  exact hrow.node hl
end Go.Proofs.Ytfdfcceleaodaaa

namespace Go.Proofs.Ytfdfcceleaodaaa
open Go.RowKit
set_option linter.unusedVariables false
set_option linter.unusedSimpArgs false
set_option maxRecDepth 20000
attribute [local go_sem ↓] Go.wp_at_zero Go.wp_at_succ
attribute [local go_sem] World.cell?_alloc_some frozen_alloc_some
attribute [local go_sem] lt2 lt3 lt4 lt5
attribute [local simp] lt2 lt3 lt4 lt5

/-- A number as the program turns it to an item's. -/
def u64n (a : Int) : Nat := (IntKind.u64.wrap a).toNat
theorem u64n_cast (a : Int) : IntKind.u64.wrap a = ((u64n a : Nat) : Int) := by
  have e : IntKind.u64.wrap a = a % 18446744073709551616 := by simp [IntKind.wrap, IntKind.bits, IntKind.signed]
  unfold u64n; rw [e]; omega
theorem u64n_lt (a : Int) : u64n a < 2 ^ 64 := by
  have e : IntKind.u64.wrap a = a % 18446744073709551616 := by simp [IntKind.wrap, IntKind.bits, IntKind.signed]
  unfold u64n; rw [e]; omega
theorem u64n_of {a : Int} (h : 0 ≤ a) (h' : a < 2 ^ 63) : u64n a = a.toNat := by
  have e : IntKind.u64.wrap a = a % 18446744073709551616 := by simp [IntKind.wrap, IntKind.bits, IntKind.signed]
  unfold u64n; rw [e]; omega
def ntree (a : Int) : Tree := .mk 0 (u64n a) ByteArray.empty []
def ltree (l : List Tree) : Tree := .mk 2 0 ByteArray.empty l
abbrev listV (A : Option Addr) (m c : Nat) : Value := .agg #[.int .i64 2, .int .u64 0, .string ByteArray.empty, .slice A m c]
theorem Blk.drew {w : World} {g : Nat} {t : TypeId} {cs : Array Value} (h : Blk w g t cs) : Blk w.drew g t cs := h.keep (Below.refl _ _).drew
theorem hin_set4 {w : World} {S : Nat → Prop} {t : Tree} {v : Value} (h : HoldsIn w S t v) {g : Nat} (hp : ¬ S g) (a b c d : Value) : HoldsIn ((((w.setCell ⟨g, 0, none⟩ a).setCell ⟨g, 1, none⟩ b).setCell ⟨g, 2, none⟩ c).setCell ⟨g, 3, none⟩ d) S t v :=
  (((h.set (p := ⟨g, 0, none⟩) hp a).set (p := ⟨g, 1, none⟩) hp b).set (p := ⟨g, 2, none⟩) hp c).set (p := ⟨g, 3, none⟩) hp d
theorem Blk.set4 {w : World} {g : Nat} {t : TypeId} {u0 u1 u2 u3 : Value} (h : Blk w g t #[u0, u1, u2, u3]) (a b c d : Value) : Blk ((((w.setCell ⟨g, 0, none⟩ a).setCell ⟨g, 1, none⟩ b).setCell ⟨g, 2, none⟩ c).setCell ⟨g, 3, none⟩ d) g t #[a, b, c, d] := by
  have := (((h.set_ 0 a).set_ 1 b).set_ 2 c).set_ 3 d
  simpa using this
theorem Blk.far4 {w : World} {k g : Nat} {t : TypeId} {cs : Array Value} (h : Blk w k t cs) (hk : k ≠ g) (a b c d : Value) : Blk ((((w.setCell ⟨g, 0, none⟩ a).setCell ⟨g, 1, none⟩ b).setCell ⟨g, 2, none⟩ c).setCell ⟨g, 3, none⟩ d) k t cs :=
  (((h.far (p := ⟨g, 0, none⟩) hk a).far (p := ⟨g, 1, none⟩) hk b).far (p := ⟨g, 2, none⟩) hk c).far (p := ⟨g, 3, none⟩) hk d
theorem own_far {w : World} {base : Nat} {e : TypeId} {size : Nat} {v : Value} {n : Nat} {xs : List Value} (h : w.ownsRow base e size v n xs) {p : Addr} (hp : v.ownBlock ≠ some p.block) (u : Value) : (w.setCell p u).ownsRow base e size v n xs :=
  have hb := (Below.refl p.block w).setCell (p := p) (Nat.le_refl _) u
  h.kept (row := some p.block) ⟨hb.os, hb.tape, hb.output, hb.size, fun k _ hne => Below.heap_setCell w p u k fun e => hne (by rw [e])⟩ (.inr hp)
theorem own_far4 {w : World} {base : Nat} {e : TypeId} {size : Nat} {v : Value} {n g : Nat} {xs : List Value} (h : w.ownsRow base e size v n xs) (hp : v.ownBlock ≠ some g) (a b c d : Value) :
    ((((w.setCell ⟨g, 0, none⟩ a).setCell ⟨g, 1, none⟩ b).setCell ⟨g, 2, none⟩ c).setCell ⟨g, 3, none⟩ d).ownsRow base e size v n xs :=
  own_far (own_far (own_far (own_far h (p := ⟨g, 0, none⟩) hp a) (p := ⟨g, 1, none⟩) hp b) (p := ⟨g, 2, none⟩) hp c) (p := ⟨g, 3, none⟩) hp d
theorem own_lower {w : World} {base base' : Nat} {e : TypeId} {size : Nat} {v : Value} {n : Nat} {xs : List Value} (h : w.ownsRow base e size v n xs) (hb : base' ≤ base) : w.ownsRow base' e size v n xs :=
  ⟨h.1, h.2.imp id fun ⟨g, cap, cur, hv, hg, hr⟩ => ⟨g, cap, cur, hv, by omega, hr⟩⟩
end Go.Proofs.Ytfdfcceleaodaaa
