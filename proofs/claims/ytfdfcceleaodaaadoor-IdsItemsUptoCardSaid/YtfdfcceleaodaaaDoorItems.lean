/- Items in a list: what a slice of them holds; a row of four cells each. -/
import Derived.Test.YtfdfcceleaodaaaDoorCodecI
namespace Go.Proofs.YtfdfcceleaodaaaDoor
open Go.RowKit
set_option linter.unusedVariables false
set_option linter.unusedSimpArgs false
set_option maxRecDepth 20000
attribute [local go_sem ↓] Go.wp_at_zero Go.wp_at_succ
attribute [local go_sem] World.cell?_alloc_some frozen_alloc_some

/-- The slice holds the trees. -/
def Items (w : World) (A : Option Addr) (m c : Nat) (l : List Tree) : Prop :=
  m = l.length ∧ m ≤ c ∧ c ≤ maxLen ∧ ∃ vs : Nat → Value, (∀ i, i < m → ∃ ad, A = some ad ∧ ∀ j u, (vs i).cells[j]? = some u → w.cell? (ad.add (4 * i + j)) = some u) ∧ ∀ (i : Nat) (t : Tree), l[i]? = some t → Holds w t (vs i)
theorem Items.node {w : World} {A : Option Addr} {m c : Nat} {l : List Tree} (h : Items w A m c l) {k : Int} {n : Nat} {s : ByteArray} (hk : (Lit.int .i64 k).wf = true) (hn : n < 2 ^ 64) (hs : s.size ≤ maxLen) :
    Holds w (.mk k n s l) (.agg #[.int .i64 k, .int .u64 (n : Int), .string s, .slice A m c]) := by
  obtain ⟨h1, h2, h3, vs, h4, h5⟩ := h
  exact .mk k n s l A m c vs hk hn hs h1 h2 h3 h4 h5
theorem Holds.items {w : World} {k : Int} {n : Nat} {s : ByteArray} {l : List Tree} {A : Option Addr} {m c : Nat} {kk nn : Int} {ss : ByteArray} (h : Holds w (.mk k n s l) (.agg #[.int .i64 kk, .int .u64 nn, .string ss, .slice A m c])) : Items w A m c l := by
  cases h with
  | mk k n s l A m c vs hk hn hs hm hmc hc hcell hsub => exact ⟨hm, hmc, hc, vs, hcell, hsub⟩
theorem Items.nil (w : World) : Items w none 0 0 [] := ⟨rfl, Nat.le_refl _, Nat.zero_le _, fun _ => .nilIface, fun i hi => absurd hi (by omega), fun i t hi => by simp at hi⟩
theorem Items.keep {w w' : World} (hb : Below w.heap.size w w') {A : Option Addr} {m c : Nat} {l : List Tree} (h : Items w A m c l) : Items w' A m c l := by
  obtain ⟨h1, h2, h3, vs, h4, h5⟩ := h
  exact ⟨h1, h2, h3, vs, fun i hi => by
    obtain ⟨ad, e, hc⟩ := h4 i hi
    exact ⟨ad, e, fun j u hu => cell_keep hb (hc j u hu)⟩, fun i t hi => (h5 i t hi).keep hb⟩

/-- The cells of the first so many. -/
def flat4 (vs : Nat → Value) : Nat → List Value
  | 0 => []
  | m + 1 => flat4 vs m ++ (vs m).cells.toList
theorem Holds.four {w : World} {t : Tree} {v : Value} (h : Holds w t v) : v.cells.size = 4 ∧ ∀ u ∈ v.cells.toList, u.oneCell' = true := by
  cases h with
  | mk k n s l A m c vs hk hn hs hm hmc hc hcell hsub =>
    refine ⟨rfl, fun u hu => ?_⟩
    simp [Value.cells] at hu
    rcases hu with rfl | rfl | rfl | rfl <;> rfl
theorem flat4_length {vs : Nat → Value} {m : Nat} (h : ∀ i, i < m → (vs i).cells.size = 4) : (flat4 vs m).length = m * 4 := by
  induction m with
  | zero => rfl
  | succ m ih =>
    have h1 := ih fun i hi => h i (by omega)
    have h2 := h m (by omega)
    simp only [flat4, List.length_append, h1, Array.length_toList, h2]
    omega
theorem flat4_get {vs : Nat → Value} {m : Nat} (h : ∀ i, i < m → (vs i).cells.size = 4) {i j : Nat} (hi : i < m) (hj : j < 4) : (flat4 vs m)[4 * i + j]? = (vs i).cells[j]? := by
  induction m with
  | zero => omega
  | succ m ih =>
    have h0 := flat4_length (fun i hi => h i (by omega : i < m + 1)) (m := m)
    by_cases him : i < m
    · simp only [flat4]
      rw [List.getElem?_append_left (by omega)]
      exact ih (fun i hi => h i (by omega)) him
    · have : i = m := by omega
      subst this
      simp only [flat4]
      rw [List.getElem?_append_right (by omega), h0, show 4 * i + j - i * 4 = j by omega, Array.getElem?_toList]
theorem flat4_one {vs : Nat → Value} {m : Nat} (h : ∀ i, i < m → ∀ u ∈ (vs i).cells.toList, u.oneCell' = true) : ∀ u ∈ flat4 vs m, u.oneCell' = true := by
  induction m with
  | zero => intro u hu; cases hu
  | succ m ih =>
    intro u hu
    rcases List.mem_append.1 hu with hu | hu
    · exact ih (fun i hi => h i (by omega)) u hu
    · exact h m (by omega) u hu

/-- A row of its own of items: of the first trees of a list. -/
def RowI (w : World) (base : Nat) (v : Value) (m : Nat) (l : List Tree) : Prop :=
  m = l.length ∧ ∃ vs : Nat → Value, w.ownsRow base 26 4 v m (flat4 vs m) ∧ ∀ (i : Nat) (t : Tree), l[i]? = some t → Holds w t (vs i)
theorem RowI.form {w : World} {base : Nat} {v : Value} {m : Nat} {l : List Tree} (h : RowI w base v m l) : ∃ A c, v = .slice A m c ∧ m ≤ c ∧ c ≤ maxLen := by
  obtain ⟨_, vs, hown, _⟩ := h
  rcases hown.2 with ⟨rfl, hl⟩ | ⟨g, cap, cur, rfl, _, _, hle, hm, _⟩
  · exact ⟨none, 0, by rw [hl], by omega, Nat.zero_le _⟩
  · exact ⟨_, cap, rfl, hle, hm⟩
theorem RowI.items {w : World} {base : Nat} {A : Option Addr} {m k c : Nat} {l : List Tree} (h : RowI w base (.slice A k c) m l) : k = m ∧ Items w A m c l := by
  obtain ⟨A', c', e, hmc, hc⟩ := h.form
  injection e with e1 e2 e3
  subst e1 e2 e3
  obtain ⟨hm, vs, hown, hsub⟩ := h
  have h4 : ∀ i, i < k → (vs i).cells.size = 4 := fun i hi => (hsub i l[i] (List.getElem?_eq_getElem (by omega))).four.1
  refine ⟨rfl, hm, hmc, hc, vs, fun i hi => ?_, hsub⟩
  rcases hown.2 with ⟨_, hl⟩ | ⟨g, cap, cur, hv, _⟩
  · omega
  · injection hv with hv _ _
    subst hv
    refine ⟨_, rfl, fun j u hu => ?_⟩
    have hj : j < 4 := by
      rw [← h4 i hi]
      exact (Array.getElem?_eq_some_iff.1 hu).1
    refine hown.cells (g := g) rfl (4 * i + j) u ?_
    rw [flat4_get h4 hi hj]; exact hu
/-- What a slice of items holds, as the source of an append. -/
theorem Items.src {w : World} {A : Option Addr} {m c : Nat} {l : List Tree} (h : Items w A m c l) : ∃ vs : Nat → Value, Src w 4 A m (flat4 vs m) ∧ ∀ (i : Nat) (t : Tree), l[i]? = some t → Holds w t (vs i) := by
  obtain ⟨hm, _, _, vs, hc, hsub⟩ := h
  have h4 : ∀ i, i < m → (vs i).cells.size = 4 ∧ ∀ u ∈ (vs i).cells.toList, u.oneCell' = true := fun i hi => (hsub i l[i] (List.getElem?_eq_getElem (by omega))).four
  refine ⟨vs, ⟨flat4_length fun i hi => (h4 i hi).1, fun q u hq => ?_, flat4_one fun i hi => (h4 i hi).2⟩, hsub⟩
  have hlen := flat4_length fun i hi => (h4 i hi).1
  have hql : q < m * 4 := by
    rw [← hlen]
    rcases Nat.lt_or_ge q (flat4 vs m).length with h | h
    · exact h
    · rw [List.getElem?_eq_none h] at hq; cases hq
  have hq2 : q = 4 * (q / 4) + q % 4 := by omega
  have hi : q / 4 < m := by omega
  obtain ⟨ad, e, hcell⟩ := hc (q / 4) hi
  refine ⟨ad, e, ?_⟩
  rw [hq2] at hq ⊢
  rw [flat4_get (fun i hi => (h4 i hi).1) hi (by omega)] at hq
  exact hcell _ _ hq
theorem Src.keep {w w' : World} {size : Nat} {A : Option Addr} {m : Nat} {news : List Value} (h : Src w size A m news) (hb : Below w.heap.size w w') : Src w' size A m news :=
  ⟨h.1, fun j u hj => by
    obtain ⟨ad, e, hc⟩ := h.2.1 j u hj
    exact ⟨ad, e, cell_keep hb hc⟩, h.2.2⟩
theorem info_item : ∃ i, Tryd.prog.info? 26 = some i ∧ i.zero = some (.agg #[.int .i64 0, .int .u64 0, .string ByteArray.empty, .slice none 0 0]) ∧ i.size = 4 ∧ i.bytes = 56 := by
  have h : (Tryd.prog.info? 26).map (fun i => (i.zero, i.size, i.bytes)) = some (some (.agg #[.int .i64 0, .int .u64 0, .string ByteArray.empty, .slice none 0 0]), 4, 56) := by kernel_rfl
  cases hi : Tryd.prog.info? 26 with
  | none => rw [hi] at h; cases h
  | some i =>
    rw [hi] at h
    simp at h
    exact ⟨i, rfl, h.1, h.2.1, h.2.2⟩
end Go.Proofs.YtfdfcceleaodaaaDoor
