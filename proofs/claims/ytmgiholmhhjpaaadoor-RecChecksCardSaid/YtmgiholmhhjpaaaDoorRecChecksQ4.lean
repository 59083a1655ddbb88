/- Trees: two that are right have one form just if they are the same; the document's measure. Plain: no program in sight. A stub: in this seat's cut there is no codec.Put; what stands on it here needs these texts alone. Items in a list: what a slice of them holds; a row of four cells each. Items whose lists lie in blocks of a set; a row of such items that a call itself makes. The walks of codec.Num, Text, List. A stub: in this seat's cut there is no stonecropref03.Put; what stands on it here needs these texts alone. The walks of package stonecropref03 on items: Same. A row of items in one block (in this seat's cut there is no stonecroplaw03). codec.List of items whose blocks lie from a place on: what it gives lies there too. Items of numbers: how the program turns them. The walk of ballot.Item. -/
import Derived.Test.YtmgiholmhhjpaaaDoorRecChecksQ0
import Derived.Lib.BufferMore
import Derived.WalkKit
import Derived.WalkSpells
import Derived.WalkLawsBesides
import Derived.Deep.RegionHeld3
import Derived.Deep.DrawnRows
import Derived.Deep.DeepCutAuto
import Derived.Deep.DeepFit
import Derived.Lib.Hide
import Derived.BigQuiet
import Derived.Deep.QuietTactic
namespace Go.Proofs.YtmgiholmhhjpaaaDoor
set_option linter.unusedVariables false

/-- Numbers below 2^64, texts and lists that are not too long. -/
inductive Fit : Tree → Prop where
  | mk (k : Int) (n : Nat) (s : ByteArray) (l : List Tree) (hn : n < 2 ^ 64) (hs : s.size < 2 ^ 64) (hl : l.length < 2 ^ 64) (h : ∀ t ∈ l, Fit t) : Fit (.mk k n s l)
theorem Fit.out {k : Int} {n : Nat} {s : ByteArray} {l : List Tree} (h : Fit (.mk k n s l)) : n < 2 ^ 64 ∧ s.size < 2 ^ 64 ∧ l.length < 2 ^ 64 ∧ ∀ t ∈ l, Fit t := by
  cases h with
  | mk _ _ _ _ a b c d => exact ⟨a, b, c, d⟩

theorem empty_of_size {s : ByteArray} (h : s.size = 0) : s = ByteArray.empty := by
  obtain ⟨⟨l⟩⟩ := s
  have : l = [] := List.eq_nil_of_length_eq_zero h
  subst this
  rfl
theorem bad_parts {k : Int} {n : Nat} {s : ByteArray} {l : List Tree} (h : bad k n s l = false) :
    (k = 0 ∧ s = ByteArray.empty ∧ l = []) ∨ (k = 1 ∧ n = 0 ∧ l = []) ∨ (k = 2 ∧ n = 0 ∧ s = ByteArray.empty) := by
  simp only [bad, decide_eq_false_iff_not] at h
  have hk : k = 0 ∨ k = 1 ∨ k = 2 := Classical.byContradiction fun hh => h (.inl hh)
  have hn : k ≠ 0 → n = 0 := fun h1 => Classical.byContradiction fun hh => h (.inr (.inl ⟨h1, hh⟩))
  have hs : k ≠ 1 → s = ByteArray.empty := fun h1 => empty_of_size (Classical.byContradiction fun hh => h (.inr (.inr (.inl ⟨h1, hh⟩))))
  have hl : k ≠ 2 → l = [] := fun h1 => List.eq_nil_of_length_eq_zero (Classical.byContradiction fun hh => h (.inr (.inr (.inr ⟨h1, by omega⟩))))
  rcases hk with rfl | rfl | rfl
  · exact .inl ⟨rfl, hs (by decide), hl (by decide)⟩
  · exact .inr (.inl ⟨rfl, hn (by decide), hl (by decide)⟩)
  · exact .inr (.inr ⟨rfl, hn (by decide), hs (by decide)⟩)
theorem txt_inj {s t : ByteArray} (h : txt s = txt t) : s = t := by
  obtain ⟨⟨a⟩⟩ := s
  obtain ⟨⟨b⟩⟩ := t
  have hab : a = b := by
    have h' : a.map UInt8.toNat = b.map UInt8.toNat := h
    exact List.map_inj_right (fun x y hxy => UInt8.toNat_inj.1 hxy) |>.1 h'
  rw [hab]
/-- The number at the front is told by what follows. -/
theorem form_split {a b : Nat} {r s : List Nat} (h : form a ++ r = form b ++ s) : a = b ∧ r = s := by
  have h1 := ntake_form a r
  have h2 := ntake_form b s
  rw [h, h2] at h1
  injection h1 with h1 _
  subst h1
  exact ⟨rfl, List.append_cancel_left h⟩
theorem tform_split (t : Tree) : ∀ (u : Tree) (d d' : Nat) (r s : List Nat), check t d = 0 → check u d' = 0 → tform t ++ r = tform u ++ s → t = u ∧ r = s := by
  refine Tree.ind (P := fun t => ∀ (u : Tree) (d d' : Nat) (r s : List Nat), check t d = 0 → check u d' = 0 → tform t ++ r = tform u ++ s → t = u ∧ r = s) ?_ t
  intro k n s l ih u d d' r r' ht hu he
  obtain ⟨k2, n2, s2, l2⟩ := u
  obtain ⟨hb, _, hc⟩ := check_node ht
  obtain ⟨hb2, _, hc2⟩ := check_node hu
  rcases bad_parts hb with ⟨rfl, rfl, rfl⟩ | ⟨rfl, rfl, rfl⟩ | ⟨rfl, rfl, rfl⟩ <;> rcases bad_parts hb2 with ⟨rfl, rfl, rfl⟩ | ⟨rfl, rfl, rfl⟩ | ⟨rfl, rfl, rfl⟩ <;> simp [tform] at he
  · obtain ⟨rfl, rfl⟩ := form_split he
    exact ⟨rfl, rfl⟩
  · obtain ⟨h1, h2⟩ := form_split he
    have h3 : (txt s).length = (txt s2).length := by rw [txt_length, txt_length]; exact h1
    obtain ⟨h4, h5⟩ := List.append_inj h2 h3
    rw [txt_inj h4]
    exact ⟨rfl, h5⟩
  · obtain ⟨h1, h2⟩ := form_split he
    have key : ∀ (a b : List Tree) (x y : List Nat), a.length = b.length → (∀ t ∈ a, t ∈ l) → checks a (d + 1) = 0 → checks b (d' + 1) = 0 → tforms a ++ x = tforms b ++ y → a = b ∧ x = y := by
      intro a
      induction a with
      | nil =>
        intro b x y hl _ _ _ h
        have : b = [] := List.eq_nil_of_length_eq_zero (by simpa using hl.symm)
        subst this
        exact ⟨rfl, by simpa [tforms] using h⟩
      | cons t a iha =>
        intro b x y hl hm ha hb h
        cases b with
        | nil => simp at hl
        | cons u b =>
          simp only [tforms, List.append_assoc] at h
          rw [checks_zero] at ha hb
          obtain ⟨rfl, h6⟩ := ih t (hm t (by simp)) u _ _ _ _ (ha t (by simp)) (hb u (by simp)) h
          obtain ⟨rfl, h7⟩ := iha b x y (by simpa using hl) (fun v hv => hm v (by simp [hv])) (checks_zero.2 fun v hv => ha v (by simp [hv])) (checks_zero.2 fun v hv => hb v (by simp [hv])) h6
          exact ⟨rfl, h7⟩
    obtain ⟨rfl, h5⟩ := key l l2 r r' h1 (fun t h => h) hc hc2 h2
    exact ⟨rfl, h5⟩
theorem tform_inj {t u : Tree} (ht : check t 0 = 0) (hu : check u 0 = 0) (h : tform t = tform u) : t = u :=
  (tform_split t u 0 0 [] [] ht hu (by rw [h])).1
theorem tform_bytes (t : Tree) : Fit t → ∀ c ∈ tform t, c < 256 := by
  refine Tree.ind (P := fun t => Fit t → ∀ c ∈ tform t, c < 256) ?_ t
  intro k n s l ih hf
  obtain ⟨hn, hs, hl, hsub⟩ := hf.out
  have key : ∀ a : List Tree, (∀ t ∈ a, t ∈ l) → ∀ c ∈ tforms a, c < 256 := by
    intro a
    induction a with
    | nil => intro _ c hc; simp [tforms] at hc
    | cons t a iha =>
      intro hm c hc
      simp only [tforms] at hc
      rcases List.mem_append.1 hc with hc | hc
      · exact ih t (hm t (by simp)) (hsub t (hm t (by simp))) c hc
      · exact iha (fun v hv => hm v (by simp [hv])) c hc
  intro c hc
  simp only [tform] at hc
  split at hc
  · rcases List.mem_cons.1 hc with rfl | hc
    · omega
    · exact form_bytes hn c hc
  · split at hc
    · rcases List.mem_cons.1 hc with rfl | hc
      · omega
      · rcases List.mem_append.1 hc with hc | hc
        · exact form_bytes hs c hc
        · exact txt_lt s c hc
    · rcases List.mem_cons.1 hc with rfl | hc
      · omega
      · rcases List.mem_append.1 hc with hc | hc
        · exact form_bytes hl c hc
        · exact key l (fun t h => h) c hc
/-- A form is at most ten times as long as the tree is great. -/
theorem tform_len (t : Tree) : Fit t → (tform t).length ≤ 10 * tsize t := by
  refine Tree.ind (P := fun t => Fit t → (tform t).length ≤ 10 * tsize t) ?_ t
  intro k n s l ih hf
  obtain ⟨hn, hs, hl, hsub⟩ := hf.out
  have key : ∀ a : List Tree, (∀ t ∈ a, t ∈ l) → (tforms a).length ≤ 10 * tsizes a := by
    intro a
    induction a with
    | nil => intro _; simp [tforms]
    | cons t a iha =>
      intro hm
      simp only [tforms, tsizes, List.length_append]
      have h1 := ih t (hm t (by simp)) (hsub t (hm t (by simp)))
      have h2 := iha (fun v hv => hm v (by simp [hv]))
      omega
  have h1 := key l (fun t h => h)
  have h2 := form_len hn
  have h3 := form_len hs
  have h4 := form_len hl
  simp only [tform, tsize]
  split
  · simp only [List.length_cons]; omega
  · split
    · simp only [List.length_cons, List.length_append, txt_length]; omega
    · simp only [List.length_cons, List.length_append]; omega

/-- The document's measure: what it tells up to its bound is how great the tree is. -/
theorem csize_spec (most : Nat) : ∀ (d : Nat) (t : Tree), csize most d t ≤ most → tsize t = csize most d t := by
  intro d
  induction d with
  | zero => intro t h; simp [csize] at h; omega
  | succ d ih =>
    intro t h
    obtain ⟨k, n, s, l⟩ := t
    simp only [csize] at h ⊢
    have key : ∀ (a : List Tree) (acc : Nat), csizes most d acc a ≤ most → acc + tsizes a = csizes most d acc a := by
      intro a
      induction a with
      | nil => intro acc _; simp [tsizes, csizes]
      | cons t a iha =>
        intro acc h
        simp only [csizes] at h ⊢
        split at h
        · rename_i hle
          rw [if_pos hle]
          have hge : ∀ (b : List Tree) (acc : Nat), acc ≤ csizes most d acc b := by
            intro b
            induction b with
            | nil => intro acc; simp [csizes]
            | cons u b ihb =>
              intro acc
              simp only [csizes]
              split
              · have := ihb (acc + csize most d u); omega
              · omega
          have h1 := hge a (acc + csize most d t)
          have h2 := ih t (by omega)
          have h3 := iha _ h
          simp only [tsizes]
          omega
        · rename_i hle
          exact absurd h hle
    have := key l (1 + s.size) h
    simp only [tsize]
    omega
theorem csizes_append (most d : Nat) (a b : List Tree) : ∀ acc, csizes most d acc (a ++ b) = csizes most d (csizes most d acc a) b := by
  induction a with
  | nil => intro acc; simp [csizes]
  | cons t a ih =>
    intro acc
    simp only [List.cons_append, csizes]
    split
    · exact ih _
    · rename_i h
      cases b with
      | nil => simp [csizes]
      | cons u b => simp [csizes, h]
theorem csizes_stop {most d acc : Nat} (h : most < acc) (b : List Tree) : csizes most d acc b = acc := by
  cases b with
  | nil => simp [csizes]
  | cons u b => simp only [csizes]; rw [if_neg (by omega)]
theorem csizes_take {most d acc k : Nat} {l : List Tree} {t : Tree} (hk : l[k]? = some t) (h : csizes most d acc (l.take k) ≤ most) :
    csizes most d acc (l.take (k + 1)) = csizes most d acc (l.take k) + csize most d t := by
  rw [List.take_add_one, hk, csizes_append]
  simp [csizes, h]
theorem csizes_done {most d acc k : Nat} {l : List Tree} (h : most < csizes most d acc (l.take k)) : csizes most d acc l = csizes most d acc (l.take k) := by
  conv => lhs; rw [← List.take_append_drop k l, csizes_append]
  exact csizes_stop h _
theorem csize_le (most : Nat) : ∀ (d : Nat) (t : Tree), csize most d t ≤ (most + 2) * tsize t := by
  intro d
  induction d with
  | zero =>
    intro t
    obtain ⟨k, n, s, l⟩ := t
    simp only [csize, tsize]
    have : (most + 2) * 1 ≤ (most + 2) * (1 + s.size + tsizes l) := Nat.mul_le_mul_left _ (by omega)
    omega
  | succ d ih =>
    intro t
    obtain ⟨k, n, s, l⟩ := t
    simp only [csize, tsize]
    have key : ∀ (a : List Tree) (acc : Nat), csizes most d acc a ≤ acc + (most + 2) * tsizes a := by
      intro a
      induction a with
      | nil => intro acc; simp [csizes]
      | cons t a iha =>
        intro acc
        simp only [csizes, tsizes]
        have h1 := ih t
        rw [Nat.mul_add]
        split
        · have h2 := iha (acc + csize most d t)
          omega
        · omega
    have h3 := key l (1 + s.size)
    have h4 : 1 * (1 + s.size) ≤ (most + 2) * (1 + s.size) := Nat.mul_le_mul_right _ (by omega)
    rw [Nat.mul_add]
    omega
theorem csizes_le (most d : Nat) (a : List Tree) : ∀ acc, csizes most d acc a ≤ acc + (most + 2) * tsizes a := by
  induction a with
  | nil => intro acc; simp [csizes]
  | cons t a iha =>
    intro acc
    simp only [csizes, tsizes]
    have h1 := csize_le most d t
    rw [Nat.mul_add]
    split
    · have h2 := iha (acc + csize most d t)
      omega
    · omega
end Go.Proofs.YtmgiholmhhjpaaaDoor



namespace Go.Proofs.YtmgiholmhhjpaaaDoor
open Go.RowKit
set_option linter.unusedVariables false
set_option linter.unusedSimpArgs false
set_option maxRecDepth 20000
attribute [local go_sem ↓] Go.wp_at_zero Go.wp_at_succ
attribute [local go_sem] World.cell?_alloc_some frozen_alloc_some

/-- The slice holds the trees. -/
def Items (w : World) (A : Option Addr) (m c : Nat) (l : List Tree) : Prop :=
  m = l.length ∧ m ≤ c ∧ c ≤ maxLen ∧ ∃ vs : Nat → Value, (∀ i, i < m → ∃ ad, A = some ad ∧ ∀ j u, (vs i).cells[j]? = some u → w.cell? (ad.add (4 * i + j)) = some u) ∧ ∀ (i : Nat) (t : Tree), l[i]? = some t → Holds w t (vs i)
theorem Items.node {w : World} {A : Option Addr} {m c : Nat} {l : List Tree} (h : Items w A m c l) {k : Int} {n : Nat} {s : ByteArray} (hk : (Lit.int .i64 k).wf = true) (hn : n < 2 ^ 64) (hs : s.size ≤ maxLen) :
    Holds w (.mk k n s l) (.agg #[.int .i64 k, .int .u64 (n : Int), .string s, .slice A m c]) := by
  obtain ⟨h1, h2, h3, vs, h4, h5⟩ := h
  exact .mk k n s l A m c vs hk hn hs h1 h2 h3 h4 h5
theorem Holds.items {w : World} {k : Int} {n : Nat} {s : ByteArray} {l : List Tree} {A : Option Addr} {m c : Nat} {kk nn : Int} {ss : ByteArray} (h : Holds w (.mk k n s l) (.agg #[.int .i64 kk, .int .u64 nn, .string ss, .slice A m c])) : Items w A m c l := by
  cases h with
  | mk k n s l A m c vs hk hn hs hm hmc hc hcell hsub => exact ⟨hm, hmc, hc, vs, hcell, hsub⟩
theorem Items.nil (w : World) : Items w none 0 0 [] := ⟨rfl, Nat.le_refl _, Nat.zero_le _, fun _ => .nilIface, fun i hi => absurd hi (by omega), fun i t hi => by simp at hi⟩
theorem Items.keep {w w' : World} (hb : Below w.heap.size w w') {A : Option Addr} {m c : Nat} {l : List Tree} (h : Items w A m c l) : Items w' A m c l := by
  obtain ⟨h1, h2, h3, vs, h4, h5⟩ := h
  exact ⟨h1, h2, h3, vs, fun i hi => by
    obtain ⟨ad, e, hc⟩ := h4 i hi
    exact ⟨ad, e, fun j u hu => cell_keep hb (hc j u hu)⟩, fun i t hi => (h5 i t hi).keep hb⟩

/-- The cells of the first so many. -/
def flat4 (vs : Nat → Value) : Nat → List Value
  | 0 => []
  | m + 1 => flat4 vs m ++ (vs m).cells.toList
theorem Holds.four {w : World} {t : Tree} {v : Value} (h : Holds w t v) : v.cells.size = 4 ∧ ∀ u ∈ v.cells.toList, u.oneCell' = true := by
  cases h with
  | mk k n s l A m c vs hk hn hs hm hmc hc hcell hsub =>
    refine ⟨rfl, fun u hu => ?_⟩
    simp [Value.cells] at hu
    rcases hu with rfl | rfl | rfl | rfl <;> rfl
theorem flat4_length {vs : Nat → Value} {m : Nat} (h : ∀ i, i < m → (vs i).cells.size = 4) : (flat4 vs m).length = m * 4 := by
  induction m with
  | zero => rfl
  | succ m ih =>
    have h1 := ih fun i hi => h i (by omega)
    have h2 := h m (by omega)
    simp only [flat4, List.length_append, h1, Array.length_toList, h2]
    omega
theorem flat4_get {vs : Nat → Value} {m : Nat} (h : ∀ i, i < m → (vs i).cells.size = 4) {i j : Nat} (hi : i < m) (hj : j < 4) : (flat4 vs m)[4 * i + j]? = (vs i).cells[j]? := by
  induction m with
  | zero => omega
  | succ m ih =>
    have h0 := flat4_length (fun i hi => h i (by omega : i < m + 1)) (m := m)
    by_cases him : i < m
    · simp only [flat4]
      rw [List.getElem?_append_left (by omega)]
      exact ih (fun i hi => h i (by omega)) him
    · have : i = m := by omega
      subst this
      simp only [flat4]
      rw [List.getElem?_append_right (by omega), h0, show 4 * i + j - i * 4 = j by omega, Array.getElem?_toList]
theorem flat4_one {vs : Nat → Value} {m : Nat} (h : ∀ i, i < m → ∀ u ∈ (vs i).cells.toList, u.oneCell' = true) : ∀ u ∈ flat4 vs m, u.oneCell' = true := by
  induction m with
  | zero => intro u hu; cases hu
  | succ m ih =>
    intro u hu
    rcases List.mem_append.1 hu with hu | hu
    · exact ih (fun i hi => h i (by omega)) u hu
    · exact h m (by omega) u hu

/-- A row of its own of items: of the first trees of a list. -/
def RowI (w : World) (base : Nat) (v : Value) (m : Nat) (l : List Tree) : Prop :=
  m = l.length ∧ ∃ vs : Nat → Value, w.ownsRow base 56 4 v m (flat4 vs m) ∧ ∀ (i : Nat) (t : Tree), l[i]? = some t → Holds w t (vs i)
theorem RowI.form {w : World} {base : Nat} {v : Value} {m : Nat} {l : List Tree} (h : RowI w base v m l) : ∃ A c, v = .slice A m c ∧ m ≤ c ∧ c ≤ maxLen := by
  obtain ⟨_, vs, hown, _⟩ := h
  rcases hown.2 with ⟨rfl, hl⟩ | ⟨g, cap, cur, rfl, _, _, hle, hm, _⟩
  · exact ⟨none, 0, by rw [hl], by omega, Nat.zero_le _⟩
  · exact ⟨_, cap, rfl, hle, hm⟩
theorem RowI.items {w : World} {base : Nat} {A : Option Addr} {m k c : Nat} {l : List Tree} (h : RowI w base (.slice A k c) m l) : k = m ∧ Items w A m c l := by
  obtain ⟨A', c', e, hmc, hc⟩ := h.form
  injection e with e1 e2 e3
  subst e1 e2 e3
  obtain ⟨hm, vs, hown, hsub⟩ := h
  have h4 : ∀ i, i < k → (vs i).cells.size = 4 := fun i hi => (hsub i l[i] (List.getElem?_eq_getElem (by omega))).four.1
  refine ⟨rfl, hm, hmc, hc, vs, fun i hi => ?_, hsub⟩
  rcases hown.2 with ⟨_, hl⟩ | ⟨g, cap, cur, hv, _⟩
  · omega
  · injection hv with hv _ _
    subst hv
    refine ⟨_, rfl, fun j u hu => ?_⟩
    have hj : j < 4 := by
      rw [← h4 i hi]
      exact (Array.getElem?_eq_some_iff.1 hu).1
    refine hown.cells (g := g) rfl (4 * i + j) u ?_
    rw [flat4_get h4 hi hj]; exact hu
/-- What a slice of items holds, as the source of an append. -/
theorem Items.src {w : World} {A : Option Addr} {m c : Nat} {l : List Tree} (h : Items w A m c l) : ∃ vs : Nat → Value, Src w 4 A m (flat4 vs m) ∧ ∀ (i : Nat) (t : Tree), l[i]? = some t → Holds w t (vs i) := by
  obtain ⟨hm, _, _, vs, hc, hsub⟩ := h
  have h4 : ∀ i, i < m → (vs i).cells.size = 4 ∧ ∀ u ∈ (vs i).cells.toList, u.oneCell' = true := fun i hi => (hsub i l[i] (List.getElem?_eq_getElem (by omega))).four
  refine ⟨vs, ⟨flat4_length fun i hi => (h4 i hi).1, fun q u hq => ?_, flat4_one fun i hi => (h4 i hi).2⟩, hsub⟩
  have hlen := flat4_length fun i hi => (h4 i hi).1
  have hql : q < m * 4 := by
    rw [← hlen]
    rcases Nat.lt_or_ge q (flat4 vs m).length with h | h
    · exact h
    · rw [List.getElem?_eq_none h] at hq; cases hq
  have hq2 : q = 4 * (q / 4) + q % 4 := by omega
  have hi : q / 4 < m := by omega
  obtain ⟨ad, e, hcell⟩ := hc (q / 4) hi
  refine ⟨ad, e, ?_⟩
  rw [hq2] at hq ⊢
  rw [flat4_get (fun i hi => (h4 i hi).1) hi (by omega)] at hq
  exact hcell _ _ hq
theorem Src.keep {w w' : World} {size : Nat} {A : Option Addr} {m : Nat} {news : List Value} (h : Src w size A m news) (hb : Below w.heap.size w w') : Src w' size A m news :=
  ⟨h.1, fun j u hj => by
    obtain ⟨ad, e, hc⟩ := h.2.1 j u hj
    exact ⟨ad, e, cell_keep hb hc⟩, h.2.2⟩
theorem info_item : ∃ i, Tryd.prog.info? 56 = some i ∧ i.zero = some (.agg #[.int .i64 0, .int .u64 0, .string ByteArray.empty, .slice none 0 0]) ∧ i.size = 4 ∧ i.bytes = 56 := by
  have h : (Tryd.prog.info? 56).map (fun i => (i.zero, i.size, i.bytes)) = some (some (.agg #[.int .i64 0, .int .u64 0, .string ByteArray.empty, .slice none 0 0]), 4, 56) := by kernel_rfl
  cases hi : Tryd.prog.info? 56 with
  | none => rw [hi] at h; cases h
  | some i =>
    rw [hi] at h
    simp at h
    exact ⟨i, rfl, h.1, h.2.1, h.2.2⟩
end Go.Proofs.YtmgiholmhhjpaaaDoor

namespace Go.Proofs.YtmgiholmhhjpaaaDoor
open Go.RowKit
set_option linter.unusedVariables false
set_option linter.unusedSimpArgs false
set_option maxRecDepth 20000
attribute [local go_sem ↓] Go.wp_at_zero Go.wp_at_succ
attribute [local go_sem] World.cell?_alloc_some frozen_alloc_some

/-- The value is the tree; all that lies behind it lies in blocks of S. -/
inductive HoldsIn (w : World) (S : Nat → Prop) : Tree → Value → Prop
  | mk (k : Int) (n : Nat) (s : ByteArray) (l : List Tree) (A : Option Addr) (m c : Nat) (vs : Nat → Value)
    (hk : (Lit.int .i64 k).wf = true) (hn : n < 2 ^ 64) (hs : s.size ≤ maxLen) (hm : m = l.length) (hmc : m ≤ c) (hc : c ≤ maxLen)
    (hcell : ∀ i, i < m → ∃ b o, A = some ⟨b, o, none⟩ ∧ S b ∧ ∀ j u, (vs i).cells[j]? = some u → w.cell? ⟨b, o + (4 * i + j), none⟩ = some u)
    (hsub : ∀ i t, l[i]? = some t → HoldsIn w S t (vs i)) :
    HoldsIn w S (.mk k n s l) (.agg #[.int .i64 k, .int .u64 (n : Int), .string s, .slice A m c])

theorem HoldsIn.holds {w : World} {S : Nat → Prop} {t : Tree} {v : Value} (h : HoldsIn w S t v) : Holds w t v := by
  induction h with
  | mk k n s l A m c vs hk hn hs hm hmc hc hcell hsub ih =>
    exact .mk k n s l A m c vs hk hn hs hm hmc hc (fun i hi => by
      obtain ⟨b, o, e, hb, h⟩ := hcell i hi
      refine ⟨_, e, fun j u hu => ?_⟩
      have hadd : (⟨b, o, none⟩ : Addr).add (4 * i + j) = ⟨b, o + (4 * i + j), none⟩ := by unfold Addr.add; split <;> simp_all
      rw [hadd]; exact h j u hu) ih
theorem HoldsIn.mono {w : World} {S S' : Nat → Prop} {t : Tree} {v : Value} (h : HoldsIn w S t v) (hS : ∀ b, S b → S' b) : HoldsIn w S' t v := by
  induction h with
  | mk k n s l A m c vs hk hn hs hm hmc hc hcell hsub ih =>
    exact .mk k n s l A m c vs hk hn hs hm hmc hc (fun i hi => by
      obtain ⟨b, o, e, hb, h⟩ := hcell i hi
      exact ⟨b, o, e, hS b hb, h⟩) ih
theorem HoldsIn.four {w : World} {S : Nat → Prop} {t : Tree} {v : Value} (h : HoldsIn w S t v) : v.cells.size = 4 ∧ ∀ u ∈ v.cells.toList, u.oneCell' = true := h.holds.four
theorem HoldsIn.there {w : World} {S : Nat → Prop} {t : Tree} {v : Value} (h : HoldsIn w S t v) : HoldsIn w (fun b => S b ∧ b < w.heap.size) t v := by
  induction h with
  | mk k n s l A m c vs hk hn hs hm hmc hc hcell hsub ih =>
    exact .mk k n s l A m c vs hk hn hs hm hmc hc (fun i hi => by
      obtain ⟨b, o, e, hb, h⟩ := hcell i hi
      have hsz := (hsub i l[i] (List.getElem?_eq_getElem (by omega))).four.1
      have hlt : b < w.heap.size := World.block_lt_of_cell? _ _ (h 0 _ (Array.getElem?_eq_getElem (by omega)))
      exact ⟨b, o, e, ⟨hb, hlt⟩, h⟩) ih
theorem HoldsIn.keep {w w' : World} {S : Nat → Prop} {t : Tree} {v : Value} (h : HoldsIn w S t v) (hk : ∀ b, S b → b < w.heap.size → w'.heap[b]? = w.heap[b]?) : HoldsIn w' S t v := by
  induction h with
  | mk k n s l A m c vs hk' hn hs hm hmc hc hcell hsub ih =>
    exact .mk k n s l A m c vs hk' hn hs hm hmc hc (fun i hi => by
      obtain ⟨b, o, e, hb, h⟩ := hcell i hi
      refine ⟨b, o, e, hb, fun j u hu => ?_⟩
      have hcl := h j u hu
      have hlt : b < w.heap.size := World.block_lt_of_cell? _ _ hcl
      rw [← hcl]; exact World.cell?_of_block (w := w) (hk b hb hlt)) ih
theorem HoldsIn.under {w w' : World} {S : Nat → Prop} {t : Tree} {v : Value} (h : HoldsIn w S t v) (hb : Below w.heap.size w w') : HoldsIn w' S t v := h.keep fun b _ hl => hb.block b hl
theorem HoldsIn.grown {w w' : World} {S : Nat → Prop} {t : Tree} {v : Value} {row : Option Nat} (h : HoldsIn w S t v) (hg : w.grownBy w' row) (hS : ∀ b, S b → some b ≠ row) : HoldsIn w' S t v := h.keep fun b hb hl => hg.block b hl (hS b hb)
/-- A store into a block that is not one of S. -/
theorem HoldsIn.set {w : World} {S : Nat → Prop} {t : Tree} {v : Value} (h : HoldsIn w S t v) {p : Addr} (hp : ¬ S p.block) (u : Value) : HoldsIn (w.setCell p u) S t v :=
  h.keep fun b hb _ => Below.heap_setCell w p u b fun e => hp (e ▸ hb)
theorem HoldsIn.form {w : World} {S : Nat → Prop} {t : Tree} {v : Value} (h : HoldsIn w S t v) : ∃ (k n : Int) (s : ByteArray) (A : Option Addr) (m c : Nat), v = .agg #[.int .i64 k, .int .u64 n, .string s, .slice A m c] := by
  cases h with
  | mk k n s l A m c vs hk hn hs hm hmc hc hcell hsub => exact ⟨_, _, _, _, _, _, rfl⟩

/-- The cells of items, one behind the other. -/
def flatL (us : List Value) : List Value := us.flatMap fun u => u.cells.toList
theorem flatL_snoc (us : List Value) (u : Value) : flatL (us ++ [u]) = flatL us ++ u.cells.toList := by simp [flatL]
theorem flatL_length {us : List Value} (h : ∀ u ∈ us, u.cells.size = 4) : (flatL us).length = us.length * 4 := by
  induction us with
  | nil => rfl
  | cons u us ih =>
    have h1 := ih fun v hv => h v (List.mem_cons_of_mem _ hv)
    have h2 := h u (List.mem_cons_self ..)
    simp only [flatL, List.flatMap_cons, List.length_append, Array.length_toList, List.length_cons] at h1 ⊢
    omega
theorem flatL_get {us : List Value} (h : ∀ u ∈ us, u.cells.size = 4) {i j : Nat} {u : Value} (hi : us[i]? = some u) (hj : j < 4) : (flatL us)[4 * i + j]? = u.cells[j]? := by
  induction us generalizing i with
  | nil => simp at hi
  | cons v us ih =>
    have h2 := h v (List.mem_cons_self ..)
    cases i with
    | zero =>
      simp at hi; subst hi
      simp only [flatL, List.flatMap_cons]
      rw [List.getElem?_append_left (by rw [Array.length_toList]; omega), Array.getElem?_toList]
      simp
    | succ i =>
      simp only [flatL, List.flatMap_cons]
      rw [List.getElem?_append_right (by rw [Array.length_toList]; omega), Array.length_toList, h2, show 4 * (i + 1) + j - 4 = 4 * i + j by omega]
      exact ih (fun u hu => h u (List.mem_cons_of_mem _ hu)) (by simpa using hi)

/-- A row of its own of items: of the first so many of a list of trees. -/
structure RowS (w : World) (base : Nat) (v : Value) (l : List Tree) (us : List Value) : Prop where
  own : w.ownsRow base 56 4 v us.length (flatL us)
  le : us.length ≤ l.length
  sub : ∀ (i : Nat) (t : Tree) (u : Value), l[i]? = some t → us[i]? = some u → HoldsIn w (fun b => base ≤ b ∧ some b ≠ v.ownBlock) t u
theorem RowS.nil_ (w : World) (base : Nat) (l : List Tree) : RowS w base (.slice none 0 0) l [] := ⟨World.ownsRow_nil _ _ _ _, Nat.zero_le _, fun i t u _ hu => by simp at hu⟩
theorem RowS.form {w : World} {base : Nat} {v : Value} {l : List Tree} {us : List Value} (h : RowS w base v l us) : ∃ A c, v = .slice A us.length c ∧ us.length ≤ c ∧ c ≤ maxLen := by
  rcases h.own.2 with ⟨rfl, hl⟩ | ⟨g, cap, cur, rfl, _, _, hle, hm, _⟩
  · exact ⟨none, 0, by rw [hl], by omega, Nat.zero_le _⟩
  · exact ⟨_, cap, rfl, hle, hm⟩
theorem RowS.below {w w' : World} {base : Nat} {v : Value} {l : List Tree} {us : List Value} (h : RowS w base v l us) (hb : Below w.heap.size w w') : RowS w' base v l us :=
  ⟨h.own.kept (grown_of_below hb none) (by cases v.ownBlock <;> simp), h.le, fun i t u ht hu => (h.sub i t u ht hu).under hb⟩
/-- A store below the base. -/
theorem RowS.set {w : World} {base : Nat} {v : Value} {l : List Tree} {us : List Value} (h : RowS w base v l us) {p : Addr} (hp : p.block < base) (u : Value) : RowS (w.setCell p u) base v l us :=
  ⟨ownsRow_setCell_below h.own hp u, h.le, fun i t x ht hx => (h.sub i t x ht hx).set (by omega) u⟩
theorem RowS.more {w : World} {base : Nat} {v : Value} {l : List Tree} {us : List Value} (h : RowS w base v l us) (hl : us.length = l.length) (t : Tree) : RowS w base v (l ++ [t]) us :=
  ⟨h.own, by have := h.le; simp; omega, fun i t' u ht hu => by
    have hi : i < us.length := by
      rcases Nat.lt_or_ge i us.length with h | h
      · exact h
      · rw [List.getElem?_eq_none h] at hu; cases hu
    rw [List.getElem?_append_left (by omega)] at ht
    exact h.sub i t' u ht hu⟩
/-- One more is appended. -/
theorem RowS.step {w w' : World} {base g : Nat} {v v' : Value} {l : List Tree} {us : List Value} {t : Tree} {u : Value} (h : RowS w base v l us) (ht : l[us.length]? = some t)
    (hu : HoldsIn w (fun b => g ≤ b) t u) (hg : base ≤ g) (hv : ∀ k, v.ownBlock = some k → k < g)
    (hown : w'.ownsRow base 56 4 v' (us.length + 1) (flatL us ++ u.cells.toList)) (hgr : w.grownBy w' v.ownBlock) (hat : v'.ownBlock = v.ownBlock ∨ v'.ownBlock = some w.heap.size) : RowS w' base v' l (us ++ [u]) := by
  have hle : us.length < l.length := by
    rcases Nat.lt_or_ge us.length l.length with h | h
    · exact h
    · rw [List.getElem?_eq_none h] at ht; cases ht
  have key : ∀ (i : Nat) (t : Tree) (x : Value), l[i]? = some t → (us ++ [u])[i]? = some x → HoldsIn w (fun b => (base ≤ b ∧ some b ≠ v.ownBlock) ∧ b < w.heap.size) t x := by
    intro i t' x hi hx
    by_cases hlt : i < us.length
    · rw [List.getElem?_append_left hlt] at hx
      exact (h.sub i t' x hi hx).there
    · have : i = us.length := by
        have : i < (us ++ [u]).length := by
          rcases Nat.lt_or_ge i (us ++ [u]).length with h | h
          · exact h
          · rw [List.getElem?_eq_none h] at hx; cases hx
        simp at this; omega
      subst this
      rw [ht] at hi
      simp at hi hx
      subst hi hx
      exact (hu.mono fun b hb => (⟨by omega, fun e => by have := hv b e.symm; omega⟩ : base ≤ b ∧ some b ≠ v.ownBlock)).there
  refine ⟨by rw [flatL_snoc]; simpa using hown, by simp; omega, fun i t' x hi hx => ?_⟩
  refine ((key i t' x hi hx).grown hgr fun b hb => hb.1.2).mono fun b hb => ⟨hb.1.1, ?_⟩
  rcases hat with e | e
  · rw [e]; exact hb.1.2
  · rw [e]
    intro e2
    injection e2 with e2
    have := hb.2
    omega
/-- A whole row is an item's list. -/
theorem RowS.node {w : World} {base : Nat} {A : Option Addr} {m c : Nat} {l : List Tree} {us : List Value} (h : RowS w base (.slice A m c) l us) (hl : us.length = l.length) :
    HoldsIn w (fun b => base ≤ b) (.mk 2 0 ByteArray.empty l) (.agg #[.int .i64 2, .int .u64 ((0 : Nat) : Int), .string ByteArray.empty, .slice A m c]) := by
  obtain ⟨A', c', e, hle, hm⟩ := h.form
  injection e with e1 e2 e3
  subst e1 e2 e3
  have hg : ∀ i, i < us.length → us[i]? = some (us.getD i .nilIface) := fun i hi => by simp [List.getD, List.getElem?_eq_getElem hi]
  have h4 : ∀ u ∈ us, u.cells.size = 4 := fun u hu => by
    obtain ⟨i, hi, rfl⟩ := List.mem_iff_getElem.1 hu
    exact (h.sub i l[i] _ (List.getElem?_eq_getElem (by omega)) (List.getElem?_eq_getElem hi)).four.1
  refine .mk 2 0 _ l A us.length c (fun i => us.getD i .nilIface) (by decide) (by decide) (by decide) hl hle hm (fun i hi => ?_) fun i t ht => ?_
  · rcases h.own.2 with ⟨hv, hn⟩ | ⟨g, cap, cur, hv, hb, _⟩
    · omega
    · injection hv with hv _ _
      subst hv
      refine ⟨g, 0, rfl, hb, fun j u hu => ?_⟩
      have hj : j < 4 := by
        rw [← h4 _ (List.mem_of_getElem? (hg i hi))]
        exact (Array.getElem?_eq_some_iff.1 hu).1
      have := h.own.cells (g := g) rfl (4 * i + j) u (by rw [flatL_get h4 (hg i hi) hj]; exact hu)
      rw [← this]
      congr 1
      unfold Addr.add; split <;> simp_all
  · have hi : i < us.length := by
      rw [hl]
      rcases Nat.lt_or_ge i l.length with h | h
      · exact h
      · rw [List.getElem?_eq_none h] at ht; cases ht
    exact (h.sub i t _ ht (hg i hi)).mono fun b hb => hb.1
/-- One item that the call has laid in a block of its own, as the source of an append. -/
theorem src_item {w : World} {e : TypeId} {u : Value} (h4 : u.cells.size = 4) (h1 : ∀ x ∈ u.cells.toList, x.oneCell' = true) : Src (w.alloc (.cells u.cells e)) 4 (some ⟨w.heap.size, 0, none⟩) 1 u.cells.toList :=
  ⟨by simp [h4], fun j x hj => ⟨_, rfl, by
    have hadd : (⟨w.heap.size, 0, none⟩ : Addr).add j = ⟨w.heap.size, j, none⟩ := by unfold Addr.add; split <;> simp_all
    rw [hadd]
    exact (new_cell w u.cells e j (by simpa using hj)).1⟩, h1⟩
end Go.Proofs.YtmgiholmhhjpaaaDoor

namespace Go.Proofs.YtmgiholmhhjpaaaDoor
open Go.RowKit
set_option linter.unusedVariables false
set_option linter.unusedSimpArgs false
set_option maxRecDepth 20000
attribute [local go_sem ↓] Go.wp_at_zero Go.wp_at_succ
attribute [local go_sem] World.cell?_alloc_some frozen_alloc_some
attribute [local go_sem] lt2 lt3 lt4 lt5
attribute [local simp] lt2 lt3 lt4 lt5

def numV (n : Nat) : Value := .agg #[.int .i64 0, .int .u64 (n : Int), .string ByteArray.empty, .slice none 0 0]
def textV (s : ByteArray) : Value := .agg #[.int .i64 1, .int .u64 0, .string s, .slice none 0 0]
theorem holds_num (w : World) {n : Nat} (hn : n < 2 ^ 64) : Holds w (.mk 0 n ByteArray.empty []) (numV n) := (Items.nil w).node (by decide) hn (by decide)
theorem holds_text (w : World) {s : ByteArray} (hs : s.size ≤ maxLen) : Holds w (.mk 1 0 s []) (textV s) := (Items.nil w).node (n := 0) (by decide) (by decide) hs
theorem num_any (n : Nat) (w : World) : Calls Tryd.prog 68 #[.int .u64 (n : Int)] w (Gives w (numV n)) := by
  go_enter Tryd.func68, Tryd.ntmps68
  go_wp2_with fail
  refine bodyPost_ret (v := numV n) (by simp [results, Tryd.results68, go_sem, *, numV] <;> rfl) rfl ?_
  exact ⟨rfl, by ((repeat' first | with_reducible exact Below.refl _ _ | with_reducible assumption | with_reducible refine Below.alloc ?_ ?_ _ | with_reducible refine Below.setCell ?_ ?_ _ | with_reducible apply Below.drew | with_reducible apply below_drewN | with_reducible refine below_call ?_ (by with_reducible assumption) ?_) <;> (first | omega | (simp; done) | (simp; omega) | (simp at *; omega)))⟩
theorem codectext_any (s : ByteArray) (w : World) : Calls Tryd.prog 91 #[.string s] w (Gives w (textV s)) := by
  go_enter Tryd.func91, Tryd.ntmps91
  go_wp2_with fail
  refine bodyPost_ret (v := textV s) (by simp [results, Tryd.results91, go_sem, *, textV]) rfl ?_
  exact ⟨rfl, by ((repeat' first | with_reducible exact Below.refl _ _ | with_reducible assumption | with_reducible refine Below.alloc ?_ ?_ _ | with_reducible refine Below.setCell ?_ ?_ _ | with_reducible apply Below.drew | with_reducible apply below_drewN | with_reducible refine below_call ?_ (by with_reducible assumption) ?_) <;> (first | omega | (simp; done) | (simp; omega) | (simp at *; omega)))⟩
/-- A row of items of the call's own; the items' own lists are as they were in w0. -/
def Cloned (w0 w : World) (base : Nat) (v : Value) (m : Nat) (l : List Tree) : Prop :=
  m = l.length ∧ ∃ vs : Nat → Value, w.ownsRow base 56 4 v m (flat4 vs m) ∧ ∀ (i : Nat) (t : Tree), l[i]? = some t → Holds w0 t (vs i)
theorem Cloned.row {w0 w : World} {base : Nat} {v : Value} {m : Nat} {l : List Tree} (h : Cloned w0 w base v m l) (hb : Below w0.heap.size w0 w) : RowI w base v m l := by
  obtain ⟨h1, vs, h2, h3⟩ := h
  exact ⟨h1, vs, h2, fun i t ht => (h3 i t ht).keep hb⟩
theorem Cloned.set {w0 w : World} {base : Nat} {v : Value} {m : Nat} {l : List Tree} (h : Cloned w0 w base v m l) {p : Addr} (hp : p.block < base) (u : Value) : Cloned w0 (w.setCell p u) base v m l := by
  obtain ⟨h1, vs, h2, h3⟩ := h
  exact ⟨h1, vs, ownsRow_setCell_below h2 hp u, h3⟩
set_option maxHeartbeats 2000000 in
theorem clone_any (ad : Addr) (m c : Nat) (l : List Tree) (w0 w : World) (hb0 : Below w0.heap.size w0 w) (h : Items w0 (some ad) m c l) (hm : m ≤ 1000000000) :
    Calls Tryd.prog 89 #[.slice (some ad) m c] w (fun e w' => ∃ A' c', e = .returned (.slice A' m c') ∧ Cloned w0 w' w.heap.size (.slice A' m c') m l ∧ Below w.heap.size w w') := by
  obtain ⟨i1, hi, hz0, hz1, hz2⟩ := info_item
  have hk : Below w.heap.size w (w.alloc (.cells #[] 56)) := below_one _
  have hml := Lib.hid h.1
  have hnil := fun W : World => Lib.run_eql_slice_some_nil (P := Tryd.prog) W ad m c Tryd.underlying54
  obtain ⟨vs, hsrc0, hsub⟩ := h.src
  have hsrc := (hsrc0.keep hb0).keep hk
  have hown : (w.alloc (.cells #[] 56)).ownsRow w.heap.size 56 4 (.slice (some ⟨w.heap.size, 0, none⟩) 0 0) 0 [] := World.ownsRow_made w #[] 0 (Nat.le_refl _) (Nat.zero_le _) (by simp)
  go_enter Tryd.func89, Tryd.ntmps89
  go_wp2_with (at_builtin; go_loud (refine wpList_app _ rfl (.tmp 5) (.tmp 6) 54 rfl _ 56 i1 _ 4 56 Tryd.underlying54 hi hz0 hz1 hz2 rfl (by omega) _ _ _ rfl hown _ _ _ _ rfl hsrc ?h63 ?hby ?hbase ?_); (case h63 => (unfold maxLen; first | omega | (simp; done) | (simp; omega))); (case hby => first | omega | (simp; done) | (simp; omega)); (case hbase => first | omega | (simp; done) | (simp; omega)); intro v2 w2 hownw2 hgroww2 hatw2 holdw2)
  have hb2 := below_app hk hown hgroww2 (Nat.le_refl _) (by simp)
  have hcl : Cloned w0 w2 w.heap.size v2 m l := ⟨hml.out, vs, by simpa using hownw2, hsub⟩
  obtain ⟨A2, c2, rfl, _, _⟩ := (hcl.row (below_call hb0 hb2 hb0.size)).form
  go_ret
  exact ⟨_, _, rfl, hcl, hb2⟩
theorem codeclist_any (ad : Addr) (m c : Nat) (l : List Tree) (w : World) (h : Items w (some ad) m c l) (hm : m ≤ 1000000000) :
    Calls Tryd.prog 67 #[.slice (some ad) m c] w (fun e w' => ∃ v, e = .returned v ∧ Holds w' (.mk 2 0 ByteArray.empty l) v ∧ Below w.heap.size w w') := by
  have hcl : ∀ W, Below w.heap.size w W → Calls Tryd.prog 89 #[.slice (some ad) m c] W (fun e w' => ∃ A' c', e = .returned (.slice A' m c') ∧ Cloned w w' W.heap.size (.slice A' m c') m l ∧ Below W.heap.size W w') := fun W hb => clone_any ad m c l w W hb h hm
  clear h
  go_enter Tryd.func67, Tryd.ntmps67
  go_wp2_with fail
  refine (hcl _ (by ((repeat' first | with_reducible exact Below.refl _ _ | with_reducible assumption | with_reducible refine Below.alloc ?_ ?_ _ | with_reducible refine Below.setCell ?_ ?_ _ | with_reducible apply Below.drew | with_reducible apply below_drewN | with_reducible refine below_call ?_ (by with_reducible assumption) ?_) <;> (first | omega | (simp; done) | (simp; omega) | (simp at *; omega))))).mono ?_
  rintro e w1 ⟨A', c', rfl, hit, hb1⟩
  have hz1 := hb1.size
  simp at hz1
  obtain ⟨q0, r0⟩ := new_keep hb1 0 rfl
  obtain ⟨q1, r1⟩ := new_keep hb1 1 rfl
  obtain ⟨q2, r2⟩ := new_keep hb1 2 rfl
  obtain ⟨q3, r3⟩ := new_keep hb1 3 rfl
  simp only [World.size_alloc] at hit
  have Hit := Lib.hid hit
  clear hit
  go_wp2_with fail
  have hbw : Below w.heap.size w w1 := by ((repeat' first | with_reducible exact Below.refl _ _ | with_reducible assumption | with_reducible refine Below.alloc ?_ ?_ _ | with_reducible refine Below.setCell ?_ ?_ _ | with_reducible apply Below.drew | with_reducible apply below_drewN | with_reducible refine below_call ?_ (by with_reducible assumption) ?_) <;> (first | omega | (simp; done) | (simp; omega) | (simp at *; omega)))
  refine bodyPost_ret (v := .agg #[.int .i64 2, .int .u64 0, .string ByteArray.empty, .slice A' m c']) (by simp [results, Tryd.results67, go_sem, *] <;> rfl) rfl ?_
  have h4 := (((Hit.out.set (p := ⟨w.heap.size, 0, none⟩) (by simp) (.int .i64 2)).set (p := ⟨w.heap.size, 1, none⟩) (by simp) (.int .u64 0)).set (p := ⟨w.heap.size, 2, none⟩) (by simp) (.string ByteArray.empty)).set (p := ⟨w.heap.size, 3, none⟩) (by simp) (.slice A' m c')
  have hb4 : Below w.heap.size w ((((w1.setCell ⟨w.heap.size, 0, none⟩ (.int .i64 2)).setCell ⟨w.heap.size, 1, none⟩ (.int .u64 0)).setCell ⟨w.heap.size, 2, none⟩ (.string ByteArray.empty)).setCell ⟨w.heap.size, 3, none⟩ (.slice A' m c')) := by ((repeat' first | with_reducible exact Below.refl _ _ | with_reducible assumption | with_reducible refine Below.alloc ?_ ?_ _ | with_reducible refine Below.setCell ?_ ?_ _ | with_reducible apply Below.drew | with_reducible apply below_drewN | with_reducible refine below_call ?_ (by with_reducible assumption) ?_) <;> (first | omega | (simp; done) | (simp; omega) | (simp at *; omega)))
  exact ⟨_, rfl, (h4.row hb4).items.2.node (n := 0) (by decide) (by decide) (by decide), hb4⟩
end Go.Proofs.YtmgiholmhhjpaaaDoor



namespace Go.Proofs.YtmgiholmhhjpaaaDoor
open Go.RowKit
set_option linter.unusedVariables false
set_option linter.unusedSimpArgs false
set_option maxRecDepth 20000
attribute [local go_sem ↓] Go.wp_at_zero Go.wp_at_succ
attribute [local go_sem] World.cell?_alloc_some frozen_alloc_some
attribute [local go_sem] lt2 lt3 lt4 lt5
attribute [local simp] lt2 lt3 lt4 lt5

open Classical in
/-- Two trees are one. -/
noncomputable def tsame (t u : Tree) : Bool := decide (t = u)
theorem tsame_self (t : Tree) : tsame t t = true := by simp [tsame]
theorem tsame_iff {t u : Tree} : tsame t u = true ↔ t = u := by simp [tsame]
theorem tsame_no {t u : Tree} (h : t ≠ u) : tsame t u = false := by simp [tsame, h]
theorem list_parts {l m : List Tree} {j : Nat} (h : l.take j = m.take j) (h1 : j < l.length) (h2 : j < m.length) (he : l[j] = m[j]) : l.take (j + 1) = m.take (j + 1) := by
  rw [List.take_add_one, List.take_add_one, h, List.getElem?_eq_getElem h1, List.getElem?_eq_getElem h2, he]

theorem toList_inj {s t : ByteArray} (h : s.toList = t.toList) : s = t := by
  obtain ⟨⟨a⟩⟩ := s
  obtain ⟨⟨b⟩⟩ := t
  simp only [ByteArray.toList_eq] at h
  rw [show a = b from h]

end Go.Proofs.YtmgiholmhhjpaaaDoor

namespace Go.Proofs.YtmgiholmhhjpaaaDoor
open Go.RowKit
set_option linter.unusedVariables false
set_option linter.unusedSimpArgs false
set_option maxRecDepth 20000
attribute [local go_sem ↓] Go.wp_at_zero Go.wp_at_succ
attribute [local go_sem] World.cell?_alloc_some frozen_alloc_some

theorem items_block {w : World} {g m : Nat} {e : TypeId} {fr : Nat × Nat} {vs : Nat → Value} {l : List Tree} (hb : w.heap[g]? = some (.cells (flat4 vs m).toArray e fr)) (hm : m = l.length) (hmm : m ≤ maxLen)
    (h : ∀ (i : Nat) (t : Tree), l[i]? = some t → Holds w t (vs i)) : Items w (some ⟨g, 0, none⟩) m m l :=
  ⟨hm, Nat.le_refl _, hmm, vs, fun i hi => ⟨_, rfl, fun j u hu => by
    have h4 : ∀ i, i < m → (vs i).cells.size = 4 := fun i hi => (h i l[i] (List.getElem?_eq_getElem (by omega))).four.1
    have hj : j < 4 := by rw [← h4 i hi]; exact (Array.getElem?_eq_some_iff.1 hu).1
    have hadd : (⟨g, 0, none⟩ : Addr).add (4 * i + j) = ⟨g, 4 * i + j, none⟩ := by unfold Addr.add; split <;> simp_all
    rw [hadd, cell_of_row w g _ _ e fr hb, List.getElem?_toArray, flat4_get h4 hi hj]
    exact hu⟩, h⟩
end Go.Proofs.YtmgiholmhhjpaaaDoor

namespace Go.Proofs.YtmgiholmhhjpaaaDoor
open Go.RowKit
set_option linter.unusedVariables false
set_option linter.unusedSimpArgs false
set_option maxRecDepth 20000
attribute [local go_sem ↓] Go.wp_at_zero Go.wp_at_succ
attribute [local go_sem] World.cell?_alloc_some frozen_alloc_some
attribute [local go_sem] lt2 lt3 lt4 lt5
attribute [local simp] lt2 lt3 lt4 lt5

theorem hin_num (w : World) (S : Nat → Prop) {n : Nat} (hn : n < 2 ^ 64) : HoldsIn w S (.mk 0 n ByteArray.empty []) (numV n) :=
  .mk 0 n _ [] none 0 0 (fun _ => .nilIface) (by decide) hn (by decide) rfl (Nat.le_refl _) (Nat.zero_le _) (fun i hi => absurd hi (by omega)) (fun i t hi => by simp at hi)
theorem hin_text (w : World) (S : Nat → Prop) {s : ByteArray} (hs : s.size ≤ maxLen) : HoldsIn w S (.mk 1 0 s []) (textV s) :=
  .mk 1 0 s [] none 0 0 (fun _ => .nilIface) (by decide) (by decide) hs rfl (Nat.le_refl _) (Nat.zero_le _) (fun i hi => absurd hi (by omega)) (fun i t hi => by simp at hi)
theorem hin_nil (w : World) (S : Nat → Prop) : HoldsIn w S (.mk 2 0 ByteArray.empty []) (.agg #[.int .i64 2, .int .u64 0, .string ByteArray.empty, .slice none 0 0]) :=
  .mk 2 0 _ [] none 0 0 (fun _ => .nilIface) (by decide) (by decide) (by decide) rfl (Nat.le_refl _) (Nat.zero_le _) (fun i hi => absurd hi (by omega)) (fun i t hi => by simp at hi)
set_option maxHeartbeats 2000000 in
theorem clone_src (ad : Addr) (m c : Nat) (news : List Value) (w0 w : World) (hb0 : Below w0.heap.size w0 w) (h : Src w0 4 (some ad) m news) (hm : m ≤ 1000000000) :
    Calls Tryd.prog 89 #[.slice (some ad) m c] w (fun e w' => ∃ A' c', e = .returned (.slice A' m c') ∧ w'.ownsRow w.heap.size 56 4 (.slice A' m c') m news ∧ Below w.heap.size w w') := by
  obtain ⟨i1, hi, hz0, hz1, hz2⟩ := info_item
  have hk : Below w.heap.size w (w.alloc (.cells #[] 56)) := below_one _
  have hnil := fun W : World => Lib.run_eql_slice_some_nil (P := Tryd.prog) W ad m c Tryd.underlying54
  have hsrc := (h.keep hb0).keep hk
  have hown : (w.alloc (.cells #[] 56)).ownsRow w.heap.size 56 4 (.slice (some ⟨w.heap.size, 0, none⟩) 0 0) 0 [] := World.ownsRow_made w #[] 0 (Nat.le_refl _) (Nat.zero_le _) (by simp)
  go_enter Tryd.func89, Tryd.ntmps89
  go_wp2_with (at_builtin; go_loud (refine wpList_app _ rfl (.tmp 5) (.tmp 6) 54 rfl _ 56 i1 _ 4 56 Tryd.underlying54 hi hz0 hz1 hz2 rfl (by omega) _ _ _ rfl hown _ _ _ _ rfl hsrc ?h63 ?hby ?hbase ?_); (case h63 => (unfold maxLen; first | omega | (simp; done) | (simp; omega))); (case hby => first | omega | (simp; done) | (simp; omega)); (case hbase => first | omega | (simp; done) | (simp; omega)); intro v2 w2 hownw2 hgroww2 hatw2 holdw2)
  have hb2 := below_app hk hown hgroww2 (Nat.le_refl _) (by simp)
  have hown2 : w2.ownsRow w.heap.size 56 4 v2 m news := by simpa using hownw2
  obtain ⟨A2, c2, rfl, _, _⟩ : ∃ A c, v2 = .slice A m c ∧ m ≤ c ∧ c ≤ maxLen := by
    rcases hown2.2 with ⟨rfl, hl⟩ | ⟨g, cap, cur, rfl, _, _, hle, hm, _⟩
    · exact ⟨none, 0, by rw [hl], by omega, Nat.zero_le _⟩
    · exact ⟨_, cap, rfl, hle, hm⟩
  go_ret
  exact ⟨_, _, rfl, hown2, hb2⟩
theorem codeclist_src (ad : Addr) (m c : Nat) (news : List Value) (w : World) (h : Src w 4 (some ad) m news) (hm : m ≤ 1000000000) :
    Calls Tryd.prog 67 #[.slice (some ad) m c] w (fun e w' => ∃ A' c', e = .returned (.agg #[.int .i64 2, .int .u64 0, .string ByteArray.empty, .slice A' m c']) ∧ w'.ownsRow (w.heap.size + 1) 56 4 (.slice A' m c') m news ∧ Below w.heap.size w w') := by
  have hcl : ∀ W, Below w.heap.size w W → Calls Tryd.prog 89 #[.slice (some ad) m c] W (fun e w' => ∃ A' c', e = .returned (.slice A' m c') ∧ w'.ownsRow W.heap.size 56 4 (.slice A' m c') m news ∧ Below W.heap.size W w') := fun W hb => clone_src ad m c news w W hb h hm
  clear h
  go_enter Tryd.func67, Tryd.ntmps67
  go_wp2_with fail
  refine (hcl _ (by ((repeat' first | with_reducible exact Below.refl _ _ | with_reducible assumption | with_reducible refine Below.alloc ?_ ?_ _ | with_reducible refine Below.setCell ?_ ?_ _ | with_reducible apply Below.drew | with_reducible apply below_drewN | with_reducible refine below_call ?_ (by with_reducible assumption) ?_) <;> (first | omega | (simp; done) | (simp; omega) | (simp at *; omega))))).mono ?_
  rintro e w1 ⟨A', c', rfl, hit, hb1⟩
  have hz1 := hb1.size
  simp at hz1
  obtain ⟨q0, r0⟩ := new_keep hb1 0 rfl
  obtain ⟨q1, r1⟩ := new_keep hb1 1 rfl
  obtain ⟨q2, r2⟩ := new_keep hb1 2 rfl
  obtain ⟨q3, r3⟩ := new_keep hb1 3 rfl
  simp only [World.size_alloc] at hit
  have Hit := Lib.hid hit
  clear hit
  go_wp2_with fail
  have hbw : Below w.heap.size w w1 := by ((repeat' first | with_reducible exact Below.refl _ _ | with_reducible assumption | with_reducible refine Below.alloc ?_ ?_ _ | with_reducible refine Below.setCell ?_ ?_ _ | with_reducible apply Below.drew | with_reducible apply below_drewN | with_reducible refine below_call ?_ (by with_reducible assumption) ?_) <;> (first | omega | (simp; done) | (simp; omega) | (simp at *; omega)))
  refine bodyPost_ret (v := .agg #[.int .i64 2, .int .u64 0, .string ByteArray.empty, .slice A' m c']) (by simp [results, Tryd.results67, go_sem, *] <;> rfl) rfl ?_
  have hb4 : Below w.heap.size w ((((w1.setCell ⟨w.heap.size, 0, none⟩ (.int .i64 2)).setCell ⟨w.heap.size, 1, none⟩ (.int .u64 0)).setCell ⟨w.heap.size, 2, none⟩ (.string ByteArray.empty)).setCell ⟨w.heap.size, 3, none⟩ (.slice A' m c')) := by ((repeat' first | with_reducible exact Below.refl _ _ | with_reducible assumption | with_reducible refine Below.alloc ?_ ?_ _ | with_reducible refine Below.setCell ?_ ?_ _ | with_reducible apply Below.drew | with_reducible apply below_drewN | with_reducible refine below_call ?_ (by with_reducible assumption) ?_) <;> (first | omega | (simp; done) | (simp; omega) | (simp at *; omega)))
  exact ⟨_, _, rfl, ownsRow_setCell_below (ownsRow_setCell_below (ownsRow_setCell_below (ownsRow_setCell_below Hit.out (by simp) _) (by simp) _) (by simp) _) (by simp) _, hb4⟩
/-- Items that lie one behind the other in the newest block, as a source. -/
theorem src_items {us : List Value} {cs : Array Value} (w : World) (hcs : cs = (flatL us).toArray) (h4 : ∀ u ∈ us, u.cells.size = 4 ∧ ∀ x ∈ u.cells.toList, x.oneCell' = true) :
    Src (w.alloc (.cells cs 56)) 4 (some ⟨w.heap.size, 0, none⟩) us.length (flatL us) := by
  subst hcs
  refine ⟨by rw [flatL_length fun u hu => (h4 u hu).1]; try omega, fun j x hj => ⟨_, rfl, ?_⟩, fun x hx => ?_⟩
  · have hadd : (⟨w.heap.size, 0, none⟩ : Addr).add j = ⟨w.heap.size, j, none⟩ := by unfold Addr.add; split <;> simp_all
    rw [hadd]
    exact (new_cell w (flatL us).toArray 56 j (by simpa using hj)).1
  · simp only [flatL, List.mem_flatMap] at hx
    obtain ⟨u, hu, hx⟩ := hx
    exact (h4 u hu).2 x hx
theorem own_below {w w' : World} {base : Nat} {e : TypeId} {size : Nat} {v : Value} {n : Nat} {xs : List Value} (h : w.ownsRow base e size v n xs) (hb : Below w.heap.size w w') : w'.ownsRow base e size v n xs :=
  h.kept (grown_of_below hb none) (by cases v.ownBlock <;> simp)
/-- The list of the items that lie one behind the other in the newest block. -/
theorem list_inS {S : Nat → Prop} {l : List Tree} {us : List Value} {m : Nat} {cs : Array Value} (w W : World) (hW : Below (w.alloc (.cells cs 56)).heap.size (w.alloc (.cells cs 56)) W) (hcs : cs = (flatL us).toArray) (hm : m = us.length) (hl : us.length = l.length) (hmm : m ≤ 1000000000)
    (sub : ∀ (i : Nat) (t : Tree) (u : Value), l[i]? = some t → us[i]? = some u → HoldsIn w S t u) :
    Calls Tryd.prog 67 #[.slice (some ⟨w.heap.size, 0, none⟩) m m] W
      (fun e w' => ∃ A' c', e = .returned (.agg #[.int .i64 2, .int .u64 0, .string ByteArray.empty, .slice A' m c']) ∧ HoldsIn w' (fun b => S b ∨ W.heap.size + 1 ≤ b) (.mk 2 0 ByteArray.empty l) (.agg #[.int .i64 2, .int .u64 0, .string ByteArray.empty, .slice A' m c']) ∧ Below W.heap.size W w') := by
  subst hcs hm
  have hg : ∀ i, i < us.length → us[i]? = some (us.getD i .nilIface) := fun i hi => by simp [List.getD, List.getElem?_eq_getElem hi]
  have h4 : ∀ u ∈ us, u.cells.size = 4 ∧ ∀ x ∈ u.cells.toList, x.oneCell' = true := fun u hu => by
    obtain ⟨i, hi, rfl⟩ := List.mem_iff_getElem.1 hu
    exact (sub i l[i] _ (List.getElem?_eq_getElem (by omega)) (List.getElem?_eq_getElem hi)).four
  have hsrc : Src (w.alloc (.cells (flatL us).toArray 56)) 4 (some ⟨w.heap.size, 0, none⟩) us.length (flatL us) := by
    refine ⟨by rw [flatL_length fun u hu => (h4 u hu).1]; try omega, fun j x hj => ⟨_, rfl, ?_⟩, fun x hx => ?_⟩
    · have hadd : (⟨w.heap.size, 0, none⟩ : Addr).add j = ⟨w.heap.size, j, none⟩ := by unfold Addr.add; split <;> simp_all
      rw [hadd]
      exact (new_cell w (flatL us).toArray 56 j (by simpa using hj)).1
    · simp only [flatL, List.mem_flatMap] at hx
      obtain ⟨u, hu, hx⟩ := hx
      exact (h4 u hu).2 x hx
  refine (codeclist_src _ us.length us.length (flatL us) W (hsrc.keep hW) hmm).mono ?_
  rintro e w' ⟨A', c', rfl, hown, hb⟩
  have hb0 : Below w.heap.size w w' := by
    exact below_call (below_call (below_one _) hW (by simp)) hb (by have := hW.size; simp at this; omega)
  refine ⟨A', c', rfl, ?_, hb⟩
  have ho : ∃ c, c = c' ∧ us.length ≤ c ∧ c ≤ maxLen ∧ (us.length ≠ 0 → ∃ g, A' = some ⟨g, 0, none⟩ ∧ W.heap.size + 1 ≤ g ∧ ∀ j u, (flatL us)[j]? = some u → w'.cell? ⟨g, j, none⟩ = some u) := by
    rcases hown.2 with ⟨hv, hn⟩ | ⟨g, cap, cur, hv, hb', _, hle, hmx, _⟩
    · injection hv with hv1 hv2 hv3
      exact ⟨c', rfl, by omega, by unfold maxLen; omega, fun h => absurd hn h⟩
    · injection hv with hv1 hv2 hv3
      subst hv1 hv3
      refine ⟨_, rfl, hle, hmx, fun _ => ⟨g, rfl, by omega, fun j u hj => ?_⟩⟩
      have := hown.cells (g := g) rfl j u hj
      rw [← this]
      congr 1
      unfold Addr.add; split <;> simp_all
  obtain ⟨_, rfl, hlc, hcm, hcell⟩ := ho
  refine .mk 2 0 _ l A' us.length _ (fun i => us.getD i .nilIface) (by decide) (by decide) (by decide) hl hlc hcm (fun i hi => ?_) fun i t ht => ?_
  · obtain ⟨g, rfl, hg2, hc⟩ := hcell (by omega)
    refine ⟨g, 0, rfl, .inr hg2, fun j u hu => ?_⟩
    have hj : j < 4 := by
      rw [← (h4 _ (List.mem_of_getElem? (hg i hi))).1]
      exact (Array.getElem?_eq_some_iff.1 hu).1
    have := hc (4 * i + j) u (by rw [flatL_get (fun u hu => (h4 u hu).1) (hg i hi) hj]; exact hu)
    rw [Nat.zero_add]; exact this
  · have hi : i < us.length := by
      rw [hl]
      rcases Nat.lt_or_ge i l.length with h | h
      · exact h
      · rw [List.getElem?_eq_none h] at ht; cases ht
    exact ((sub i t _ ht (hg i hi)).under hb0).mono fun b hb => .inl hb
/-- The list of the items that lie one behind the other in the newest block. -/
theorem list_in {base : Nat} {l : List Tree} {us : List Value} {m : Nat} {cs : Array Value} (w : World) (hcs : cs = (flatL us).toArray) (hm : m = us.length) (hl : us.length = l.length) (hbase : base ≤ w.heap.size) (hmm : m ≤ 1000000000)
    (sub : ∀ (i : Nat) (t : Tree) (u : Value), l[i]? = some t → us[i]? = some u → HoldsIn w (fun b => base ≤ b) t u) :
    Calls Tryd.prog 67 #[.slice (some ⟨w.heap.size, 0, none⟩) m m] (w.alloc (.cells cs 56))
      (fun e w' => ∃ A' c', e = .returned (.agg #[.int .i64 2, .int .u64 0, .string ByteArray.empty, .slice A' m c']) ∧ HoldsIn w' (fun b => base ≤ b) (.mk 2 0 ByteArray.empty l) (.agg #[.int .i64 2, .int .u64 0, .string ByteArray.empty, .slice A' m c']) ∧ Below (w.alloc (.cells cs 56)).heap.size (w.alloc (.cells cs 56)) w') := by
  subst hcs hm
  have hg : ∀ i, i < us.length → us[i]? = some (us.getD i .nilIface) := fun i hi => by simp [List.getD, List.getElem?_eq_getElem hi]
  have h4 : ∀ u ∈ us, u.cells.size = 4 ∧ ∀ x ∈ u.cells.toList, x.oneCell' = true := fun u hu => by
    obtain ⟨i, hi, rfl⟩ := List.mem_iff_getElem.1 hu
    exact (sub i l[i] _ (List.getElem?_eq_getElem (by omega)) (List.getElem?_eq_getElem hi)).four
  have hsrc : Src (w.alloc (.cells (flatL us).toArray 56)) 4 (some ⟨w.heap.size, 0, none⟩) us.length (flatL us) := by
    refine ⟨by rw [flatL_length fun u hu => (h4 u hu).1]; try omega, fun j x hj => ⟨_, rfl, ?_⟩, fun x hx => ?_⟩
    · have hadd : (⟨w.heap.size, 0, none⟩ : Addr).add j = ⟨w.heap.size, j, none⟩ := by unfold Addr.add; split <;> simp_all
      rw [hadd]
      exact (new_cell w (flatL us).toArray 56 j (by simpa using hj)).1
    · simp only [flatL, List.mem_flatMap] at hx
      obtain ⟨u, hu, hx⟩ := hx
      exact (h4 u hu).2 x hx
  refine (codeclist_src _ us.length us.length (flatL us) _ hsrc hmm).mono ?_
  rintro e w' ⟨A', c', rfl, hown, hb⟩
  have hb0 : Below w.heap.size w w' := by
    exact below_call (below_one _) hb (by simp)
  refine ⟨A', c', rfl, ?_, hb⟩
  have hrow : RowS w' base (.slice A' us.length c') l us := by
    refine ⟨⟨hown.1, hown.2.imp id fun ⟨g, cap, cur, hv, hg, hr⟩ => ⟨g, cap, cur, hv, by simp at hg; omega, hr⟩⟩, by omega, fun i t u ht hu => ?_⟩
    refine ((sub i t u ht hu).there.under hb0).mono fun b hb => ⟨hb.1, fun e => ?_⟩
    have := (hown.lt b e.symm).1
    simp at this
    omega
  exact hrow.node hl
end Go.Proofs.YtmgiholmhhjpaaaDoor

namespace Go.Proofs.YtmgiholmhhjpaaaDoor
open Go.RowKit
set_option linter.unusedVariables false
set_option linter.unusedSimpArgs false
set_option maxRecDepth 20000
attribute [local go_sem ↓] Go.wp_at_zero Go.wp_at_succ
attribute [local go_sem] World.cell?_alloc_some frozen_alloc_some
attribute [local go_sem] lt2 lt3 lt4 lt5
attribute [local simp] lt2 lt3 lt4 lt5

/-- A number as the program turns it to an item's. -/
def u64n (a : Int) : Nat := (IntKind.u64.wrap a).toNat
theorem u64n_cast (a : Int) : IntKind.u64.wrap a = ((u64n a : Nat) : Int) := by
  have e : IntKind.u64.wrap a = a % 18446744073709551616 := by simp [IntKind.wrap, IntKind.bits, IntKind.signed]
  unfold u64n; rw [e]; omega
theorem u64n_lt (a : Int) : u64n a < 2 ^ 64 := by
  have e : IntKind.u64.wrap a = a % 18446744073709551616 := by simp [IntKind.wrap, IntKind.bits, IntKind.signed]
  unfold u64n; rw [e]; omega
theorem u64n_of {a : Int} (h : 0 ≤ a) (h' : a < 2 ^ 63) : u64n a = a.toNat := by
  have e : IntKind.u64.wrap a = a % 18446744073709551616 := by simp [IntKind.wrap, IntKind.bits, IntKind.signed]
  unfold u64n; rw [e]; omega
def ntree (a : Int) : Tree := .mk 0 (u64n a) ByteArray.empty []
def ltree (l : List Tree) : Tree := .mk 2 0 ByteArray.empty l
abbrev listV (A : Option Addr) (m c : Nat) : Value := .agg #[.int .i64 2, .int .u64 0, .string ByteArray.empty, .slice A m c]
theorem Blk.drew {w : World} {g : Nat} {t : TypeId} {cs : Array Value} (h : Blk w g t cs) : Blk w.drew g t cs := h.keep (Below.refl _ _).drew
theorem hin_set4 {w : World} {S : Nat → Prop} {t : Tree} {v : Value} (h : HoldsIn w S t v) {g : Nat} (hp : ¬ S g) (a b c d : Value) : HoldsIn ((((w.setCell ⟨g, 0, none⟩ a).setCell ⟨g, 1, none⟩ b).setCell ⟨g, 2, none⟩ c).setCell ⟨g, 3, none⟩ d) S t v :=
  (((h.set (p := ⟨g, 0, none⟩) hp a).set (p := ⟨g, 1, none⟩) hp b).set (p := ⟨g, 2, none⟩) hp c).set (p := ⟨g, 3, none⟩) hp d
end Go.Proofs.YtmgiholmhhjpaaaDoor

namespace Go.Proofs.YtmgiholmhhjpaaaDoor
open Go.RowKit
set_option linter.unusedVariables false
set_option linter.unusedSimpArgs false
set_option maxRecDepth 20000
attribute [local go_sem ↓] Go.wp_at_zero Go.wp_at_succ
attribute [local go_sem] World.cell?_alloc_some frozen_alloc_some
attribute [local go_sem] lt2 lt3 lt4 lt5
attribute [local simp] lt2 lt3 lt4 lt5

def btree (a b : Int) : Tree := ltree [ntree a, ntree b]
set_option maxHeartbeats 4000000 in
theorem balitem_any (a b : Int) (w : World) : Calls Tryd.prog 69 #[.agg #[.int .i64 a, .int .i64 b]] w
    (fun e w' => ∃ A c, e = .returned (listV A 2 c) ∧ HoldsIn w' (fun x => w.heap.size ≤ x) (btree a b) (listV A 2 c) ∧ Below w.heap.size w w') := by
  have wa := u64n_cast a
  have wb := u64n_cast b
  have hna := fun W => num_any (u64n a) W
  have hnb := fun W => num_any (u64n b) W
  have hli : ∀ W : World, w.heap.size + 2 ≤ W.heap.size → Calls Tryd.prog 67 #[.slice (some ⟨W.heap.size, 0, none⟩) 2 2] (W.alloc (.cells #[.int .i64 0, .int .u64 (u64n a : Int), .string ByteArray.empty, .slice none 0 0, .int .i64 0, .int .u64 (u64n b : Int), .string ByteArray.empty, .slice none 0 0] 56))
      (fun e w' => ∃ A' c', e = .returned (.agg #[.int .i64 2, .int .u64 0, .string ByteArray.empty, .slice A' 2 c']) ∧ HoldsIn w' (fun x => w.heap.size + 2 ≤ x) (btree a b) (.agg #[.int .i64 2, .int .u64 0, .string ByteArray.empty, .slice A' 2 c']) ∧ Below (W.alloc (.cells #[.int .i64 0, .int .u64 (u64n a : Int), .string ByteArray.empty, .slice none 0 0, .int .i64 0, .int .u64 (u64n b : Int), .string ByteArray.empty, .slice none 0 0] 56)).heap.size (W.alloc (.cells #[.int .i64 0, .int .u64 (u64n a : Int), .string ByteArray.empty, .slice none 0 0, .int .i64 0, .int .u64 (u64n b : Int), .string ByteArray.empty, .slice none 0 0] 56)) w') := fun W h =>
    list_in (us := [numV (u64n a), numV (u64n b)]) W (by simp [flatL, numV, Value.cells]) rfl rfl h (by decide) (fun i t u ht hu => by
      match i with
      | 0 => simp at ht hu; subst ht hu; exact hin_num _ _ (u64n_lt a)
      | 1 => simp at ht hu; subst ht hu; exact hin_num _ _ (u64n_lt b)
      | i + 2 => simp at ht)
  unfold numV at hna hnb
  have Hli := Lib.hid hli
  clear hli
  go_enter Tryd.func69, Tryd.ntmps69
  go_upto_region 1 with fail
  have R0 : Blk ((w.alloc (.cells #[.int .i64 a, .int .i64 b] 30)).alloc (.cells #[.int .i64 0, .int .u64 0, .string ⟨#[]⟩, .slice none 0 0] 56)).drew (w.heap.size + 1) 56 #[.int .i64 0, .int .u64 0, .string ⟨#[]⟩, .slice none 0 0] := (Blk.newAt (by simp)).drew
  have b0 : Below w.heap.size w ((w.alloc (.cells #[.int .i64 a, .int .i64 b] 30)).alloc (.cells #[.int .i64 0, .int .u64 0, .string ⟨#[]⟩, .slice none 0 0] 56)).drew := by ((repeat' first | with_reducible exact Below.refl _ _ | with_reducible assumption | with_reducible refine Below.alloc ?_ ?_ _ | with_reducible refine Below.setCell ?_ ?_ _ | with_reducible apply Below.drew | with_reducible apply below_drewN | with_reducible refine below_call ?_ (by with_reducible assumption) ?_) <;> (first | omega | (simp; done) | (simp; omega) | (simp at *; omega)))
  (refine wp_region_held_drew (S := (S2 ⟨w.heap.size, 0, none⟩ ⟨w.heap.size, 1, none⟩ (.int .i64 a) (.int .i64 b))) (by kernel_rfl) ?_ (fun hHeld => ?_); (· exact S2.drew ⟨by simp [go_sem], by simp [go_sem]⟩))
  (refine take_op (i := 0) (v := ?_) rfl (by kernel_rfl) (by kernel_rfl) (by kernel_rfl) (fun _ _ _ h => h) (by rfl) ?_ hHeld ?_; rotate_left; (· (intro wS hSw; (try dsimp only at hSw); go_simp; first | done | with_reducible rfl)); simp only [Act.put, List.setIfInBounds_toArray, List.set_cons_zero, List.set_cons_succ]); (refine take_op (i := 1) (v := ?_) rfl (by kernel_rfl) (by kernel_rfl) (by kernel_rfl) (fun _ _ _ h => h) (by rfl) ?_ hHeld ?_; rotate_left; (· (intro wS hSw; (try dsimp only at hSw); go_simp; first | done | with_reducible rfl)); simp only [Act.put, List.setIfInBounds_toArray, List.set_cons_zero, List.set_cons_succ]); (refine take_op (i := 2) (v := ?_) rfl (by kernel_rfl) (by kernel_rfl) (by kernel_rfl) (fun _ _ _ h => h) (by rfl) ?_ hHeld ?_; rotate_left; (· (intro wS hSw; (try dsimp only at hSw); go_simp; first | done | with_reducible rfl)); simp only [Act.put, List.setIfInBounds_toArray, List.set_cons_zero, List.set_cons_succ]); (refine take_op (i := 4) (v := ?_) rfl (by kernel_rfl) (by kernel_rfl) (by kernel_rfl) (fun _ _ _ h => h) (by rfl) ?_ hHeld ?_; rotate_left; (· (intro wS hSw; (try dsimp only at hSw); go_simp; first | done | with_reducible rfl)); simp only [Act.put, List.setIfInBounds_toArray, List.set_cons_zero, List.set_cons_succ]); (refine take_op (i := 5) (v := ?_) rfl (by kernel_rfl) (by kernel_rfl) (by kernel_rfl) (fun _ _ _ h => h) (by rfl) ?_ hHeld ?_; rotate_left; (· (intro wS hSw; (try dsimp only at hSw); go_simp; first | done | with_reducible rfl)); simp only [Act.put, List.setIfInBounds_toArray, List.set_cons_zero, List.set_cons_succ]); (refine take_op (i := 6) (v := ?_) rfl (by kernel_rfl) (by kernel_rfl) (by kernel_rfl) (fun _ _ _ h => h) (by rfl) ?_ hHeld ?_; rotate_left; (· (intro wS hSw; (try dsimp only at hSw); go_simp; first | done | with_reducible rfl)); simp only [Act.put, List.setIfInBounds_toArray, List.set_cons_zero, List.set_cons_succ])
  (refine call_op (i := 3) rfl (by kernel_rfl) (by rfl) (fun K hK => ?_); go_simp; (go_at_call 68; (with_reducible refine (hna _).mono ?_); rintro e w1 ⟨rfl, hb1⟩; have R1 := R0.keep hb1; have z1 := hb1.size; (try simp at z1)); refine hK.out _ _ (hHeld.keep hb1) (fun hHeld2 => ?_); clear hK K hHeld; have hHeld := hHeld2; clear hHeld2; (try simp only [Act.put, List.setIfInBounds_toArray, List.set_cons_zero, List.set_cons_succ]))
  (refine call_op (i := 7) rfl (by kernel_rfl) (by rfl) (fun K hK => ?_); go_simp; (go_at_call 68; (with_reducible refine (hnb _).mono ?_); rintro e w2 ⟨rfl, hb2⟩; have R2 := R1.keep hb2; have z2 := hb2.size); refine hK.out _ _ (hHeld.keep hb2) (fun hHeld2 => ?_); clear hK K hHeld; have hHeld := hHeld2; clear hHeld2; (try simp only [Act.put, List.setIfInBounds_toArray, List.set_cons_zero, List.set_cons_succ]))
  (refine call_op (i := 8) rfl (by kernel_rfl) (by rfl) (fun K hK => ?_); go_simp; skip; refine hK.out _ _ (hHeld.keep (below_one _)) (fun hHeld2 => ?_); clear hK K hHeld; have hHeld := hHeld2; clear hHeld2; (try simp only [Act.put, List.setIfInBounds_toArray, List.set_cons_zero, List.set_cons_succ]))
  (refine call_op (i := 9) rfl (by kernel_rfl) (by rfl) (fun K hK => ?_); go_simp; (go_at_call 67; (with_reducible refine (Hli.out w2 (by omega)).mono ?_); rintro e w3 ⟨A3, c3, rfl, hin, hb3⟩; have Hin := Lib.hid hin; clear hin; have R3 := (R2.alloc _).keep hb3; have z3 := hb3.size; (try simp at z3); have R3c := R3.cell; have R3f := R3.frozen); refine hK.out _ _ ((hHeld.keep hb3)) (fun hHeld2 => ?_); clear hK K hHeld; have hHeld := hHeld2; clear hHeld2; (try simp only [Act.put, List.setIfInBounds_toArray, List.set_cons_zero, List.set_cons_succ]))
  have hbw : Below w.heap.size w w3 := by ((repeat' first | with_reducible exact Below.refl _ _ | with_reducible assumption | with_reducible refine Below.alloc ?_ ?_ _ | with_reducible refine Below.setCell ?_ ?_ _ | with_reducible apply Below.drew | with_reducible apply below_drewN | with_reducible refine below_call ?_ (by with_reducible assumption) ?_) <;> (first | omega | (simp; done) | (simp; omega) | (simp at *; omega)))
  (refine call_op (i := 10) rfl (by kernel_rfl) (by rfl) (fun K hK => ?_); go_simp; skip; refine hK.out _ _ (hHeld.below (B := w.heap.size + 1) (by ((repeat' first | with_reducible exact Below.refl _ _ | with_reducible assumption | with_reducible refine Below.alloc ?_ ?_ _ | with_reducible refine Below.setCell ?_ ?_ _ | with_reducible apply Below.drew | with_reducible apply below_drewN | with_reducible refine below_call ?_ (by with_reducible assumption) ?_) <;> (first | omega | (simp; done) | (simp; omega) | (simp at *; omega)))) (by simp) (by simp)) (fun hHeld2 => ?_); clear hK K hHeld; have hHeld := hHeld2; clear hHeld2; (try simp only [Act.put, List.setIfInBounds_toArray, List.set_cons_zero, List.set_cons_succ]))
  (refine wpAnyH_done (by kernel_rfl) ?_ _)
  go_wp2_with fail
  refine bodyPost_ret (v := listV A3 2 c3) (by simp [results, Tryd.results69, go_sem, *] <;> rfl) rfl ?_
  exact ⟨A3, c3, rfl, (hin_set4 Hin.out (by simp) _ _ _ _).mono fun b hb => by omega, by ((repeat' first | with_reducible exact Below.refl _ _ | with_reducible assumption | with_reducible refine Below.alloc ?_ ?_ _ | with_reducible refine Below.setCell ?_ ?_ _ | with_reducible apply Below.drew | with_reducible apply below_drewN | with_reducible refine below_call ?_ (by with_reducible assumption) ?_) <;> (first | omega | (simp; done) | (simp; omega) | (simp at *; omega)))⟩
end Go.Proofs.YtmgiholmhhjpaaaDoor
