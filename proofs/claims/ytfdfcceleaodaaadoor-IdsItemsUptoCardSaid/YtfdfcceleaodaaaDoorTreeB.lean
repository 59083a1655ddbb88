/- Trees: two that are right have one form just if they are the same; the document's measure. Plain: no program in sight. -/
import Derived.Test.YtfdfcceleaodaaaDoorTree
namespace Go.Proofs.YtfdfcceleaodaaaDoor
set_option linter.unusedVariables false

/-- Numbers below 2^64, texts and lists that are not too long. -/
inductive Fit : Tree → Prop where
  | mk (k : Int) (n : Nat) (s : ByteArray) (l : List Tree) (hn : n < 2 ^ 64) (hs : s.size < 2 ^ 64) (hl : l.length < 2 ^ 64) (h : ∀ t ∈ l, Fit t) : Fit (.mk k n s l)
theorem Fit.out {k : Int} {n : Nat} {s : ByteArray} {l : List Tree} (h : Fit (.mk k n s l)) : n < 2 ^ 64 ∧ s.size < 2 ^ 64 ∧ l.length < 2 ^ 64 ∧ ∀ t ∈ l, Fit t := by
  cases h with
  | mk _ _ _ _ a b c d => exact ⟨a, b, c, d⟩

theorem empty_of_size {s : ByteArray} (h : s.size = 0) : s = ByteArray.empty := by
  obtain ⟨⟨l⟩⟩ := s
  have : l = [] := List.eq_nil_of_length_eq_zero h
  subst this
  rfl
theorem bad_parts {k : Int} {n : Nat} {s : ByteArray} {l : List Tree} (h : bad k n s l = false) :
    (k = 0 ∧ s = ByteArray.empty ∧ l = []) ∨ (k = 1 ∧ n = 0 ∧ l = []) ∨ (k = 2 ∧ n = 0 ∧ s = ByteArray.empty) := by
  simp only [bad, decide_eq_false_iff_not] at h
  have hk : k = 0 ∨ k = 1 ∨ k = 2 := Classical.byContradiction fun hh => h (.inl hh)
  have hn : k ≠ 0 → n = 0 := fun h1 => Classical.byContradiction fun hh => h (.inr (.inl ⟨h1, hh⟩))
  have hs : k ≠ 1 → s = ByteArray.empty := fun h1 => empty_of_size (Classical.byContradiction fun hh => h (.inr (.inr (.inl ⟨h1, hh⟩))))
  have hl : k ≠ 2 → l = [] := fun h1 => List.eq_nil_of_length_eq_zero (Classical.byContradiction fun hh => h (.inr (.inr (.inr ⟨h1, by omega⟩))))
  rcases hk with rfl | rfl | rfl
  · exact .inl ⟨rfl, hs (by decide), hl (by decide)⟩
  · exact .inr (.inl ⟨rfl, hn (by decide), hl (by decide)⟩)
  · exact .inr (.inr ⟨rfl, hn (by decide), hs (by decide)⟩)
theorem txt_inj {s t : ByteArray} (h : txt s = txt t) : s = t := by
  obtain ⟨⟨a⟩⟩ := s
  obtain ⟨⟨b⟩⟩ := t
  have hab : a = b := by
    have h' : a.map UInt8.toNat = b.map UInt8.toNat := h
    exact List.map_inj_right (fun x y hxy => UInt8.toNat_inj.1 hxy) |>.1 h'
  rw [hab]
/-- The number at the front is told by what follows. -/
theorem form_split {a b : Nat} {r s : List Nat} (h : form a ++ r = form b ++ s) : a = b ∧ r = s := by
  have h1 := ntake_form a r
  have h2 := ntake_form b s
  rw [h, h2] at h1
  injection h1 with h1 _
  subst h1
  exact ⟨rfl, List.append_cancel_left h⟩
theorem tform_split (t : Tree) : ∀ (u : Tree) (d d' : Nat) (r s : List Nat), check t d = 0 → check u d' = 0 → tform t ++ r = tform u ++ s → t = u ∧ r = s := by
  refine Tree.ind (P := fun t => ∀ (u : Tree) (d d' : Nat) (r s : List Nat), check t d = 0 → check u d' = 0 → tform t ++ r = tform u ++ s → t = u ∧ r = s) ?_ t
  intro k n s l ih u d d' r r' ht hu he
  obtain ⟨k2, n2, s2, l2⟩ := u
  obtain ⟨hb, _, hc⟩ := check_node ht
  obtain ⟨hb2, _, hc2⟩ := check_node hu
  rcases bad_parts hb with ⟨rfl, rfl, rfl⟩ | ⟨rfl, rfl, rfl⟩ | ⟨rfl, rfl, rfl⟩ <;> rcases bad_parts hb2 with ⟨rfl, rfl, rfl⟩ | ⟨rfl, rfl, rfl⟩ | ⟨rfl, rfl, rfl⟩ <;> simp [tform] at he
  · obtain ⟨rfl, rfl⟩ := form_split he
    exact ⟨rfl, rfl⟩
  · obtain ⟨h1, h2⟩ := form_split he
    have h3 : (txt s).length = (txt s2).length := by rw [txt_length, txt_length]; exact h1
    obtain ⟨h4, h5⟩ := List.append_inj h2 h3
    rw [txt_inj h4]
    exact ⟨rfl, h5⟩
  · obtain ⟨h1, h2⟩ := form_split he
    have key : ∀ (a b : List Tree) (x y : List Nat), a.length = b.length → (∀ t ∈ a, t ∈ l) → checks a (d + 1) = 0 → checks b (d' + 1) = 0 → tforms a ++ x = tforms b ++ y → a = b ∧ x = y := by
      intro a
      induction a with
      | nil =>
        intro b x y hl _ _ _ h
        have : b = [] := List.eq_nil_of_length_eq_zero (by simpa using hl.symm)
        subst this
        exact ⟨rfl, by simpa [tforms] using h⟩
      | cons t a iha =>
        intro b x y hl hm ha hb h
        cases b with
        | nil => simp at hl
        | cons u b =>
          simp only [tforms, List.append_assoc] at h
          rw [checks_zero] at ha hb
          obtain ⟨rfl, h6⟩ := ih t (hm t (by simp)) u _ _ _ _ (ha t (by simp)) (hb u (by simp)) h
          obtain ⟨rfl, h7⟩ := iha b x y (by simpa using hl) (fun v hv => hm v (by simp [hv])) (checks_zero.2 fun v hv => ha v (by simp [hv])) (checks_zero.2 fun v hv => hb v (by simp [hv])) h6
          exact ⟨rfl, h7⟩
    obtain ⟨rfl, h5⟩ := key l l2 r r' h1 (fun t h => h) hc hc2 h2
    exact ⟨rfl, h5⟩
theorem tform_inj {t u : Tree} (ht : check t 0 = 0) (hu : check u 0 = 0) (h : tform t = tform u) : t = u :=
  (tform_split t u 0 0 [] [] ht hu (by rw [h])).1
theorem tform_bytes (t : Tree) : Fit t → ∀ c ∈ tform t, c < 256 := by
  refine Tree.ind (P := fun t => Fit t → ∀ c ∈ tform t, c < 256) ?_ t
  intro k n s l ih hf
  obtain ⟨hn, hs, hl, hsub⟩ := hf.out
  have key : ∀ a : List Tree, (∀ t ∈ a, t ∈ l) → ∀ c ∈ tforms a, c < 256 := by
    intro a
    induction a with
    | nil => intro _ c hc; simp [tforms] at hc
    | cons t a iha =>
      intro hm c hc
      simp only [tforms] at hc
      rcases List.mem_append.1 hc with hc | hc
      · exact ih t (hm t (by simp)) (hsub t (hm t (by simp))) c hc
      · exact iha (fun v hv => hm v (by simp [hv])) c hc
  intro c hc
  simp only [tform] at hc
  split at hc
  · rcases List.mem_cons.1 hc with rfl | hc
    · omega
    · exact form_bytes hn c hc
  · split at hc
    · rcases List.mem_cons.1 hc with rfl | hc
      · omega
      · rcases List.mem_append.1 hc with hc | hc
        · exact form_bytes hs c hc
        · exact txt_lt s c hc
    · rcases List.mem_cons.1 hc with rfl | hc
      · omega
      · rcases List.mem_append.1 hc with hc | hc
        · exact form_bytes hl c hc
        · exact key l (fun t h => h) c hc
/-- A form is at most ten times as long as the tree is great. -/
theorem tform_len (t : Tree) : Fit t → (tform t).length ≤ 10 * tsize t := by
  refine Tree.ind (P := fun t => Fit t → (tform t).length ≤ 10 * tsize t) ?_ t
  intro k n s l ih hf
  obtain ⟨hn, hs, hl, hsub⟩ := hf.out
  have key : ∀ a : List Tree, (∀ t ∈ a, t ∈ l) → (tforms a).length ≤ 10 * tsizes a := by
    intro a
    induction a with
    | nil => intro _; simp [tforms]
    | cons t a iha =>
      intro hm
      simp only [tforms, tsizes, List.length_append]
      have h1 := ih t (hm t (by simp)) (hsub t (hm t (by simp)))
      have h2 := iha (fun v hv => hm v (by simp [hv]))
      omega
  have h1 := key l (fun t h => h)
  have h2 := form_len hn
  have h3 := form_len hs
  have h4 := form_len hl
  simp only [tform, tsize]
  split
  · simp only [List.length_cons]; omega
  · split
    · simp only [List.length_cons, List.length_append, txt_length]; omega
    · simp only [List.length_cons, List.length_append]; omega

/-- The document's measure: what it tells up to its bound is how great the tree is. -/
theorem csize_spec (most : Nat) : ∀ (d : Nat) (t : Tree), csize most d t ≤ most → tsize t = csize most d t := by
  intro d
  induction d with
  | zero => intro t h; simp [csize] at h; omega
  | succ d ih =>
    intro t h
    obtain ⟨k, n, s, l⟩ := t
    simp only [csize] at h ⊢
    have key : ∀ (a : List Tree) (acc : Nat), csizes most d acc a ≤ most → acc + tsizes a = csizes most d acc a := by
      intro a
      induction a with
      | nil => intro acc _; simp [tsizes, csizes]
      | cons t a iha =>
        intro acc h
        simp only [csizes] at h ⊢
        split at h
        · rename_i hle
          rw [if_pos hle]
          have hge : ∀ (b : List Tree) (acc : Nat), acc ≤ csizes most d acc b := by
            intro b
            induction b with
            | nil => intro acc; simp [csizes]
            | cons u b ihb =>
              intro acc
              simp only [csizes]
              split
              · have := ihb (acc + csize most d u); omega
              · omega
          have h1 := hge a (acc + csize most d t)
          have h2 := ih t (by omega)
          have h3 := iha _ h
          simp only [tsizes]
          omega
        · rename_i hle
          exact absurd h hle
    have := key l (1 + s.size) h
    simp only [tsize]
    omega
theorem csizes_append (most d : Nat) (a b : List Tree) : ∀ acc, csizes most d acc (a ++ b) = csizes most d (csizes most d acc a) b := by
  induction a with
  | nil => intro acc; simp [csizes]
  | cons t a ih =>
    intro acc
    simp only [List.cons_append, csizes]
    split
    · exact ih _
    · rename_i h
      cases b with
      | nil => simp [csizes]
      | cons u b => simp [csizes, h]
theorem csizes_stop {most d acc : Nat} (h : most < acc) (b : List Tree) : csizes most d acc b = acc := by
  cases b with
  | nil => simp [csizes]
  | cons u b => simp only [csizes]; rw [if_neg (by omega)]
theorem csizes_take {most d acc k : Nat} {l : List Tree} {t : Tree} (hk : l[k]? = some t) (h : csizes most d acc (l.take k) ≤ most) :
    csizes most d acc (l.take (k + 1)) = csizes most d acc (l.take k) + csize most d t := by
  rw [List.take_add_one, hk, csizes_append]
  simp [csizes, h]
theorem csizes_done {most d acc k : Nat} {l : List Tree} (h : most < csizes most d acc (l.take k)) : csizes most d acc l = csizes most d acc (l.take k) := by
  conv => lhs; rw [← List.take_append_drop k l, csizes_append]
  exact csizes_stop h _
theorem csize_le (most : Nat) : ∀ (d : Nat) (t : Tree), csize most d t ≤ (most + 2) * tsize t := by
  intro d
  induction d with
  | zero =>
    intro t
    obtain ⟨k, n, s, l⟩ := t
    simp only [csize, tsize]
    have : (most + 2) * 1 ≤ (most + 2) * (1 + s.size + tsizes l) := Nat.mul_le_mul_left _ (by omega)
    omega
  | succ d ih =>
    intro t
    obtain ⟨k, n, s, l⟩ := t
    simp only [csize, tsize]
    have key : ∀ (a : List Tree) (acc : Nat), csizes most d acc a ≤ acc + (most + 2) * tsizes a := by
      intro a
      induction a with
      | nil => intro acc; simp [csizes]
      | cons t a iha =>
        intro acc
        simp only [csizes, tsizes]
        have h1 := ih t
        rw [Nat.mul_add]
        split
        · have h2 := iha (acc + csize most d t)
          omega
        · omega
    have h3 := key l (1 + s.size)
    have h4 : 1 * (1 + s.size) ≤ (most + 2) * (1 + s.size) := Nat.mul_le_mul_right _ (by omega)
    rw [Nat.mul_add]
    omega
theorem csizes_le (most d : Nat) (a : List Tree) : ∀ acc, csizes most d acc a ≤ acc + (most + 2) * tsizes a := by
  induction a with
  | nil => intro acc; simp [csizes]
  | cons t a iha =>
    intro acc
    simp only [csizes, tsizes]
    have h1 := csize_le most d t
    rw [Nat.mul_add]
    split
    · have h2 := iha (acc + csize most d t)
      omega
    · omega
end Go.Proofs.YtfdfcceleaodaaaDoor
