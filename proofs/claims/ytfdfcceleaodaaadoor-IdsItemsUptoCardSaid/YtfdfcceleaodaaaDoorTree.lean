/- Trees of numbers, texts and lists: what is wrong with one, its form, its size. Plain: no program in sight. -/
import Derived.Test.YtfdfcceleaodaaaDoorNumMath
namespace Go.Proofs.YtfdfcceleaodaaaDoor
set_option linter.unusedVariables false

inductive Tree where
  | mk (kind : Int) (n : Nat) (s : ByteArray) (l : List Tree)

instance : Inhabited Tree := ⟨.mk 0 0 ByteArray.empty []⟩
theorem Tree.ind {P : Tree → Prop} (h : ∀ k n s l, (∀ t ∈ l, P t) → P (.mk k n s l)) : ∀ t, P t
  | .mk k n s l => h k n s l fun t ht => Tree.ind h t
termination_by t => SizeOf.sizeOf t
decreasing_by
  have := List.sizeOf_lt_of_mem ht
  simp
  omega

/-- The bytes of a text. -/
def txt (s : ByteArray) : List Nat := s.data.toList.map UInt8.toNat
theorem txt_length (s : ByteArray) : (txt s).length = s.size := by rw [txt, List.length_map]; rfl
theorem txt_lt (s : ByteArray) : ∀ c ∈ txt s, c < 256 := by
  intro c hc
  simp only [txt, List.mem_map] at hc
  obtain ⟨u, _, rfl⟩ := hc
  exact u.toNat_lt

/-- A node that is wrong by itself. -/
def bad (k : Int) (n : Nat) (s : ByteArray) (l : List Tree) : Bool := decide (¬ (k = 0 ∨ k = 1 ∨ k = 2) ∨ k ≠ 0 ∧ n ≠ 0 ∨ k ≠ 1 ∧ s.size ≠ 0 ∨ k ≠ 2 ∧ 0 < l.length)
mutual
/-- What is wrong with a tree that is nested so deep: an error's number. -/
def check : Tree → Nat → Nat
  | .mk k n s l, d => if bad k n s l = true then 4 else if d = 16 then 12 else checks l (d + 1)
def checks : List Tree → Nat → Nat
  | [], _ => 0
  | t :: l, d => if check t d = 0 then checks l d else check t d
end
mutual
/-- A tree's form. -/
def tform : Tree → List Nat
  | .mk k n s l => if k = 0 then 0 :: form n else if k = 1 then 1 :: (form s.size ++ txt s) else 2 :: (form l.length ++ tforms l)
def tforms : List Tree → List Nat
  | [] => []
  | t :: l => tform t ++ tforms l
end
mutual
def tsize : Tree → Nat
  | .mk k n s l => 1 + s.size + tsizes l
def tsizes : List Tree → Nat
  | [] => 0
  | t :: l => tsize t + tsizes l
end
theorem tforms_append (a b : List Tree) : tforms (a ++ b) = tforms a ++ tforms b := by
  induction a with
  | nil => rfl
  | cons t a ih => simp only [List.cons_append, tforms, ih, List.append_assoc]
theorem tforms_take {l : List Tree} {k : Nat} {t : Tree} (h : l[k]? = some t) : tforms (l.take (k + 1)) = tforms (l.take k) ++ tform t := by
  rw [List.take_add_one, h, tforms_append]
  simp [tforms]
theorem tsizes_append (a b : List Tree) : tsizes (a ++ b) = tsizes a + tsizes b := by
  induction a with
  | nil => simp [tsizes]
  | cons t a ih => simp only [List.cons_append, tsizes, ih]; omega
theorem tsizes_mem {l : List Tree} {t : Tree} (h : t ∈ l) : tsize t ≤ tsizes l := by
  induction l with
  | nil => cases h
  | cons u l ih =>
    simp only [tsizes]
    rcases List.mem_cons.1 h with rfl | h
    · omega
    · have := ih h; omega
theorem tsizes_len (l : List Tree) : l.length ≤ tsizes l := by
  induction l with
  | nil => simp
  | cons t l ih => obtain ⟨k, n, s, m⟩ := t; simp only [List.length_cons, tsizes, tsize]; omega
/-- The first that is wrong. -/
theorem checks_zero {l : List Tree} {d : Nat} : checks l d = 0 ↔ ∀ t ∈ l, check t d = 0 := by
  induction l with
  | nil => simp [checks]
  | cons t l ih =>
    simp only [checks]
    by_cases h : check t d = 0
    · rw [if_pos h, ih]; simp [h]
    · rw [if_neg h]; simp [h]
theorem checks_first {l : List Tree} {d k : Nat} {t : Tree} (hk : l[k]? = some t) (h0 : checks (l.take k) d = 0) (h : check t d ≠ 0) : checks l d = check t d := by
  induction l generalizing k with
  | nil => simp at hk
  | cons u l ih =>
    cases k with
    | zero => simp at hk; subst hk; simp only [checks]; rw [if_neg h]
    | succ k =>
      simp only [List.take_succ_cons, checks] at h0
      by_cases hu : check u d = 0
      · rw [if_pos hu] at h0
        simp only [checks]
        rw [if_pos hu]
        exact ih (by simpa using hk) h0
      · rw [if_neg hu] at h0; exact absurd h0 hu
theorem checks_take {l : List Tree} {d k : Nat} {t : Tree} (hk : l[k]? = some t) (h0 : checks (l.take k) d = 0) (h : check t d = 0) : checks (l.take (k + 1)) d = 0 := by
  rw [checks_zero] at h0 ⊢
  intro u hu
  rw [List.take_add_one, hk] at hu
  rcases List.mem_append.1 hu with hu | hu
  · exact h0 u hu
  · simp at hu; subst hu; exact h
theorem check_errs (t : Tree) : ∀ d, check t d = 0 ∨ check t d = 4 ∨ check t d = 12 := by
  refine Tree.ind (P := fun t => ∀ d, check t d = 0 ∨ check t d = 4 ∨ check t d = 12) ?_ t
  intro k n s l ih d
  simp only [check]
  split
  · exact .inr (.inl rfl)
  · split
    · exact .inr (.inr rfl)
    · have : ∀ m : List Tree, (∀ u ∈ m, u ∈ l) → (checks m (d + 1) = 0 ∨ checks m (d + 1) = 4 ∨ checks m (d + 1) = 12) := by
        intro m
        induction m with
        | nil => intro _; exact .inl rfl
        | cons u m ihm =>
          intro hm
          simp only [checks]
          split
          · exact ihm fun v hv => hm v (by simp [hv])
          · exact ih u (hm u (by simp)) (d + 1)
      exact this l fun u hu => hu

/-- A right tree's node. -/
theorem check_node {k : Int} {n : Nat} {s : ByteArray} {l : List Tree} {d : Nat} (h : check (.mk k n s l) d = 0) : bad k n s l = false ∧ d ≠ 16 ∧ checks l (d + 1) = 0 := by
  simp only [check] at h
  split at h
  · cases h
  · rename_i hb
    split at h
    · cases h
    · rename_i hd
      exact ⟨by simpa using hb, hd, h⟩

mutual
/-- How many items and bytes there are, up to so many, and so deep. -/
def csize (most : Nat) : Nat → Tree → Nat
  | 0, _ => most + 1
  | d + 1, .mk k n s l => csizes most d (1 + s.size) l
def csizes (most : Nat) : Nat → Nat → List Tree → Nat
  | _, acc, [] => acc
  | d, acc, t :: l => if acc ≤ most then csizes most d (acc + csize most d t) l else acc
end
theorem form_len {v : Nat} (h : v < 2 ^ 64) : (form v).length ≤ 9 := by
  rw [size_form]; have := wid_bound h; unfold size; split <;> omega
end Go.Proofs.YtfdfcceleaodaaaDoor
