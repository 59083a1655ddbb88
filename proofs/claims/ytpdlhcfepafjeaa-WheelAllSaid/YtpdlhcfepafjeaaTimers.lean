/- Timers, in plain Lean: their order, one more, one less, who is due; no program in sight. -/
import Derived.Test.YtpdlhcfepafjeaaIdMath
namespace Go.Proofs.Ytpdlhcfepafjeaa
set_option linter.unusedVariables false
set_option linter.unusedSimpArgs false

abbrev TimT := IdP × Int
def tLt (a b : TimT) : Prop := a.2 < b.2 ∨ a.2 = b.2 ∧ idLt a.1 b.1
instance (a b : TimT) : Decidable (tLt a b) := by unfold tLt; exact inferInstance
theorem tLt_irrefl (a : TimT) : ¬ tLt a a := by unfold tLt idLt; omega
theorem tLt_trans {a b c : TimT} (h1 : tLt a b) (h2 : tLt b c) : tLt a c := by unfold tLt idLt at *; omega
theorem tLt_asymm {a b : TimT} (h : tLt a b) : ¬ tLt b a := fun h2 => tLt_irrefl _ (tLt_trans h h2)
theorem tLt_total {a b : TimT} (h : a ≠ b) : tLt a b ∨ tLt b a := by
  obtain ⟨⟨a1, a2⟩, a3⟩ := a
  obtain ⟨⟨b1, b2⟩, b3⟩ := b
  unfold tLt idLt
  simp only [ne_eq, Prod.mk.injEq] at h ⊢
  omega
abbrev TAsc (x : List TimT) : Prop := x.Pairwise tLt
/-- No id twice. -/
abbrev Ids1 (x : List TimT) : Prop := x.Pairwise fun a b => a.1 ≠ b.1

def outT (x : List TimT) (i : IdP) : List TimT := x.filter fun t => decide (t.1 ≠ i)
def insT (t : TimT) : List TimT → List TimT
  | [] => [t]
  | u :: r => if tLt t u then t :: u :: r else u :: insT t r
def setT (x : List TimT) (t : TimT) : List TimT := insT t (outT x t.1)
def dueN (x : List TimT) (now : Int) : Nat := (x.takeWhile fun t => decide (t.2 ≤ now)).length
def findN (x : List TimT) (i : IdP) : Int := if x.any (fun t => decide (t.1 = i)) then (x.findIdx (fun t => decide (t.1 = i)) : Nat) else -1

theorem mem_outT {x : List TimT} {i : IdP} {t : TimT} : t ∈ outT x i ↔ t ∈ x ∧ t.1 ≠ i := by simp [outT]
theorem outT_take {x : List TimT} {i : IdP} {k : Nat} {t : TimT} (h : x[k]? = some t) : outT (x.take (k + 1)) i = outT (x.take k) i ++ (if t.1 = i then [] else [t]) := by
  rw [List.take_add_one, h, outT, outT, List.filter_append]
  congr 1
  by_cases e : t.1 = i <;> simp [e]
theorem outT_asc {x : List TimT} (h : TAsc x) (i : IdP) : TAsc (outT x i) := h.filter _
theorem outT_ids {x : List TimT} (h : Ids1 x) (i : IdP) : Ids1 (outT x i) := h.filter _
theorem outT_same {x : List TimT} {i : IdP} (h : ∀ t ∈ x, t.1 ≠ i) : outT x i = x := List.filter_eq_self.2 fun t ht => by simpa using h t ht
theorem outT_length {i : IdP} : ∀ {x : List TimT}, Ids1 x → (outT x i).length + (if x.any (fun t => decide (t.1 = i)) then 1 else 0) = x.length
  | [], _ => rfl
  | t :: x, h => by
    obtain ⟨h1, h2⟩ := List.pairwise_cons.1 h
    have ih := outT_length (i := i) h2
    by_cases e : t.1 = i
    · have ho : outT (t :: x) i = outT x i := by simp [outT, e]
      have hs : outT x i = x := outT_same fun u hu hui => h1 u hu (e.trans hui.symm)
      rw [ho, hs]
      simp [e]
    · have ho : outT (t :: x) i = t :: outT x i := by simp [outT, e]
      rw [ho]
      simp only [List.any_cons, e, decide_false, Bool.false_or, List.length_cons]
      omega
theorem mem_insT {t u : TimT} : ∀ {x : List TimT}, u ∈ insT t x ↔ u = t ∨ u ∈ x
  | [] => by simp [insT]
  | v :: r => by
    unfold insT
    split
    · simp
    · simp only [List.mem_cons, mem_insT (x := r)]
      constructor
      · rintro (h | h | h)
        · exact .inr (.inl h)
        · exact .inl h
        · exact .inr (.inr h)
      · rintro (h | h | h)
        · exact .inr (.inl h)
        · exact .inl h
        · exact .inr (.inr h)
theorem insT_length (t : TimT) : ∀ x : List TimT, (insT t x).length = x.length + 1
  | [] => rfl
  | v :: r => by
    unfold insT
    split
    · rfl
    · simp [insT_length t r]
theorem insT_asc {t : TimT} : ∀ {x : List TimT}, TAsc x → t ∉ x → TAsc (insT t x)
  | [], _, _ => by simp [insT]
  | v :: r, h, hn => by
    obtain ⟨h1, h2⟩ := List.pairwise_cons.1 h
    unfold insT
    split
    · rename_i hlt
      refine List.pairwise_cons.2 ⟨fun u hu => ?_, h⟩
      rcases List.mem_cons.1 hu with rfl | hu
      · exact hlt
      · exact tLt_trans hlt (h1 u hu)
    · rename_i hlt
      have hvt : tLt v t := (tLt_total fun e => hn (by rw [e]; simp)).resolve_left hlt
      refine List.pairwise_cons.2 ⟨fun u hu => ?_, insT_asc h2 fun hm => hn (List.mem_cons_of_mem _ hm)⟩
      rcases mem_insT.1 hu with rfl | hu
      · exact hvt
      · exact h1 u hu
theorem insT_ids {t : TimT} : ∀ {x : List TimT}, Ids1 x → (∀ u ∈ x, t.1 ≠ u.1) → Ids1 (insT t x)
  | [], _, _ => by simp [insT]
  | v :: r, h, hn => by
    obtain ⟨h1, h2⟩ := List.pairwise_cons.1 h
    unfold insT
    split
    · exact List.pairwise_cons.2 ⟨hn, h⟩
    · refine List.pairwise_cons.2 ⟨fun u hu => ?_, insT_ids h2 fun u hu => hn u (List.mem_cons_of_mem _ hu)⟩
      rcases mem_insT.1 hu with rfl | hu
      · exact (hn v (by simp)).symm
      · exact h1 u hu
theorem setT_asc {x : List TimT} (h : TAsc x) (t : TimT) : TAsc (setT x t) := insT_asc (outT_asc h _) fun hm => (mem_outT.1 hm).2 rfl
theorem setT_ids {x : List TimT} (h : Ids1 x) (t : TimT) : Ids1 (setT x t) := insT_ids (outT_ids h _) fun u hu e => (mem_outT.1 hu).2 e.symm
/-- How the document's loop lays one more timer into a row. -/
def laying (t : TimT) (x : List TimT) : Bool := x.any fun u => decide (tLt t u)
theorem insT_none {t : TimT} : ∀ {x : List TimT}, laying t x = false → insT t x = x ++ [t]
  | [], _ => rfl
  | v :: r, h => by
    simp only [laying, List.any_cons, Bool.or_eq_false_iff, decide_eq_false_iff_not] at h
    rw [insT, if_neg h.1, insT_none h.2]
    rfl
theorem insT_snoc {t u : TimT} : ∀ {x : List TimT}, laying t x = true → insT t (x ++ [u]) = insT t x ++ [u]
  | [], h => by simp [laying] at h
  | v :: r, h => by
    rw [List.cons_append, insT, insT]
    by_cases e : tLt t v
    · rw [if_pos e, if_pos e]; rfl
    · rw [if_neg e, if_neg e]
      simp only [laying, List.any_cons, e, decide_false, Bool.false_or] at h
      rw [insT_snoc (x := r) h]
      rfl
theorem insT_first {t u : TimT} (hu : tLt t u) : ∀ {x : List TimT}, laying t x = false → insT t (x ++ [u]) = x ++ [t] ++ [u]
  | [], _ => by simp [insT, hu]
  | v :: r, h => by
    simp only [laying, List.any_cons, Bool.or_eq_false_iff, decide_eq_false_iff_not] at h
    rw [List.cons_append, insT, if_neg h.1, insT_first hu h.2]
    rfl
theorem laying_take {t u : TimT} {x : List TimT} {k : Nat} (h : x[k]? = some u) : laying t (x.take (k + 1)) = (laying t (x.take k) || decide (tLt t u)) := by
  rw [List.take_add_one, h, laying, laying, List.any_append]
  simp
/-- What the loop has laid. -/
def layd (t : TimT) (x : List TimT) : List TimT := if laying t x then insT t x else x
theorem layd_skip {t u : TimT} {x : List TimT} {k : Nat} (h : x[k]? = some u) (hn : laying t (x.take k) = true ∨ ¬ tLt t u) : layd t (x.take (k + 1)) = layd t (x.take k) ++ [u] := by
  unfold layd
  rw [laying_take h]
  have ht : x.take (k + 1) = x.take k ++ [u] := by rw [List.take_add_one, h]; rfl
  cases hl : laying t (x.take k)
  · have hu : ¬ tLt t u := hn.resolve_left (by rw [hl]; simp)
    simp only [hu, decide_false, Bool.or_false]
    exact ht
  · simp only [Bool.true_or, if_true]
    rw [ht, insT_snoc hl]
theorem layd_lay {t u : TimT} {x : List TimT} {k : Nat} (h : x[k]? = some u) (hl : laying t (x.take k) = false) (hu : tLt t u) : layd t (x.take (k + 1)) = layd t (x.take k) ++ [t] ++ [u] := by
  unfold layd
  rw [laying_take h, hl]
  have ht : x.take (k + 1) = x.take k ++ [u] := by rw [List.take_add_one, h]; rfl
  simp only [hu, decide_true, Bool.or_true, if_true]
  rw [ht, insT_first hu hl]
  rfl
theorem layd_end {t : TimT} {x : List TimT} : insT t x = if laying t x then layd t x else layd t x ++ [t] := by
  unfold layd
  cases hl : laying t x
  · simp only [Bool.false_eq_true, if_false]; exact insT_none hl
  · simp

theorem findN_hit {x : List TimT} {i : IdP} {k : Nat} {t : TimT} (h : x[k]? = some t) (e : t.1 = i) (hn : ∀ j u, j < k → x[j]? = some u → u.1 ≠ i) : findN x i = k := by
  obtain ⟨hk, rfl⟩ := List.getElem?_eq_some_iff.1 h
  have ha : x.any (fun t => decide (t.1 = i)) = true := List.any_eq_true.2 ⟨_, List.getElem_mem hk, by simpa using e⟩
  have hf : x.findIdx (fun t => decide (t.1 = i)) = k := by
    rw [List.findIdx_eq hk]
    refine ⟨by simpa using e, fun j hj => ?_⟩
    have := hn j x[j] hj (List.getElem?_eq_getElem (by omega))
    simpa using this
  unfold findN
  rw [if_pos ha, hf]
theorem findN_miss {x : List TimT} {i : IdP} (hn : ∀ t ∈ x, t.1 ≠ i) : findN x i = -1 := by
  have ha : x.any (fun t => decide (t.1 = i)) = false := by
    rw [← Bool.not_eq_true, List.any_eq_true]
    rintro ⟨t, ht, e⟩
    exact hn t ht (by simpa using e)
  unfold findN
  rw [ha]
  rfl
/-- Where an id is, or that it is nowhere. -/
theorem findN_cases (x : List TimT) (i : IdP) : (∃ k t, x[k]? = some t ∧ t.1 = i ∧ findN x i = (k : Nat)) ∨ ((∀ t ∈ x, t.1 ≠ i) ∧ findN x i = -1) := by
  cases ha : x.any (fun t => decide (t.1 = i))
  · right
    have hn : ∀ t ∈ x, t.1 ≠ i := fun t ht e => by
      have : x.any (fun t => decide (t.1 = i)) = true := List.any_eq_true.2 ⟨t, ht, by simpa using e⟩
      rw [ha] at this; cases this
    exact ⟨hn, findN_miss hn⟩
  · left
    have hlt : x.findIdx (fun t => decide (t.1 = i)) < x.length := by
      obtain ⟨t, ht, e⟩ := List.any_eq_true.1 ha
      exact List.findIdx_lt_length_of_exists ⟨t, ht, e⟩
    refine ⟨x.findIdx (fun t => decide (t.1 = i)), x[x.findIdx (fun t => decide (t.1 = i))], List.getElem?_eq_getElem hlt, ?_, ?_⟩
    · have := List.findIdx_getElem (w := hlt)
      simpa using this
    · unfold findN; rw [if_pos ha]

theorem dueN_le (x : List TimT) (now : Int) : dueN x now ≤ x.length := by
  unfold dueN
  exact (List.takeWhile_prefix _).length_le
theorem dueN_step {x : List TimT} {now : Int} {k : Nat} (hk : k ≤ dueN x now) : (∃ t, x[k]? = some t ∧ t.2 ≤ now ∧ k + 1 ≤ dueN x now) ∨ (k = dueN x now ∧ ∀ t, x[k]? = some t → ¬ t.2 ≤ now) := by
  induction x generalizing k with
  | nil => right; simp [dueN] at hk ⊢; exact hk
  | cons u r ih =>
    by_cases hu : u.2 ≤ now
    · have hd : dueN (u :: r) now = dueN r now + 1 := by simp [dueN, List.takeWhile_cons, hu]
      cases k with
      | zero => left; exact ⟨u, rfl, hu, by omega⟩
      | succ k =>
        rcases ih (k := k) (by omega) with ⟨t, h1, h2, h3⟩ | ⟨h1, h2⟩
        · exact .inl ⟨t, by simpa using h1, h2, by omega⟩
        · exact .inr ⟨by omega, fun t ht => h2 t (by simpa using ht)⟩
    · have hd : dueN (u :: r) now = 0 := by simp [dueN, List.takeWhile_cons, hu]
      right
      refine ⟨by omega, fun t ht => ?_⟩
      have : k = 0 := by omega
      subst this
      simp at ht
      rw [← ht]; exact hu
/-- In their order: those that are due are the first ones. -/
theorem due_take {x : List TimT} (h : TAsc x) (now : Int) : x.take (dueN x now) = x.filter fun t => decide (t.2 ≤ now) := by
  induction x with
  | nil => rfl
  | cons u r ih =>
    obtain ⟨h1, h2⟩ := List.pairwise_cons.1 h
    by_cases hu : u.2 ≤ now
    · have hd : dueN (u :: r) now = dueN r now + 1 := by simp [dueN, List.takeWhile_cons, hu]
      rw [hd, List.take_succ_cons, ih h2, List.filter_cons]
      simp [hu]
    · have hd : dueN (u :: r) now = 0 := by simp [dueN, List.takeWhile_cons, hu]
      rw [hd, List.take_zero, List.filter_cons]
      simp only [hu, decide_false, Bool.false_eq_true, if_false]
      symm
      rw [List.filter_eq_nil_iff]
      intro t ht
      have := h1 t ht
      unfold tLt at this
      simp only [decide_eq_true_eq]
      omega
theorem due_drop {x : List TimT} (h : TAsc x) (now : Int) : x.drop (dueN x now) = x.filter fun t => !decide (t.2 ≤ now) := by
  induction x with
  | nil => rfl
  | cons u r ih =>
    obtain ⟨h1, h2⟩ := List.pairwise_cons.1 h
    by_cases hu : u.2 ≤ now
    · have hd : dueN (u :: r) now = dueN r now + 1 := by simp [dueN, List.takeWhile_cons, hu]
      rw [hd, List.drop_succ_cons, ih h2, List.filter_cons]
      simp [hu]
    · have hd : dueN (u :: r) now = 0 := by simp [dueN, List.takeWhile_cons, hu]
      rw [hd, List.drop_zero]
      refine (List.filter_eq_self.2 fun t ht => ?_).symm
      simp only [Bool.not_eq_true', decide_eq_false_iff_not]
      rcases List.mem_cons.1 ht with e | ht2
      · rw [e]; exact hu
      · have := h1 t ht2
        unfold tLt at this
        omega
/-- The least tick of timers in their order is the first one's. -/
theorem first_least {x : List TimT} (h : TAsc x) {t u : TimT} (h0 : x[0]? = some t) (hu : u ∈ x) : t.2 ≤ u.2 := by
  cases x with
  | nil => cases hu
  | cons v r =>
    simp at h0
    subst h0
    rcases List.mem_cons.1 hu with rfl | hu
    · exact Int.le_refl _
    · have := (List.pairwise_cons.1 h).1 u hu
      unfold tLt at this
      omega
/-- Two lists in order with the same members are one. -/
theorem tasc_unique : ∀ {s t : List TimT}, TAsc s → TAsc t → (∀ x, x ∈ s ↔ x ∈ t) → s = t
  | [], [], _, _, _ => rfl
  | [], b :: t, _, _, h => absurd ((h b).2 (by simp)) (by simp)
  | a :: s, [], _, _, h => absurd ((h a).1 (by simp)) (by simp)
  | a :: s, b :: t, hs, ht, h => by
    obtain ⟨ha, hs'⟩ := List.pairwise_cons.1 hs
    obtain ⟨hb, ht'⟩ := List.pairwise_cons.1 ht
    have e : a = b := by
      rcases List.mem_cons.1 ((h a).1 (by simp)) with e | h1
      · exact e
      · rcases List.mem_cons.1 ((h b).2 (by simp)) with e | h2
        · exact e.symm
        · exact absurd (tLt_trans (hb a h1) (ha b h2)) (tLt_irrefl _)
    subst e
    rw [tasc_unique hs' ht' fun x => ⟨fun hx => ?_, fun hx => ?_⟩]
    · rcases List.mem_cons.1 ((h x).1 (by simp [hx])) with e | h1
      · subst e; exact absurd (ha _ hx) (tLt_irrefl _)
      · exact h1
    · rcases List.mem_cons.1 ((h x).2 (by simp [hx])) with e | h1
      · subst e; exact absurd (hb _ hx) (tLt_irrefl _)
      · exact h1
/-- An id has one tick. -/
theorem ids1_one {x : List TimT} (h : Ids1 x) {t u : TimT} (ht : t ∈ x) (hu : u ∈ x) (e : t.1 = u.1) : t = u := by
  induction x with
  | nil => cases ht
  | cons v r ih =>
    obtain ⟨h1, h2⟩ := List.pairwise_cons.1 h
    rcases List.mem_cons.1 ht with e1 | ht2
    · rcases List.mem_cons.1 hu with e2 | hu2
      · rw [e1, e2]
      · exact absurd (by rw [← e1]; exact e) (h1 u hu2)
    · rcases List.mem_cons.1 hu with e2 | hu2
      · exact absurd (by rw [← e2]; exact e.symm) (h1 t ht2)
      · exact ih h2 ht2 hu2
end Go.Proofs.Ytpdlhcfepafjeaa
