/- Records, one behind the other, in plain Lean: forms, what is read of bytes; no program in sight. -/
import Derived.Test.YtpdlhcfepafjeaaNumMath
import Derived.Test.YtpdlhcfepafjeaaCrcMath
namespace Go.Proofs.Ytpdlhcfepafjeaa
set_option linter.unusedVariables false
set_option linter.unusedSimpArgs false

/-- A sum's bytes. -/
def fourB (s : Nat) : List Nat := [s / 16777216 % 256, s / 65536 % 256, s / 256 % 256, s % 256]
theorem fourB_length (s : Nat) : (fourB s).length = 4 := rfl
/-- A record's form. -/
def frm (p : List Nat) : List Nat := form p.length ++ (fourB (crc (form p.length ++ p)) ++ p)
/-- The first record of bytes: where it begins, how long it is, how many bytes it takes. -/
def recAt (b : List Nat) : Option (Nat × Nat × Nat) :=
  if (ntake b).2.2 ≠ 0 ∨ 1048576 < (ntake b).1 ∨ b.length < (ntake b).2.1 + 4 + (ntake b).1 then none else
  if (b.drop (ntake b).2.1).take 4 = fourB (crc (b.take (ntake b).2.1 ++ (b.drop ((ntake b).2.1 + 4)).take (ntake b).1)) then some ((ntake b).2.1 + 4, (ntake b).1, (ntake b).2.1 + 4 + (ntake b).1) else none
theorem recAt_some {b : List Nat} {s v e : Nat} (h : recAt b = some (s, v, e)) : s + v = e ∧ e ≤ b.length ∧ 4 ≤ s := by
  unfold recAt at h
  split at h
  · cases h
  · next hn =>
    split at h
    · injection h with h
      simp only [Prod.mk.injEq] at h
      omega
    · cases h
/-- Records, place by place: where each begins, how long it is, where it ends. -/
def recsF : Nat → Nat → List Nat → List (Nat × Nat × Nat)
  | 0, _, _ => []
  | f + 1, at_, b => match recAt b with
    | none => []
    | some (s, v, e) => (at_ + s, v, at_ + e) :: recsF f (at_ + e) (b.drop e)
def recs (b : List Nat) : List (Nat × Nat × Nat) := recsF b.length 0 b
/-- The place behind the last one. -/
def lastE (at_ : Nat) (l : List (Nat × Nat × Nat)) : Nat := match l.getLast? with | some x => x.2.2 | none => at_
def recBytes (b : List Nat) (x : Nat × Nat × Nat) : List Nat := (b.drop x.1).take x.2.1
def scanL (b : List Nat) : List (List Nat) := (recs b).map (recBytes b)
def scanW (b : List Nat) : Nat := lastE 0 (recs b)
theorem recsF_fuel : ∀ (f g at_ : Nat) (b : List Nat), b.length ≤ f → b.length ≤ g → recsF f at_ b = recsF g at_ b
  | 0, 0, _, _, _, _ => rfl
  | 0, g + 1, at_, b, h, _ => by
    have : b = [] := List.eq_nil_of_length_eq_zero (by omega)
    subst this
    rfl
  | f + 1, 0, at_, b, _, h => by
    have : b = [] := List.eq_nil_of_length_eq_zero (by omega)
    subst this
    rfl
  | f + 1, g + 1, at_, b, h1, h2 => by
    unfold recsF
    cases hr : recAt b with
    | none => rfl
    | some x =>
      obtain ⟨s, v, e⟩ := x
      have := recAt_some hr
      simp only
      rw [recsF_fuel f g (at_ + e) (b.drop e) (by rw [List.length_drop]; omega) (by rw [List.length_drop]; omega)]
theorem recsF_shift : ∀ (f at_ k : Nat) (b : List Nat), recsF f (at_ + k) b = (recsF f at_ b).map fun x => (x.1 + k, x.2.1, x.2.2 + k)
  | 0, _, _, _ => rfl
  | f + 1, at_, k, b => by
    unfold recsF
    cases hr : recAt b with
    | none => rfl
    | some x =>
      obtain ⟨s, v, e⟩ := x
      simp only [List.map_cons]
      rw [show at_ + k + e = at_ + e + k by omega, recsF_shift f (at_ + e) k, show at_ + k + s = at_ + s + k by omega]
theorem lastE_cons (at_ : Nat) (x : Nat × Nat × Nat) (l : List (Nat × Nat × Nat)) : lastE at_ (x :: l) = lastE x.2.2 l := by
  unfold lastE
  cases l with
  | nil => rfl
  | cons y r => rw [List.getLast?_cons_cons]; rfl
theorem lastE_map (at_ k : Nat) (l : List (Nat × Nat × Nat)) : lastE (at_ + k) (l.map fun x => (x.1 + k, x.2.1, x.2.2 + k)) = lastE at_ l + k := by
  unfold lastE
  rw [List.getLast?_map]
  cases l.getLast? <;> rfl
theorem lastE_append (at_ : Nat) (l m : List (Nat × Nat × Nat)) : lastE at_ (l ++ m) = lastE (lastE at_ l) m := by
  unfold lastE
  cases m with
  | nil => simp
  | cons y r =>
    rw [List.getLast?_append]
    cases h : (y :: r).getLast? with
    | none => simp at h
    | some z => simp
/-- They lie in the bytes, in order. -/
theorem recsF_mem : ∀ (f at_ : Nat) (b : List Nat), ∀ x ∈ recsF f at_ b, at_ ≤ x.1 ∧ x.1 + x.2.1 = x.2.2 ∧ x.2.2 ≤ at_ + b.length
  | 0, _, _, x, h => by cases h
  | f + 1, at_, b, x, h => by
    unfold recsF at h
    cases hr : recAt b with
    | none => rw [hr] at h; cases h
    | some y =>
      obtain ⟨s, v, e⟩ := y
      obtain ⟨h1, h2, h3⟩ := recAt_some hr
      rw [hr] at h
      rcases List.mem_cons.1 h with rfl | h
      · simp only; omega
      · have := recsF_mem f _ _ x h
        rw [List.length_drop] at this
        omega
theorem lastE_le (f at_ : Nat) (b : List Nat) : at_ ≤ lastE at_ (recsF f at_ b) ∧ lastE at_ (recsF f at_ b) ≤ at_ + b.length := by
  unfold lastE
  cases h : (recsF f at_ b).getLast? with
  | none => simp
  | some x =>
    have := recsF_mem f at_ b x (List.mem_of_getLast? h)
    simp only
    omega
/-- A number that is read stays what it is, whatever comes behind. -/
theorem ntake_append {l : List Nat} (m : List Nat) (h : (ntake l).2.2 = 0) : ntake (l ++ m) = ntake l ∧ (ntake l).2.1 ≤ l.length := by
  cases l with
  | nil => simp [ntake] at h
  | cons b0 r =>
    simp only [List.cons_append, ntake] at h ⊢
    by_cases h0 : b0 < 248
    · rw [if_pos h0, if_pos h0]
      simp
    · rw [if_neg h0] at h ⊢
      rw [if_neg h0]
      by_cases h1 : r.length < b0 - 247
      · rw [if_pos h1] at h; cases h
      · rw [if_neg h1] at h ⊢
        rw [if_neg (by rw [List.length_append]; omega), List.take_append_of_le_length (by omega)]
        refine ⟨rfl, ?_⟩
        split
        · simp only [List.length_cons]; omega
        · simp
theorem recAt_append {b : List Nat} (m : List Nat) {x : Nat × Nat × Nat} (h : recAt b = some x) : recAt (b ++ m) = some x := by
  obtain ⟨s, v, e⟩ := x
  unfold recAt at h
  split at h
  · cases h
  · next hn =>
    have h0 : (ntake b).2.2 = 0 := by omega
    obtain ⟨h1, h2⟩ := ntake_append m h0
    split at h
    · next hc =>
      unfold recAt
      rw [h1, if_neg (by rw [List.length_append]; omega), List.take_append_of_le_length h2, List.drop_append_of_le_length h2, List.take_append_of_le_length (by rw [List.length_drop]; omega),
        List.drop_append_of_le_length (by omega), List.take_append_of_le_length (by rw [List.length_drop]; omega), if_pos hc]
      exact h
    · cases h
/-- Behind whole records what follows is read as if it stood alone. -/
theorem recsF_parts : ∀ (f at_ : Nat) (a b : List Nat), a.length ≤ f → lastE at_ (recsF f at_ a) = at_ + a.length → ∀ g, a.length + b.length ≤ g → recsF g at_ (a ++ b) = recsF f at_ a ++ recsF g (at_ + a.length) b
  | 0, at_, a, b, h, _, g, hg => by
    have : a = [] := List.eq_nil_of_length_eq_zero (by omega)
    subst this
    rfl
  | f + 1, at_, a, b, h, hw, g, hg => by
    cases hr : recAt a with
    | none =>
      have e : recsF (f + 1) at_ a = [] := by unfold recsF; rw [hr]
      rw [e] at hw ⊢
      have : a = [] := by simpa [lastE] using hw
      subst this
      rfl
    | some x =>
      obtain ⟨s, v, e⟩ := x
      obtain ⟨h1, h2, h3⟩ := recAt_some hr
      have e1 : recsF (f + 1) at_ a = (at_ + s, v, at_ + e) :: recsF f (at_ + e) (a.drop e) := by rw [recsF]; rw [hr]
      rw [e1] at hw ⊢
      rw [lastE_cons] at hw
      obtain ⟨g', rfl⟩ : ∃ g', g = g' + 1 := ⟨g - 1, by omega⟩
      have e2 : recsF (g' + 1) at_ (a ++ b) = (at_ + s, v, at_ + e) :: recsF g' (at_ + e) ((a ++ b).drop e) := by rw [recsF]; rw [recAt_append b hr]
      have hd : at_ + e + (a.drop e).length = at_ + a.length := by rw [List.length_drop]; omega
      rw [e2, List.drop_append_of_le_length h2, recsF_parts f (at_ + e) (a.drop e) b (by rw [List.length_drop]; omega) (by rw [hd]; exact hw) g' (by rw [List.length_drop]; omega), hd]
      rw [List.cons_append, recsF_fuel g' (g' + 1) (at_ + a.length) b (by omega) (by omega)]
theorem recs_parts {a b : List Nat} (h : scanW a = a.length) : recs (a ++ b) = recs a ++ (recs b).map fun x => (x.1 + a.length, x.2.1, x.2.2 + a.length) := by
  unfold recs
  have h1 := recsF_parts a.length 0 a b (Nat.le_refl _) (by rw [Nat.zero_add]; exact h) (a ++ b).length (by rw [List.length_append]; exact Nat.le_refl _)
  rw [h1, recsF_shift, recsF_fuel (a ++ b).length b.length 0 b (by rw [List.length_append]; omega) (Nat.le_refl _)]
theorem scan_parts {a b : List Nat} (h : scanW a = a.length) : scanL (a ++ b) = scanL a ++ scanL b ∧ scanW (a ++ b) = scanW a + scanW b := by
  unfold scanL scanW
  rw [recs_parts h]
  constructor
  · rw [List.map_append, List.map_map]
    congr 1
    · apply List.map_congr_left
      intro x hx
      have := recsF_mem _ _ _ x hx
      unfold recBytes
      rw [List.drop_append_of_le_length (by omega), List.take_append_of_le_length (by rw [List.length_drop]; omega)]
    · apply List.map_congr_left
      intro x hx
      simp only [Function.comp, recBytes]
      rw [Nat.add_comm x.1, ← List.drop_drop, List.drop_left]
  · rw [lastE_append]
    have h1 := lastE_map 0 a.length (recs b)
    rw [Nat.zero_add] at h1
    unfold scanW at h
    rw [h, h1, Nat.add_comm]
end Go.Proofs.Ytpdlhcfepafjeaa
