/- Joined records, and what is read of a beginning of them, in plain Lean. -/
import Derived.Test.YtpdlhcfepafjeaaLogPlB
namespace Go.Proofs.Ytpdlhcfepafjeaa
set_option linter.unusedVariables false
set_option linter.unusedSimpArgs false

/-- The forms of records. -/
def allF (ls : List (List Nat)) : List Nat := (ls.map frm).flatten
theorem allF_nil : allF [] = [] := rfl
theorem allF_cons (x : List Nat) (ls : List (List Nat)) : allF (x :: ls) = frm x ++ allF ls := rfl
theorem allF_append (a b : List (List Nat)) : allF (a ++ b) = allF a ++ allF b := by simp [allF]
theorem scanL_nil : scanL [] = [] := rfl
theorem scanW_nil : scanW [] = 0 := rfl
theorem scan_allF : ∀ (ls : List (List Nat)), (∀ x ∈ ls, x.length ≤ 1048576) → scanL (allF ls) = ls ∧ scanW (allF ls) = (allF ls).length
  | [], _ => ⟨rfl, rfl⟩
  | x :: ls, h => by
    obtain ⟨h1, h2⟩ := scan_frm x (h x (List.mem_cons_self ..))
    obtain ⟨k1, k2⟩ := scan_allF ls fun y hy => h y (List.mem_cons_of_mem _ hy)
    obtain ⟨p1, p2⟩ := scan_parts (a := frm x) (b := allF ls) h2
    rw [allF_cons, p1, p2, h1, h2, k1, k2, List.length_append]
    exact ⟨rfl, rfl⟩
/-- A form that is cut is no record. -/
theorem recAt_cut (p : List Nat) (k : Nat) (hp : p.length ≤ 1048576) (hk : k < (frm p).length) : recAt ((frm p).take k) = none := by
  have hL := frm_length p
  have hl : (form p.length).length = size p.length := size_form _
  unfold recAt
  by_cases hks : k < size p.length
  · have e : (frm p).take k = (form p.length).take k := by
      unfold frm
      exact List.take_append_of_le_length (by omega)
    rw [e, ntake_cut _ _ hks]
    rw [if_pos (by simp)]
  · have e : (frm p).take k = form p.length ++ (fourB (crc (form p.length ++ p)) ++ p).take (k - size p.length) := by
      unfold frm
      rw [List.take_append, List.take_of_length_le (by omega), hl]
    have hn : ntake ((frm p).take k) = (p.length, size p.length, 0) := by rw [e]; exact ntake_form _ _
    rw [hn]
    simp only
    rw [if_pos (by right; right; rw [List.length_take]; omega)]
theorem scan_cut (p : List Nat) (k : Nat) (hp : p.length ≤ 1048576) (hk : k < (frm p).length) : scanL ((frm p).take k) = [] ∧ scanW ((frm p).take k) = 0 := by
  have h : recs ((frm p).take k) = [] := by
    unfold recs
    cases hf : ((frm p).take k).length with
    | zero => rfl
    | succ f => rw [recsF, recAt_cut p k hp hk]
  unfold scanL scanW
  rw [h]
  exact ⟨rfl, rfl⟩
/-- Of a beginning of joined forms a beginning of the records is read. -/
theorem scan_begin : ∀ (ls : List (List Nat)) (k : Nat), (∀ x ∈ ls, x.length ≤ 1048576) → ∃ i, i ≤ ls.length ∧ scanL ((allF ls).take k) = ls.take i
  | [], k, _ => ⟨0, Nat.le_refl _, by simp [allF_nil, scanL_nil]⟩
  | x :: ls, k, h => by
    have hx := h x (List.mem_cons_self ..)
    by_cases hk : k < (frm x).length
    · refine ⟨0, Nat.zero_le _, ?_⟩
      rw [allF_cons, List.take_append_of_le_length (by omega), (scan_cut x k hx hk).1, List.take_zero]
    · obtain ⟨i, hi, he⟩ := scan_begin ls (k - (frm x).length) fun y hy => h y (List.mem_cons_of_mem _ hy)
      refine ⟨i + 1, by simp; omega, ?_⟩
      obtain ⟨h1, h2⟩ := scan_frm x hx
      rw [allF_cons, List.take_append, List.take_of_length_le (by omega), (scan_parts h2).1, h1, he]
      rfl
/-- The same behind whole forms that stay. -/
theorem scan_behind (a b : List (List Nat)) (k : Nat) (ha : ∀ x ∈ a, x.length ≤ 1048576) (hb : ∀ x ∈ b, x.length ≤ 1048576) (hk : (allF a).length ≤ k) : ∃ i, i ≤ b.length ∧ scanL ((allF a ++ allF b).take k) = a ++ b.take i := by
  obtain ⟨h1, h2⟩ := scan_allF a ha
  obtain ⟨i, hi, he⟩ := scan_begin b (k - (allF a).length) hb
  refine ⟨i, hi, ?_⟩
  rw [List.take_append, List.take_of_length_le hk, (scan_parts h2).1, h1, he]
end Go.Proofs.Ytpdlhcfepafjeaa
