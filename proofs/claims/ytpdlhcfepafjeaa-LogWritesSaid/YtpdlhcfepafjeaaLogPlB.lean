/- Records' forms read back, in plain Lean. -/
import Derived.Test.YtpdlhcfepafjeaaLogPl
namespace Go.Proofs.Ytpdlhcfepafjeaa
set_option linter.unusedVariables false
set_option linter.unusedSimpArgs false

theorem frm_length (p : List Nat) : (frm p).length = size p.length + 4 + p.length := by
  unfold frm
  simp only [List.length_append, size_form, fourB_length]
  omega
/-- A form is read as the record. -/
theorem recAt_frm (p m : List Nat) (hp : p.length ≤ 1048576) : recAt (frm p ++ m) = some (size p.length + 4, p.length, size p.length + 4 + p.length) := by
  have e : frm p ++ m = form p.length ++ (fourB (crc (form p.length ++ p)) ++ (p ++ m)) := by simp [frm]
  have hn : ntake (frm p ++ m) = (p.length, size p.length, 0) := by rw [e]; exact ntake_form _ _
  have hl : (form p.length).length = size p.length := size_form _
  unfold recAt
  rw [hn]
  simp only
  rw [if_neg (by rw [List.length_append, frm_length]; omega)]
  have h1 : ((frm p ++ m).drop (size p.length)) = fourB (crc (form p.length ++ p)) ++ (p ++ m) := by rw [e, ← hl, List.drop_left]
  have h2 : ((frm p ++ m).take (size p.length)) = form p.length := by rw [e, ← hl, List.take_left]
  have h3 : ((frm p ++ m).drop (size p.length + 4)) = p ++ m := by
    rw [← List.drop_drop, h1]
    exact List.drop_left' (fourB_length _)
  rw [h1, h2, h3, List.take_left, List.take_left' (fourB_length _), if_pos rfl]
theorem recsF_nil (f at_ : Nat) : recsF f at_ [] = [] := by
  cases f with
  | zero => rfl
  | succ f => rfl
theorem recs_frm (p : List Nat) (hp : p.length ≤ 1048576) : recs (frm p) = [(size p.length + 4, p.length, size p.length + 4 + p.length)] := by
  have hr := recAt_frm p [] hp
  rw [List.append_nil] at hr
  have hL := frm_length p
  unfold recs
  obtain ⟨f, hf⟩ : ∃ f, (frm p).length = f + 1 := ⟨(frm p).length - 1, by omega⟩
  rw [hf, recsF, hr]
  simp only [Nat.zero_add]
  rw [← hL, List.drop_length, recsF_nil]
theorem scan_frm (p : List Nat) (hp : p.length ≤ 1048576) : scanL (frm p) = [p] ∧ scanW (frm p) = (frm p).length := by
  unfold scanL scanW
  rw [recs_frm p hp]
  constructor
  · simp only [List.map_cons, List.map_nil, recBytes]
    have e : frm p = (form p.length ++ fourB (crc (form p.length ++ p))) ++ p := by simp [frm]
    rw [e, List.drop_left' (by rw [List.length_append, size_form, fourB_length]), List.take_length]
  · rw [frm_length]; rfl
end Go.Proofs.Ytpdlhcfepafjeaa
