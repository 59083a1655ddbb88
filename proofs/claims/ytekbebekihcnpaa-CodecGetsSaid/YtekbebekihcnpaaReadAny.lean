/- The reader's method item, at any bytes. -/
import Derived.Test.YtekbebekihcnpaaReadList
namespace Go.Proofs.Ytekbebekihcnpaa
open Go.RowKit
set_option linter.unusedVariables false
set_option linter.unusedSimpArgs false
set_option maxRecDepth 20000
attribute [local go_sem ↓] Go.wp_at_zero Go.wp_at_succ
attribute [local go_sem] World.cell?_alloc_some frozen_alloc_some

theorem item_any (g : Nat) (A : Option Addr) (n cap : Nat) (L : List Nat) (hn : n ≤ 1000000000) : ∀ (fuel d a : Nat) (w : World), fuel + d = 16 → RD w g A n cap L a →
    Calls Try.prog 37 #[.pointer (some ⟨g, 0, none⟩), .int .i64 (d : Int)] w (ItemRead w g A n cap (gtake fuel (L.drop a) a)) := by
  intro fuel
  induction fuel with
  | zero =>
    intro d a w hd h
    have hln := h.bytes.1
    by_cases ha : a = n
    · subst ha
      have e : gtake 0 (L.drop a) a = .error (2, a) := by rw [List.drop_of_length_le (by omega)]; rfl
      rw [e]; exact item_end g A a cap L d w h
    · have hlt : a < n := by have := h.at_; omega
      have e : gtake 0 (L.drop a) a = .error (12, a) := by rw [List.drop_eq_getElem_cons (by omega)]; rfl
      obtain rfl : d = 16 := by omega
      rw [e]; exact item_deep g A n cap L a w h hlt
  | succ fuel ih =>
    intro d a w hd h
    have hln := h.bytes.1
    by_cases ha : a = n
    · subst ha
      have e : gtake (fuel + 1) (L.drop a) a = .error (2, a) := by rw [List.drop_of_length_le (by omega)]; rfl
      rw [e]; exact item_end g A a cap L d w h
    · have hlt : a < n := by have := h.at_; omega
      have hal : a < L.length := by omega
      have hk : L[a]? = some L[a] := List.getElem?_eq_getElem hal
      rw [List.drop_eq_getElem_cons hal]
      generalize L[a] = k at *
      by_cases h2 : 2 < k
      · have e : gtake (fuel + 1) (k :: L.drop (a + 1)) a = .error (4, a) := by simp only [gtake]; rw [if_pos h2]
        rw [e]; exact item_kind g A n cap L a d k w h hlt (by omega) hk h2
      · have hkk : k = 0 ∨ k = 1 ∨ k = 2 := by omega
        rcases hkk with rfl | rfl | rfl
        · refine item_num g A n cap L a d w h hlt (by omega) hk _ ?_
          simp only [gtake]
          rw [if_neg h2]
          simp
        · refine item_text g A n cap L a d w h hlt (by omega) hk _ ?_
          simp only [gtake]
          rw [if_neg h2]
          simp
        · refine item_list g A n cap L a d fuel w h hlt (by omega) hn hk (fun a w h => ih (d + 1) a w (by omega) h) _ ?_
          simp only [gtake]
          rw [if_neg h2]
          simp only [show ¬ (2 : Nat) = 0 by decide, show ¬ (2 : Nat) = 1 by decide, if_false]
          by_cases e1 : (ntake (L.drop (a + 1))).2.2 ≠ 0
          · rw [if_pos e1, if_pos e1]
          · rw [if_neg e1, if_neg e1]
            split
            · rfl
            · cases gmany (gtake fuel) (ntake (L.drop (a + 1))).1 ((L.drop (a + 1)).drop (ntake (L.drop (a + 1))).2.1) (a + 1 + (ntake (L.drop (a + 1))).2.1) <;> rfl
end Go.Proofs.Ytekbebekihcnpaa
