/- The walk of stonecropref03.take at any bytes. -/
import Derived.Test.YtekbebekihcnpaaRefTakeD
namespace Go.Proofs.Ytekbebekihcnpaa
open Go.RowKit
set_option linter.unusedVariables false
set_option linter.unusedSimpArgs false
set_option maxRecDepth 20000
attribute [local go_sem ↓] Go.wp_at_zero Go.wp_at_succ
attribute [local go_sem] World.cell?_alloc_some frozen_alloc_some

theorem rtake_any (A : Option Addr) (n cap : Nat) (L : List Nat) (hnc : n ≤ cap) (hcm : cap ≤ maxLen) (hn : n ≤ 1000000000) : ∀ (fuel d a : Nat) (w : World), fuel + d = 16 → a ≤ n → Bytes w A n L →
    Calls Try.prog 39 #[.slice A n cap, .int .i64 (a : Int), .int .i64 (d : Int)] w (Taken w (gtake fuel (L.drop a) a)) := by
  intro fuel
  induction fuel with
  | zero =>
    intro d a w hd han h
    have hln := h.1
    by_cases ha : a = n
    · subst ha
      have e : gtake 0 (L.drop a) a = .error (2, a) := by rw [List.drop_of_length_le (by omega)]; rfl
      rw [e]; exact rtake_end A a cap d w
    · have hlt : a < n := by omega
      have e : gtake 0 (L.drop a) a = .error (12, a) := by rw [List.drop_eq_getElem_cons (by omega)]; rfl
      rw [e]; exact rtake_deep A n cap a d w hlt (by omega)
  | succ fuel ih =>
    intro d a w hd han h
    have hln := h.1
    by_cases ha : a = n
    · subst ha
      have e : gtake (fuel + 1) (L.drop a) a = .error (2, a) := by rw [List.drop_of_length_le (by omega)]; rfl
      rw [e]; exact rtake_end A a cap d w
    · have hlt : a < n := by omega
      have hal : a < L.length := by omega
      have hk : L[a]? = some L[a] := List.getElem?_eq_getElem hal
      rw [List.drop_eq_getElem_cons hal]
      generalize L[a] = k at *
      by_cases h2 : 2 < k
      · have e : gtake (fuel + 1) (k :: L.drop (a + 1)) a = .error (4, a) := by simp only [gtake]; rw [if_pos h2]
        rw [e]; exact rtake_kind A n cap L a d k w h hlt (by omega) hk h2
      · by_cases he : (ntake (L.drop (a + 1))).2.2 ≠ 0
        · refine rtake_err A n cap L a d k w h hnc hcm hlt (by omega) hk _ h2 he ?_
          simp only [gtake]
          rw [if_neg h2, if_pos he]
        · have he0 : (ntake (L.drop (a + 1))).2.2 = 0 := by omega
          by_cases hk0 : k = 0
          · subst hk0
            refine rtake_num A n cap L a d w h hnc hcm hlt (by omega) hk _ he0 ?_
            simp only [gtake]
            rw [if_neg h2, if_neg he]
            simp
          · by_cases hs : ((L.drop (a + 1)).drop (ntake (L.drop (a + 1))).2.1).length < (ntake (L.drop (a + 1))).1
            · refine rtake_short A n cap L a d k w h hnc hcm hlt (by omega) hk _ h2 hk0 he0 hs ?_
              simp only [gtake]
              rw [if_neg h2, if_neg he, if_neg hk0, if_pos hs]
            · have hkk : k = 1 ∨ k = 2 := by omega
              rcases hkk with rfl | rfl
              · refine rtake_text A n cap L a d w h hnc hcm hlt (by omega) hk _ he0 hs ?_
                simp only [gtake]
                rw [if_neg h2, if_neg he, if_neg hk0, if_neg hs]
                simp
              · refine rtake_list A n cap L a d fuel w h hnc hcm hn hlt (by omega) hk _ he0 hs (fun a w ha hb => by have := ih (d + 1) a w (by omega) ha hb; simpa using this) ?_
                simp only [gtake]
                rw [if_neg h2, if_neg he, if_neg hk0, if_neg hs, if_neg (by decide)]
                cases gmany (gtake fuel) (ntake (L.drop (a + 1))).1 ((L.drop (a + 1)).drop (ntake (L.drop (a + 1))).2.1) (a + 1 + (ntake (L.drop (a + 1))).2.1) <;> rfl
end Go.Proofs.Ytekbebekihcnpaa
