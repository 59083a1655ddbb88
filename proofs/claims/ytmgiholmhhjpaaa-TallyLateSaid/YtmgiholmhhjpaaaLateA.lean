/- The law TallyLate: copies of an Attr in a row. -/
import Derived.Test.YtmgiholmhhjpaaaAwake24
import Derived.Test.YtmgiholmhhjpaaaDecLS
import Derived.Test.YtmgiholmhhjpaaaIdHas
import Derived.Test.YtmgiholmhhjpaaaReg
import Derived.Test.YtmgiholmhhjpaaaAppC
import Derived.WalkKit
import Derived.WalkSpells
import Derived.WalkLawsBesides
import Derived.Deep.RegionHeld3
import Derived.Deep.DrawnRows
import Derived.Deep.DeepCutAuto
import Derived.Deep.DeepFit
import Derived.Lib.Hide
import Derived.BigQuiet
import Derived.Deep.QuietTactic
namespace Go.Proofs.Ytmgiholmhhjpaaa
open Go.RowKit
set_option linter.unusedVariables false
set_option linter.unusedSimpArgs false
set_option maxRecDepth 20000
attribute [local go_sem ↓] Go.wp_at_zero Go.wp_at_succ
attribute [local go_sem] World.cell?_alloc_some frozen_alloc_some
set_option linter.unnecessarySimpa false

theorem attrinfo : ∃ i, Try.prog.info? 24 = some i ∧ i.zero = some (.agg #[.slice none 0 0, .int .i64 0, .int .i64 0]) ∧ i.size = 3 ∧ i.bytes = 40 := by
  have h : (Try.prog.info? 24).map (fun i => (i.zero, i.size, i.bytes)) = some (some (.agg #[.slice none 0 0, .int .i64 0, .int .i64 0]), 3, 40) := by kernel_rfl
  cases hi : Try.prog.info? 24 with
  | none => rw [hi] at h; cases h
  | some i => rw [hi] at h; simp only [Option.map_some, Option.some.injEq, Prod.mk.injEq] at h; exact ⟨i, rfl, h.1, h.2.1, h.2.2⟩
/-- The three cells of an Attr, j times. -/
def cop (u : List Value) : Nat → List Value
  | 0 => []
  | j + 1 => cop u j ++ u
theorem cop_length (u : List Value) (j : Nat) : (cop u j).length = j * u.length := by
  induction j with
  | zero => simp [cop]
  | succ j ih => simp [cop, ih, Nat.succ_mul]
theorem cop_get {a b c : Value} {j i : Nat} (h : i < j) : (cop [a, b, c] j)[i * 3]? = some a ∧ (cop [a, b, c] j)[i * 3 + 1]? = some b ∧ (cop [a, b, c] j)[i * 3 + 2]? = some c := by
  induction j with
  | zero => omega
  | succ j ih =>
    have hl : (cop [a, b, c] j).length = j * 3 := cop_length _ _
    by_cases hi : i < j
    · obtain ⟨h1, h2, h3⟩ := ih hi
      exact ⟨by rw [cop, List.getElem?_append_left (by omega)]; exact h1, by rw [cop, List.getElem?_append_left (by omega)]; exact h2, by rw [cop, List.getElem?_append_left (by omega)]; exact h3⟩
    · obtain rfl : i = j := by omega
      refine ⟨?_, ?_, ?_⟩
      · rw [cop, List.getElem?_append_right (by omega), hl, show i * 3 - i * 3 = 0 by omega]; rfl
      · rw [cop, List.getElem?_append_right (by omega), hl, show i * 3 + 1 - i * 3 = 1 by omega]; rfl
      · rw [cop, List.getElem?_append_right (by omega), hl, show i * 3 + 2 - i * 3 = 2 by omega]; rfl
theorem attrs_cop {w : World} {base : Nat} {e : TypeId} {A2 : Option Addr} {j c2 : Nat} {x : AttrT} (h : w.ownsRow base e 3 (.slice A2 j c2) j (cop [.slice x.A x.m x.c, .int .i64 x.q, .int .i64 x.t] j)) (hI : IdsAt w x.A x.m x.l) (hj : j ≤ maxLen) : AttrsAt w A2 j (List.replicate j x) := by
  refine ⟨by simp, hj, fun i a hi => ?_⟩
  have hij : i < j := by
    rcases Nat.lt_or_ge i j with h' | h'
    · exact h'
    · rw [List.getElem?_eq_none (by simpa using h')] at hi; cases hi
  obtain rfl : x = a := by rw [List.getElem?_replicate, if_pos hij] at hi; injection hi
  refine ⟨hI, ?_⟩
  rcases h.2 with ⟨e0, h0⟩ | ⟨g, cap, cur, hv, hb, hg, hn, hm, hs, ht⟩
  · omega
  · injection hv with hA _ _
    subst hA
    have hc : ∀ k u, (cop [.slice x.A x.m x.c, .int .i64 x.q, .int .i64 x.t] j)[k]? = some u → w.cell? ⟨g, k, none⟩ = some u := fun k u hk => by
      rw [cell_of_row w g k cur e (0, 0) hg, ← Array.getElem?_toList]
      rw [← ht, List.getElem?_take] at hk
      split at hk
      · exact hk
      · cases hk
    obtain ⟨h1, h2, h3⟩ := cop_get (a := .slice x.A x.m x.c) (b := .int .i64 x.q) (c := .int .i64 x.t) hij
    exact ⟨g, 0, rfl, by rw [Nat.zero_add]; exact hc _ _ h1, by rw [Nat.zero_add]; exact hc _ _ h2, by rw [Nat.zero_add]; exact hc _ _ h3⟩
theorem src_three {w : World} {e : TypeId} {a b c : Value} (h1 : a.oneCell' = true) (h2 : b.oneCell' = true) (h3 : c.oneCell' = true) : Src (w.alloc (.cells #[a, b, c] e)) 3 (some ⟨w.heap.size, 0, none⟩) 1 [a, b, c] :=
  ⟨rfl, fun j x hj => by
    match j with
    | 0 => simp at hj; subst hj; exact ⟨_, rfl, by simpa [Addr.add] using (new_cell w #[a, b, c] e 0 rfl).1⟩
    | 1 => simp at hj; subst hj; exact ⟨_, rfl, by simpa [Addr.add] using (new_cell w #[a, b, c] e 1 rfl).1⟩
    | 2 => simp at hj; subst hj; exact ⟨_, rfl, by simpa [Addr.add] using (new_cell w #[a, b, c] e 2 rfl).1⟩
    | j + 3 => simp at hj, fun x hx => by simp at hx; rcases hx with rfl | rfl | rfl <;> assumption⟩
theorem allsame_cop {x : AttrT} {j : Nat} : allsame x.p (List.replicate j x) = true := by
  unfold allsame
  rw [List.all_eq_true]
  intro a ha
  obtain rfl := List.eq_of_mem_replicate ha
  exact asame_iff.2 rfl
theorem own_form9 {w : World} {base : Nat} {e : TypeId} {size : Nat} {v : Value} {n : Nat} {xs : List Value} (h : w.ownsRow base e size v n xs) : ∃ A c, v = .slice A n c ∧ n ≤ c ∧ c ≤ maxLen := by
  rcases h.2 with ⟨rfl, rfl⟩ | ⟨g, cap, cur, rfl, _, _, hle, hm, _⟩
  · exact ⟨none, 0, rfl, Nat.le_refl _, Nat.zero_le _⟩
  · exact ⟨_, cap, rfl, hle, hm⟩
theorem acc_any (n k : Int) (w : World) (hn : (Lit.int .i64 n).wf = true) (hk : 0 ≤ k) (hk2 : k ≤ 1000) (h0 : 0 < n) : Calls Try.prog 8 #[.int .i64 n, .int .i64 k] w (Gives w (.bool (decide (quo n ≤ k + 1)))) := by
  have hqu := fun W => quorum_any n W hn
  have hw : IntKind.i64.wrap (k + 1) = k + 1 := IntWalk.i64_in _ (by omega)
  clear hn
  generalize quo n = Q at *
  by_cases hq : Q ≤ k + 1
  · simp only [hq, decide_true]
    go_enter Try.func8, Try.ntmps8
    go_wp2_with (go_at_call 7; refine (hqu _).mono ?_; rintro e w2 ⟨rfl, rfl⟩)
    go_ret
    exact ⟨rfl, by ((repeat' first | with_reducible exact Below.refl _ _ | with_reducible assumption | with_reducible refine Below.alloc ?_ ?_ _ | with_reducible refine Below.setCell ?_ ?_ _ | with_reducible apply Below.drew | with_reducible apply below_drewN | with_reducible refine below_call ?_ (by with_reducible assumption) ?_) <;> (first | omega | (simp; done) | (simp; omega) | (simp at *; omega)))⟩
  · simp only [hq, decide_false]
    go_enter Try.func8, Try.ntmps8
    go_wp2_with (go_at_call 7; refine (hqu _).mono ?_; rintro e w2 ⟨rfl, rfl⟩)
    go_ret
    exact ⟨by simp [hq], by ((repeat' first | with_reducible exact Below.refl _ _ | with_reducible assumption | with_reducible refine Below.alloc ?_ ?_ _ | with_reducible refine Below.setCell ?_ ?_ _ | with_reducible apply Below.drew | with_reducible apply below_drewN | with_reducible refine below_call ?_ (by with_reducible assumption) ?_) <;> (first | omega | (simp; done) | (simp; omega) | (simp at *; omega)))⟩
end Go.Proofs.Ytmgiholmhhjpaaa
