/- The order of ids: cmp.Compare, cmp.Or, ids.order, ids.Less, ids.Right. -/
import Derived.Test.YtpdfbkkhmfnnjaaIndexMeetsQ0
import Derived.Deep.RegionLaw
import Derived.WalkKit
import Derived.WalkSpells
import Derived.WalkLawsBesides
import Derived.Deep.RegionHeld3
import Derived.Deep.DrawnRows
import Derived.Deep.DeepCutAuto
import Derived.Deep.DeepFit
import Derived.Lib.Hide
import Derived.BigQuiet
import Derived.Deep.QuietTactic
namespace Go.Proofs.Ytpdfbkkhmfnnjaa
open Go.RowKit
set_option linter.unusedVariables false
set_option linter.unusedSimpArgs false
set_option maxRecDepth 20000
attribute [local go_sem ↓] Go.wp_at_zero Go.wp_at_succ
attribute [local go_sem] World.cell?_alloc_some frozen_alloc_some

def cmpI (x y : Int) : Int := if x < y then -1 else if y < x then 1 else 0
def idCmp (a b : IdP) : Int := if cmpI a.2 b.2 = 0 then cmpI a.1 b.1 else cmpI a.2 b.2
theorem idCmp_lt {a b : IdP} : idCmp a b < 0 ↔ idLt a b := by
  unfold idCmp cmpI idLt
  repeat' split
  all_goals omega
theorem idCmp_eq {a b : IdP} : idCmp a b = 0 ↔ a = b := by
  obtain ⟨a1, a2⟩ := a
  obtain ⟨b1, b2⟩ := b
  unfold idCmp cmpI
  simp only [Prod.mk.injEq]
  repeat' split
  all_goals omega

theorem isnan_any (x : Int) (w : World) : Calls Try.prog 94 #[.int .i64 x] w (fun e w' => e = .returned (.bool false) ∧ w' = w) := by
  go_enter Try.func94, Try.ntmps94
  go_wp2
  go_ret
  exact ⟨by simp, rfl⟩
set_option maxHeartbeats 400000 in
theorem compare_any (x y : Int) (w : World) : Calls Try.prog 73 #[.int .i64 x, .int .i64 y] w (fun e w' => e = .returned (.int .i64 (cmpI x y)) ∧ w' = w) := by
  have h := fun x W => isnan_any x W
  rcases Int.lt_trichotomy x y with hlt | rfl | hgt
  · rw [show cmpI x y = -1 by simp [cmpI, hlt]]
    go_enter Try.func73, Try.ntmps73
    go_wp2_with (go_at_call 94; refine (h _ _).mono ?_; rintro e w1 ⟨rfl, rfl⟩)
    go_ret
    exact ⟨rfl, rfl⟩
  · rw [show cmpI x x = 0 by simp [cmpI]]
    go_enter Try.func73, Try.ntmps73
    go_wp2_with (go_at_call 94; refine (h _ _).mono ?_; rintro e w1 ⟨rfl, rfl⟩)
    go_ret
    exact ⟨rfl, rfl⟩
  · have hn : ¬ x < y := by omega
    rw [show cmpI x y = 1 by simp [cmpI, hn, hgt]]
    go_enter Try.func73, Try.ntmps73
    go_wp2_with (go_at_call 94; refine (h _ _).mono ?_; rintro e w1 ⟨rfl, rfl⟩)
    go_ret
    exact ⟨rfl, rfl⟩

set_option maxHeartbeats 400000 in
theorem or_any (x y : Int) (b : Nat) (w : World) (h0 : w.cell? ⟨b, 0, none⟩ = some (.int .i64 x)) (h1 : w.cell? ⟨b, 1, none⟩ = some (.int .i64 y)) :
    Calls Try.prog 72 #[.slice (some ⟨b, 0, none⟩) 2 2] w (fun e w' => e = .returned (.int .i64 (if x = 0 then y else x)) ∧ w' = w) := by
  by_cases hx : x = 0
  · subst hx
    rw [if_pos rfl]
    go_enter Try.func72, Try.ntmps72
    go_wp2_with fail
    go_loop [8] (fun s8 => s8 = .int .i64 0 ∨ s8 = .int .i64 1 ∨ s8 = .int .i64 2 ∧ y = 0) (fun s8 => 2 - (intOf s8).toNat)
    case atStart => exact .inl rfl
    case round =>
      rcases hrel with rfl | rfl | ⟨rfl, hy⟩
      · go_wp2_with fail
        go_round
        case rel => exact .inr (.inl rfl)
        case measure => simp [intOf]
      · by_cases hy : y = 0
        · subst hy
          go_wp2_with fail
          go_round
          case rel => exact .inr (.inr (by simp))
          case measure => simp [intOf]
        · go_wp2_with fail
          go_ret
          exact ⟨by first | rfl | trivial | simp_all, rfl⟩
      · subst hy
        go_wp2_with fail
        go_ret
        exact ⟨rfl, rfl⟩
  · rw [if_neg hx]
    go_enter Try.func72, Try.ntmps72
    go_wp2_with fail
    go_loop [8] (fun s8 => s8 = .int .i64 0) (fun s8 => 2 - (intOf s8).toNat)
    case atStart => exact rfl
    case round =>
      obtain rfl := hrel
      go_wp2_with fail
      go_ret
      exact ⟨rfl, rfl⟩

section
attribute [local go_sem ↓ high] id_neq_run id_eql_run
set_option maxHeartbeats 2000000 in
theorem order_any (a b c d : Int) (w : World) : Calls Try.prog 43 #[.agg #[.int .i64 a, .int .i64 b], .agg #[.int .i64 c, .int .i64 d]] w (fun e w' => e = .returned (.int .i64 (idCmp (a, b) (c, d))) ∧ Lays w w') := by
  by_cases he : a = c ∧ b = d
  · have he' : (a == c && b == d) = true := by simp [he]
    rw [show idCmp (a, b) (c, d) = 0 from idCmp_eq.2 (by rw [he.1, he.2])]
    clear he
    go_enter Try.func43, Try.ntmps43
    go_wp2_with fail
    go_ret
    exact ⟨rfl, by ((repeat' first | with_reducible exact Below.refl _ _ | with_reducible assumption | with_reducible refine Below.alloc ?_ ?_ _ | with_reducible refine Below.setCell ?_ ?_ _ | with_reducible apply Below.drew | with_reducible apply below_drewN | with_reducible refine below_call ?_ (by with_reducible assumption) ?_) <;> (first | omega | (simp; done) | (simp; omega) | (simp at *; omega))), by simp only [drawn_alloc, drawn_drew]; omega⟩
  · have he' : (a == c && b == d) = false := by simpa using he
    have hc1 := fun W => compare_any b d W
    have hc2 := fun W => compare_any a c W
    have ho := fun g W h0 h1 => or_any (cmpI b d) (cmpI a c) g W h0 h1
    unfold idCmp
    simp only
    generalize cmpI b d = x at *
    generalize cmpI a c = y at *
    generalize hR : (if x = 0 then y else x) = R at *
    clear he hR
    go_enter Try.func43, Try.ntmps43
    go_upto_region 3 with fail
    first | (go_region_law (first | (go_simp; go_at_call 73; (first | (with_reducible refine (hc1 _).mono ?_) | (with_reducible refine (hc2 _).mono ?_)); rintro e w1 ⟨rfl, rfl⟩) | (go_simp; go_at_call 72; (with_reducible refine (ho _ _ ?h0 ?h1).mono ?_); (case h0 => (simp [go_sem])); (case h1 => (simp [go_sem])); rintro e w1 ⟨rfl, rfl⟩))) | fail
    all_goals
      go_wp2_with fail
      go_ret
      exact ⟨rfl, by ((repeat' first | with_reducible exact Below.refl _ _ | with_reducible assumption | with_reducible refine Below.alloc ?_ ?_ _ | with_reducible refine Below.setCell ?_ ?_ _ | with_reducible apply Below.drew | with_reducible apply below_drewN | with_reducible refine below_call ?_ (by with_reducible assumption) ?_) <;> (first | omega | (simp; done) | (simp; omega) | (simp at *; omega))), by simp only [drawn_alloc, drawn_drew]; omega⟩
end
end Go.Proofs.Ytpdfbkkhmfnnjaa
