/- The law TallyMeets: its walk, and why any two quorums meet. -/
import Derived.Test.YtbmognchbldfdaaPre
import Derived.WalkKit
import Derived.WalkSpells
import Derived.WalkLawsBesides
import Derived.Deep.RegionHeld3
import Derived.Deep.DrawnRows
import Derived.Deep.DeepCutAuto
import Derived.Deep.DeepFit
import Derived.Lib.Hide
import Derived.BigQuiet
import Derived.Deep.QuietTactic
namespace Go.Proofs.Ytbmognchbldfdaa
open Go.RowKit
set_option linter.unusedVariables false
set_option linter.unusedSimpArgs false
set_option maxRecDepth 20000
attribute [local go_sem ↓] Go.wp_at_zero Go.wp_at_succ
attribute [local go_sem] World.cell?_alloc_some frozen_alloc_some

def a0 : AttrT := ⟨none, 0, 0, 1, 1, []⟩
theorem attrs_two {W : World} {g : Nat} (h : Blk W g 27 #[.slice none 0 0, .int .i64 1, .int .i64 1, .slice none 0 0, .int .i64 1, .int .i64 1]) : AttrsAt W (some ⟨g, 0, none⟩) 2 [a0, a0] := by
  refine ⟨rfl, by decide, fun i a hi => ?_⟩
  have hc := h.cell
  match i, hi with
  | 0, hi => cases hi; exact ⟨IdsAt.nil, g, 0, rfl, hc 0, hc 1, hc 2⟩
  | 1, hi => cases hi; exact ⟨IdsAt.nil, g, 0, rfl, hc 3, hc 4, hc 5⟩
theorem attrs_one {W : World} {g : Nat} (h : Blk W g 27 #[.slice none 0 0, .int .i64 1, .int .i64 1]) : AttrsAt W (some ⟨g, 0, none⟩) 1 [a0] := by
  refine ⟨rfl, by decide, fun i a hi => ?_⟩
  have hc := h.cell
  match i, hi with
  | 0, hi => cases hi; exact ⟨IdsAt.nil, g, 0, rfl, hc 0, hc 1, hc 2⟩

set_option maxHeartbeats 1000000 in
attribute [local go_sem ↓ high] dec_field0 in
theorem awake24 (w : World) : Calls Try.prog 10 #[] w (Gives w (.bool true)) := by
  have hqu := fun W => quorum_any 5 W (by decide)
  have hfq := fun W => fastquorum_any 5 W
  rw [show quo 5 = 3 from rfl] at hqu
  rw [show max (5 : Int) 0 = 5 from rfl] at hfq
  go_enter Try.func10, Try.ntmps10
  go_wp2_with (first
    | (go_at_call 12; ((with_reducible refine (pre_commit 3 none _ 0 0 2 _ 1 1 [] [a0, a0] false _ IdsAt.nil ?h1 rfl (by decide) (by decide) (by decide)).mono ?_); (case h1 => exact attrs_two (Blk.newAt (by simp))); rintro e w1 ⟨rfl, hb1⟩; have hz1 := hb1.size; (try simp at hz1); unfold decV; have B0 : Blk w1 (w.heap.size) 27 #[.slice none 0 0, .int .i64 1, .int .i64 1] := (by (have h := Blk.keep ((Blk.new w _ _).alloc _) hb1; first | exact h | (simpa only [World.size_alloc] using h))); have B0c := B0.cell; have B0f := B0.frozen))
    | (go_at_call 12; (with_reducible refine (pre_wait 5 none _ 0 0 1 _ 1 1 [] [a0] true false true _ IdsAt.nil ?h1 rfl (by decide) (by decide) (by decide) (by decide) (.inl (by decide))).mono ?_); (case h1 => exact attrs_one (Blk.newAt rfl)); rintro e w3 ⟨rfl, hb3⟩; have hz3 := hb3.size; (try simp at hz3); unfold decV)
    | (go_at_call 9; refine (hfq _).mono ?_; rintro e w2 ⟨rfl, rfl⟩) | (go_at_call 8; refine (hqu _).mono ?_; rintro e w2 ⟨rfl, rfl⟩))
  go_ret
  exact ⟨rfl, by ((repeat' first | with_reducible exact Below.refl _ _ | with_reducible assumption | with_reducible refine Below.alloc ?_ ?_ _ | with_reducible refine Below.setCell ?_ ?_ _ | with_reducible apply Below.drew | with_reducible apply below_drewN | with_reducible refine below_call ?_ (by with_reducible assumption) ?_) <;> (first | omega | (simp; done) | (simp; omega) | (simp at *; omega)))⟩

/-- How many of the low n bits are set; how many are set in both. -/
def cnt : Nat → Nat → Nat
  | 0, _ => 0
  | n + 1, a => (if a % 2 = 1 then 1 else 0) + cnt n (a / 2)
def cntb : Nat → Nat → Nat → Nat
  | 0, _, _ => 0
  | n + 1, a, b => (if a % 2 = 1 ∧ b % 2 = 1 then 1 else 0) + cntb n (a / 2) (b / 2)
theorem cnt_le : ∀ n a, cnt n a ≤ n
  | 0, _ => Nat.le_refl _
  | n + 1, a => by have := cnt_le n (a / 2); unfold cnt; split <;> omega
theorem cntb_le : ∀ n a b, cntb n a b ≤ cnt n b
  | 0, _, _ => Nat.le_refl _
  | n + 1, a, b => by
    have := cntb_le n (a / 2) (b / 2)
    unfold cntb cnt
    split <;> split <;> omega
theorem cnt_meet : ∀ n a b, cnt n a + cnt n b ≤ n + cntb n a b
  | 0, _, _ => Nat.le_refl _
  | n + 1, a, b => by
    have := cnt_meet n (a / 2) (b / 2)
    unfold cntb cnt
    split <;> split <;> split <;> omega

set_option maxHeartbeats 4000000 in
theorem tallymeets_walk (f a b : Int) (hf : (Lit.int .u8 f).wf = true) (ha : (Lit.int .u8 a).wf = true) (hb : (Lit.int .u8 b).wf = true) (w : World) :
    Calls Try.prog 3 #[.int .u8 f, .int .u8 a, .int .u8 b] w (Gives w (.bool true)) := by
  have hf' := wf_u8 hf
  obtain ⟨an, rfl⟩ := Int.eq_ofNat_of_zero_le (wf_u8 ha).1
  obtain ⟨bn, rfl⟩ := Int.eq_ofNat_of_zero_le (wf_u8 hb).1
  have ha' := (wf_u8 ha).2
  have hb' := (wf_u8 hb).2
  clear hf ha hb
  obtain ⟨N, hN, hN3⟩ : ∃ N : Nat, (N : Int) = 3 + 2 * (f % 3) ∧ (N = 3 ∨ N = 5 ∨ N = 7) := ⟨(3 + 2 * (f % 3)).toNat, by omega, by omega⟩
  have hrem : f.tmod 3 = f % 3 := Int.tmod_eq_emod_of_nonneg hf'.1
  have hw0 : IntKind.i64.wrap f = f := IntWalk.i64_in _ (by omega)
  have hw1 : IntKind.i64.wrap (f % 3) = f % 3 := IntWalk.i64_in _ (by omega)
  have hw2 : IntKind.i64.wrap (2 * (f % 3)) = 2 * (f % 3) := IntWalk.i64_in _ (by omega)
  have hw3 : IntKind.i64.wrap (3 + 2 * (f % 3)) = N := by rw [hN]; exact IntWalk.i64_in _ (by omega)
  have hqu := fun W => quorum_any (N : Int) W (by rcases hN3 with h | h | h <;> subst h <;> decide)
  have hfq := fun W => fastquorum_any (N : Int) W
  have hmx : max (N : Int) 0 = N := by omega
  rw [hmx] at hfq
  obtain ⟨Q, hQ⟩ : ∃ Q : Nat, quo (N : Int) = (Q : Int) ∧ 2 * Q = N + 1 := by
    rcases hN3 with h | h | h <;> subst h
    · exact ⟨2, rfl, rfl⟩
    · exact ⟨3, rfl, rfl⟩
    · exact ⟨4, rfl, rfl⟩
  rw [hQ.1] at hqu
  have hQ2 := hQ.2
  have haw := fun W => awake24 W
  have m1 := cnt_meet N an bn
  have m2 := cntb_le N an bn
  have M1 := Lib.hid m1
  have M2 := Lib.hid m2
  have HN := Lib.hid hN
  clear hmx hQ m1 m2 hN
  go_enter Try.func3, Try.ntmps3
  go_wp2_with fail
  have hNN : N ≤ 7 := by omega
  go_loop [1, 2, 8, 9, 10, 11] (fun s1 s2 s8 s9 s10 s11 => ∃ i a b k as_ bs both : Nat, k + i = N ∧ a < 256 ∧ b < 256 ∧ s1 = .int .u8 a ∧ s2 = .int .u8 b ∧ s8 = .int .i64 both ∧ s9 = .int .i64 as_ ∧ s10 = .int .i64 bs ∧ s11 = .int .i64 i ∧
      as_ + cnt k a = cnt N an ∧ bs + cnt k b = cnt N bn ∧ both + cntb k a b = cntb N an bn) (fun _ _ _ _ _ s11 => N - (intOf s11).toNat)
  case atStart => exact ⟨0, an, bn, N, 0, 0, 0, rfl, by omega, by omega, rfl, rfl, rfl, rfl, rfl, rfl, by simp, by simp, by simp⟩
  case round =>
    obtain ⟨i, a, b, k, as_, bs, both, hki, ha, hb, rfl, rfl, rfl, rfl, rfl, rfl, e1, e2, e3⟩ := hrel
    by_cases hlt : i < N
    · obtain ⟨k, rfl⟩ : ∃ k', k = k' + 1 := ⟨k - 1, by omega⟩
      have r1 : (a : Int).tmod 2 = ((a % 2 : Nat) : Int) := by rw [Int.tmod_eq_emod_of_nonneg (by omega)]; omega
      have r2 : (b : Int).tmod 2 = ((b % 2 : Nat) : Int) := by rw [Int.tmod_eq_emod_of_nonneg (by omega)]; omega
      have d1 : (a : Int).tdiv 2 = ((a / 2 : Nat) : Int) := by rw [Int.tdiv_eq_ediv_of_nonneg (by omega)]; omega
      have d2 : (b : Int).tdiv 2 = ((b / 2 : Nat) : Int) := by rw [Int.tdiv_eq_ediv_of_nonneg (by omega)]; omega
      have u1 : IntKind.u8.wrap ((a % 2 : Nat) : Int) = ((a % 2 : Nat) : Int) := IntWalk.u8_in _ (by omega)
      have u2 : IntKind.u8.wrap ((b % 2 : Nat) : Int) = ((b % 2 : Nat) : Int) := IntWalk.u8_in _ (by omega)
      have v1 : IntKind.u8.wrap ((a / 2 : Nat) : Int) = ((a / 2 : Nat) : Int) := IntWalk.u8_in _ (by omega)
      have v2 : IntKind.u8.wrap ((b / 2 : Nat) : Int) = ((b / 2 : Nat) : Int) := IntWalk.u8_in _ (by omega)
      have n1 : (i : Int) < (N : Int) := by omega
      have p1 : as_ ≤ 7 := by have := cnt_le N an; omega
      have p2 : bs ≤ 7 := by have := cnt_le N bn; omega
      have p3 : both ≤ 7 := by have := cnt_le N bn; have := M2.out; omega
      have E1 := Lib.hid e1
      have E2 := Lib.hid e2
      have E3 := Lib.hid e3
      have hap := Nat.mod_two_eq_zero_or_one a
      have hbp := Nat.mod_two_eq_zero_or_one b
      have ha2 : a / 2 < 256 := by omega
      have hb2 : b / 2 < 256 := by omega
      simp only [cnt, cntb] at E1 E2 E3
      obtain ⟨x, hx⟩ : ∃ x, x = a % 2 := ⟨_, rfl⟩
      obtain ⟨y, hy⟩ : ∃ x, x = b % 2 := ⟨_, rfl⟩
      obtain ⟨a', ha3⟩ : ∃ x, x = a / 2 := ⟨_, rfl⟩
      obtain ⟨b', hb3⟩ : ∃ x, x = b / 2 := ⟨_, rfl⟩
      rw [← hx] at r1 u1 hap E1 E3
      rw [← hy] at r2 u2 hbp E2 E3
      rw [← ha3] at d1 v1 ha2 E1 E3
      rw [← hb3] at d2 v2 hb2 E2 E3
      clear e1 e2 e3 hx hy ha3 hb3
      rcases hap with rfl | rfl
      · rcases hbp with rfl | rfl
        · go_wp2_with fail
          go_round
          case rel => exact ⟨i + 1, a', b', k, as_, bs, both, by omega, ha2, hb2, rfl, rfl, rfl, rfl, rfl, by go_num, by have := E1.out; simpa using this, by have := E2.out; simpa using this, by have := E3.out; simpa using this⟩
          case measure => simp [intOf]; omega
        · go_wp2_with fail
          go_round
          case rel => exact ⟨i + 1, a', b', k, as_, bs + 1, both, by omega, ha2, hb2, rfl, rfl, rfl, rfl, by go_num, by go_num, by have := E1.out; simpa using this, by have := E2.out; simp at this; omega, by have := E3.out; simpa using this⟩
          case measure => simp [intOf]; omega
      · rcases hbp with rfl | rfl
        · go_wp2_with fail
          go_round
          case rel => exact ⟨i + 1, a', b', k, as_ + 1, bs, both, by omega, ha2, hb2, rfl, rfl, rfl, by go_num, rfl, by go_num, by have := E1.out; simp at this; omega, by have := E2.out; simpa using this, by have := E3.out; simpa using this⟩
          case measure => simp [intOf]; omega
        · go_wp2_with fail
          go_round
          case rel => exact ⟨i + 1, a', b', k, as_ + 1, bs + 1, both + 1, by omega, ha2, hb2, rfl, rfl, by go_num, by go_num, by go_num, by go_num, by have := E1.out; simp at this; omega, by have := E2.out; simp at this; omega, by have := E3.out; simp at this; omega⟩
          case measure => simp [intOf]; omega
    · have hk0 : k = 0 := by omega
      subst hk0
      simp only [cnt, cntb, Nat.add_zero] at e1 e2 e3
      have g1 := M1.out
      have g2 := M2.out
      rw [← e1, ← e2, ← e3] at g1
      rw [← e2, ← e3] at g2
      have t1 : as_ ≤ N := by rw [e1]; exact cnt_le _ _
      clear e1 e2 e3
      have ni : ¬ ((i : Int) < (N : Int)) := by omega
      have nw : IntKind.i64.wrap ((N : Int) - 1) = (N : Int) - 1 := IntWalk.i64_in _ (by omega)
      have nq : IntKind.i64.wrap (2 * (Q : Int)) = (N : Int) + 1 := by rw [show 2 * (Q : Int) = (N : Int) + 1 by omega]; exact IntWalk.i64_in _ (by omega)
      have np : IntKind.i64.wrap ((N : Int) + 1) = (N : Int) + 1 := IntWalk.i64_in _ (by omega)
      have nq2 : (Q : Int) ≤ (N : Int) - 1 := by omega
      go_wp2_with (first | (go_at_call 9; refine (hfq _).mono ?_; rintro e w2 ⟨rfl, rfl⟩) | (go_at_call 8; refine (hqu _).mono ?_; rintro e w2 ⟨rfl, rfl⟩) | (go_at_call 10; refine (haw _).mono ?_; rintro e w3 ⟨rfl, hb3⟩))
      all_goals first
        | (exfalso; omega)
        | (rename_i h; exfalso; rcases h with h | h <;> (try simp only [bne_iff_ne, ne_eq] at h) <;> omega)
        | (rename_i h; exfalso; (try simp only [bne_iff_ne, ne_eq] at h); omega)
        | (go_ret; exact ⟨by simp_all, by ((repeat' first | with_reducible exact Below.refl _ _ | with_reducible assumption | with_reducible refine Below.alloc ?_ ?_ _ | with_reducible refine Below.setCell ?_ ?_ _ | with_reducible apply Below.drew | with_reducible apply below_drewN | with_reducible refine below_call ?_ (by with_reducible assumption) ?_) <;> (first | omega | (simp; done) | (simp; omega) | (simp at *; omega)))⟩)
end Go.Proofs.Ytbmognchbldfdaa
