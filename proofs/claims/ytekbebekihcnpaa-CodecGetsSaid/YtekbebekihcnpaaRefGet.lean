/- The walk of stonecropref03.Get. -/
import Derived.Test.YtekbebekihcnpaaRefTakeE
import Derived.Test.YtekbebekihcnpaaGet
namespace Go.Proofs.Ytekbebekihcnpaa
open Go.RowKit
set_option linter.unusedVariables false
set_option linter.unusedSimpArgs false
set_option maxRecDepth 20000
attribute [local go_sem ↓] Go.wp_at_zero Go.wp_at_succ
attribute [local go_sem] World.cell?_alloc_some frozen_alloc_some
attribute [local go_sem] lt2 lt3 lt4 lt5
attribute [local simp] lt2 lt3 lt4 lt5

set_option maxHeartbeats 4000000 in
theorem refget_long (A : Option Addr) (n cap : Nat) (w : World) (hn : 1048576 < n) :
    Calls Try.prog 24 #[.slice A n cap] w (Gets w (tNone, 12, 0)) := by
  have hn' : (1048576 : Int) < (n : Int) := by omega
  go_enter Try.func24, Try.ntmps24
  go_wp2_with fail
  refine bodyPost_ret (v := .tuple #[noneV, .int .i64 12, .int .i64 0]) (by simp [results, Try.results24, go_sem, *, noneV] <;> rfl) rfl ?_
  exact ⟨noneV, rfl, hin_none _ _, by ((repeat' first | with_reducible exact Below.refl _ _ | with_reducible assumption | with_reducible refine Below.alloc ?_ ?_ _ | with_reducible refine Below.setCell ?_ ?_ _ | with_reducible apply Below.drew | with_reducible apply below_drewN | with_reducible refine below_call ?_ (by with_reducible assumption) ?_) <;> (first | omega | (simp; done) | (simp; omega) | (simp at *; omega)))⟩
set_option maxHeartbeats 8000000 in
theorem refget_err (A : Option Addr) (n cap : Nat) (L : List Nat) (w : World) (hb : Bytes w A n L) (hnc : n ≤ cap) (hcm : cap ≤ maxLen) (hn : n ≤ 1048576) (e p : Nat) (hg : gtake 16 L 0 = .error (e, p)) :
    Calls Try.prog 24 #[.slice A n cap] w (Gets w (tNone, e, p)) := by
  have hn' : ¬ (1048576 : Int) < (n : Int) := by omega
  have htk : ∀ W, Below w.heap.size w W → Calls Try.prog 39 #[.slice A n cap, .int .i64 0, .int .i64 0] W (Taken W (gtake 16 L 0)) := fun W h => by
    have := rtake_any A n cap L hnc hcm (by omega) 16 0 0 W rfl (Nat.zero_le _) (hb.keep h)
    simpa using this
  have hee : ((e : Int) != 0) = true := by rcases gtake_error 16 L 0 e p hg with rfl | rfl | rfl <;> rfl
  rw [hg] at htk
  clear hb hnc hcm hn
  go_enter Try.func24, Try.ntmps24
  go_wp2_with fail
  refine (htk _ (by ((repeat' first | with_reducible exact Below.refl _ _ | with_reducible assumption | with_reducible refine Below.alloc ?_ ?_ _ | with_reducible refine Below.setCell ?_ ?_ _ | with_reducible apply Below.drew | with_reducible apply below_drewN | with_reducible refine below_call ?_ (by with_reducible assumption) ?_) <;> (first | omega | (simp; done) | (simp; omega) | (simp at *; omega))))).mono ?_
  rintro r w1 ⟨hbw1, rfl⟩
  have z1 := hbw1.size
  simp at z1
  have hb1 : Below w.heap.size w w1 := by ((repeat' first | with_reducible exact Below.refl _ _ | with_reducible assumption | with_reducible refine Below.alloc ?_ ?_ _ | with_reducible refine Below.setCell ?_ ?_ _ | with_reducible apply Below.drew | with_reducible apply below_drewN | with_reducible refine below_call ?_ (by with_reducible assumption) ?_) <;> (first | omega | (simp; done) | (simp; omega) | (simp at *; omega)))
  obtain ⟨q0, r0⟩ := new_keep hbw1 0 rfl
  simp at q0
  obtain ⟨q1, r1⟩ := new_keep hbw1 1 rfl
  simp at q1
  obtain ⟨q2, r2⟩ := new_keep hbw1 2 rfl
  simp at q2
  obtain ⟨q3, r3⟩ := new_keep hbw1 3 rfl
  simp at q3
  unfold gotItem
  go_wp2_with fail
  go_region
  all_goals
    go_wp2_with fail
    refine bodyPost_ret (v := .tuple #[noneV, .int .i64 (e : Int), .int .i64 (p : Int)]) (by simp [results, Try.results24, go_sem, *, noneV] <;> rfl) rfl ?_
    exact ⟨noneV, rfl, hin_none _ _, by ((repeat' first | with_reducible exact Below.refl _ _ | with_reducible assumption | with_reducible refine Below.alloc ?_ ?_ _ | with_reducible refine Below.setCell ?_ ?_ _ | with_reducible apply Below.drew | with_reducible apply below_drewN | with_reducible refine below_call ?_ (by with_reducible assumption) ?_) <;> (first | omega | (simp; done) | (simp; omega) | (simp at *; omega)))⟩
set_option maxHeartbeats 8000000 in
theorem refget_more (A : Option Addr) (n cap : Nat) (L : List Nat) (w : World) (hb : Bytes w A n L) (hnc : n ≤ cap) (hcm : cap ≤ maxLen) (hn : n ≤ 1048576) (t : Tree) (r1 : List Nat) (a1 : Nat) (hg : gtake 16 L 0 = .ok (t, r1, a1)) (hlt : a1 < n) :
    Calls Try.prog 24 #[.slice A n cap] w (Gets w (tNone, 3, a1)) := by
  have hn' : ¬ (1048576 : Int) < (n : Int) := by omega
  have hlt' : (a1 : Int) < (n : Int) := by omega
  have htk : ∀ W, Below w.heap.size w W → Calls Try.prog 39 #[.slice A n cap, .int .i64 0, .int .i64 0] W (Taken W (gtake 16 L 0)) := fun W h => by
    have := rtake_any A n cap L hnc hcm (by omega) 16 0 0 W rfl (Nat.zero_le _) (hb.keep h)
    simpa using this
  rw [hg] at htk
  clear hb hnc hcm hn
  go_enter Try.func24, Try.ntmps24
  go_wp2_with fail
  refine (htk _ (by ((repeat' first | with_reducible exact Below.refl _ _ | with_reducible assumption | with_reducible refine Below.alloc ?_ ?_ _ | with_reducible refine Below.setCell ?_ ?_ _ | with_reducible apply Below.drew | with_reducible apply below_drewN | with_reducible refine below_call ?_ (by with_reducible assumption) ?_) <;> (first | omega | (simp; done) | (simp; omega) | (simp at *; omega))))).mono ?_
  rintro r w1 ⟨hbw1, ky, ny, sy, Ay, my, cy, rfl, hin⟩
  have z1 := hbw1.size
  simp at z1
  have hb1 : Below w.heap.size w w1 := by ((repeat' first | with_reducible exact Below.refl _ _ | with_reducible assumption | with_reducible refine Below.alloc ?_ ?_ _ | with_reducible refine Below.setCell ?_ ?_ _ | with_reducible apply Below.drew | with_reducible apply below_drewN | with_reducible refine below_call ?_ (by with_reducible assumption) ?_) <;> (first | omega | (simp; done) | (simp; omega) | (simp at *; omega)))
  obtain ⟨q0, r0⟩ := new_keep hbw1 0 rfl
  simp at q0
  obtain ⟨q1, r1⟩ := new_keep hbw1 1 rfl
  simp at q1
  obtain ⟨q2, r2⟩ := new_keep hbw1 2 rfl
  simp at q2
  obtain ⟨q3, r3⟩ := new_keep hbw1 3 rfl
  simp at q3
  unfold gotItem
  clear hin htk
  go_wp2_with fail
  go_region
  all_goals
    go_wp2_with fail
    refine bodyPost_ret (v := .tuple #[noneV, .int .i64 3, .int .i64 (a1 : Int)]) (by simp [results, Try.results24, go_sem, *, noneV] <;> rfl) rfl ?_
    exact ⟨noneV, rfl, hin_none _ _, by ((repeat' first | with_reducible exact Below.refl _ _ | with_reducible assumption | with_reducible refine Below.alloc ?_ ?_ _ | with_reducible refine Below.setCell ?_ ?_ _ | with_reducible apply Below.drew | with_reducible apply below_drewN | with_reducible refine below_call ?_ (by with_reducible assumption) ?_) <;> (first | omega | (simp; done) | (simp; omega) | (simp at *; omega)))⟩
set_option maxHeartbeats 8000000 in
theorem refget_ok (A : Option Addr) (n cap : Nat) (L : List Nat) (w : World) (hb : Bytes w A n L) (hnc : n ≤ cap) (hcm : cap ≤ maxLen) (hn : n ≤ 1048576) (t : Tree) (r1 : List Nat) (hg : gtake 16 L 0 = .ok (t, r1, n)) :
    Calls Try.prog 24 #[.slice A n cap] w (Gets w (t, 0, 0)) := by
  have hn' : ¬ (1048576 : Int) < (n : Int) := by omega
  have htk : ∀ W, Below w.heap.size w W → Calls Try.prog 39 #[.slice A n cap, .int .i64 0, .int .i64 0] W (Taken W (gtake 16 L 0)) := fun W h => by
    have := rtake_any A n cap L hnc hcm (by omega) 16 0 0 W rfl (Nat.zero_le _) (hb.keep h)
    simpa using this
  rw [hg] at htk
  clear hb hnc hcm hn
  go_enter Try.func24, Try.ntmps24
  go_wp2_with fail
  refine (htk _ (by ((repeat' first | with_reducible exact Below.refl _ _ | with_reducible assumption | with_reducible refine Below.alloc ?_ ?_ _ | with_reducible refine Below.setCell ?_ ?_ _ | with_reducible apply Below.drew | with_reducible apply below_drewN | with_reducible refine below_call ?_ (by with_reducible assumption) ?_) <;> (first | omega | (simp; done) | (simp; omega) | (simp at *; omega))))).mono ?_
  rintro r w1 ⟨hbw1, ky, ny, sy, Ay, my, cy, rfl, hin⟩
  have z1 := hbw1.size
  simp at z1
  have hb1 : Below w.heap.size w w1 := by ((repeat' first | with_reducible exact Below.refl _ _ | with_reducible assumption | with_reducible refine Below.alloc ?_ ?_ _ | with_reducible refine Below.setCell ?_ ?_ _ | with_reducible apply Below.drew | with_reducible apply below_drewN | with_reducible refine below_call ?_ (by with_reducible assumption) ?_) <;> (first | omega | (simp; done) | (simp; omega) | (simp at *; omega)))
  obtain ⟨q0, r0⟩ := new_keep hbw1 0 rfl
  simp at q0
  obtain ⟨q1, r1⟩ := new_keep hbw1 1 rfl
  simp at q1
  obtain ⟨q2, r2⟩ := new_keep hbw1 2 rfl
  simp at q2
  obtain ⟨q3, r3⟩ := new_keep hbw1 3 rfl
  simp at q3
  unfold gotItem
  have Hin := Lib.hid hin
  clear hin htk
  go_wp2_with fail
  refine bodyPost_ret (v := .tuple #[.agg #[.int .i64 ky, .int .u64 ny, .string sy, .slice Ay my cy], .int .i64 0, .int .i64 0]) (by simp [results, Try.results24, go_sem, *, noneV] <;> rfl) rfl ?_
  have h4 := (((((Hin.out.under (below_one (.cells #[.int .i64 ky, .int .u64 ny, .string sy, .slice Ay my cy, .int .i64 (n : Int), .int .i64 0, .int .i64 0] 73))).set (p := ⟨w.heap.size, 0, none⟩) (by simp) (.int .i64 ky)).set (p := ⟨w.heap.size, 1, none⟩) (by simp) (.int .u64 ny)).set (p := ⟨w.heap.size, 2, none⟩) (by simp) (.string sy)).set (p := ⟨w.heap.size, 3, none⟩) (by simp) (.slice Ay my cy))
  exact ⟨_, rfl, h4.mono fun b hb => by simp at hb; omega, by ((repeat' first | with_reducible exact Below.refl _ _ | with_reducible assumption | with_reducible refine Below.alloc ?_ ?_ _ | with_reducible refine Below.setCell ?_ ?_ _ | with_reducible apply Below.drew | with_reducible apply below_drewN | with_reducible refine below_call ?_ (by with_reducible assumption) ?_) <;> (first | omega | (simp; done) | (simp; omega) | (simp at *; omega)))⟩
theorem refget3_any (A : Option Addr) (n cap : Nat) (L : List Nat) (w : World) (hb : Bytes w A n L) (hnc : n ≤ cap) (hcm : cap ≤ maxLen) :
    Calls Try.prog 24 #[.slice A n cap] w (Gets w (cget L)) := by
  have hl := hb.1
  unfold cget
  by_cases hn : 1048576 < n
  · rw [if_pos (by omega)]; exact refget_long A n cap w hn
  · rw [if_neg (by omega)]
    cases hg : gtake 16 L 0 with
    | error x => obtain ⟨e, p⟩ := x; exact refget_err A n cap L w hb hnc hcm (by omega) e p hg
    | ok x =>
      obtain ⟨t, r1, a1⟩ := x
      simp only
      obtain ⟨h1, h2, h3, h4⟩ := gtake_good 16 0 t L r1 0 a1 rfl (by omega) hb.lt hg
      have h5 := congrArg List.length h3
      simp at h5
      by_cases ha : a1 < L.length
      · rw [if_pos ha]; exact refget_more A n cap L w hb hnc hcm (by omega) t r1 a1 hg (by omega)
      · rw [if_neg ha]
        obtain rfl : a1 = n := by omega
        exact refget_ok A a1 cap L w hb hnc hcm (by omega) t r1 hg
end Go.Proofs.Ytekbebekihcnpaa
