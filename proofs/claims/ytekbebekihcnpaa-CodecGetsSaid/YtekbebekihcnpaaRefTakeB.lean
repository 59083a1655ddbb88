/- The walk of stonecropref03.take: a number that is wrong; a number; a list or text that is too long. -/
import Derived.Test.YtekbebekihcnpaaRefTake
namespace Go.Proofs.Ytekbebekihcnpaa
open Go.RowKit
set_option linter.unusedVariables false
set_option linter.unusedSimpArgs false
set_option maxRecDepth 20000
attribute [local go_sem ↓] Go.wp_at_zero Go.wp_at_succ
attribute [local go_sem] World.cell?_alloc_some frozen_alloc_some
attribute [local go_sem] lt2 lt3 lt4 lt5
attribute [local simp] lt2 lt3 lt4 lt5

set_option maxHeartbeats 8000000 in
theorem rtake_err (A : Option Addr) (n cap : Nat) (L : List Nat) (a d k : Nat) (w : World) (hb : Bytes w A n L) (hnc : n ≤ cap) (hcm : cap ≤ maxLen) (ha : a < n) (hd : d ≤ 15) (hk : L[a]? = some k) (x : Got)
    (hk3 : ¬ 2 < k) (he : (ntake (L.drop (a + 1))).2.2 ≠ 0)
    (hx : x = .error ((ntake (L.drop (a + 1))).2.2, a + 1)) :
    Calls Try.prog 39 #[.slice A n cap, .int .i64 (a : Int), .int .i64 (d : Int)] w (Taken w x) := by
  have hne : ((a : Int) == (n : Int)) = false := by simp; omega
  have hd15 : ¬ (15 : Int) < (d : Int) := by omega
  have hcm2 := hcm
  unfold maxLen at hcm2
  have hln := hb.1
  obtain ⟨ad, k', rfl, hk', hk2, hkc⟩ := hb.at_ ha
  obtain rfl : k = k' := by rw [hk] at hk'; injection hk'
  have j0 : (0 : Int) ≤ (a : Int) := by omega
  have j1 : (a : Int) < (n : Int) := by omega
  obtain ⟨b, hbb⟩ : ∃ b, b = a + 1 := ⟨_, rfl⟩
  have hbw : IntKind.i64.wrap ((a : Int) + 1) = (b : Int) := by rw [IntWalk.i64_in _ (by omega)]; omega
  have hB := hb.cutFrom (k := b) (cap := cap) (by omega) hnc
  obtain ⟨B2, hB2⟩ : ∃ B2, (if cap = b then some ad else some (ad.add b)) = B2 := ⟨_, rfl⟩
  rw [Option.map_some, hB2] at hB
  have htk : ∀ W, Below w.heap.size w W → Calls Try.prog 51 #[.slice B2 (n - b) (cap - b)] W (Gives W (gotV (L.drop b))) := fun W h => reftake_any B2 (n - b) (cap - b) (L.drop b) W (hB.keep h) (by omega) (by unfold maxLen at hcm ⊢; omega)
  have hnl := ntake_le (L.drop b)
  have hnt : (ntake (L.drop b)).2.2 = 0 → (ntake (L.drop b)).1 < 2 ^ 64 := fun he => (ntake_back (fun c hc => hb.lt c (List.mem_of_mem_drop hc)) he).2.2.2
  rw [List.length_drop, ← hln] at hnl
  unfold gotV at htk
  subst hx
  rw [← hbb] at he ⊢
  generalize ntake (L.drop b) = y at *
  obtain ⟨v, m, er⟩ := y
  simp only at htk hnl hnt he ⊢
  have i1 : (b : Int) ≤ (n : Int) := by omega
  have i2 : (b : Int) ≤ (cap : Int) := by omega
  have i3 : b ≤ n := by omega
  have hkc2 := cell_alloc (o := .cells #[.int .i64 0, .int .u64 0, .string ByteArray.empty, .slice none 0 0, .int .i64 0, .int .i64 0, .int .i64 0] 73) hkc
  have Hbb := Lib.hid hbb
  have Hb := Lib.hid hb
  have Hln := Lib.hid hln
  clear hb hk hk' hB hbb hln
  have he' : ((er : Int) != 0) = true := by simp; omega
  have hk4 : ¬ (2 : Int) < (k : Int) := by omega
  have hw1 : IntKind.i64.wrap (k : Int) = (k : Int) := IntWalk.i64_in _ (by omega)
  have hw2 : wrap64 (k : Int) = (k : Int) := by simp only [wrap64]; omega
  go_enter Try.func39, Try.ntmps39
  go_wp2_with fail
  refine (htk _ (by ((repeat' first | with_reducible exact Below.refl _ _ | with_reducible assumption | with_reducible refine Below.alloc ?_ ?_ _ | with_reducible refine Below.setCell ?_ ?_ _ | with_reducible apply Below.drew | with_reducible apply below_drewN | with_reducible refine below_call ?_ (by with_reducible assumption) ?_) <;> (first | omega | (simp; done) | (simp; omega) | (simp at *; omega))))).mono ?_
  rintro r w1 ⟨rfl, hbw1⟩
  have z1 := hbw1.size
  simp at z1
  have hb1 : Below w.heap.size w w1 := by ((repeat' first | with_reducible exact Below.refl _ _ | with_reducible assumption | with_reducible refine Below.alloc ?_ ?_ _ | with_reducible refine Below.setCell ?_ ?_ _ | with_reducible apply Below.drew | with_reducible apply below_drewN | with_reducible refine below_call ?_ (by with_reducible assumption) ?_) <;> (first | omega | (simp; done) | (simp; omega) | (simp at *; omega)))
  obtain ⟨q0, r0⟩ := new_keep hbw1 0 rfl
  obtain ⟨q1, r1⟩ := new_keep hbw1 1 rfl
  obtain ⟨q2, r2⟩ := new_keep hbw1 2 rfl
  obtain ⟨q3, r3⟩ := new_keep hbw1 3 rfl
  obtain ⟨q4, r4⟩ := new_keep hbw1 4 rfl
  obtain ⟨q5, r5⟩ := new_keep hbw1 5 rfl
  obtain ⟨q6, r6⟩ := new_keep hbw1 6 rfl
  simp at q0
  simp at q1
  simp at q2
  simp at q3
  simp at q4
  simp at q5
  simp at q6
  go_wp2_with fail
  refine bodyPost_ret (v := gotItem 0 0 ByteArray.empty none 0 0 0 er b) (by simp [results, Try.results39, go_sem, *, gotItem] <;> rfl) rfl ?_
  exact ⟨by ((repeat' first | with_reducible exact Below.refl _ _ | with_reducible assumption | with_reducible refine Below.alloc ?_ ?_ _ | with_reducible refine Below.setCell ?_ ?_ _ | with_reducible apply Below.drew | with_reducible apply below_drewN | with_reducible refine below_call ?_ (by with_reducible assumption) ?_) <;> (first | omega | (simp; done) | (simp; omega) | (simp at *; omega))), rfl⟩
set_option maxHeartbeats 8000000 in
theorem rtake_num (A : Option Addr) (n cap : Nat) (L : List Nat) (a d : Nat) (w : World) (hb : Bytes w A n L) (hnc : n ≤ cap) (hcm : cap ≤ maxLen) (ha : a < n) (hd : d ≤ 15) (hk : L[a]? = some 0) (x : Got)
    (he : (ntake (L.drop (a + 1))).2.2 = 0)
    (hx : x = .ok (.mk 0 (ntake (L.drop (a + 1))).1 ByteArray.empty [], (L.drop (a + 1)).drop (ntake (L.drop (a + 1))).2.1, a + 1 + (ntake (L.drop (a + 1))).2.1)) :
    Calls Try.prog 39 #[.slice A n cap, .int .i64 (a : Int), .int .i64 (d : Int)] w (Taken w x) := by
  have hne : ((a : Int) == (n : Int)) = false := by simp; omega
  have hd15 : ¬ (15 : Int) < (d : Int) := by omega
  have hcm2 := hcm
  unfold maxLen at hcm2
  have hln := hb.1
  obtain ⟨ad, k', rfl, hk', hk2, hkc⟩ := hb.at_ ha
  obtain rfl : 0 = k' := by rw [hk] at hk'; injection hk'
  have j0 : (0 : Int) ≤ (a : Int) := by omega
  have j1 : (a : Int) < (n : Int) := by omega
  obtain ⟨b, hbb⟩ : ∃ b, b = a + 1 := ⟨_, rfl⟩
  have hbw : IntKind.i64.wrap ((a : Int) + 1) = (b : Int) := by rw [IntWalk.i64_in _ (by omega)]; omega
  have hB := hb.cutFrom (k := b) (cap := cap) (by omega) hnc
  obtain ⟨B2, hB2⟩ : ∃ B2, (if cap = b then some ad else some (ad.add b)) = B2 := ⟨_, rfl⟩
  rw [Option.map_some, hB2] at hB
  have htk : ∀ W, Below w.heap.size w W → Calls Try.prog 51 #[.slice B2 (n - b) (cap - b)] W (Gives W (gotV (L.drop b))) := fun W h => reftake_any B2 (n - b) (cap - b) (L.drop b) W (hB.keep h) (by omega) (by unfold maxLen at hcm ⊢; omega)
  have hnl := ntake_le (L.drop b)
  have hnt : (ntake (L.drop b)).2.2 = 0 → (ntake (L.drop b)).1 < 2 ^ 64 := fun he => (ntake_back (fun c hc => hb.lt c (List.mem_of_mem_drop hc)) he).2.2.2
  rw [List.length_drop, ← hln] at hnl
  unfold gotV at htk
  subst hx
  rw [← hbb] at he ⊢
  generalize ntake (L.drop b) = y at *
  obtain ⟨v, m, er⟩ := y
  simp only at htk hnl hnt he ⊢
  have i1 : (b : Int) ≤ (n : Int) := by omega
  have i2 : (b : Int) ≤ (cap : Int) := by omega
  have i3 : b ≤ n := by omega
  have hkc2 := cell_alloc (o := .cells #[.int .i64 0, .int .u64 0, .string ByteArray.empty, .slice none 0 0, .int .i64 0, .int .i64 0, .int .i64 0] 73) hkc
  have Hbb := Lib.hid hbb
  have Hb := Lib.hid hb
  have Hln := Lib.hid hln
  clear hb hk hk' hB hbb hln
  subst he
  have hv := hnt rfl
  clear hnt
  go_enter Try.func39, Try.ntmps39
  go_wp2_with fail
  refine (htk _ (by ((repeat' first | with_reducible exact Below.refl _ _ | with_reducible assumption | with_reducible refine Below.alloc ?_ ?_ _ | with_reducible refine Below.setCell ?_ ?_ _ | with_reducible apply Below.drew | with_reducible apply below_drewN | with_reducible refine below_call ?_ (by with_reducible assumption) ?_) <;> (first | omega | (simp; done) | (simp; omega) | (simp at *; omega))))).mono ?_
  rintro r w1 ⟨rfl, hbw1⟩
  have z1 := hbw1.size
  simp at z1
  have hb1 : Below w.heap.size w w1 := by ((repeat' first | with_reducible exact Below.refl _ _ | with_reducible assumption | with_reducible refine Below.alloc ?_ ?_ _ | with_reducible refine Below.setCell ?_ ?_ _ | with_reducible apply Below.drew | with_reducible apply below_drewN | with_reducible refine below_call ?_ (by with_reducible assumption) ?_) <;> (first | omega | (simp; done) | (simp; omega) | (simp at *; omega)))
  obtain ⟨q0, r0⟩ := new_keep hbw1 0 rfl
  obtain ⟨q1, r1⟩ := new_keep hbw1 1 rfl
  obtain ⟨q2, r2⟩ := new_keep hbw1 2 rfl
  obtain ⟨q3, r3⟩ := new_keep hbw1 3 rfl
  obtain ⟨q4, r4⟩ := new_keep hbw1 4 rfl
  obtain ⟨q5, r5⟩ := new_keep hbw1 5 rfl
  obtain ⟨q6, r6⟩ := new_keep hbw1 6 rfl
  simp at q0
  simp at q1
  simp at q2
  simp at q3
  simp at q4
  simp at q5
  simp at q6
  go_wp2_with fail
  refine bodyPost_ret (v := gotItem 0 v ByteArray.empty none 0 0 ((b : Int) + (m : Int)) 0 0) (by simp [results, Try.results39, go_sem, *, gotItem] <;> rfl) rfl ?_
  exact ⟨by ((repeat' first | with_reducible exact Below.refl _ _ | with_reducible assumption | with_reducible refine Below.alloc ?_ ?_ _ | with_reducible refine Below.setCell ?_ ?_ _ | with_reducible apply Below.drew | with_reducible apply below_drewN | with_reducible refine below_call ?_ (by with_reducible assumption) ?_) <;> (first | omega | (simp; done) | (simp; omega) | (simp at *; omega))), 0, v, ByteArray.empty, none, 0, 0, by simp [gotItem], hin_num _ _ hv⟩
set_option maxHeartbeats 8000000 in
theorem rtake_short (A : Option Addr) (n cap : Nat) (L : List Nat) (a d k : Nat) (w : World) (hb : Bytes w A n L) (hnc : n ≤ cap) (hcm : cap ≤ maxLen) (ha : a < n) (hd : d ≤ 15) (hk : L[a]? = some k) (x : Got)
    (hk3 : ¬ 2 < k) (hk0 : k ≠ 0) (he : (ntake (L.drop (a + 1))).2.2 = 0) (hs : ((L.drop (a + 1)).drop (ntake (L.drop (a + 1))).2.1).length < (ntake (L.drop (a + 1))).1)
    (hx : x = .error (2, a + 1 + (ntake (L.drop (a + 1))).2.1)) :
    Calls Try.prog 39 #[.slice A n cap, .int .i64 (a : Int), .int .i64 (d : Int)] w (Taken w x) := by
  have hne : ((a : Int) == (n : Int)) = false := by simp; omega
  have hd15 : ¬ (15 : Int) < (d : Int) := by omega
  have hcm2 := hcm
  unfold maxLen at hcm2
  have hln := hb.1
  obtain ⟨ad, k', rfl, hk', hk2, hkc⟩ := hb.at_ ha
  obtain rfl : k = k' := by rw [hk] at hk'; injection hk'
  have j0 : (0 : Int) ≤ (a : Int) := by omega
  have j1 : (a : Int) < (n : Int) := by omega
  obtain ⟨b, hbb⟩ : ∃ b, b = a + 1 := ⟨_, rfl⟩
  have hbw : IntKind.i64.wrap ((a : Int) + 1) = (b : Int) := by rw [IntWalk.i64_in _ (by omega)]; omega
  have hB := hb.cutFrom (k := b) (cap := cap) (by omega) hnc
  obtain ⟨B2, hB2⟩ : ∃ B2, (if cap = b then some ad else some (ad.add b)) = B2 := ⟨_, rfl⟩
  rw [Option.map_some, hB2] at hB
  have htk : ∀ W, Below w.heap.size w W → Calls Try.prog 51 #[.slice B2 (n - b) (cap - b)] W (Gives W (gotV (L.drop b))) := fun W h => reftake_any B2 (n - b) (cap - b) (L.drop b) W (hB.keep h) (by omega) (by unfold maxLen at hcm ⊢; omega)
  have hnl := ntake_le (L.drop b)
  have hnt : (ntake (L.drop b)).2.2 = 0 → (ntake (L.drop b)).1 < 2 ^ 64 := fun he => (ntake_back (fun c hc => hb.lt c (List.mem_of_mem_drop hc)) he).2.2.2
  rw [List.length_drop, ← hln] at hnl
  unfold gotV at htk
  subst hx
  rw [← hbb] at he hs ⊢
  generalize ntake (L.drop b) = y at *
  obtain ⟨v, m, er⟩ := y
  simp only at htk hnl hnt he hs ⊢
  have i1 : (b : Int) ≤ (n : Int) := by omega
  have i2 : (b : Int) ≤ (cap : Int) := by omega
  have i3 : b ≤ n := by omega
  have hkc2 := cell_alloc (o := .cells #[.int .i64 0, .int .u64 0, .string ByteArray.empty, .slice none 0 0, .int .i64 0, .int .i64 0, .int .i64 0] 73) hkc
  have Hbb := Lib.hid hbb
  have Hb := Lib.hid hb
  have Hln := Lib.hid hln
  clear hb hk hk' hB hbb hln
  subst he
  have hv := hnt rfl
  clear hnt
  have hk4 : ¬ (2 : Int) < (k : Int) := by omega
  have hk5 : ((k : Int) == 0) = false := by simp; omega
  have hw1 : IntKind.i64.wrap (k : Int) = (k : Int) := IntWalk.i64_in _ (by omega)
  have hw2 : wrap64 (k : Int) = (k : Int) := by simp only [wrap64]; omega
  obtain ⟨c, hcc⟩ : ∃ c, c = b + m := ⟨_, rfl⟩
  have hcw : IntKind.i64.wrap ((b : Int) + (m : Int)) = (c : Int) := by rw [IntWalk.i64_in _ (by omega)]; omega
  have hcn : c ≤ n := by omega
  have u1 : IntKind.i64.wrap ((n : Int) - (c : Int)) = ((n - c : Nat) : Int) := by rw [IntWalk.i64_in _ (by omega)]; omega
  have u2 : IntKind.u64.wrap ((n - c : Nat) : Int) = ((n - c : Nat) : Int) := by rw [wrap_u64]; omega
  rw [List.length_drop, List.length_drop, ← Hln.out] at hs
  have hs' : ((n - c : Nat) : Int) < (v : Int) := by omega
  rw [← hcc]
  clear hcc hs
  go_enter Try.func39, Try.ntmps39
  go_wp2_with fail
  refine (htk _ (by ((repeat' first | with_reducible exact Below.refl _ _ | with_reducible assumption | with_reducible refine Below.alloc ?_ ?_ _ | with_reducible refine Below.setCell ?_ ?_ _ | with_reducible apply Below.drew | with_reducible apply below_drewN | with_reducible refine below_call ?_ (by with_reducible assumption) ?_) <;> (first | omega | (simp; done) | (simp; omega) | (simp at *; omega))))).mono ?_
  rintro r w1 ⟨rfl, hbw1⟩
  have z1 := hbw1.size
  simp at z1
  have hb1 : Below w.heap.size w w1 := by ((repeat' first | with_reducible exact Below.refl _ _ | with_reducible assumption | with_reducible refine Below.alloc ?_ ?_ _ | with_reducible refine Below.setCell ?_ ?_ _ | with_reducible apply Below.drew | with_reducible apply below_drewN | with_reducible refine below_call ?_ (by with_reducible assumption) ?_) <;> (first | omega | (simp; done) | (simp; omega) | (simp at *; omega)))
  obtain ⟨q0, r0⟩ := new_keep hbw1 0 rfl
  obtain ⟨q1, r1⟩ := new_keep hbw1 1 rfl
  obtain ⟨q2, r2⟩ := new_keep hbw1 2 rfl
  obtain ⟨q3, r3⟩ := new_keep hbw1 3 rfl
  obtain ⟨q4, r4⟩ := new_keep hbw1 4 rfl
  obtain ⟨q5, r5⟩ := new_keep hbw1 5 rfl
  obtain ⟨q6, r6⟩ := new_keep hbw1 6 rfl
  simp at q0
  simp at q1
  simp at q2
  simp at q3
  simp at q4
  simp at q5
  simp at q6
  go_wp2_with fail
  refine bodyPost_ret (v := gotItem 0 0 ByteArray.empty none 0 0 0 2 c) (by simp [results, Try.results39, go_sem, *, gotItem] <;> rfl) rfl ?_
  exact ⟨by ((repeat' first | with_reducible exact Below.refl _ _ | with_reducible assumption | with_reducible refine Below.alloc ?_ ?_ _ | with_reducible refine Below.setCell ?_ ?_ _ | with_reducible apply Below.drew | with_reducible apply below_drewN | with_reducible refine below_call ?_ (by with_reducible assumption) ?_) <;> (first | omega | (simp; done) | (simp; omega) | (simp at *; omega))), rfl⟩
end Go.Proofs.Ytekbebekihcnpaa
