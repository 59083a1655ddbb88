/- The walk of stonecropref03.take: a number that is wrong; a number; a list or text that is too long. -/
import Derived.Test.YtekbebekihcnpaaRefTakeB
namespace Go.Proofs.Ytekbebekihcnpaa
open Go.RowKit
set_option linter.unusedVariables false
set_option linter.unusedSimpArgs false
set_option maxRecDepth 20000
attribute [local go_sem ↓] Go.wp_at_zero Go.wp_at_succ
attribute [local go_sem] World.cell?_alloc_some frozen_alloc_some
attribute [local go_sem] lt2 lt3 lt4 lt5
attribute [local simp] lt2 lt3 lt4 lt5

theorem small_wrap {v : Nat} (h : v ≤ 9223372036854775807) : wrap64 (v : Int) = (v : Int) ∧ IntKind.i64.wrap (v : Int) = (v : Int) := ⟨by simp only [wrap64]; omega, IntWalk.i64_in _ (by omega)⟩
theorem sum_wrap {c v e : Nat} (h : e = c + v) (h2 : e ≤ 9223372036854775807) : IntKind.i64.wrap ((c : Int) + (v : Int)) = (e : Int) := by rw [IntWalk.i64_in _ (by omega)]; omega
theorem fit_end {n c v e cap : Nat} (h : e = c + v) (h1 : c ≤ n) (h2 : v ≤ n - c) (h3 : n ≤ cap) (h4 : cap ≤ 9223372036854775807) : e - c = v ∧ e ≤ n ∧ c ≤ e ∧ e ≤ 9223372036854775807 ∧ v ≤ 9223372036854775807 ∧ (0 : Int) ≤ (c : Int) ∧ (c : Int) ≤ (e : Int) ∧ (e : Int) ≤ (cap : Int) ∧ ((e : Int) - (c : Int)).toNat = e - c := by
  refine ⟨by omega, by omega, by omega, by omega, by omega, by omega, by omega, by omega, by omega⟩
set_option maxHeartbeats 8000000 in
theorem rtake_text (A : Option Addr) (n cap : Nat) (L : List Nat) (a d : Nat) (w : World) (hb : Bytes w A n L) (hnc : n ≤ cap) (hcm : cap ≤ maxLen) (ha : a < n) (hd : d ≤ 15) (hk : L[a]? = some 1) (x : Got)
    (he : (ntake (L.drop (a + 1))).2.2 = 0) (hs : ¬ ((L.drop (a + 1)).drop (ntake (L.drop (a + 1))).2.1).length < (ntake (L.drop (a + 1))).1)
    (hx : x = .ok (.mk 1 0 (ofBytes (((L.drop (a + 1)).drop (ntake (L.drop (a + 1))).2.1).take (ntake (L.drop (a + 1))).1)) [], ((L.drop (a + 1)).drop (ntake (L.drop (a + 1))).2.1).drop (ntake (L.drop (a + 1))).1, a + 1 + (ntake (L.drop (a + 1))).2.1 + (ntake (L.drop (a + 1))).1)) :
    Calls Try.prog 39 #[.slice A n cap, .int .i64 (a : Int), .int .i64 (d : Int)] w (Taken w x) := by
  have hne : ((a : Int) == (n : Int)) = false := by simp; omega
  have hd15 : ¬ (15 : Int) < (d : Int) := by omega
  have hcm2 := hcm
  unfold maxLen at hcm2
  have hln := hb.1
  obtain ⟨ad, k', rfl, hk', hk2, hkc⟩ := hb.at_ ha
  obtain rfl : 1 = k' := by rw [hk] at hk'; injection hk'
  have j0 : (0 : Int) ≤ (a : Int) := by omega
  have j1 : (a : Int) < (n : Int) := by omega
  obtain ⟨b, hbb⟩ : ∃ b, b = a + 1 := ⟨_, rfl⟩
  have hbw : IntKind.i64.wrap ((a : Int) + 1) = (b : Int) := by rw [IntWalk.i64_in _ (by omega)]; omega
  have hB := hb.cutFrom (k := b) (cap := cap) (by omega) hnc
  obtain ⟨B2, hB2⟩ : ∃ B2, (if cap = b then some ad else some (ad.add b)) = B2 := ⟨_, rfl⟩
  rw [Option.map_some, hB2] at hB
  have htk : ∀ W, Below w.heap.size w W → Calls Try.prog 51 #[.slice B2 (n - b) (cap - b)] W (Gives W (gotV (L.drop b))) := fun W h => reftake_any B2 (n - b) (cap - b) (L.drop b) W (hB.keep h) (by omega) (by unfold maxLen at hcm ⊢; omega)
  have hnl := ntake_le (L.drop b)
  have hnt : (ntake (L.drop b)).2.2 = 0 → (ntake (L.drop b)).1 < 2 ^ 64 := fun he => (ntake_back (fun c hc => hb.lt c (List.mem_of_mem_drop hc)) he).2.2.2
  rw [List.length_drop, ← hln] at hnl
  unfold gotV at htk
  subst hx
  rw [← hbb] at he hs ⊢
  generalize ntake (L.drop b) = y at *
  obtain ⟨v, m, er⟩ := y
  simp only at htk hnl hnt he hs ⊢
  have i1 : (b : Int) ≤ (n : Int) := by omega
  have i2 : (b : Int) ≤ (cap : Int) := by omega
  have i3 : b ≤ n := by omega
  have hkc2 := cell_alloc (o := .cells #[.int .i64 0, .int .u64 0, .string ByteArray.empty, .slice none 0 0, .int .i64 0, .int .i64 0, .int .i64 0] 73) hkc
  have Hbb := Lib.hid hbb
  have Hb := Lib.hid hb
  have Hln := Lib.hid hln
  clear hb hk hk' hB hbb hln
  subst he
  have hv := hnt rfl
  clear hnt
  obtain ⟨c, hcc⟩ : ∃ c, c = b + m := ⟨_, rfl⟩
  have hcw : IntKind.i64.wrap ((b : Int) + (m : Int)) = (c : Int) := by rw [IntWalk.i64_in _ (by omega)]; omega
  have hcn : c ≤ n := by omega
  have u1 : IntKind.i64.wrap ((n : Int) - (c : Int)) = ((n - c : Nat) : Int) := by rw [IntWalk.i64_in _ (by omega)]; omega
  have u2 : IntKind.u64.wrap ((n - c : Nat) : Int) = ((n - c : Nat) : Int) := by rw [wrap_u64]; omega
  rw [List.length_drop, List.length_drop, ← Hln.out] at hs
  have hs' : ¬ ((n - c : Nat) : Int) < (v : Int) := by omega
  obtain ⟨e, hee⟩ : ∃ e, e = c + v := ⟨_, rfl⟩
  have hvn : v ≤ n - c := by omega
  obtain ⟨hec, hen, l4, he9, hv9, l1, l2, l3, l5⟩ := fit_end hee hcn hvn hnc hcm2
  obtain ⟨v2, v1⟩ := small_wrap hv9
  have hew := sum_wrap hee he9
  clear hvn
  have hB3 := (Hb.out.cutFrom (k := c) (cap := cap) hcn hnc).cutTo (k := e - c) (Nat.sub_le_sub_right hen c)
  obtain ⟨B3, hB3e⟩ : ∃ B3, (if cap = c then some ad else some (ad.add c)) = B3 := ⟨_, rfl⟩
  rw [Option.map_some, hB3e] at hB3
  have Hxs : ofBytes (((L.drop b).drop m).take v) = ofBytes ((L.drop c).take (e - c)) := by rw [List.drop_drop, ← hcc, hec]
  rw [← hcc, ← hee, Hxs]
  have HB3 := Lib.hid hB3
  clear hcc hs Hxs hB3 hec hee
  obtain ⟨f, hff⟩ : ∃ f, f = n - c := ⟨_, rfl⟩
  rw [← hff] at u1 u2 hs'
  have He9 := Lib.hid he9
  clear hff l5
  clear hnl hcn hen he9 hv9 hcm2 hcm hnc ha hd i3
  go_enter Try.func39, Try.ntmps39
  go_wp2_with fail
  refine (htk _ (by ((repeat' first | with_reducible exact Below.refl _ _ | with_reducible assumption | with_reducible refine Below.alloc ?_ ?_ _ | with_reducible refine Below.setCell ?_ ?_ _ | with_reducible apply Below.drew | with_reducible apply below_drewN | with_reducible refine below_call ?_ (by with_reducible assumption) ?_) <;> (first | omega | (simp; done) | (simp; omega) | (simp at *; omega))))).mono ?_
  rintro r w1 ⟨rfl, hbw1⟩
  have z1 := hbw1.size
  simp at z1
  have hb1 : Below w.heap.size w w1 := by ((repeat' first | with_reducible exact Below.refl _ _ | with_reducible assumption | with_reducible refine Below.alloc ?_ ?_ _ | with_reducible refine Below.setCell ?_ ?_ _ | with_reducible apply Below.drew | with_reducible apply below_drewN | with_reducible refine below_call ?_ (by with_reducible assumption) ?_) <;> (first | omega | (simp; done) | (simp; omega) | (simp at *; omega)))
  obtain ⟨q0, r0⟩ := new_keep hbw1 0 rfl
  obtain ⟨q1, r1⟩ := new_keep hbw1 1 rfl
  obtain ⟨q2, r2⟩ := new_keep hbw1 2 rfl
  obtain ⟨q3, r3⟩ := new_keep hbw1 3 rfl
  obtain ⟨q4, r4⟩ := new_keep hbw1 4 rfl
  obtain ⟨q5, r5⟩ := new_keep hbw1 5 rfl
  obtain ⟨q6, r6⟩ := new_keep hbw1 6 rfl
  simp at q0
  simp at q1
  simp at q2
  simp at q3
  simp at q4
  simp at q5
  simp at q6
  have hcv := conv_bytes (HB3.out.keep (hb1.alloc (Nat.le_trans (Nat.le_succ _) z1) (.cells #[.int .u64 (v : Int), .int .i64 (m : Int), .int .i64 0] 93))) (cap - c)
  go_wp2_with fail
  refine bodyPost_ret (v := gotItem 1 0 (ofBytes ((L.drop c).take (e - c))) none 0 0 e 0 0) (by simp [results, Try.results39, go_sem, *, gotItem] <;> rfl) rfl ?_
  exact ⟨by ((repeat' first | with_reducible exact Below.refl _ _ | with_reducible assumption | with_reducible refine Below.alloc ?_ ?_ _ | with_reducible refine Below.setCell ?_ ?_ _ | with_reducible apply Below.drew | with_reducible apply below_drewN | with_reducible refine below_call ?_ (by with_reducible assumption) ?_) <;> (first | omega | (simp; done) | (simp; omega) | (simp at *; omega))), 1, 0, _, none, 0, 0, rfl, hin_text _ _ (by rw [ofBytes_size, List.length_take]; exact Nat.le_trans (Nat.min_le_left _ _) (Nat.le_trans (Nat.sub_le _ _) (by unfold maxLen; exact He9.out)))⟩
end Go.Proofs.Ytekbebekihcnpaa
