/- The walk of the law CodecBack. -/
import Derived.Test.YtekbebekihcnpaaNest
import Derived.Test.YtekbebekihcnpaaPick
namespace Go.Proofs.Ytekbebekihcnpaa
open Go.RowKit
set_option linter.unusedVariables false
set_option linter.unusedSimpArgs false
set_option maxRecDepth 20000
attribute [local go_sem ↓] Go.wp_at_zero Go.wp_at_succ
attribute [local go_sem] World.cell?_alloc_some frozen_alloc_some
attribute [local go_sem] lt2 lt3 lt4 lt5
attribute [local simp] lt2 lt3 lt4 lt5

theorem cget_cut {t : Tree} (hf : Fit t) (hc : check t 0 = 0) (hl : (tform t).length ≤ 1048576) {k : Nat} (hk : k < (tform t).length) : ∃ p, cget ((tform t).take k) = (tNone, 2, p) := by
  obtain ⟨p, hp⟩ := gtake_cut t 0 16 0 k hf hc rfl hk
  refine ⟨p, ?_⟩
  simp only [cget]
  rw [if_neg (by rw [List.length_take]; omega), hp]
theorem cget_more {t : Tree} (hf : Fit t) (hc : check t 0 = 0) (hl : (tform t).length ≤ 1000000) : ∃ p, cget (tform t ++ [0]) = (tNone, 3, p) := by
  have h := gtake_form t 0 16 0 [0] hf hc rfl
  refine ⟨0 + (tform t).length, ?_⟩
  simp only [cget]
  rw [if_neg (by simp; omega), h]
  simp only
  rw [if_pos (by simp)]
theorem cget_back {L : List Nat} (hb : ∀ c ∈ L, c < 256) (hl : L.length ≤ 600) :
    (cget L).2.1 ≠ 0 ∨ ((cget L).2.1 = 0 ∧ pform (cget L).1 = L ∧ perr (cget L).1 = 0 ∧ tsize (cget L).1 ≤ 10000000) := by
  simp only [cget]
  rw [if_neg (by omega)]
  cases hg : gtake 16 L 0 with
  | error x =>
    obtain ⟨e, p⟩ := x
    have := gtake_error 16 L 0 e p hg
    left
    simp only
    omega
  | ok x =>
    obtain ⟨t, r1, a1⟩ := x
    obtain ⟨h1, h2, h3, h4⟩ := gtake_good 16 0 t L r1 0 a1 rfl (by omega) hb hg
    have h5 := congrArg List.length h3
    simp at h5
    have h6 := tsize_form t 0 h1
    by_cases ha : a1 < L.length
    · simp only [if_pos ha]; left; decide
    · simp only [if_neg ha]
      right
      have hr : r1 = [] := List.eq_nil_of_length_eq_zero (by omega)
      rw [hr, List.append_nil] at h3
      have hp := perr_zero h1 (by omega)
      exact ⟨trivial, by rw [pform_zero hp, h3], hp, by omega⟩
theorem perr_back {t : Tree} (h : perr t = 0) : check t 0 = 0 ∧ pform t = tform t := by
  refine ⟨?_, pform_zero h⟩
  cases hc : check t 0 with
  | zero => rfl
  | succ n => simp [perr, hc] at h
theorem tform_pos (t : Tree) : 1 ≤ (tform t).length := by
  obtain ⟨k, n, s, l⟩ := t
  simp only [tform]; split
  · simp
  · split <;> simp

set_option maxHeartbeats 32000000 in
theorem back_walk (t : Tree) (v : Value) (B : Option Addr) (m2 cap2 : Nat) (L : List Nat) (cut : Int) (w : World) (ht : Holds w t v) (hsz : tsize t ≤ 1048576) (hb : Bytes w B m2 L) (hnc : m2 ≤ cap2) (hcm : cap2 ≤ maxLen) (hcut : (Lit.int .i64 cut).wf = true) :
    Calls Try.prog 8 #[v, .slice B m2 cap2, .int .i64 cut] w (Gives w (.bool true)) := by
  have awake := awake03
  have hs1 : ∀ W, Below w.heap.size w W → Calls Try.prog 10 #[v, .int .i64 600, .int .i64 40] W (Gives W (.int .i64 (csize 600 40 t : Int))) := fun W h => refsize_any 600 (by decide) 40 t v W (ht.keep h) hsz (by decide)
  have hp1 : ∀ W, Below w.heap.size w W → Calls Try.prog 12 #[v] W (Puts W .i64 5 (pform t) (perr t)) := fun W h => put3_any t v W (by omega) (ht.keep h)
  have hss : ∀ W y, Below w.heap.size w W → Holds W t y → Calls Try.prog 16 #[v, y] W (Gives W (.bool true)) := fun W y h hy => by rw [← tsame_self t]; exact codecsame_any t t v y W (ht.keep h) hy
  have hsmall : csize 600 40 t ≤ 600 → tsize t ≤ 600 := fun h => by have := csize_spec 600 40 t h; omega
  have hfit := ht.fit
  have hlen := tform_len t hfit
  have hln := hb.1
  have hlen600 : csize 600 40 t ≤ 600 → (tform t).length ≤ 6000 := fun h => by have := hsmall h; omega
  have hF := fun (h : csize 600 40 t ≤ 600) (he : perr t = 0) => cget_form hfit (perr_back he).1 (by have := hlen600 h; omega)
  have hC := fun (h : csize 600 40 t ≤ 600) (he : perr t = 0) (k : Nat) (hk : k < (tform t).length) => cget_cut hfit (perr_back he).1 (by have := hlen600 h; omega) hk
  have hM := fun (h : csize 600 40 t ≤ 600) (he : perr t = 0) => cget_more hfit (perr_back he).1 (by have := hlen600 h; omega)
  have hPf := fun (he : perr t = 0) => (perr_back he).2
  have hpos := tform_pos t
  have hgb : ∀ W, Below w.heap.size w W → Calls Try.prog 23 #[.slice B m2 cap2] W (Gets W (cget L)) := fun W h => get3_any B m2 cap2 L W (hb.keep h) hnc hcm
  have hcg := fun h => cget_back (L := L) hb.lt h
  have Hfit := Lib.hid hfit
  obtain ⟨k, n, s, l⟩ := t
  obtain ⟨A, m, c, rfl, hk, hn, hs, hm, hmc, hc, hel⟩ := ht.open_
  have Ht := Lib.hid ht
  have HF := Lib.hid hF
  have HC := Lib.hid hC
  have HM := Lib.hid hM
  have HPf := Lib.hid hPf
  have HL := Lib.hid hlen600
  have Hpos := Lib.hid hpos
  have Hlen := Lib.hid hlen
  have Hcg := Lib.hid hcg
  have Hln := Lib.hid hln
  have Hss := Lib.hid hss
  clear hel hm ht hsz hF hC hM hPf hlen600 hlen hsmall hcg hfit hln hpos hss
  obtain ⟨Z, hZ⟩ : ∃ Z, Z = csize 600 40 (.mk k n s l) := ⟨_, rfl⟩
  have HZ := Lib.hid hZ
  rw [← hZ] at hs1
  clear hZ
  by_cases hZ6 : 600 < Z
  · have hZ' : (600 : Int) < (Z : Int) := by omega
    go_enter Try.func8, Try.ntmps8
    go_wp2_with fail
    refine (hs1 _ (by ((repeat' first | with_reducible exact Below.refl _ _ | with_reducible assumption | with_reducible refine Below.alloc ?_ ?_ _ | with_reducible refine Below.setCell ?_ ?_ _ | with_reducible apply Below.drew | with_reducible apply below_drewN | with_reducible refine below_call ?_ (by with_reducible assumption) ?_) <;> (first | omega | (simp; done) | (simp; omega) | (simp at *; omega))))).mono ?_
    rintro e w1 ⟨rfl, hbw1⟩
    have z1 := hbw1.size
    simp at z1
    have hb1 : Below w.heap.size w w1 := by ((repeat' first | with_reducible exact Below.refl _ _ | with_reducible assumption | with_reducible refine Below.alloc ?_ ?_ _ | with_reducible refine Below.setCell ?_ ?_ _ | with_reducible apply Below.drew | with_reducible apply below_drewN | with_reducible refine below_call ?_ (by with_reducible assumption) ?_) <;> (first | omega | (simp; done) | (simp; omega) | (simp at *; omega)))
    go_wp2_with fail
    refine (awake _).mono ?_
    rintro e wz ⟨rfl, hbwz⟩
    go_wp2_with fail
    go_ret
    exact ⟨rfl, below_call hb1 hbwz (by first | omega | (simp; omega))⟩
  have hZ' : ¬ (600 : Int) < (Z : Int) := by omega
  by_cases hm6 : 600 < m2
  · have hm' : (600 : Int) < (m2 : Int) := by omega
    go_enter Try.func8, Try.ntmps8
    go_wp2_with fail
    refine (hs1 _ (by ((repeat' first | with_reducible exact Below.refl _ _ | with_reducible assumption | with_reducible refine Below.alloc ?_ ?_ _ | with_reducible refine Below.setCell ?_ ?_ _ | with_reducible apply Below.drew | with_reducible apply below_drewN | with_reducible refine below_call ?_ (by with_reducible assumption) ?_) <;> (first | omega | (simp; done) | (simp; omega) | (simp at *; omega))))).mono ?_
    rintro e w1 ⟨rfl, hbw1⟩
    have z1 := hbw1.size
    simp at z1
    have hb1 : Below w.heap.size w w1 := by ((repeat' first | with_reducible exact Below.refl _ _ | with_reducible assumption | with_reducible refine Below.alloc ?_ ?_ _ | with_reducible refine Below.setCell ?_ ?_ _ | with_reducible apply Below.drew | with_reducible apply below_drewN | with_reducible refine below_call ?_ (by with_reducible assumption) ?_) <;> (first | omega | (simp; done) | (simp; omega) | (simp at *; omega)))
    go_wp2_with fail
    refine (awake _).mono ?_
    rintro e wz ⟨rfl, hbwz⟩
    go_wp2_with fail
    go_ret
    exact ⟨rfl, below_call hb1 hbwz (by first | omega | (simp; omega))⟩
  have hm' : ¬ (600 : Int) < (m2 : Int) := by omega
  have hZ7 : csize 600 40 (.mk k n s l) ≤ 600 := by rw [← HZ.out]; omega
  have HZ7 := Lib.hid hZ7
  have hcg := Hcg.out (by have := Hln.out; omega)
  clear hZ7
  generalize cget L = q at *
  obtain ⟨Y, e2, at2⟩ := q
  simp only at hcg
  by_cases hE : perr (.mk k n s l) = 0
  · have hF := HF.out HZ7.out hE
    have hM := HM.out HZ7.out hE
    have hC := HC.out HZ7.out hE
    have hPf := HPf.out hE
    rw [hE, hPf] at hp1
    have hl6 := HL.out HZ7.out
    have hl1 := Hpos.out
    have hFb := tform_bytes _ Hfit.out
    clear HF HM HC HPf HL Hpos Hlen hE hPf
    generalize tform (.mk k n s l) = F at *
    obtain ⟨p3, hM⟩ := hM
    obtain ⟨kk, hkk⟩ : ∃ kk : Nat, pickV cut (F.length : Int) = (kk : Int) ∧ kk < F.length := ⟨(pickV cut F.length).toNat, by have := pickV_range (k := cut) (n := F.length) (by omega); omega, by have := pickV_range (k := cut) (n := F.length) (by omega); omega⟩
    obtain ⟨p2, hC⟩ := hC kk hkk.2
    have hpick := fun W => pick_any cut (F.length : Int) W (by omega) (by omega) hcut
    rw [hkk.1] at hpick
    have hkF := hkk.2
    clear hkk
    obtain ⟨i0, hi, hz0, hz1, hz2⟩ := info_parts info_u8
    have HFq := Lib.hid hF
    have HMq := Lib.hid hM
    have HCq := Lib.hid hC
    clear hF hM hC
    go_enter Try.func8, Try.ntmps8
    go_wp2_with fail
    refine (hs1 _ (by ((repeat' first | with_reducible exact Below.refl _ _ | with_reducible assumption | with_reducible refine Below.alloc ?_ ?_ _ | with_reducible refine Below.setCell ?_ ?_ _ | with_reducible apply Below.drew | with_reducible apply below_drewN | with_reducible refine below_call ?_ (by with_reducible assumption) ?_) <;> (first | omega | (simp; done) | (simp; omega) | (simp at *; omega))))).mono ?_
    rintro e w1 ⟨rfl, hbw1⟩
    have z1 := hbw1.size
    simp at z1
    have hb1 : Below w.heap.size w w1 := by ((repeat' first | with_reducible exact Below.refl _ _ | with_reducible assumption | with_reducible refine Below.alloc ?_ ?_ _ | with_reducible refine Below.setCell ?_ ?_ _ | with_reducible apply Below.drew | with_reducible apply below_drewN | with_reducible refine below_call ?_ (by with_reducible assumption) ?_) <;> (first | omega | (simp; done) | (simp; omega) | (simp at *; omega)))
    obtain ⟨q0, _⟩ := new_keep hbw1 0 rfl
    obtain ⟨q1, _⟩ := new_keep hbw1 1 rfl
    obtain ⟨q2, _⟩ := new_keep hbw1 2 rfl
    obtain ⟨q3, _⟩ := new_keep hbw1 3 rfl
    simp at q0 q1 q2 q3
    go_wp2_with fail
    refine (hp1 _ hb1).mono ?_
    rintro e w2 ⟨b2, rfl, hown2, hbw2⟩
    obtain ⟨A2, c2, rfl, hl2, hc2⟩ := hown2.form
    have z2 := hbw2.size
    have hb2 : Below w.heap.size w w2 := by ((repeat' first | with_reducible exact Below.refl _ _ | with_reducible assumption | with_reducible refine Below.alloc ?_ ?_ _ | with_reducible refine Below.setCell ?_ ?_ _ | with_reducible apply Below.drew | with_reducible apply below_drewN | with_reducible refine below_call ?_ (by with_reducible assumption) ?_) <;> (first | omega | (simp; done) | (simp; omega) | (simp at *; omega)))
    have hB2 := hown2.bytes.2.2
    have hg1 := get3_any A2 F.length c2 F w2 hB2 hl2 hc2
    rw [HFq.out] at hg1
    go_wp2_with fail
    refine hg1.mono ?_
    rintro e w3 ⟨y1, rfl, hy1, hbw3⟩
    obtain ⟨k1, n1, s1, A1, m1, c1, rfl⟩ := hy1.form
    have z3 := hbw3.size
    have hal3 : Below w3.heap.size w3 (w3.alloc (.cells #[.int .i64 k1, .int .u64 n1, .string s1, .slice A1 m1 c1] 25)) := below_one _
    have hb3 : Below w.heap.size w (w3.alloc (.cells #[.int .i64 k1, .int .u64 n1, .string s1, .slice A1 m1 c1] 25)) := by ((repeat' first | with_reducible exact Below.refl _ _ | with_reducible assumption | with_reducible refine Below.alloc ?_ ?_ _ | with_reducible refine Below.setCell ?_ ?_ _ | with_reducible apply Below.drew | with_reducible apply below_drewN | with_reducible refine below_call ?_ (by with_reducible assumption) ?_) <;> (first | omega | (simp; done) | (simp; omega) | (simp at *; omega)))
    clear hg1
    go_wp2_with fail
    refine (hpick _).mono ?_
    rintro e w4 ⟨rfl, hbw4⟩
    have z4 := hbw4.size
    simp at z4
    have hk4 : Below (w3.heap.size + 1) (w3.alloc (.cells #[.int .i64 k1, .int .u64 n1, .string s1, .slice A1 m1 c1] 25)) w4 := by rw [World.size_alloc] at hbw4; exact hbw4
    have hB3 := (hB2.keep hbw3).keep hal3
    have hB4 : Bytes w4 A2 F.length F := hB3.below hk4 (by simp)
    have hg2 := fun W (h : Below w4.heap.size w4 W) => get3_any A2 kk c2 (F.take kk) W ((hB4.cutTo (by omega)).keep h) (by omega) hc2
    rw [HCq.out] at hg2
    have i1 : (0 : Int) ≤ (kk : Int) := by omega
    have i2 : (kk : Int) ≤ (c2 : Int) := by omega
    have i3 : (kk : Int) ≤ (F.length : Int) := by omega
    go_wp2_with fail
    refine (hg2 _ (Below.refl _ _)).mono ?_
    rintro e w5 ⟨y5, rfl, hy5, hbw5⟩
    obtain ⟨k5, n5, s5, A5, m5, c5, rfl⟩ := hy5.form
    have z5 := hbw5.size
    have hk5 : Below (w3.heap.size + 1) (w3.alloc (.cells #[.int .i64 k1, .int .u64 n1, .string s1, .slice A1 m1 c1] 25)) (w5.alloc (.cells #[.int .i64 k5, .int .u64 n5, .string s5, .slice A5 m5 c5] 25)) := (below_call hk4 hbw5 (by omega)).alloc (by omega) _
    have hmade := OwnB.made (w := w5.alloc (.cells #[.int .i64 k5, .int .u64 n5, .string s5, .slice A5 m5 c5] 25)) (e := 5) (base := w5.heap.size + 1) (by simp)
    have hk6 := hk5.alloc (by simp; omega) (.cells #[] 5)
    have hsrcP := Src.of_bytes (hB3.below hk6 (by simp))
    rw [World.size_alloc] at hmade
    clear hg2 hy5
    go_wp2_with (first
      | (have h9 := hmade; clear h9; ((at_builtin; go_loud (refine wpList_app _ rfl (.tmp 57) (.tmp 58) 28 rfl _ 5 i0 _ 1 1 Try.underlying28 hi hz0 hz1 hz2 rfl (by omega) _ _ _ rfl hmade.1 _ _ _ _ rfl hsrcP ?h63 ?hby ?hbase ?_); (case h63 => (unfold maxLen; first | omega | (simp; done) | (simp; omega))); (case hby => first | omega | (simp; done) | (simp; omega)); (case hbase => first | omega | (simp; done) | (simp; omega)); intro v6 w6 hownw6 hgroww6 hatw6 holdw6)); have hown6 : OwnB w6 (w5.heap.size + 1) 5 v6 F := (OwnB.join (l := []) hownw6 (by simp) hFb); have hk66 := below_app (B := w3.heap.size + 1) hk6 hmade.1 hgroww6 (by omega) (by simp; omega); have hg6 := hgroww6.size; (simp at hg6); have hown66 := hown6.keep (below_one (.cells #[.int .u8 ((0 : Nat) : Int)] 5)); have hk67 := hk66.alloc (by omega) (.cells #[.int .u8 ((0 : Nat) : Int)] 5); have hsrc0 : Src (w6.alloc (.cells #[.int .u8 ((0 : Nat) : Int)] 5)) 1 (some ⟨w6.heap.size, 0, none⟩) 1 [.int .u8 ((0 : Nat) : Int)] := src_one rfl; clear hmade)
      | ((at_builtin; go_loud (refine wpList_app _ rfl (.tmp 59) (.tmp 60) 28 rfl _ 5 i0 _ 1 1 Try.underlying28 hi hz0 hz1 hz2 rfl (by omega) _ _ _ rfl hown66.1 _ _ _ _ rfl hsrc0 ?h63 ?hby ?hbase ?_); (case h63 => (unfold maxLen; first | omega | (simp; done) | (simp; omega))); (case hby => first | omega | (simp; done) | (simp; omega)); (case hbase => first | omega | (simp; done) | (simp; omega)); intro v7 w7 hownw7 hgroww7 hatw7 holdw7); have hown7 : OwnB w7 (w5.heap.size + 1) 5 v7 (F ++ [0]) := (OwnB.join (l := F) (m := [0]) hownw7 hFb (by simp)); obtain ⟨A7, c7, rfl, hl7, hc7⟩ := hown7.form; have hk7 := below_app (B := w3.heap.size + 1) hk67 hown66.1 hgroww7 (by omega) (by simp; omega)))
    have z7 := hk7.size
    have hg3 := get3_any A7 _ c7 _ w7 hown7.bytes.2.2 hl7 hc7
    rw [HMq.out] at hg3
    have hlF : (F ++ [0]).length = F.length + 1 := by simp
    rw [hlF] at hg3
    clear hlF
    refine hg3.mono ?_
    rintro e w8 ⟨y8, rfl, hy8, hbw8⟩
    obtain ⟨k8, n8, s8, A8, m8, c8, rfl⟩ := hy8.form
    have z8 := hbw8.size
    have hk8 : Below (w3.heap.size + 1) (w3.alloc (.cells #[.int .i64 k1, .int .u64 n1, .string s1, .slice A1 m1 c1] 25)) (w8.alloc (.cells #[.int .i64 k8, .int .u64 n8, .string s8, .slice A8 m8 c8] 25)) := (below_call hk7 hbw8 (by simp at z7; omega)).alloc (by simp at z7; omega) _
    have hq8 : Below w1.heap.size w1 (w8.alloc (.cells #[.int .i64 k8, .int .u64 n8, .string s8, .slice A8 m8 c8] 25)) := ((hbw2.trans (hbw3.mono z2)).trans (hal3.mono (by omega))).trans (hk8.mono (by omega))
    have hb8 : Below w.heap.size w (w8.alloc (.cells #[.int .i64 k8, .int .u64 n8, .string s8, .slice A8 m8 c8] 25)) := hb1.trans (hq8.mono (by omega))
    replace q0 := cell_keep hq8 q0
    replace q1 := cell_keep hq8 q1
    replace q2 := cell_keep hq8 q2
    replace q3 := cell_keep hq8 q3
    have r0 := box_cell hk8 0 rfl
    have r1 := box_cell hk8 1 rfl
    have r2 := box_cell hk8 2 rfl
    have r3 := box_cell hk8 3 rfl
    have hyX := (hy1.holds.keep hal3).keep (show Below (w3.alloc (.cells #[.int .i64 k1, .int .u64 n1, .string s1, .slice A1 m1 c1] 25)).heap.size (w3.alloc (.cells #[.int .i64 k1, .int .u64 n1, .string s1, .slice A1 m1 c1] 25)) _ by rw [World.size_alloc]; exact hk8)
    have hsame := Hss.out _ _ hb8 hyX
    simp at z7
    clear hg3 hy8 hyX hy1 hp1 hs1 hpick
    go_wp2_with fail
    refine hsame.mono ?_
    rintro e w9 ⟨rfl, hbw9⟩
    have z9 := hbw9.size
    simp at z9
    have hb9 : Below w.heap.size w w9 := below_call hb8 hbw9 (by simp; omega)
    clear q0 q1 q2 q3 r0 r1 r2 r3 hsame
    go_wp2_with fail
    refine (hgb _ hb9).mono ?_
    rintro e w10 ⟨y2, rfl, hy2, hbw10⟩
    obtain ⟨ky, ny, sy, Ay, my, cy, rfl⟩ := hy2.form
    have z10 := hbw10.size
    have hb10 : Below w.heap.size w w10 := below_call hb9 hbw10 (by omega)
    have hal : Below w10.heap.size w10 (w10.alloc (.cells #[.int .i64 ky, .int .u64 ny, .string sy, .slice Ay my cy] 25)) := below_one _
    rcases hcg with he2 | ⟨he2, hpy, hfy, hsy⟩
    · have he2' : ((e2 : Int) != 0) = true := by simp; omega
      clear hy2
      go_wp2_with fail
      refine (awake _).mono ?_
      rintro e wz ⟨rfl, hbwz⟩
      go_wp2_with fail
      go_ret
      exact ⟨rfl, below_call (hb10.trans (hal.mono (by omega))) hbwz (by first | omega | (simp; omega))⟩
    · subst he2
      have hput := put3_any Y _ (w10.alloc (.cells #[.int .i64 ky, .int .u64 ny, .string sy, .slice Ay my cy] 25)) hsy (hy2.holds.keep hal)
      rw [hpy, hfy] at hput
      clear hy2
      go_wp2_with fail
      refine hput.mono ?_
      rintro e w11 ⟨bp, rfl, hownp, hbw11⟩
      obtain ⟨Ap, cp, rfl, _, _⟩ := hownp.form
      have z11 := hbw11.size
      simp at z11
      have hb11 : Below w.heap.size w w11 := below_call (hb10.trans (hal.mono (by omega))) hbw11 (by simp; omega)
      have hsm := same_any Ap B L.length m2 cp cap2 L L w11 hownp.bytes.2.2 (hb.keep hb11)
      simp only [decide_true] at hsm
      clear hput
      go_wp2_with fail
      refine hsm.mono ?_
      rintro e w12 ⟨rfl, hbw12⟩
      have z12 := hbw12.size
      have hb12 : Below w.heap.size w w12 := below_call hb11 hbw12 (by omega)
      go_wp2_with fail
      refine (awake _).mono ?_
      rintro e wz ⟨rfl, hbwz⟩
      go_wp2_with fail
      go_ret
      exact ⟨rfl, below_call hb12 hbwz (by first | omega | (simp; omega))⟩
  · have hE' : ((perr (.mk k n s l) : Nat) : Int) = ((perr (.mk k n s l) : Nat) : Int) := rfl
    clear HF HM HC HPf HL Hpos Hlen hE'
    generalize pform (.mk k n s l) = F at *
    generalize perr (.mk k n s l) = E at *
    have hE' : ((E : Int) == 0) = false := by simp; omega
    go_enter Try.func8, Try.ntmps8
    go_wp2_with fail
    refine (hs1 _ (by ((repeat' first | with_reducible exact Below.refl _ _ | with_reducible assumption | with_reducible refine Below.alloc ?_ ?_ _ | with_reducible refine Below.setCell ?_ ?_ _ | with_reducible apply Below.drew | with_reducible apply below_drewN | with_reducible refine below_call ?_ (by with_reducible assumption) ?_) <;> (first | omega | (simp; done) | (simp; omega) | (simp at *; omega))))).mono ?_
    rintro e w1 ⟨rfl, hbw1⟩
    have z1 := hbw1.size
    simp at z1
    have hb1 : Below w.heap.size w w1 := by ((repeat' first | with_reducible exact Below.refl _ _ | with_reducible assumption | with_reducible refine Below.alloc ?_ ?_ _ | with_reducible refine Below.setCell ?_ ?_ _ | with_reducible apply Below.drew | with_reducible apply below_drewN | with_reducible refine below_call ?_ (by with_reducible assumption) ?_) <;> (first | omega | (simp; done) | (simp; omega) | (simp at *; omega)))
    obtain ⟨q0, _⟩ := new_keep hbw1 0 rfl
    obtain ⟨q1, _⟩ := new_keep hbw1 1 rfl
    obtain ⟨q2, _⟩ := new_keep hbw1 2 rfl
    obtain ⟨q3, _⟩ := new_keep hbw1 3 rfl
    simp at q0 q1 q2 q3
    go_wp2_with fail
    refine (hp1 _ hb1).mono ?_
    rintro e w2 ⟨b2, rfl, hown2, hbw2⟩
    obtain ⟨A2, c2, rfl, hl2, hc2⟩ := hown2.form
    have z2 := hbw2.size
    have hb2 : Below w.heap.size w w2 := by ((repeat' first | with_reducible exact Below.refl _ _ | with_reducible assumption | with_reducible refine Below.alloc ?_ ?_ _ | with_reducible refine Below.setCell ?_ ?_ _ | with_reducible apply Below.drew | with_reducible apply below_drewN | with_reducible refine below_call ?_ (by with_reducible assumption) ?_) <;> (first | omega | (simp; done) | (simp; omega) | (simp at *; omega)))
    go_wp2_with fail
    refine (hgb _ hb2).mono ?_
    rintro e w10 ⟨y2, rfl, hy2, hbw10⟩
    obtain ⟨ky, ny, sy, Ay, my, cy, rfl⟩ := hy2.form
    have z10 := hbw10.size
    have hb10 : Below w.heap.size w w10 := below_call hb2 hbw10 (by omega)
    have hal : Below w10.heap.size w10 (w10.alloc (.cells #[.int .i64 ky, .int .u64 ny, .string sy, .slice Ay my cy] 25)) := below_one _
    rcases hcg with he2 | ⟨he2, hpy, hfy, hsy⟩
    · have he2' : ((e2 : Int) != 0) = true := by simp; omega
      clear hy2
      go_wp2_with fail
      refine (awake _).mono ?_
      rintro e wz ⟨rfl, hbwz⟩
      go_wp2_with fail
      go_ret
      exact ⟨rfl, below_call (hb10.trans (hal.mono (by omega))) hbwz (by first | omega | (simp; omega))⟩
    · subst he2
      have hput := put3_any Y _ (w10.alloc (.cells #[.int .i64 ky, .int .u64 ny, .string sy, .slice Ay my cy] 25)) hsy (hy2.holds.keep hal)
      rw [hpy, hfy] at hput
      clear hy2
      go_wp2_with fail
      refine hput.mono ?_
      rintro e w11 ⟨bp, rfl, hownp, hbw11⟩
      obtain ⟨Ap, cp, rfl, _, _⟩ := hownp.form
      have z11 := hbw11.size
      simp at z11
      have hb11 : Below w.heap.size w w11 := below_call (hb10.trans (hal.mono (by omega))) hbw11 (by simp; omega)
      have hsm := same_any Ap B L.length m2 cp cap2 L L w11 hownp.bytes.2.2 (hb.keep hb11)
      simp only [decide_true] at hsm
      clear hput
      go_wp2_with fail
      refine hsm.mono ?_
      rintro e w12 ⟨rfl, hbw12⟩
      have z12 := hbw12.size
      have hb12 : Below w.heap.size w w12 := below_call hb11 hbw12 (by omega)
      go_wp2_with fail
      refine (awake _).mono ?_
      rintro e wz ⟨rfl, hbwz⟩
      go_wp2_with fail
      go_ret
      exact ⟨rfl, below_call hb12 hbwz (by first | omega | (simp; omega))⟩
end Go.Proofs.Ytekbebekihcnpaa
