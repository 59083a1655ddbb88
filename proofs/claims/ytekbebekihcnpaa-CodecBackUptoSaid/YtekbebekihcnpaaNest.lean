/- The walk of the law CodecNest. -/
import Derived.Test.YtekbebekihcnpaaGet
import Derived.Test.YtekbebekihcnpaaCodecKinds
namespace Go.Proofs.Ytekbebekihcnpaa
open Go.RowKit
set_option linter.unusedVariables false
set_option linter.unusedSimpArgs false
set_option maxRecDepth 20000
attribute [local go_sem ↓] Go.wp_at_zero Go.wp_at_succ
attribute [local go_sem] World.cell?_alloc_some frozen_alloc_some
attribute [local go_sem] lt2 lt3 lt4 lt5
attribute [local simp] lt2 lt3 lt4 lt5

theorem clone_src (ad : Addr) (m c : Nat) (news : List Value) (w : World) (hsrc0 : Src w 4 (some ad) m news) (hm : m ≤ 1000000000) :
    Calls Try.prog 32 #[.slice (some ad) m c] w (fun e w' => ∃ A' c', e = .returned (.slice A' m c') ∧ w'.ownsRow w.heap.size 25 4 (.slice A' m c') m news ∧ Below w.heap.size w w') := by
  obtain ⟨i1, hi, hz0, hz1, hz2⟩ := info_item
  have hk : Below w.heap.size w (w.alloc (.cells #[] 25)) := below_one _
  have hnil := fun W : World => Lib.run_eql_slice_some_nil (P := Try.prog) W ad m c Try.underlying23
  have hsrc := hsrc0.keep hk
  have hown : (w.alloc (.cells #[] 25)).ownsRow w.heap.size 25 4 (.slice (some ⟨w.heap.size, 0, none⟩) 0 0) 0 [] := World.ownsRow_made w #[] 0 (Nat.le_refl _) (Nat.zero_le _) (by simp)
  go_enter Try.func32, Try.ntmps32
  go_wp2_with (at_builtin; go_loud (refine wpList_app _ rfl (.tmp 5) (.tmp 6) 23 rfl _ 25 i1 _ 4 56 Try.underlying23 hi hz0 hz1 hz2 rfl (by omega) _ _ _ rfl hown _ _ _ _ rfl hsrc ?h63 ?hby ?hbase ?_); (case h63 => (unfold maxLen; first | omega | (simp; done) | (simp; omega))); (case hby => first | omega | (simp; done) | (simp; omega)); (case hbase => first | omega | (simp; done) | (simp; omega)); intro v2 w2 hownw2 hgroww2 hatw2 holdw2)
  have hb2 := below_app hk hown hgroww2 (Nat.le_refl _) (by simp)
  have hown2 : w2.ownsRow w.heap.size 25 4 v2 m news := by simpa using hownw2
  obtain ⟨A2, c2, rfl, _, _⟩ := own_form hown2
  go_ret
  exact ⟨_, _, rfl, hown2, hb2⟩
theorem list_src (ad : Addr) (m c : Nat) (news : List Value) (w : World) (hsrc0 : Src w 4 (some ad) m news) (hm : m ≤ 1000000000) :
    Calls Try.prog 19 #[.slice (some ad) m c] w (fun e w' => ∃ A' c', e = .returned (.agg #[.int .i64 2, .int .u64 0, .string ByteArray.empty, .slice A' m c']) ∧ w'.ownsRow (w.heap.size + 1) 25 4 (.slice A' m c') m news ∧ Below w.heap.size w w') := by
  have hcl : ∀ W, Below w.heap.size w W → Calls Try.prog 32 #[.slice (some ad) m c] W (fun e w' => ∃ A' c', e = .returned (.slice A' m c') ∧ w'.ownsRow W.heap.size 25 4 (.slice A' m c') m news ∧ Below W.heap.size W w') := fun W hb => clone_src ad m c news W (hsrc0.keep hb) hm
  clear hsrc0
  go_enter Try.func19, Try.ntmps19
  go_wp2_with fail
  refine (hcl _ (by ((repeat' first | with_reducible exact Below.refl _ _ | with_reducible assumption | with_reducible refine Below.alloc ?_ ?_ _ | with_reducible refine Below.setCell ?_ ?_ _ | with_reducible apply Below.drew | with_reducible apply below_drewN | with_reducible refine below_call ?_ (by with_reducible assumption) ?_) <;> (first | omega | (simp; done) | (simp; omega) | (simp at *; omega))))).mono ?_
  rintro e w1 ⟨A', c', rfl, hown, hb1⟩
  have hz1 := hb1.size
  simp at hz1
  obtain ⟨q0, r0⟩ := new_keep hb1 0 rfl
  obtain ⟨q1, r1⟩ := new_keep hb1 1 rfl
  obtain ⟨q2, r2⟩ := new_keep hb1 2 rfl
  obtain ⟨q3, r3⟩ := new_keep hb1 3 rfl
  simp only [World.size_alloc] at hown
  have Hown := Lib.hid hown
  clear hown
  go_wp2_with fail
  have hbw : Below w.heap.size w w1 := by ((repeat' first | with_reducible exact Below.refl _ _ | with_reducible assumption | with_reducible refine Below.alloc ?_ ?_ _ | with_reducible refine Below.setCell ?_ ?_ _ | with_reducible apply Below.drew | with_reducible apply below_drewN | with_reducible refine below_call ?_ (by with_reducible assumption) ?_) <;> (first | omega | (simp; done) | (simp; omega) | (simp at *; omega)))
  refine bodyPost_ret (v := .agg #[.int .i64 2, .int .u64 0, .string ByteArray.empty, .slice A' m c']) (by simp [results, Try.results19, go_sem, *] <;> rfl) rfl ?_
  have h4 := ownsRow_setCell_below (ownsRow_setCell_below (ownsRow_setCell_below (ownsRow_setCell_below Hown.out (a := ⟨w.heap.size, 0, none⟩) (by simp) (.int .i64 2)) (a := ⟨w.heap.size, 1, none⟩) (by simp) (.int .u64 0)) (a := ⟨w.heap.size, 2, none⟩) (by simp) (.string ByteArray.empty)) (a := ⟨w.heap.size, 3, none⟩) (by simp) (.slice A' m c')
  exact ⟨_, _, rfl, h4, by ((repeat' first | with_reducible exact Below.refl _ _ | with_reducible assumption | with_reducible refine Below.alloc ?_ ?_ _ | with_reducible refine Below.setCell ?_ ?_ _ | with_reducible apply Below.drew | with_reducible apply below_drewN | with_reducible refine below_call ?_ (by with_reducible assumption) ?_) <;> (first | omega | (simp; done) | (simp; omega) | (simp at *; omega)))⟩

theorem add0 (g j : Nat) : (⟨g, 0, none⟩ : Addr).add j = ⟨g, j, none⟩ := by unfold Addr.add; split <;> simp_all
/-- A text in so many lists. -/
def nest (s : ByteArray) : Nat → Tree
  | 0 => kB s
  | k + 1 => .mk 2 0 ByteArray.empty [nest s k]
theorem nest_check (s : ByteArray) : ∀ (k d : Nat), d ≤ 16 → check (nest s k) d = if d + k < 16 then 0 else 12 := by
  intro k
  induction k with
  | zero =>
    intro d hd
    by_cases h : d = 16
    · subst h; simp [nest, kB, check, bad]
    · rw [if_pos (by omega)]; exact kB_check s d (by omega)
  | succ k ih =>
    intro d hd
    by_cases h : d = 16
    · subst h; simp [nest, check, bad, esize]
    · have h1 := ih (d + 1) (by omega)
      have e0 : checks [nest s k] (d + 1) = check (nest s k) (d + 1) := by
        simp only [checks]
        split
        · rename_i h3; rw [h3]
        · rfl
      have e : check (nest s (k + 1)) d = check (nest s k) (d + 1) := by
        rw [← e0]
        simp [nest, check, bad, esize, h]
      rw [e, h1]
      by_cases h2 : d + 1 + k < 16
      · rw [if_pos h2, if_pos (by omega)]
      · rw [if_neg h2, if_neg (by omega)]
theorem nest_size (s : ByteArray) (k : Nat) : tsize (nest s k) = k + 1 + s.size := by
  induction k with
  | zero => simp [nest, kB_size]
  | succ k ih => simp [nest, tsize, tsizes, ih, esize]; omega
theorem nest_len {s : ByteArray} (hs : s.size < 2 ^ 64) (k : Nat) : (tform (nest s k)).length ≤ 2 * k + 10 + s.size := by
  induction k with
  | zero => have := form_len (v := s.size) hs; simp [nest, kB_form, txt_length]; omega
  | succ k ih =>
    have e : tform (nest s (k + 1)) = [2, 1] ++ tform (nest s k) := by simp [nest, tform, tforms, form_small]
    rw [e]; simp; omega
theorem nest_tsize {s : ByteArray} (hs : s.size ≤ 100) {k : Nat} (hk : k < 24) : tsize (nest s k) ≤ 10000000 := by rw [nest_size]; omega
theorem nest_tlen {s : ByteArray} (hs : s.size ≤ 100) {k : Nat} (hk : k < 24) : (tform (nest s k)).length ≤ 1048576 := Nat.le_trans (nest_len (by omega) k) (by omega)
theorem nest_ok {s : ByteArray} (hs : s.size ≤ 100) {k : Nat} (hk : k < 16) : check (nest s k) 0 = 0 ∧ perr (nest s k) = 0 ∧ pform (nest s k) = tform (nest s k) := by
  have h1 : check (nest s k) 0 = 0 := by rw [nest_check s k 0 (by decide), if_pos (by omega)]
  have h2 := perr_zero h1 (nest_tlen hs (by omega))
  exact ⟨h1, h2, pform_zero h2⟩
theorem nest_no {s : ByteArray} {k : Nat} (hk : 16 ≤ k) : perr (nest s k) = 12 ∧ pform (nest s k) = [] := by
  have h1 : check (nest s k) 0 = 12 := by rw [nest_check s k 0 (by decide), if_neg (by omega)]
  have h2 : perr (nest s k) = 12 := by simp [perr, h1]
  exact ⟨h2, by simp [pform, h2]⟩
theorem cget_form {t : Tree} (hf : Fit t) (hc : check t 0 = 0) (hl : (tform t).length ≤ 1048576) : cget (tform t) = (t, 0, 0) := by
  have h := gtake_form t 0 16 0 [] hf hc rfl
  rw [List.append_nil] at h
  simp only [cget]
  rw [if_neg (by omega), h]
  simp

set_option maxHeartbeats 16000000 in
theorem nest_walk (s : ByteArray) (d : Nat) (w : World) (hsm : s.size ≤ maxLen) (hd : d < 256) :
    Calls Try.prog 9 #[.string s, .int .u8 (d : Int)] w (Gives w (.bool true)) := by
  have awake := awake03
  by_cases hs : 100 < s.size
  · have hs' : (100 : Int) < (s.size : Int) := by omega
    go_enter Try.func9, Try.ntmps9
    go_wp2_with fail
    refine (awake _).mono ?_
    rintro e w1 ⟨rfl, hbw1⟩
    go_wp2_with fail
    go_ret
    exact ⟨rfl, by ((repeat' first | with_reducible exact Below.refl _ _ | with_reducible assumption | with_reducible refine Below.alloc ?_ ?_ _ | with_reducible refine Below.setCell ?_ ?_ _ | with_reducible apply Below.drew | with_reducible apply below_drewN | with_reducible refine below_call ?_ (by with_reducible assumption) ?_) <;> (first | omega | (simp; done) | (simp; omega) | (simp at *; omega)))⟩
  have hs' : ¬ (100 : Int) < (s.size : Int) := by omega
  have hs1 : s.size ≤ 100 := by omega
  have htxt := codectext_any s
  obtain ⟨n, hn⟩ : ∃ n, n = d % 24 := ⟨_, rfl⟩
  have hn24 : n < 24 := by omega
  have w1' : IntKind.i64.wrap (d : Int) = (d : Int) := IntWalk.i64_in _ (by omega)
  have w2' : (d : Int).tmod 24 = (n : Int) := by rw [Int.tmod_eq_emod_of_nonneg (by omega)]; omega
  have w3' : wrap64 (d : Int) = (d : Int) := by simp only [wrap64]; omega
  have w4' : wrap64 (n : Int) = (n : Int) := by simp only [wrap64]; omega
  clear hn
  go_enter Try.func9, Try.ntmps9
  go_wp2_with fail
  refine (htxt _).mono ?_
  rintro e w1 ⟨rfl, hbw1⟩
  have hz1 := hbw1.size
  unfold textV
  go_wp2_with fail
  go_loopw [7] (fun s7 wr => ∃ (j : Nat) (k x : Int) (t : ByteArray) (A : Option Addr) (m c : Nat), j ≤ n ∧ s7 = .int .i64 j ∧ Blk wr w1.heap.size 25 #[.int .i64 k, .int .u64 x, .string t, .slice A m c] ∧ HoldsIn wr (fun b => b ≠ w1.heap.size) (nest s j) (.agg #[.int .i64 k, .int .u64 x, .string t, .slice A m c]) ∧ Below w.heap.size w wr) (fun s7 _ => n - (intOf s7).toNat)
  case atStart => exact ⟨0, 1, 0, s, none, 0, 0, by omega, rfl, Blk.new _ _ _, hin_text _ _ hsm, by ((repeat' first | with_reducible exact Below.refl _ _ | with_reducible assumption | with_reducible refine Below.alloc ?_ ?_ _ | with_reducible refine Below.setCell ?_ ?_ _ | with_reducible apply Below.drew | with_reducible apply below_drewN | with_reducible refine below_call ?_ (by with_reducible assumption) ?_) <;> (first | omega | (simp; done) | (simp; omega) | (simp at *; omega)))⟩
  case round =>
    obtain ⟨j, k, x, t, A, m, c, hj, rfl, hblk, hin, hbr⟩ := hrel
    have hzb := hblk.lt
    have k0 : wr.cell? ⟨w1.heap.size, 0, none⟩ = some (.int .i64 k) := by rw [hblk.cell]; rfl
    have k1 : wr.cell? ⟨w1.heap.size, 1, none⟩ = some (.int .u64 x) := by rw [hblk.cell]; rfl
    have k2 : wr.cell? ⟨w1.heap.size, 2, none⟩ = some (.string t) := by rw [hblk.cell]; rfl
    have k3 : wr.cell? ⟨w1.heap.size, 3, none⟩ = some (.slice A m c) := by rw [hblk.cell]; rfl
    have Hblk := Lib.hid hblk
    have Hin := Lib.hid hin
    have hfour := hin.four
    clear hin
    by_cases hlt : j < n
    · have j1 : (j : Int) < (n : Int) := by omega
      clear hblk
      go_wp2_with fail
      refine (list_src ⟨wr.heap.size, 0, none⟩ 1 1 _ _ (src_item (w := wr) (e := 25) hfour.1 hfour.2) (by omega)).mono ?_
      rintro e w2 ⟨A', c', rfl, hown, hbw2⟩
      have hz2 := hbw2.size
      simp at hz2
      have hbw2' : Below wr.heap.size wr w2 := by ((repeat' first | with_reducible exact Below.refl _ _ | with_reducible assumption | with_reducible refine Below.alloc ?_ ?_ _ | with_reducible refine Below.setCell ?_ ?_ _ | with_reducible apply Below.drew | with_reducible apply below_drewN | with_reducible refine below_call ?_ (by with_reducible assumption) ?_) <;> (first | omega | (simp; done) | (simp; omega) | (simp at *; omega)))
      have hin2 : HoldsIn w2 (fun b => b ≠ w1.heap.size) (nest s (j + 1)) (.agg #[.int .i64 2, .int .u64 0, .string ByteArray.empty, .slice A' 1 c']) := by
        obtain ⟨_, _, ev, hle, hmx⟩ := own_form hown
        cases ev
        obtain ⟨g, hA, hg⟩ : ∃ g, A' = some (⟨g, 0, none⟩ : Addr) ∧ wr.heap.size + 1 ≤ g := by
          rcases hown.2 with ⟨_, hl⟩ | ⟨g, cap, cur, hv, hb, _⟩
          · omega
          · injection hv with hv _ _; exact ⟨g, hv, by simp at hb; omega⟩
        subst hA
        refine .mk 2 0 ByteArray.empty [nest s j] (some ⟨g, 0, none⟩) 1 c' (fun _ => .agg #[.int .i64 k, .int .u64 x, .string t, .slice A m c]) (by decide) (by decide) (by decide) rfl hle hmx (fun i hi => ⟨g, 0, rfl, (by show g ≠ w1.heap.size; omega), fun jj u hu => ?_⟩) (fun i t' ht => ?_)
        · obtain rfl : i = 0 := by omega
          have := hown.cells (g := g) rfl jj u (by rw [← Array.getElem?_toList] at hu; exact hu)
          rw [add0] at this
          rw [show 0 + (4 * 0 + jj) = jj by omega]
          exact this
        · cases i with
          | zero => simp at ht; subst ht; exact Hin.out.under hbw2'
          | succ i => simp at ht
      have hblk2 := Hblk.out.keep hbw2'
      have f0 := hblk2.frozen 0
      have f1 := hblk2.frozen 1
      have f2 := hblk2.frozen 2
      have f3 := hblk2.frozen 3
      have m0 := cell_keep hbw2' k0
      have m1 := cell_keep hbw2' k1
      have m2 := cell_keep hbw2' k2
      have m3 := cell_keep hbw2' k3
      have hblk3 := (((hblk2.set_ 0 (.int .i64 2)).set_ 1 (.int .u64 0)).set_ 2 (.string ByteArray.empty)).set_ 3 (.slice A' 1 c')
      have hin3 := (((hin2.set (p := ⟨w1.heap.size, 0, none⟩) (by simp) (.int .i64 2)).set (p := ⟨w1.heap.size, 1, none⟩) (by simp) (.int .u64 0)).set (p := ⟨w1.heap.size, 2, none⟩) (by simp) (.string ByteArray.empty)).set (p := ⟨w1.heap.size, 3, none⟩) (by simp) (.slice A' 1 c')
      have Hblk3 := Lib.hid hblk3
      have Hin3 := Lib.hid hin3
      clear hown hin2 hblk2 hblk3 hin3 hfour k0 k1 k2 k3
      go_wp2_with fail
      go_roundw
      case rel => exact ⟨j + 1, 2, 0, ByteArray.empty, A', 1, c', by omega, by go_num, (by have := Hblk3.out; simpa using this), Hin3.out, by ((repeat' first | with_reducible exact Below.refl _ _ | with_reducible assumption | with_reducible refine Below.alloc ?_ ?_ _ | with_reducible refine Below.setCell ?_ ?_ _ | with_reducible apply Below.drew | with_reducible apply below_drewN | with_reducible refine below_call ?_ (by with_reducible assumption) ?_) <;> (first | omega | (simp; done) | (simp; omega) | (simp at *; omega)))⟩
      case measure => simp [intOf]; omega
    · have hjn : j = n := by omega
      subst hjn
      clear w1' w2' w3' w4' hlt hj
      have hput := put3_any (nest s j) _ wr (nest_tsize hs1 hn24) Hin.out.holds
      have hfit := Hin.out.holds.fit
      clear hblk hfour
      by_cases h16 : j < 16
      · have hj16 : ¬ (16 : Int) ≤ (j : Int) := fun h => absurd (Int.ofNat_le.1 h) (Nat.not_le.2 h16)
        obtain ⟨hchk, hpe, hpf⟩ := nest_ok hs1 h16
        rw [hpf, hpe] at hput
        have hget := cget_form hfit hchk (nest_tlen hs1 hn24)
        have Hget := Lib.hid hget
        clear hchk hget hpe hpf
        go_wp2_with fail
        refine hput.mono ?_
        rintro e w2 ⟨b, rfl, hown, hbw2⟩
        obtain ⟨A2, c2, rfl, hl2, hc2⟩ := hown.form
        have hz2 := hbw2.size
        have m0 := cell_keep hbw2 k0
        have m1 := cell_keep hbw2 k1
        have m2 := cell_keep hbw2 k2
        have m3 := cell_keep hbw2 k3
        have hg := get3_any A2 _ c2 _ w2 hown.bytes.2.2 hl2 hc2
        rw [Hget.out] at hg
        clear k0 k1 k2 k3 hput
        go_wp2_with fail
        refine hg.mono ?_
        rintro e w3 ⟨y, rfl, hy, hbw3⟩
        obtain ⟨ky, ny, sy, Ay, my, cy, rfl⟩ := hy.form
        have hz3 := hbw3.size
        replace m0 := cell_keep hbw3 m0
        replace m1 := cell_keep hbw3 m1
        replace m2 := cell_keep hbw3 m2
        replace m3 := cell_keep hbw3 m3
        have p0 := cell_alloc (o := .cells #[.int .i64 ky, .int .u64 ny, .string sy, .slice Ay my cy] 25) m0
        have p1 := cell_alloc (o := .cells #[.int .i64 ky, .int .u64 ny, .string sy, .slice Ay my cy] 25) m1
        have p2 := cell_alloc (o := .cells #[.int .i64 ky, .int .u64 ny, .string sy, .slice Ay my cy] 25) m2
        have p3 := cell_alloc (o := .cells #[.int .i64 ky, .int .u64 ny, .string sy, .slice Ay my cy] 25) m3
        have hal : Below w3.heap.size w3 (w3.alloc (.cells #[.int .i64 ky, .int .u64 ny, .string sy, .slice Ay my cy] 25)) := below_one _
        have hsame := codecsame_any (nest s j) (nest s j) _ _ _ ((((Hin.out.holds.keep hbw2).keep hbw3)).keep hal) (hy.holds.keep hal)
        rw [tsame_self] at hsame
        have hbk : Below w.heap.size w w3 := by ((repeat' first | with_reducible exact Below.refl _ _ | with_reducible assumption | with_reducible refine Below.alloc ?_ ?_ _ | with_reducible refine Below.setCell ?_ ?_ _ | with_reducible apply Below.drew | with_reducible apply below_drewN | with_reducible refine below_call ?_ (by with_reducible assumption) ?_) <;> (first | omega | (simp; done) | (simp; omega) | (simp at *; omega)))
        clear hg m0 m1 m2 m3
        go_wp2_with fail
        refine hsame.mono ?_
        rintro e w4 ⟨rfl, hbw4⟩
        have hz4 := hbw4.size
        simp at hz4
        have hbk4 : Below w.heap.size w w4 := by ((repeat' first | with_reducible exact Below.refl _ _ | with_reducible assumption | with_reducible refine Below.alloc ?_ ?_ _ | with_reducible refine Below.setCell ?_ ?_ _ | with_reducible apply Below.drew | with_reducible apply below_drewN | with_reducible refine below_call ?_ (by with_reducible assumption) ?_) <;> (first | omega | (simp; done) | (simp; omega) | (simp at *; omega)))
        go_wp2_with fail
        refine (awake _).mono ?_
        rintro e w9 ⟨rfl, hbw9⟩
        go_wp2_with fail
        go_ret
        exact ⟨rfl, by ((repeat' first | with_reducible exact Below.refl _ _ | with_reducible assumption | with_reducible refine Below.alloc ?_ ?_ _ | with_reducible refine Below.setCell ?_ ?_ _ | with_reducible apply Below.drew | with_reducible apply below_drewN | with_reducible refine below_call ?_ (by with_reducible assumption) ?_) <;> (first | omega | (simp; done) | (simp; omega) | (simp at *; omega)))⟩
      · have hj17 : 16 ≤ j := Nat.le_of_not_lt h16
        have hj16 : (16 : Int) ≤ (j : Int) := Int.ofNat_le.2 hj17
        obtain ⟨hpe, hpf⟩ := nest_no (s := s) (k := j) hj17
        rw [hpf, hpe] at hput
        clear hpe hpf hfit
        go_wp2_with fail
        refine hput.mono ?_
        rintro e w2 ⟨b, rfl, hown, hbw2⟩
        obtain ⟨A2, c2, rfl, hl2, hc2⟩ := hown.form
        have hz2 := hbw2.size
        go_wp2_with fail
        refine (awake _).mono ?_
        rintro e w9 ⟨rfl, hbw9⟩
        go_wp2_with fail
        go_ret
        exact ⟨rfl, by ((repeat' first | with_reducible exact Below.refl _ _ | with_reducible assumption | with_reducible refine Below.alloc ?_ ?_ _ | with_reducible refine Below.setCell ?_ ?_ _ | with_reducible apply Below.drew | with_reducible apply below_drewN | with_reducible refine below_call ?_ (by with_reducible assumption) ?_) <;> (first | omega | (simp; done) | (simp; omega) | (simp at *; omega)))⟩
end Go.Proofs.Ytekbebekihcnpaa
