/- The walk of the law CrcTurned (package stonecroplaw02). -/
import Derived.Test.YtdmbpndplflebaaCrcSums
import Derived.Test.YtdmbpndplflebaaAppB
namespace Go.Proofs.Ytdmbpndplflebaa
open Go.RowKit
set_option linter.unusedVariables false
set_option linter.unusedSimpArgs false
attribute [local go_sem ↓] Go.wp_at_zero Go.wp_at_succ
attribute [local go_sem] World.cell?_alloc_some frozen_alloc_some
attribute [local go_sem] lt2 lt3 lt4 lt5
attribute [local simp] lt2 lt3 lt4 lt5

theorem wrap_u64 (n : Int) : IntKind.u64.wrap n = n % 18446744073709551616 := by simp [IntKind.wrap, IntKind.bits, IntKind.signed]
theorem pow_small {i : Nat} (h : i ≤ 8) : 2 ^ i ≤ 256 := by
  have : 2 ^ i ≤ 2 ^ 8 := Nat.pow_le_pow_right (by decide) h
  omega

set_option maxHeartbeats 4000000 in
theorem turned_walk (A : Option Addr) (n cap : Nat) (l : List Nat) (at_ turn : Int) (w : World) (hb : Bytes w A n l)
    (h1 : (Lit.int .i64 at_).wf = true) (h2 : (Lit.int .u32 turn).wf = true) :
    Calls Try.prog 6 #[.slice A n cap, .int .i64 at_, .int .u32 turn] w (Gives w (.bool true)) := by
  have t1 := (wf_u32 h2).1
  have t2 := (wf_u32 h2).2
  by_cases hn1 : 2000 < n
  · go_enter Try.func6, Try.ntmps6
    go_wp2_with (go_at_call 19; refine (awake02 _).mono ?_; rintro e w1 ⟨rfl, hbw1⟩; obtain ⟨hcw1, hfw1⟩ := keeps hbw1; have hzw1 := hbw1.size; (try simp at hzw1); clear hcw1 hfw1)
    go_ret
    exact ⟨rfl, by ((repeat' first | with_reducible exact Below.refl _ _ | with_reducible assumption | with_reducible refine Below.alloc ?_ ?_ _ | with_reducible refine Below.setCell ?_ ?_ _ | with_reducible apply Below.drew | with_reducible apply below_drewN | with_reducible refine below_call ?_ (by with_reducible assumption) ?_) <;> (first | omega | (simp; done) | (simp; omega) | (simp at *; omega)))⟩
  by_cases hn2 : n < 5
  · go_enter Try.func6, Try.ntmps6
    go_wp2_with (go_at_call 19; refine (awake02 _).mono ?_; rintro e w1 ⟨rfl, hbw1⟩; obtain ⟨hcw1, hfw1⟩ := keeps hbw1; have hzw1 := hbw1.size; (try simp at hzw1); clear hcw1 hfw1)
    go_ret
    exact ⟨rfl, by ((repeat' first | with_reducible exact Below.refl _ _ | with_reducible assumption | with_reducible refine Below.alloc ?_ ?_ _ | with_reducible refine Below.setCell ?_ ?_ _ | with_reducible apply Below.drew | with_reducible apply below_drewN | with_reducible refine below_call ?_ (by with_reducible assumption) ?_) <;> (first | omega | (simp; done) | (simp; omega) | (simp at *; omega)))⟩
  by_cases ht0 : turn = 0
  · subst ht0
    go_enter Try.func6, Try.ntmps6
    go_wp2_with (go_at_call 19; refine (awake02 _).mono ?_; rintro e w1 ⟨rfl, hbw1⟩; obtain ⟨hcw1, hfw1⟩ := keeps hbw1; have hzw1 := hbw1.size; (try simp at hzw1); clear hcw1 hfw1)
    go_ret
    exact ⟨rfl, by ((repeat' first | with_reducible exact Below.refl _ _ | with_reducible assumption | with_reducible refine Below.alloc ?_ ?_ _ | with_reducible refine Below.setCell ?_ ?_ _ | with_reducible apply Below.drew | with_reducible apply below_drewN | with_reducible refine below_call ?_ (by with_reducible assumption) ?_) <;> (first | omega | (simp; done) | (simp; omega) | (simp at *; omega)))⟩
  have hn3 : n ≤ 2000 := by omega
  have hn4 : 5 ≤ n := by omega
  have htb : (turn == 0) = false := by simpa using ht0
  obtain ⟨t, rfl⟩ := Int.eq_ofNat_of_zero_le t1
  have ht1 : t < 2 ^ 32 := by omega
  have ht2 : t ≠ 0 := by omega
  have hpk := pickV_range (k := at_) (n := 8 * ((n : Int) - 4)) (by omega)
  obtain ⟨k, hkv⟩ := Int.eq_ofNat_of_zero_le hpk.1
  have p1 : ∀ W, Calls Try.prog 22 #[.int .i64 at_, .int .i64 (8 * ((n : Int) - 4))] W (Gives W (.int .i64 (k : Int))) := fun W => by
    rw [← hkv]; exact pick_any _ _ W (by omega) (by omega) h1
  obtain ⟨p, hp⟩ : ∃ p, p = k / 8 := ⟨_, rfl⟩
  obtain ⟨s, hs⟩ : ∃ s, s = k % 8 := ⟨_, rfl⟩
  have hp5 : p + 5 ≤ n := by omega
  have hs8 : s < 8 := by omega
  have hk0 : k ≤ 16000 := by omega
  have hq : (k : Int) / 8 = (p : Int) := by omega
  have hr : (k : Int) % 8 = (s : Int) := by omega
  clear hpk hkv hp hs ht0 hn1 hn2 t1 t2
  have hln := hb.1
  have Hln := Lib.hid hln
  have hcrc := crc_turned l hb.lt p s t (by omega) hs8 ht1 ht2
  have Hcrc := Lib.hid hcrc
  have hdl : (turnd l.length p (2 ^ s * t)).length = l.length := turnd_length (by omega)
  have hgd : ∀ i, i < n → (zx l (turnd l.length p (2 ^ s * t))).getD i 0 = l.getD i 0 ^^^ (if p ≤ i ∧ i < p + 5 then (2 ^ s * t) / 256 ^ (i - p) % 256 else 0) := fun i hi => by
    rw [zx_getD _ _ hdl.symm _ (by omega), turnd_getD (by omega) (by omega)]
  have hzl : (zx l (turnd l.length p (2 ^ s * t))).length = n := by rw [zx_length _ _ hdl.symm]; omega
  have Hgd := Lib.hid hgd
  have Hzl := Lib.hid hzl
  have hD : 2 ^ s * t < 1099511627776 := by
    have := pow_small (i := s) (by omega)
    have h3 : 2 ^ s * t ≤ 256 * t := Nat.mul_le_mul_right _ this
    omega
  obtain ⟨i0, hi, hz0, hz1, hz2⟩ := info_parts info_u8
  clear hln hcrc hdl hgd hzl
  have hown0 : OwnB (w.alloc (.cells #[] 5)) w.heap.size 5 (.slice (some ⟨w.heap.size, 0, none⟩) 0 0) [] := OwnB.made (Nat.le_refl _)
  have hsrc0 : Src (w.alloc (.cells #[] 5)) 1 A n (u8s l) := Src.of_bytes (hb.keep ((Below.refl _ _).alloc (Nat.le_refl _) _))
  go_enter Try.func6, Try.ntmps6
  go_wp2_with (first
    | (at_builtin; go_loud (refine wpList_app _ rfl (.tmp 25) (.tmp 26) 30 rfl _ 5 i0 _ 1 1 Try.underlying30 hi hz0 hz1 hz2 rfl (by omega) _ _ _ rfl hown0.1 _ _ _ _ rfl hsrc0 ?h63 ?hby ?hbase ?_); (case h63 => (unfold maxLen; first | omega | (simp; done) | (simp; omega))); (case hby => first | omega | (simp; done) | (simp; omega)); (case hbase => first | omega | (simp; done) | (simp; omega)); intro v' w1 hownw1 hgroww1 hatw1 holdw1)
    | (go_at_call 22; (with_reducible refine (p1 _).mono ?_); rintro e w2 ⟨rfl, hbw2⟩; have hzw2 := hbw2.size))
  have hbl2 := hb.lt
  have hown1 : OwnB w1 w.heap.size 5 v' l := ⟨by rw [← Hln.out]; simpa [u8s] using hownw1, hbl2⟩
  have hb1 : Below w.heap.size w w1 := below_app ((Below.refl _ _).alloc (Nat.le_refl _) _) hown0.1 hgroww1 (Nat.le_refl _) (by simp)
  have hown2 := hown1.keep hbw2
  have hb2 : Below w.heap.size w w2 := below_call hb1 hbw2 hb1.size
  obtain ⟨g, c', hv, hg1, hg2⟩ := hown2.1.form (by have := Hln.out; omega)
  rw [← Hln.out] at hv
  subst hv
  clear hownw1 hgroww1 hatw1 holdw1 hown1 hown0 hsrc0 hbw2 hb1 hzw2
  -- the number is turned so that it begins at the place's bit
  go_loop [9, 10] (fun s9 s10 => ∃ i : Nat, i ≤ s ∧ s10 = .int .i64 i ∧ s9 = .int .u64 ((2 ^ i * t : Nat) : Int)) (fun _ s10 => s - (intOf s10).toNat)
  case atStart => exact ⟨0, by omega, rfl, by simp⟩
  case round =>
    obtain ⟨i, his, rfl, rfl⟩ := hrel
    have hx : 2 ^ i * t ≤ 256 * t := Nat.mul_le_mul_right _ (pow_small (by omega))
    have hnx : 2 ^ (i + 1) * t = 2 ^ i * t * 2 := by rw [Nat.pow_succ, Nat.mul_assoc, Nat.mul_comm 2 t, ← Nat.mul_assoc]
    have hfull : i = s → 2 ^ i * t = 2 ^ s * t := fun e => by rw [e]
    have Hnx := Lib.hid hnx
    have Hfull := Lib.hid hfull
    clear hnx hfull
    generalize 2 ^ i * t = x at *
    by_cases hlt : i < s
    · have hw : IntKind.u64.wrap ((x : Int) * 2) = ((x * 2 : Nat) : Int) := by rw [wrap_u64]; omega
      go_wp2_with fail
      go_round
      case rel => exact ⟨i + 1, by omega, by go_num, by rw [Hnx.out]; go_num⟩
      case measure => simp [intOf]; omega
    · have hxd : x = 2 ^ s * t := Hfull.out (by omega)
      generalize 2 ^ s * t = D at *
      subst hxd
      go_wp2_with fail
      go_loopw [9, 11] (fun s9 s11 wr => ∃ (j : Nat) (y : List Nat), j ≤ 5 ∧ s11 = .int .i64 j ∧ s9 = .int .u64 ((x / 256 ^ j : Nat) : Int) ∧ y.length = n ∧
          (∀ q, q < n → y.getD q 0 = l.getD q 0 ^^^ (if p ≤ q ∧ q < p + j then x / 256 ^ (q - p) % 256 else 0)) ∧ OwnB wr w.heap.size 5 (.slice (some ⟨g, 0, none⟩) n c') y ∧ Below w.heap.size w wr) (fun _ s11 _ => 5 - (intOf s11).toNat)
      case atStart => exact ⟨0, l, by omega, rfl, by simp, Hln.out.symm, fun q hq => by rw [if_neg (by omega), Nat.xor_zero], hown2, hb2⟩
      case round =>
        obtain ⟨j, y, hj, rfl, rfl, hyl, hyq, hown, hbr⟩ := hrel
        have hzr := hbr.size
        have Hyl := Lib.hid hyl
        have Hyq := Lib.hid hyq
        clear hyl hyq
        have hxle : x / 256 ^ j ≤ x := Nat.div_le_self _ _
        have hnx : x / 256 ^ (j + 1) = x / 256 ^ j / 256 := by rw [Nat.pow_succ, Nat.div_div_eq_div_mul]
        have Hnx := Lib.hid hnx
        obtain ⟨xj, hxj⟩ : ∃ xj, xj = x / 256 ^ j := ⟨_, rfl⟩
        have Hxj := Lib.hid hxj
        rw [← hxj] at hxle Hnx ⊢
        clear hnx hxj
        by_cases hlt : j < 5
        · have hpj : p + j < n := by omega
          obtain ⟨old, hold⟩ : ∃ old, y[p + j]? = some old := ⟨_, List.getElem?_eq_getElem (by have := Hyl.out; omega)⟩
          have hob := hown.2 old (List.mem_of_getElem? hold)
          have hoq : old = l.getD (p + j) 0 := by
            have := Hyq.out (p + j) hpj
            rw [if_neg (by omega), Nat.xor_zero] at this
            rw [← this]
            simp [List.getD, hold]
          have Hoq := Lib.hid hoq
          have hown1 := hown.1
          rw [Hyl.out] at hown1
          have hcell := hown1.cellAt (p + j) (by omega)
          rw [show (u8s y)[p + j]? = some (.int .u8 (old : Int)) by simp [u8s, hold]] at hcell
          have hfz := hown1.frozenAt (p + j)
          obtain ⟨d, hd⟩ : ∃ d, d = xj % 256 := ⟨_, rfl⟩
          have hd1 : (xj : Int) % 256 = (d : Int) := by omega
          have hd2 : d < 256 := by omega
          have Hd := Lib.hid hd
          have e1 : bits .xor .u8 (old : Int) (d : Int) = ((old ^^^ d : Nat) : Int) := u8_xor_nat _ _ hob hd2
          have hv2 : old ^^^ d < 256 := Nat.xor_lt_two_pow (n := 8) hob hd2
          have hv : old ^^^ d = l.getD (p + j) 0 ^^^ (x / 256 ^ j % 256) := by rw [Hoq.out, Hd.out, Hxj.out]
          have Hv := Lib.hid hv
          clear hv hd hoq hold
          generalize old ^^^ d = v at *
          go_wp2_with fail
          go_roundw
          case rel =>
            refine ⟨j + 1, y.set (p + j) v, by omega, by go_num, by rw [Hnx.out]; go_num, by simp [Hyl.out], fun q hq => ?_, ⟨?_, fun b hb' => ?_⟩, by ((repeat' first | with_reducible exact Below.refl _ _ | with_reducible assumption | with_reducible refine Below.alloc ?_ ?_ _ | with_reducible refine Below.setCell ?_ ?_ _ | with_reducible apply Below.drew | with_reducible apply below_drewN | with_reducible refine below_call ?_ (by with_reducible assumption) ?_) <;> (first | omega | (simp; done) | (simp; omega) | (simp at *; omega)))⟩
            · by_cases hqe : q = p + j
              · subst hqe
                rw [if_pos (by omega), show p + j - p = j by omega, ← Hv.out]
                simp [List.getD, Hyl.out, hpj]
              · have h0 : (y.set (p + j) v).getD q 0 = y.getD q 0 := by simp [List.getD, List.getElem?_set, Ne.symm hqe]
                rw [h0, Hyq.out q hq]
                by_cases hqj : p ≤ q ∧ q < p + j
                · rw [if_pos hqj, if_pos (by omega)]
                · rw [if_neg hqj, if_neg (by omega)]
            · have := (hown1.stored (p + j) (.int .u8 (v : Int))).1
              have e : (u8s y).set (p + j) (.int .u8 (v : Int)) = u8s (y.set (p + j) v) := by simp [u8s, List.map_set]
              rw [e] at this
              simpa [Hyl.out] using this
            · rcases List.mem_or_eq_of_mem_set hb' with h | h
              · exact hown.2 b h
              · subst h; exact hv2
          case measure => simp [intOf]; omega
        · have hj5 : j = 5 := by omega
          have hyz : y = zx l (turnd l.length p x) := by
            apply List.ext_getElem
            · have := Hyl.out; have := Hzl.out; omega
            · intro q h1 h2
              have e1 := Hyq.out q (by have := Hyl.out; omega)
              rw [hj5, ← Hgd.out q (by have := Hyl.out; omega)] at e1
              simpa [List.getD, List.getElem?_eq_getElem h1, List.getElem?_eq_getElem h2] using e1
          have hne : crc y ≠ crc l := by rw [hyz]; exact Hcrc.out
          have hby := hown.bytes.2.2
          have s1 : ∀ W h, W.cell? ⟨h, 0, none⟩ = some (.slice (some ⟨g, 0, none⟩) n c') → Below wr.heap.size wr W → Calls Try.prog 20 #[.slice (some ⟨h, 0, none⟩) 1 1] W (Gives W (.int .u32 (crc y))) := fun W h hc hb => by
            have := sum_any (some ⟨h, 0, none⟩) 1 1 [y] W (texts1 hc (hby.keep hb))
            simpa using this
          have hbA : Bytes wr A n l := hb.keep hbr
          have s2 : ∀ W h, W.cell? ⟨h, 0, none⟩ = some (.slice A n cap) → Below wr.heap.size wr W → Calls Try.prog 20 #[.slice (some ⟨h, 0, none⟩) 1 1] W (Gives W (.int .u32 (crc l))) := fun W h hc hb => by
            have := sum_any (some ⟨h, 0, none⟩) 1 1 [l] W (texts1 hc (hbA.keep hb))
            simpa using this
          have hnb : ((crc y : Int) != (crc l : Int)) = true := by rw [bne_iff_ne]; omega
          clear hne hyz hj5 hbA hby hown
          generalize crc y = cy at *
          generalize crc l = cl at *
          go_wp2_with (first
            | (go_at_call 20; (with_reducible refine (s1 _ _ ?hc0 ?hbel).mono ?_); (case hc0 => (simp [go_sem, *]; done)); (case hbel => ((repeat' first | with_reducible exact Below.refl _ _ | with_reducible assumption | with_reducible refine Below.alloc ?_ ?_ _ | with_reducible refine Below.setCell ?_ ?_ _ | with_reducible apply Below.drew | with_reducible apply below_drewN | with_reducible refine below_call ?_ (by with_reducible assumption) ?_) <;> (first | omega | (simp; done) | (simp; omega) | (simp at *; omega)))); rintro e w3 ⟨rfl, hbw3⟩; have hzw3 := hbw3.size; (try simp at hzw3))
            | (go_at_call 20; (with_reducible refine (s2 _ _ ?hc0 ?hbel).mono ?_); (case hc0 => (simp [go_sem, *]; done)); (case hbel => ((repeat' first | with_reducible exact Below.refl _ _ | with_reducible assumption | with_reducible refine Below.alloc ?_ ?_ _ | with_reducible refine Below.setCell ?_ ?_ _ | with_reducible apply Below.drew | with_reducible apply below_drewN | with_reducible refine below_call ?_ (by with_reducible assumption) ?_) <;> (first | omega | (simp; done) | (simp; omega) | (simp at *; omega)))); rintro e w3 ⟨rfl, hbw3⟩; have hzw3 := hbw3.size; (try simp at hzw3))
            | (go_at_call 19; (with_reducible refine (awake02 _).mono ?_); rintro e w3 ⟨rfl, hbw3⟩; have hzw3 := hbw3.size; (try simp at hzw3)))
          all_goals go_ret
          all_goals exact ⟨by simp, by ((repeat' first | with_reducible exact Below.refl _ _ | with_reducible assumption | with_reducible refine Below.alloc ?_ ?_ _ | with_reducible refine Below.setCell ?_ ?_ _ | with_reducible apply Below.drew | with_reducible apply below_drewN | with_reducible refine below_call ?_ (by with_reducible assumption) ?_) <;> (first | omega | (simp; done) | (simp; omega) | (simp at *; omega)))⟩
end Go.Proofs.Ytdmbpndplflebaa
