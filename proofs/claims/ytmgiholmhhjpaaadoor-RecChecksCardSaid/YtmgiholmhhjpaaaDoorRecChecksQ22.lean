/- The walk of stonecropref04.At. -/
import Derived.Test.YtmgiholmhhjpaaaDoorRecChecksQ16
namespace Go.Proofs.YtmgiholmhhjpaaaDoor
open Go.RowKit
set_option linter.unusedVariables false
set_option linter.unusedSimpArgs false
set_option maxRecDepth 20000
attribute [local go_sem ↓] Go.wp_at_zero Go.wp_at_succ
attribute [local go_sem] World.cell?_alloc_some frozen_alloc_some

def rv (r : Int × Nat) : Value := .agg #[.int .i64 r.1, .int .i64 (r.2 : Int)]
set_option maxHeartbeats 8000000 in
theorem at_low (s : ByteArray) (pos : Nat) (w : World) (hp : pos < s.size) (hs : s.size ≤ 1000000000) (h : bt s pos < 128) :
    Calls Tryd.prog 99 #[.string s, .int .i64 (pos : Int)] w (Gives w (rv (dAt s pos))) := by
  rw [dAt_low h]
  have hlt := bt_lt s pos
  obtain ⟨x, hx⟩ : ∃ x, s[pos]'hp = x := ⟨_, rfl⟩
  have hxb : bt s pos = x.toNat := by unfold bt; rw [Utf8W.get!_of_lt s pos hp, hx]
  have i0 : (0 : Int) ≤ (pos : Int) := by omega
  have i1 : (pos : Int) < (s.size : Int) := by omega
  have c3 : IntKind.i64.wrap (x.toNat : Int) = (x.toNat : Int) := IntWalk.i64_in _ (by omega)
  have c4 : wrap64 (x.toNat : Int) = (x.toNat : Int) := by simp only [wrap64]; omega
  rw [hxb] at h ⊢
  have h' : (x.toNat : Int) < 128 := by omega
  clear hxb
  go_enter Tryd.func99, Tryd.ntmps99
  go_wp2_with fail
  refine bodyPost_ret (v := rv ((x.toNat : Int), 1)) (by simp [results, Tryd.results99, go_sem, *, rv] <;> rfl) rfl ?_
  exact ⟨rfl, by ((repeat' first | with_reducible exact Below.refl _ _ | with_reducible assumption | with_reducible refine Below.alloc ?_ ?_ _ | with_reducible refine Below.setCell ?_ ?_ _ | with_reducible apply Below.drew | with_reducible apply below_drewN | with_reducible refine below_call ?_ (by with_reducible assumption) ?_) <;> (first | omega | (simp; done) | (simp; omega) | (simp at *; omega)))⟩
set_option maxHeartbeats 8000000 in
theorem at_none1 (s : ByteArray) (pos : Nat) (w : World) (hp : pos < s.size) (hs : s.size ≤ 1000000000) (h0 : 128 ≤ bt s pos) (h1 : bt s pos < 194) :
    Calls Tryd.prog 99 #[.string s, .int .i64 (pos : Int)] w (Gives w (rv (dAt s pos))) := by
  rw [dAt_none (by omega) (by omega) (by omega) (by omega)]
  have hlt := bt_lt s pos
  obtain ⟨x, hx⟩ : ∃ x, s[pos]'hp = x := ⟨_, rfl⟩
  have hxb : bt s pos = x.toNat := by unfold bt; rw [Utf8W.get!_of_lt s pos hp, hx]
  have i0 : (0 : Int) ≤ (pos : Int) := by omega
  have i1 : (pos : Int) < (s.size : Int) := by omega
  have c3 : IntKind.i64.wrap (x.toNat : Int) = (x.toNat : Int) := IntWalk.i64_in _ (by omega)
  have c4 : wrap64 (x.toNat : Int) = (x.toNat : Int) := by simp only [wrap64]; omega
  rw [hxb] at h0 h1
  have h' : ¬ (x.toNat : Int) < 128 := by omega
  have t194 : ¬ (194 : Int) ≤ (x.toNat : Int) := by omega
  have t224 : ¬ (224 : Int) ≤ (x.toNat : Int) := by omega
  have t240 : ¬ (240 : Int) ≤ (x.toNat : Int) := by omega
  clear hxb
  go_enter Tryd.func99, Tryd.ntmps99
  go_wp2_with fail
  refine bodyPost_ret (v := rv (-1, 1)) (by simp [results, Tryd.results99, go_sem, *, rv] <;> rfl) rfl ?_
  exact ⟨rfl, by ((repeat' first | with_reducible exact Below.refl _ _ | with_reducible assumption | with_reducible refine Below.alloc ?_ ?_ _ | with_reducible refine Below.setCell ?_ ?_ _ | with_reducible apply Below.drew | with_reducible apply below_drewN | with_reducible refine below_call ?_ (by with_reducible assumption) ?_) <;> (first | omega | (simp; done) | (simp; omega) | (simp at *; omega)))⟩
set_option maxHeartbeats 8000000 in
theorem at_none2 (s : ByteArray) (pos : Nat) (w : World) (hp : pos < s.size) (hs : s.size ≤ 1000000000) (h1 : 244 < bt s pos) :
    Calls Tryd.prog 99 #[.string s, .int .i64 (pos : Int)] w (Gives w (rv (dAt s pos))) := by
  rw [dAt_none (by omega) (by omega) (by omega) (by omega)]
  have hlt := bt_lt s pos
  obtain ⟨x, hx⟩ : ∃ x, s[pos]'hp = x := ⟨_, rfl⟩
  have hxb : bt s pos = x.toNat := by unfold bt; rw [Utf8W.get!_of_lt s pos hp, hx]
  have i0 : (0 : Int) ≤ (pos : Int) := by omega
  have i1 : (pos : Int) < (s.size : Int) := by omega
  have c3 : IntKind.i64.wrap (x.toNat : Int) = (x.toNat : Int) := IntWalk.i64_in _ (by omega)
  have c4 : wrap64 (x.toNat : Int) = (x.toNat : Int) := by simp only [wrap64]; omega
  rw [hxb] at h1
  have h' : ¬ (x.toNat : Int) < 128 := by omega
  have t194 : (194 : Int) ≤ (x.toNat : Int) := by omega
  have t223 : ¬ (x.toNat : Int) ≤ 223 := by omega
  have t224 : (224 : Int) ≤ (x.toNat : Int) := by omega
  have t239 : ¬ (x.toNat : Int) ≤ 239 := by omega
  have t240 : (240 : Int) ≤ (x.toNat : Int) := by omega
  have t244 : ¬ (x.toNat : Int) ≤ 244 := by omega
  clear hxb
  go_enter Tryd.func99, Tryd.ntmps99
  go_wp2_with fail
  refine bodyPost_ret (v := rv (-1, 1)) (by simp [results, Tryd.results99, go_sem, *, rv] <;> rfl) rfl ?_
  exact ⟨rfl, by ((repeat' first | with_reducible exact Below.refl _ _ | with_reducible assumption | with_reducible refine Below.alloc ?_ ?_ _ | with_reducible refine Below.setCell ?_ ?_ _ | with_reducible apply Below.drew | with_reducible apply below_drewN | with_reducible refine below_call ?_ (by with_reducible assumption) ?_) <;> (first | omega | (simp; done) | (simp; omega) | (simp at *; omega)))⟩
set_option maxHeartbeats 8000000 in
theorem at_more1 (s : ByteArray) (pos : Nat) (w : World) (hp : pos < s.size) (hs : s.size ≤ 1000000000) (h1 : 194 ≤ bt s pos) (h2 : bt s pos ≤ 223) :
    Calls Tryd.prog 99 #[.string s, .int .i64 (pos : Int)] w (Gives w (rv (dAt s pos))) := by
  obtain ⟨D1, D2, D3⟩ := dAt_multi s pos 1 192 hp (.inl ⟨rfl, rfl, h1, h2⟩)
  have hvl := av_lt s pos (bt s pos - 192) (by omega)
  have hlt := bt_lt s pos
  obtain ⟨x, hx⟩ : ∃ x, s[pos]'hp = x := ⟨_, rfl⟩
  have hxb : bt s pos = x.toNat := by unfold bt; rw [Utf8W.get!_of_lt s pos hp, hx]
  have i0 : (0 : Int) ≤ (pos : Int) := by omega
  have i1 : (pos : Int) < (s.size : Int) := by omega
  have c3 : IntKind.i64.wrap (x.toNat : Int) = (x.toNat : Int) := IntWalk.i64_in _ (by omega)
  have c4 : wrap64 (x.toNat : Int) = (x.toNat : Int) := by simp only [wrap64]; omega
  have ht := fun j W => tail_any s (pos + j + 1) W (by unfold maxLen; omega)
  obtain ⟨v0, hv0⟩ : ∃ v0, v0 = bt s pos - 192 := ⟨_, rfl⟩
  rw [← hv0] at D2 D3 hvl
  rw [hxb] at h1 h2 hv0
  have h' : ¬ (x.toNat : Int) < 128 := by omega
  have t194 : (194 : Int) ≤ (x.toNat : Int) := by omega
  have t223 : (x.toNat : Int) ≤ 223 := by omega
  have cv : IntKind.i64.wrap ((x.toNat : Int) - 192) = (v0 : Int) := by rw [IntWalk.i64_in _ (by omega)]; omega
  generalize dAt s pos = R at *
  have E1 := Lib.hid D1
  have E2 := Lib.hid D2
  have E3 := Lib.hid D3
  have Hvl := Lib.hid hvl
  clear hxb D1 D2 D3 hvl hv0 hlt
  go_enter Tryd.func99, Tryd.ntmps99
  go_wp2_with fail
  go_loop [7, 8] (fun s7 s8 => ∃ j : Nat, j ≤ 1 ∧ s8 = .int .i64 ((j : Int) + 1) ∧ s7 = .int .i64 ((av s pos v0 j : Nat) : Int) ∧ ∀ t, t < j → cont s (pos + t + 1)) (fun _ s8 => 1 + 1 - (intOf s8).toNat)
  case atStart => exact ⟨0, by omega, rfl, rfl, fun t ht => absurd ht (by omega)⟩
  case round =>
    obtain ⟨j, hj, rfl, rfl, hc⟩ := hrel
    have hvj := Hvl.out j hc
    have hpow : 32 * 64 ^ j ≤ 8388608 := by
      have : j = 0 ∨ j = 1 ∨ j = 2 ∨ j = 3 := by omega
      rcases this with rfl | rfl | rfl | rfl <;> decide
    have hvj2 : av s pos v0 j < 8388608 := Nat.lt_of_lt_of_le hvj hpow
    have Hc := Lib.hid hc
    clear hvj hpow hc
    by_cases hlt : j < 1
    · have hjl : (j : Int) + 1 ≤ 1 := by omega
      have htj := ht j
      have hwp : IntKind.i64.wrap ((pos : Int) + ((j : Int) + 1)) = ((pos + j + 1 : Nat) : Int) := by rw [IntWalk.i64_in _ (by omega)]; omega
      by_cases hcj : cont s (pos + j + 1)
      · rw [dTail_cont hcj] at htj
        obtain ⟨d, hd⟩ : ∃ d, d = bt s (pos + j + 1) - 128 := ⟨_, rfl⟩
        have hd2 : d < 256 := by have := bt_lt s (pos + j + 1); omega
        have Hnx := Lib.hid (show av s pos v0 (j + 1) = 64 * av s pos v0 j + d by rw [hd]; rfl)
        rw [← hd] at htj
        have hdn : ¬ (d : Int) < 0 := by omega
        clear hd
        have Hcj := Lib.hid hcj
        clear hcj ht
        generalize av s pos v0 j = v at *
        have hw1 : IntKind.i64.wrap (64 * (v : Int)) = ((64 * v : Nat) : Int) := by rw [IntWalk.i64_in _ (by omega)]; omega
        have hw2 : IntKind.i64.wrap (((64 * v : Nat) : Int) + (d : Int)) = ((64 * v + d : Nat) : Int) := by rw [IntWalk.i64_in _ (by omega)]; omega
        go_wp2_with fail
        refine (htj _).mono ?_
        rintro e w1 ⟨rfl, rfl⟩
        go_wp2_with fail
        go_round
        case rel => exact ⟨j + 1, by omega, by first | rfl | go_num, by rw [Hnx.out]; first | rfl | go_num, fun t ht => by
          by_cases h : t < j
          · exact Hc.out t h
          · obtain rfl : t = j := by omega
            exact Hcj.out⟩
        case measure => simp [intOf]; omega
      · rw [dTail_not hcj] at htj
        have hR := E1.out j hlt hcj
        subst hR
        clear hcj ht
        go_wp2_with fail
        refine (htj _).mono ?_
        rintro e w1 ⟨rfl, rfl⟩
        go_wp2_with fail
        refine bodyPost_ret (v := rv (-1, 1)) (by simp [results, Tryd.results99, go_sem, *, rv] <;> rfl) rfl ?_
        exact ⟨rfl, by ((repeat' first | with_reducible exact Below.refl _ _ | with_reducible assumption | with_reducible refine Below.alloc ?_ ?_ _ | with_reducible refine Below.setCell ?_ ?_ _ | with_reducible apply Below.drew | with_reducible apply below_drewN | with_reducible refine below_call ?_ (by with_reducible assumption) ?_) <;> (first | omega | (simp; done) | (simp; omega) | (simp at *; omega)))⟩
    · obtain rfl : j = 1 := by omega
      have D2 := E2.out Hc.out
      have D3 := E3.out Hc.out
      clear ht
      generalize av s pos v0 1 = v at *
      obtain rfl := D3 (by unfold vbad; omega)
      clear D3 D2
      go_wp2_with fail
      refine bodyPost_ret (v := rv ((v : Int), 2)) (by simp [results, Tryd.results99, go_sem, *, rv] <;> rfl) rfl ?_
      exact ⟨rfl, by ((repeat' first | with_reducible exact Below.refl _ _ | with_reducible assumption | with_reducible refine Below.alloc ?_ ?_ _ | with_reducible refine Below.setCell ?_ ?_ _ | with_reducible apply Below.drew | with_reducible apply below_drewN | with_reducible refine below_call ?_ (by with_reducible assumption) ?_) <;> (first | omega | (simp; done) | (simp; omega) | (simp at *; omega)))⟩
set_option maxHeartbeats 8000000 in
theorem at_more2 (s : ByteArray) (pos : Nat) (w : World) (hp : pos < s.size) (hs : s.size ≤ 1000000000) (h1 : 224 ≤ bt s pos) (h2 : bt s pos ≤ 239) :
    Calls Tryd.prog 99 #[.string s, .int .i64 (pos : Int)] w (Gives w (rv (dAt s pos))) := by
  obtain ⟨D1, D2, D3⟩ := dAt_multi s pos 2 224 hp (.inr (.inl ⟨rfl, rfl, h1, h2⟩))
  have hvl := av_lt s pos (bt s pos - 224) (by omega)
  have hlt := bt_lt s pos
  obtain ⟨x, hx⟩ : ∃ x, s[pos]'hp = x := ⟨_, rfl⟩
  have hxb : bt s pos = x.toNat := by unfold bt; rw [Utf8W.get!_of_lt s pos hp, hx]
  have i0 : (0 : Int) ≤ (pos : Int) := by omega
  have i1 : (pos : Int) < (s.size : Int) := by omega
  have c3 : IntKind.i64.wrap (x.toNat : Int) = (x.toNat : Int) := IntWalk.i64_in _ (by omega)
  have c4 : wrap64 (x.toNat : Int) = (x.toNat : Int) := by simp only [wrap64]; omega
  have ht := fun j W => tail_any s (pos + j + 1) W (by unfold maxLen; omega)
  obtain ⟨v0, hv0⟩ : ∃ v0, v0 = bt s pos - 224 := ⟨_, rfl⟩
  rw [← hv0] at D2 D3 hvl
  rw [hxb] at h1 h2 hv0
  have h' : ¬ (x.toNat : Int) < 128 := by omega
  have t194 : (194 : Int) ≤ (x.toNat : Int) := by omega
  have t223 : ¬ (x.toNat : Int) ≤ 223 := by omega
  have t224 : (224 : Int) ≤ (x.toNat : Int) := by omega
  have t239 : (x.toNat : Int) ≤ 239 := by omega
  have cv : IntKind.i64.wrap ((x.toNat : Int) - 224) = (v0 : Int) := by rw [IntWalk.i64_in _ (by omega)]; omega
  generalize dAt s pos = R at *
  have E1 := Lib.hid D1
  have E2 := Lib.hid D2
  have E3 := Lib.hid D3
  have Hvl := Lib.hid hvl
  clear hxb D1 D2 D3 hvl hv0 hlt
  go_enter Tryd.func99, Tryd.ntmps99
  go_wp2_with fail
  go_loop [7, 8] (fun s7 s8 => ∃ j : Nat, j ≤ 2 ∧ s8 = .int .i64 ((j : Int) + 1) ∧ s7 = .int .i64 ((av s pos v0 j : Nat) : Int) ∧ ∀ t, t < j → cont s (pos + t + 1)) (fun _ s8 => 2 + 1 - (intOf s8).toNat)
  case atStart => exact ⟨0, by omega, rfl, rfl, fun t ht => absurd ht (by omega)⟩
  case round =>
    obtain ⟨j, hj, rfl, rfl, hc⟩ := hrel
    have hvj := Hvl.out j hc
    have hpow : 32 * 64 ^ j ≤ 8388608 := by
      have : j = 0 ∨ j = 1 ∨ j = 2 ∨ j = 3 := by omega
      rcases this with rfl | rfl | rfl | rfl <;> decide
    have hvj2 : av s pos v0 j < 8388608 := Nat.lt_of_lt_of_le hvj hpow
    have Hc := Lib.hid hc
    clear hvj hpow hc
    by_cases hlt : j < 2
    · have hjl : (j : Int) + 1 ≤ 2 := by omega
      have htj := ht j
      have hwp : IntKind.i64.wrap ((pos : Int) + ((j : Int) + 1)) = ((pos + j + 1 : Nat) : Int) := by rw [IntWalk.i64_in _ (by omega)]; omega
      by_cases hcj : cont s (pos + j + 1)
      · rw [dTail_cont hcj] at htj
        obtain ⟨d, hd⟩ : ∃ d, d = bt s (pos + j + 1) - 128 := ⟨_, rfl⟩
        have hd2 : d < 256 := by have := bt_lt s (pos + j + 1); omega
        have Hnx := Lib.hid (show av s pos v0 (j + 1) = 64 * av s pos v0 j + d by rw [hd]; rfl)
        rw [← hd] at htj
        have hdn : ¬ (d : Int) < 0 := by omega
        clear hd
        have Hcj := Lib.hid hcj
        clear hcj ht
        generalize av s pos v0 j = v at *
        have hw1 : IntKind.i64.wrap (64 * (v : Int)) = ((64 * v : Nat) : Int) := by rw [IntWalk.i64_in _ (by omega)]; omega
        have hw2 : IntKind.i64.wrap (((64 * v : Nat) : Int) + (d : Int)) = ((64 * v + d : Nat) : Int) := by rw [IntWalk.i64_in _ (by omega)]; omega
        go_wp2_with fail
        refine (htj _).mono ?_
        rintro e w1 ⟨rfl, rfl⟩
        go_wp2_with fail
        go_round
        case rel => exact ⟨j + 1, by omega, by first | rfl | go_num, by rw [Hnx.out]; first | rfl | go_num, fun t ht => by
          by_cases h : t < j
          · exact Hc.out t h
          · obtain rfl : t = j := by omega
            exact Hcj.out⟩
        case measure => simp [intOf]; omega
      · rw [dTail_not hcj] at htj
        have hR := E1.out j hlt hcj
        subst hR
        clear hcj ht
        go_wp2_with fail
        refine (htj _).mono ?_
        rintro e w1 ⟨rfl, rfl⟩
        go_wp2_with fail
        refine bodyPost_ret (v := rv (-1, 1)) (by simp [results, Tryd.results99, go_sem, *, rv] <;> rfl) rfl ?_
        exact ⟨rfl, by ((repeat' first | with_reducible exact Below.refl _ _ | with_reducible assumption | with_reducible refine Below.alloc ?_ ?_ _ | with_reducible refine Below.setCell ?_ ?_ _ | with_reducible apply Below.drew | with_reducible apply below_drewN | with_reducible refine below_call ?_ (by with_reducible assumption) ?_) <;> (first | omega | (simp; done) | (simp; omega) | (simp at *; omega)))⟩
    · obtain rfl : j = 2 := by omega
      have D2 := E2.out Hc.out
      have D3 := E3.out Hc.out
      clear ht
      generalize av s pos v0 2 = v at *
      by_cases g1 : v < 2048
      · have g1' : (v : Int) < 2048 := by omega
        obtain rfl := D2 (by unfold vbad; omega)
        clear D3 D2
        go_wp2_with fail
        refine bodyPost_ret (v := rv (-1, 1)) (by simp [results, Tryd.results99, go_sem, *, rv] <;> rfl) rfl ?_
        exact ⟨rfl, by ((repeat' first | with_reducible exact Below.refl _ _ | with_reducible assumption | with_reducible refine Below.alloc ?_ ?_ _ | with_reducible refine Below.setCell ?_ ?_ _ | with_reducible apply Below.drew | with_reducible apply below_drewN | with_reducible refine below_call ?_ (by with_reducible assumption) ?_) <;> (first | omega | (simp; done) | (simp; omega) | (simp at *; omega)))⟩
      · have g1' : ¬ (v : Int) < 2048 := by omega
        by_cases g2 : 55296 ≤ v
        · have g2' : (55296 : Int) ≤ (v : Int) := by omega
          by_cases g3 : v ≤ 57343
          · have g3' : (v : Int) ≤ 57343 := by omega
            obtain rfl := D2 (by unfold vbad; omega)
            clear D3 D2
            go_wp2_with fail
            refine bodyPost_ret (v := rv (-1, 1)) (by simp [results, Tryd.results99, go_sem, *, rv] <;> rfl) rfl ?_
            exact ⟨rfl, by ((repeat' first | with_reducible exact Below.refl _ _ | with_reducible assumption | with_reducible refine Below.alloc ?_ ?_ _ | with_reducible refine Below.setCell ?_ ?_ _ | with_reducible apply Below.drew | with_reducible apply below_drewN | with_reducible refine below_call ?_ (by with_reducible assumption) ?_) <;> (first | omega | (simp; done) | (simp; omega) | (simp at *; omega)))⟩
          · have g3' : ¬ (v : Int) ≤ 57343 := by omega
            obtain rfl := D3 (by unfold vbad; omega)
            clear D3 D2
            go_wp2_with fail
            refine bodyPost_ret (v := rv ((v : Int), 3)) (by simp [results, Tryd.results99, go_sem, *, rv] <;> rfl) rfl ?_
            exact ⟨rfl, by ((repeat' first | with_reducible exact Below.refl _ _ | with_reducible assumption | with_reducible refine Below.alloc ?_ ?_ _ | with_reducible refine Below.setCell ?_ ?_ _ | with_reducible apply Below.drew | with_reducible apply below_drewN | with_reducible refine below_call ?_ (by with_reducible assumption) ?_) <;> (first | omega | (simp; done) | (simp; omega) | (simp at *; omega)))⟩
        · have g2' : ¬ (55296 : Int) ≤ (v : Int) := by omega
          obtain rfl := D3 (by unfold vbad; omega)
          clear D3 D2
          go_wp2_with fail
          refine bodyPost_ret (v := rv ((v : Int), 3)) (by simp [results, Tryd.results99, go_sem, *, rv] <;> rfl) rfl ?_
          exact ⟨rfl, by ((repeat' first | with_reducible exact Below.refl _ _ | with_reducible assumption | with_reducible refine Below.alloc ?_ ?_ _ | with_reducible refine Below.setCell ?_ ?_ _ | with_reducible apply Below.drew | with_reducible apply below_drewN | with_reducible refine below_call ?_ (by with_reducible assumption) ?_) <;> (first | omega | (simp; done) | (simp; omega) | (simp at *; omega)))⟩
set_option maxHeartbeats 8000000 in
theorem at_more3 (s : ByteArray) (pos : Nat) (w : World) (hp : pos < s.size) (hs : s.size ≤ 1000000000) (h1 : 240 ≤ bt s pos) (h2 : bt s pos ≤ 244) :
    Calls Tryd.prog 99 #[.string s, .int .i64 (pos : Int)] w (Gives w (rv (dAt s pos))) := by
  obtain ⟨D1, D2, D3⟩ := dAt_multi s pos 3 240 hp (.inr (.inr ⟨rfl, rfl, h1, h2⟩))
  have hvl := av_lt s pos (bt s pos - 240) (by omega)
  have hlt := bt_lt s pos
  obtain ⟨x, hx⟩ : ∃ x, s[pos]'hp = x := ⟨_, rfl⟩
  have hxb : bt s pos = x.toNat := by unfold bt; rw [Utf8W.get!_of_lt s pos hp, hx]
  have i0 : (0 : Int) ≤ (pos : Int) := by omega
  have i1 : (pos : Int) < (s.size : Int) := by omega
  have c3 : IntKind.i64.wrap (x.toNat : Int) = (x.toNat : Int) := IntWalk.i64_in _ (by omega)
  have c4 : wrap64 (x.toNat : Int) = (x.toNat : Int) := by simp only [wrap64]; omega
  have ht := fun j W => tail_any s (pos + j + 1) W (by unfold maxLen; omega)
  obtain ⟨v0, hv0⟩ : ∃ v0, v0 = bt s pos - 240 := ⟨_, rfl⟩
  rw [← hv0] at D2 D3 hvl
  rw [hxb] at h1 h2 hv0
  have h' : ¬ (x.toNat : Int) < 128 := by omega
  have t194 : (194 : Int) ≤ (x.toNat : Int) := by omega
  have t223 : ¬ (x.toNat : Int) ≤ 223 := by omega
  have t224 : (224 : Int) ≤ (x.toNat : Int) := by omega
  have t239 : ¬ (x.toNat : Int) ≤ 239 := by omega
  have t240 : (240 : Int) ≤ (x.toNat : Int) := by omega
  have t244 : (x.toNat : Int) ≤ 244 := by omega
  have cv : IntKind.i64.wrap ((x.toNat : Int) - 240) = (v0 : Int) := by rw [IntWalk.i64_in _ (by omega)]; omega
  generalize dAt s pos = R at *
  have E1 := Lib.hid D1
  have E2 := Lib.hid D2
  have E3 := Lib.hid D3
  have Hvl := Lib.hid hvl
  clear hxb D1 D2 D3 hvl hv0 hlt
  go_enter Tryd.func99, Tryd.ntmps99
  go_wp2_with fail
  go_loop [7, 8] (fun s7 s8 => ∃ j : Nat, j ≤ 3 ∧ s8 = .int .i64 ((j : Int) + 1) ∧ s7 = .int .i64 ((av s pos v0 j : Nat) : Int) ∧ ∀ t, t < j → cont s (pos + t + 1)) (fun _ s8 => 3 + 1 - (intOf s8).toNat)
  case atStart => exact ⟨0, by omega, rfl, rfl, fun t ht => absurd ht (by omega)⟩
  case round =>
    obtain ⟨j, hj, rfl, rfl, hc⟩ := hrel
    have hvj := Hvl.out j hc
    have hpow : 32 * 64 ^ j ≤ 8388608 := by
      have : j = 0 ∨ j = 1 ∨ j = 2 ∨ j = 3 := by omega
      rcases this with rfl | rfl | rfl | rfl <;> decide
    have hvj2 : av s pos v0 j < 8388608 := Nat.lt_of_lt_of_le hvj hpow
    have Hc := Lib.hid hc
    clear hvj hpow hc
    by_cases hlt : j < 3
    · have hjl : (j : Int) + 1 ≤ 3 := by omega
      have htj := ht j
      have hwp : IntKind.i64.wrap ((pos : Int) + ((j : Int) + 1)) = ((pos + j + 1 : Nat) : Int) := by rw [IntWalk.i64_in _ (by omega)]; omega
      by_cases hcj : cont s (pos + j + 1)
      · rw [dTail_cont hcj] at htj
        obtain ⟨d, hd⟩ : ∃ d, d = bt s (pos + j + 1) - 128 := ⟨_, rfl⟩
        have hd2 : d < 256 := by have := bt_lt s (pos + j + 1); omega
        have Hnx := Lib.hid (show av s pos v0 (j + 1) = 64 * av s pos v0 j + d by rw [hd]; rfl)
        rw [← hd] at htj
        have hdn : ¬ (d : Int) < 0 := by omega
        clear hd
        have Hcj := Lib.hid hcj
        clear hcj ht
        generalize av s pos v0 j = v at *
        have hw1 : IntKind.i64.wrap (64 * (v : Int)) = ((64 * v : Nat) : Int) := by rw [IntWalk.i64_in _ (by omega)]; omega
        have hw2 : IntKind.i64.wrap (((64 * v : Nat) : Int) + (d : Int)) = ((64 * v + d : Nat) : Int) := by rw [IntWalk.i64_in _ (by omega)]; omega
        go_wp2_with fail
        refine (htj _).mono ?_
        rintro e w1 ⟨rfl, rfl⟩
        go_wp2_with fail
        go_round
        case rel => exact ⟨j + 1, by omega, by first | rfl | go_num, by rw [Hnx.out]; first | rfl | go_num, fun t ht => by
          by_cases h : t < j
          · exact Hc.out t h
          · obtain rfl : t = j := by omega
            exact Hcj.out⟩
        case measure => simp [intOf]; omega
      · rw [dTail_not hcj] at htj
        have hR := E1.out j hlt hcj
        subst hR
        clear hcj ht
        go_wp2_with fail
        refine (htj _).mono ?_
        rintro e w1 ⟨rfl, rfl⟩
        go_wp2_with fail
        refine bodyPost_ret (v := rv (-1, 1)) (by simp [results, Tryd.results99, go_sem, *, rv] <;> rfl) rfl ?_
        exact ⟨rfl, by ((repeat' first | with_reducible exact Below.refl _ _ | with_reducible assumption | with_reducible refine Below.alloc ?_ ?_ _ | with_reducible refine Below.setCell ?_ ?_ _ | with_reducible apply Below.drew | with_reducible apply below_drewN | with_reducible refine below_call ?_ (by with_reducible assumption) ?_) <;> (first | omega | (simp; done) | (simp; omega) | (simp at *; omega)))⟩
    · obtain rfl : j = 3 := by omega
      have D2 := E2.out Hc.out
      have D3 := E3.out Hc.out
      clear ht
      generalize av s pos v0 3 = v at *
      by_cases g1 : v < 65536
      · have g1' : (v : Int) < 65536 := by omega
        obtain rfl := D2 (by unfold vbad; omega)
        clear D3 D2
        go_wp2_with fail
        refine bodyPost_ret (v := rv (-1, 1)) (by simp [results, Tryd.results99, go_sem, *, rv] <;> rfl) rfl ?_
        exact ⟨rfl, by ((repeat' first | with_reducible exact Below.refl _ _ | with_reducible assumption | with_reducible refine Below.alloc ?_ ?_ _ | with_reducible refine Below.setCell ?_ ?_ _ | with_reducible apply Below.drew | with_reducible apply below_drewN | with_reducible refine below_call ?_ (by with_reducible assumption) ?_) <;> (first | omega | (simp; done) | (simp; omega) | (simp at *; omega)))⟩
      · have g1' : ¬ (v : Int) < 65536 := by omega
        by_cases g2 : 1114111 < v
        · have g2' : (1114111 : Int) < (v : Int) := by omega
          obtain rfl := D2 (by unfold vbad; omega)
          clear D3 D2
          go_wp2_with fail
          refine bodyPost_ret (v := rv (-1, 1)) (by simp [results, Tryd.results99, go_sem, *, rv] <;> rfl) rfl ?_
          exact ⟨rfl, by ((repeat' first | with_reducible exact Below.refl _ _ | with_reducible assumption | with_reducible refine Below.alloc ?_ ?_ _ | with_reducible refine Below.setCell ?_ ?_ _ | with_reducible apply Below.drew | with_reducible apply below_drewN | with_reducible refine below_call ?_ (by with_reducible assumption) ?_) <;> (first | omega | (simp; done) | (simp; omega) | (simp at *; omega)))⟩
        · have g2' : ¬ (1114111 : Int) < (v : Int) := by omega
          obtain rfl := D3 (by unfold vbad; omega)
          clear D3 D2
          go_wp2_with fail
          refine bodyPost_ret (v := rv ((v : Int), 4)) (by simp [results, Tryd.results99, go_sem, *, rv] <;> rfl) rfl ?_
          exact ⟨rfl, by ((repeat' first | with_reducible exact Below.refl _ _ | with_reducible assumption | with_reducible refine Below.alloc ?_ ?_ _ | with_reducible refine Below.setCell ?_ ?_ _ | with_reducible apply Below.drew | with_reducible apply below_drewN | with_reducible refine below_call ?_ (by with_reducible assumption) ?_) <;> (first | omega | (simp; done) | (simp; omega) | (simp at *; omega)))⟩
theorem at_any (s : ByteArray) (pos : Nat) (w : World) (hp : pos < s.size) (hs : s.size ≤ 1000000000) :
    Calls Tryd.prog 99 #[.string s, .int .i64 (pos : Int)] w (Gives w (rv (dAt s pos))) := by
  by_cases h0 : bt s pos < 128
  · exact at_low s pos w hp hs h0
  · by_cases h1 : bt s pos < 194
    · exact at_none1 s pos w hp hs (by omega) h1
    · by_cases h2 : bt s pos ≤ 223
      · exact at_more1 s pos w hp hs (by omega) h2
      · by_cases h3 : bt s pos ≤ 239
        · exact at_more2 s pos w hp hs (by omega) h3
        · by_cases h4 : bt s pos ≤ 244
          · exact at_more3 s pos w hp hs (by omega) h4
          · exact at_none2 s pos w hp hs (by omega)
end Go.Proofs.YtmgiholmhhjpaaaDoor
