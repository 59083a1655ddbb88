/- The walks of num.Take and of the document's numbers (package stonecropref01: Same, digits, Put, Take). -/
import Derived.Test.YtfdfcceleaodaaaDoorNum
import Derived.Test.YtfdfcceleaodaaaDoorSame01
namespace Go.Proofs.YtfdfcceleaodaaaDoor
open Go.RowKit
set_option linter.unusedVariables false
set_option linter.unusedSimpArgs false
set_option maxRecDepth 20000
attribute [local go_sem ↓] Go.wp_at_zero Go.wp_at_succ
attribute [local go_sem] World.cell?_alloc_some frozen_alloc_some
attribute [local go_sem] lt2 lt3 lt4 lt5
attribute [local simp] lt2 lt3 lt4 lt5

def takeV (l : List Nat) : Value := .tuple #[.int .u64 ((ntake l).1 : Int), .int .i64 ((ntake l).2.1 : Int), .int .i64 ((ntake l).2.2 : Int)]
theorem pow7 {k : Nat} (h : k ≤ 7) : 256 ^ k ≤ 72057594037927936 := by
  have : 256 ^ k ≤ 256 ^ 7 := Nat.pow_le_pow_right (by decide) h
  omega

set_option maxHeartbeats 2000000 in
theorem take_any (A : Option Addr) (n cap : Nat) (l : List Nat) (w : World) (hb : Bytes w A n l) :
    Calls Tryd.prog 119 #[.slice A n cap] w (Gives w (takeV l)) := by
  have hln := hb.1
  have hm := hb.2.1
  unfold maxLen at hm
  cases l with
  | nil =>
    have hn0 : n = 0 := by simpa using hln
    subst hn0
    have hv : takeV [] = .tuple #[.int .u64 0, .int .i64 0, .int .i64 2] := rfl
    rw [hv]
    clear hv hln
    go_enter Tryd.func119, Tryd.ntmps119
    go_wp2_with fail
    go_ret3
    exact ⟨rfl, Below.refl _ _⟩
  | cons b0 r =>
    have hn1 : 0 < n := by simp at hln; omega
    obtain ⟨ad, c0, rfl, hc0, hc2, hcell⟩ := hb.at_ hn1
    have hcb : c0 = b0 := by simpa using hc0.symm
    subst hcb
    have hcell0 : w.cell? ad = some (.int .u8 (c0 : Int)) := by simpa [Addr.add] using hcell
    clear hcell
    have hnz : ((n : Int) == 0) = false := by simp; omega
    have hi0 : (0 : Int) < (n : Int) := by omega
    by_cases h248 : c0 < 248
    · have hv : takeV (c0 :: r) = .tuple #[.int .u64 (c0 : Int), .int .i64 1, .int .i64 0] := by simp [takeV, ntake, h248]
      rw [hv]
      clear hv hln hc0
      go_enter Tryd.func119, Tryd.ntmps119
      go_wp2_with fail
      go_ret3
      exact ⟨rfl, Below.refl _ _⟩
    · by_cases hsh : r.length < c0 - 247
      · have hv : takeV (c0 :: r) = .tuple #[.int .u64 0, .int .i64 0, .int .i64 2] := by simp [takeV, ntake, h248, hsh]
        rw [hv]
        have hle : (n : Int) ≤ (c0 : Int) - 247 := by simp at hln; omega
        clear hv hln hc0
        go_enter Tryd.func119, Tryd.ntmps119
        go_wp2_with fail
        all_goals go_ret3
        all_goals exact ⟨rfl, Below.refl _ _⟩
      · obtain ⟨m, hm1⟩ : ∃ m, c0 = m + 247 := ⟨c0 - 247, by omega⟩
        subst hm1
        have hm8 : m ≤ 8 := by omega
        have hm0 : 1 ≤ m := by omega
        have hml : m < n := by simp at hln; omega
        have hrl : m ≤ r.length := by omega
        have hbr : ∀ c ∈ r, c < 256 := fun c hc => hb.lt c (by simp [hc])
        have hsz : ∀ W, Calls Tryd.prog 127 #[.int .u64 ((beval (r.take m) : Nat) : Int)] W (Gives W (.int .i64 ((size (beval (r.take m)) : Nat) : Int))) := fun W => size_any _ W (by
          have h1 := beval_lt (r.take m) (fun c hc => hbr c (List.mem_of_mem_take hc))
          have h2 : (r.take m).length ≤ 8 := by rw [List.length_take]; omega
          have h3 : 256 ^ (r.take m).length ≤ 256 ^ 8 := Nat.pow_le_pow_right (by decide) h2
          have h4 : 256 ^ 8 = 2 ^ 64 := by decide
          omega)
        have hv : takeV ((m + 247) :: r) = if size (beval (r.take m)) = 1 + m then .tuple #[.int .u64 ((beval (r.take m) : Nat) : Int), .int .i64 ((1 + m : Nat) : Int), .int .i64 0] else .tuple #[.int .u64 0, .int .i64 0, .int .i64 4] := by
          simp only [takeV, ntake, if_neg h248, Nat.add_sub_cancel]
          rw [if_neg (by omega)]
          split <;> rfl
        have Hv := Lib.hid hv
        have Hsz := Lib.hid hsz
        clear hv hln hc0 hsz
        have hm5 : (m : Int) + 247 - 248 + 1 = m := by omega
        go_enter Tryd.func119, Tryd.ntmps119
        go_wp2_with fail
        go_loop [2, 29] (fun s2 s29 => ∃ k : Nat, k ≤ m ∧ s29 = .int .i64 k ∧ s2 = .int .u64 ((beval (r.take k) : Nat) : Int)) (fun _ s29 => m - (intOf s29).toNat)
        case atStart => exact ⟨0, by omega, rfl, by simp [beval]⟩
        case round =>
          obtain ⟨k, hk, rfl, rfl⟩ := hrel
          by_cases hlt : k < m
          · obtain ⟨ad', c1, e1, hc1, hc3, hcell1⟩ := hb.at_ (show 1 + k < n by omega)
            cases e1
            have hx := beval_lt (r.take k) (fun c hc => hbr c (List.mem_of_mem_take hc))
            have hx2 : beval (r.take k) < 72057594037927936 := by
              have h1 : (r.take k).length = k := by rw [List.length_take]; omega
              rw [h1] at hx
              have := pow7 (k := k) (by omega)
              omega
            have hrk : r[k]? = some c1 := by
              rw [show 1 + k = k + 1 by omega] at hc1
              simpa using hc1
            have hnx : beval (r.take (k + 1)) = beval (r.take k) * 256 + c1 := by
              rw [List.take_add_one, hrk]
              exact beval_snoc _ _
            have Hnx := Lib.hid hnx
            clear hnx hx hrk hc1
            generalize beval (r.take k) = x at *
            go_wp2_with fail
            go_round
            case rel =>
              refine ⟨k + 1, by omega, by go_num, ?_⟩
              rw [Hnx.out]
              have ho := u64_or_nat (x * 256) c1 (by omega) (by omega)
              rw [nat_join 8 (x * 256) c1 (by omega) (by omega)] at ho
              rw [← ho]
              congr 2
            case measure => simp [intOf]; omega
          · have hkm : k = m := by omega
            have hbk : beval (r.take k) = beval (r.take m) := by rw [hkm]
            rw [hbk]
            have hs2 := Hsz.out
            clear hbk hkm
            by_cases hsz : size (beval (r.take m)) = 1 + m
            · have Hv2 := Hv.out
              rw [if_pos hsz] at Hv2
              rw [hsz] at hs2
              have hne : (((1 + m : Nat) : Int) != 1 + (m : Int)) = false := by simp
              have Hsz2 := Lib.hid hsz
              have Hv3 := Lib.hid Hv2
              clear hsz Hv Hv2
              generalize beval (r.take m) = x at *
              go_wp2_with (go_at_call 127; (with_reducible refine (hs2 _).mono ?_); rintro e w1 ⟨rfl, hbw1⟩)
              all_goals go_ret3
              all_goals exact ⟨by rw [Hv3.out]; simp, by ((repeat' first | with_reducible exact Below.refl _ _ | with_reducible assumption | with_reducible refine Below.alloc ?_ ?_ _ | with_reducible refine Below.setCell ?_ ?_ _ | with_reducible apply Below.drew | with_reducible apply below_drewN | with_reducible refine below_call ?_ (by with_reducible assumption) ?_) <;> (first | omega | (simp; done) | (simp; omega) | (simp at *; omega)))⟩
            · have Hv2 := Hv.out
              rw [if_neg hsz] at Hv2
              have Hv3 := Lib.hid Hv2
              have hne : (((size (beval (r.take m)) : Nat) : Int) != 1 + (m : Int)) = true := by rw [bne_iff_ne]; omega
              clear hsz Hv Hv2
              generalize size (beval (r.take m)) = s at *
              generalize beval (r.take m) = x at *
              go_wp2_with (go_at_call 127; (with_reducible refine (hs2 _).mono ?_); rintro e w1 ⟨rfl, hbw1⟩)
              all_goals go_ret3
              all_goals exact ⟨by rw [Hv3.out]; simp, by ((repeat' first | with_reducible exact Below.refl _ _ | with_reducible assumption | with_reducible refine Below.alloc ?_ ?_ _ | with_reducible refine Below.setCell ?_ ?_ _ | with_reducible apply Below.drew | with_reducible apply below_drewN | with_reducible refine below_call ?_ (by with_reducible assumption) ?_) <;> (first | omega | (simp; done) | (simp; omega) | (simp at *; omega)))⟩

end Go.Proofs.YtfdfcceleaodaaaDoor
