/- The walk of the law NumRows (package stonecroplaw01). -/
import Derived.Test.YtdmbpndplflebaaNumE
namespace Go.Proofs.Ytdmbpndplflebaa
open Go.RowKit
set_option linter.unusedVariables false
set_option linter.unusedSimpArgs false
set_option maxRecDepth 20000
attribute [local go_sem ↓] Go.wp_at_zero Go.wp_at_succ
attribute [local go_sem] World.cell?_alloc_some frozen_alloc_some
attribute [local go_sem] lt2 lt3 lt4 lt5
attribute [local simp] lt2 lt3 lt4 lt5

/-- A slice of n numbers that reads as l. -/
def Nums (w : World) (A : Option Addr) (n : Nat) (l : List Nat) : Prop :=
  n = l.length ∧ n ≤ maxLen ∧ ∀ (i c : Nat), l[i]? = some c → c < 2 ^ 64 ∧ ∃ ad, A = some ad ∧ w.cell? (ad.add i) = some (.int .u64 (c : Int))
theorem Nums.keep {w w' : World} {A : Option Addr} {n : Nat} {l : List Nat} (h : Nums w A n l) (hb : Below w.heap.size w w') : Nums w' A n l :=
  ⟨h.1, h.2.1, fun i c hi => by
    obtain ⟨hc, ad, e, hcell⟩ := h.2.2 i c hi
    exact ⟨hc, ad, e, cell_keep hb hcell⟩⟩
theorem Nums.at_ {w : World} {A : Option Addr} {n : Nat} {l : List Nat} (h : Nums w A n l) {k : Nat} (hk : k < n) :
    ∃ ad c, A = some ad ∧ l[k]? = some c ∧ c < 2 ^ 64 ∧ w.cell? (ad.add k) = some (.int .u64 (c : Int)) := by
  have hl : k < l.length := by have := h.1; omega
  obtain ⟨hc, ad, e, hcell⟩ := h.2.2 k l[k] (List.getElem?_eq_getElem hl)
  exact ⟨ad, l[k], e, List.getElem?_eq_getElem hl, hc, hcell⟩
theorem Nums.of_ints {w : World} {A : Option Addr} {n : Nat} {zs : List Int} (h : Ints .u64 w A n zs) : Nums w A n ((zs.take n).map Int.toNat) :=
  ⟨by rw [List.length_map, List.length_take]; have := h.2.1; omega, h.1, fun i c hi => by
    rw [List.getElem?_map, List.getElem?_take] at hi
    split at hi
    · rename_i hlt
      obtain ⟨ad, e, hcell, hwf⟩ := h.2.2 i hlt
      have hl : i < zs.length := by have := h.2.1; omega
      have hz : zs.getD i 0 = zs[i] := by simp [List.getD, List.getElem?_eq_getElem hl]
      rw [hz] at hcell hwf
      rw [List.getElem?_eq_getElem hl] at hi
      simp only [Option.map_some, Option.some.injEq] at hi
      have hb := wf_u64 hwf
      subst hi
      exact ⟨by omega, ad, e, by rw [hcell]; congr 2; omega⟩
    · cases hi⟩

/-- The forms of numbers, one behind the other. -/
def forms (l : List Nat) : List Nat := (l.map form).flatten
theorem forms_drop {l : List Nat} {k x : Nat} (h : l[k]? = some x) : forms (l.drop k) = form x ++ forms (l.drop (k + 1)) := by
  obtain ⟨hk, rfl⟩ := List.getElem?_eq_some_iff.1 h
  unfold forms
  rw [List.drop_eq_getElem_cons hk, List.map_cons, List.flatten_cons]
theorem forms_take {l : List Nat} {k x : Nat} (h : l[k]? = some x) : forms (l.take (k + 1)) = forms (l.take k) ++ form x := by
  rw [List.take_add_one, h]
  simp [forms]

set_option maxHeartbeats 2000000 in
theorem rows_walk (A : Option Addr) (n cap : Nat) (l : List Nat) (w : World) (hp : Nums w A n l) :
    Calls Try.prog 13 #[.slice A n cap] w (Gives w (.bool true)) := by
  by_cases hn : 60 < n
  · go_enter Try.func13, Try.ntmps13
    go_wp2_with (go_at_call 23; (with_reducible refine (awake01 _).mono ?_); rintro e w1 ⟨rfl, hbw1⟩; have hzw1 := hbw1.size; (try simp at hzw1))
    go_ret
    exact ⟨rfl, by ((repeat' first | with_reducible exact Below.refl _ _ | with_reducible assumption | with_reducible refine Below.alloc ?_ ?_ _ | with_reducible refine Below.setCell ?_ ?_ _ | with_reducible apply Below.drew | with_reducible apply below_drewN | with_reducible refine below_call ?_ (by with_reducible assumption) ?_) <;> (first | omega | (simp; done) | (simp; omega) | (simp at *; omega)))⟩
  have hln := hp.1
  have Hln := Lib.hid hln
  clear hln
  go_enter Try.func13, Try.ntmps13
  go_wp2_with fail
  go_loopw [3, 4] (fun s3 s4 wr => ∃ k : Nat, k ≤ n ∧ s4 = .int .i64 k ∧ OwnB wr w.heap.size 5 s3 (forms (l.take k)) ∧ (forms (l.take k)).length ≤ 9 * k ∧ Below w.heap.size w wr) (fun _ s4 _ => n - (intOf s4).toNat)
  case atStart => exact ⟨0, by omega, rfl, OwnB.nil_ _ _ _, by simp [forms], Below.refl _ _⟩
  case round =>
    obtain ⟨k, hk, rfl, hown, hlk, hbr⟩ := hrel
    have hzr := hbr.size
    by_cases hlt : k < n
    · obtain ⟨ad, x, rfl, hx, hx2, hcell⟩ := (hp.keep hbr).at_ hlt
      have hnext := forms_take hx
      have hF : (form x).length ≤ 9 := by
        rw [size_form]; have := wid_bound hx2; unfold size; split <;> omega
      have Hnext := Lib.hid hnext
      clear hnext
      have put : Calls Try.prog 24 #[_, .int .u64 (x : Int)] wr (Appends wr w.heap.size 5 _ (forms (l.take k)) (form x)) := put_any _ _ w.heap.size x wr hown hzr (by omega) hx2
      have k0 : (0 : Int) ≤ (k : Int) := by omega
      have k1 : (k : Int) < (n : Int) := by omega
      have Hx := Lib.hid hx
      clear hx
      go_wp2_with fail
      refine put.mono ?_
      rintro e w2 ⟨b2, rfl, hon2⟩
      have hb2 : Below w.heap.size w w2 := hon2.below hbr (Nat.le_refl _) hzr hown
      go_wp2_with fail
      go_roundw
      case rel => exact ⟨k + 1, by omega, by go_num, by rw [Hnext.out]; exact hon2.own, by rw [Hnext.out, List.length_append]; omega, hb2⟩
      case measure => simp [intOf]; omega
    · have hall : forms (l.take k) = forms l := by rw [List.take_of_length_le (by have := Hln.out; omega)]
      rw [hall] at hown
      obtain ⟨B, c, rfl, hle, hcm⟩ := hown.form
      have hB := hown.bytes.2.2
      generalize hm : (forms l).length = m at *
      clear hm hlk hown hall
      go_wp2_with fail
      go_loopw [3, 5] (fun s3 s5 wr => ∃ (k m c : Nat) (B : Option Addr), k ≤ n ∧ s5 = .int .i64 k ∧ s3 = .slice B m c ∧ Bytes wr B m (forms (l.drop k)) ∧ m ≤ c ∧ c ≤ maxLen ∧ Below w.heap.size w wr) (fun _ s5 _ => n - (intOf s5).toNat)
      case atStart => exact ⟨0, m, c, B, by omega, rfl, rfl, by simpa using hB, hle, hcm, hbr⟩
      case round =>
        clear hB hle hcm hbr hzr
        obtain ⟨k, m, c, B, hk, rfl, rfl, hB, hle, hcm, hbr⟩ := hrel
        have hzr := hbr.size
        by_cases hlt : k < n
        · obtain ⟨ad, x, rfl, hx, hx2, hcell⟩ := (hp.keep hbr).at_ hlt
          have hnext := forms_drop hx
          rw [hnext] at hB
          have htk := take_any B m c _ wr hB
          unfold takeV at htk
          rw [ntake_form] at htk
          have hsz := size_form x
          have hs1 : 1 ≤ size x := by unfold size; split <;> omega
          have hsm : size x ≤ m := by have := hB.1; rw [List.length_append] at this; omega
          have hB2 := hB.cutFrom (k := size x) (cap := c) hsm hle
          rw [← hsz, List.drop_left, hsz] at hB2
          obtain ⟨B2, hB2e⟩ : ∃ B2, (if c = size x then B else Option.map (fun x_1 => x_1.add (size x)) B) = B2 := ⟨_, rfl⟩
          rw [hB2e] at hB2
          have k0 : (0 : Int) ≤ (k : Int) := by omega
          have k1 : (k : Int) < (n : Int) := by omega
          clear hnext hsz hB hx
          generalize size x = sx at *
          have j1 : (0 : Int) ≤ (sx : Int) := by omega
          have j2 : (1 : Int) ≤ (sx : Int) := by omega
          have j3 : (sx : Int) ≤ (m : Int) := by omega
          have j4 : (sx : Int) ≤ (c : Int) := by omega
          go_wp2_with (((go_at_call 28; (with_reducible refine (htk).mono ?_); rintro e w2 ⟨rfl, hbw2⟩; have hzw2 := hbw2.size; (try simp at hzw2))); have hcell2 := cell_keep hbw2 hcell)
          go_roundw
          case rel => exact ⟨k + 1, m - sx, c - sx, B2, by omega, by go_num, by go_num, hB2.keep (by assumption), by omega, by omega, by ((repeat' first | with_reducible exact Below.refl _ _ | with_reducible assumption | with_reducible refine Below.alloc ?_ ?_ _ | with_reducible refine Below.setCell ?_ ?_ _ | with_reducible apply Below.drew | with_reducible apply below_drewN | with_reducible refine below_call ?_ (by with_reducible assumption) ?_) <;> (first | omega | (simp; done) | (simp; omega) | (simp at *; omega)))⟩
          case measure => simp [intOf]; omega
        · have hm0 : m = 0 := by
            have := hB.1
            rw [List.drop_of_length_le (by have := Hln.out; omega)] at this
            simpa [forms] using this
          subst hm0
          go_wp2_with (go_at_call 23; (with_reducible refine (awake01 _).mono ?_); rintro e w3 ⟨rfl, hbw3⟩; have hzw3 := hbw3.size; (try simp at hzw3))
          go_ret
          exact ⟨rfl, by ((repeat' first | with_reducible exact Below.refl _ _ | with_reducible assumption | with_reducible refine Below.alloc ?_ ?_ _ | with_reducible refine Below.setCell ?_ ?_ _ | with_reducible apply Below.drew | with_reducible apply below_drewN | with_reducible refine below_call ?_ (by with_reducible assumption) ?_) <;> (first | omega | (simp; done) | (simp; omega) | (simp at *; omega)))⟩
end Go.Proofs.Ytdmbpndplflebaa
