/- The walks of package stonecropref03 on items: Size. -/
import Derived.Test.YtfdfcceleaodaaaDoorNumC
import Derived.Test.YtfdfcceleaodaaaDoorItem
import Derived.Test.YtfdfcceleaodaaaDoorTreeB
namespace Go.Proofs.YtfdfcceleaodaaaDoor
open Go.RowKit
set_option linter.unusedVariables false
set_option linter.unusedSimpArgs false
set_option maxRecDepth 20000
attribute [local go_sem ↓] Go.wp_at_zero Go.wp_at_succ
attribute [local go_sem] World.cell?_alloc_some frozen_alloc_some
attribute [local go_sem] lt2 lt3 lt4 lt5
attribute [local simp] lt2 lt3 lt4 lt5

set_option maxHeartbeats 2000000 in
theorem refsize_any (most : Nat) (hmost : most ≤ 1000000) (d : Nat) : ∀ (t : Tree) (v : Value) (w : World), Holds w t v → tsize t ≤ 1048576 → d ≤ 1000 →
    Calls Tryd.prog 9 #[v, .int .i64 (most : Int), .int .i64 (d : Int)] w (Gives w (.int .i64 (csize most d t : Int))) := by
  induction d with
  | zero =>
    intro t v w ht hz hd
    obtain ⟨k, n, s, l⟩ := t
    obtain ⟨A, m, c, rfl, _⟩ := ht.open_
    have hcs : csize most 0 (.mk k n s l) = most + 1 := by simp [csize]
    rw [hcs]
    clear hcs
    go_enter Tryd.func9, Tryd.ntmps9
    go_wp2_with fail
    go_ret
    exact ⟨ret_int (by omega), by ((repeat' first | with_reducible exact Below.refl _ _ | with_reducible assumption | with_reducible refine Below.alloc ?_ ?_ _ | with_reducible refine Below.setCell ?_ ?_ _ | with_reducible apply Below.drew | with_reducible apply below_drewN | with_reducible refine below_call ?_ (by with_reducible assumption) ?_) <;> (first | omega | (simp; done) | (simp; omega) | (simp at *; omega)))⟩
  | succ d ih =>
    intro t v w ht hz hd
    obtain ⟨k, n, s, l⟩ := t
    obtain ⟨A, m, c, rfl, hk, hn, hs, hm, hmc, hc, hel⟩ := ht.open_
    simp only [tsize] at hz
    have hcs : csize most (d + 1) (.mk k n s l) = csizes most d (1 + s.size) l := by simp [csize]
    rw [hcs]
    have Hm := Lib.hid hm
    have Ih := Lib.hid ih
    have Ht := Lib.hid ht
    clear hcs hm ih ht hel
    have hss : s.size ≤ 1048576 := by omega
    have hml : m ≤ 1048576 := by have := tsizes_len l; have := Hm.out; omega
    obtain ⟨D, hD⟩ : ∃ D, D = d + 1 := ⟨_, rfl⟩
    have hD1 : (D : Int) - 1 = (d : Int) := by omega
    have hD0 : ((D : Int) == 0) = false := by simp; omega
    rw [← hD]
    rw [← hD] at hd
    have hd1 : d ≤ 1000 := by omega
    clear hD
    go_enter Tryd.func9, Tryd.ntmps9
    go_wp2_with fail
    go_loopw [7, 8] (fun s7 s8 wr => ∃ k : Nat, k ≤ m ∧ s8 = .int .i64 k ∧ s7 = .int .i64 ((csizes most d (1 + s.size) (l.take k) : Nat) : Int) ∧ wr.cell? ⟨w.heap.size, 3, none⟩ = some (.slice A m c) ∧ Below w.heap.size w wr) (fun _ s8 _ => m - (intOf s8).toNat)
    case atStart => exact ⟨0, by omega, rfl, by simp [csizes], by simp [go_sem], by ((repeat' first | with_reducible exact Below.refl _ _ | with_reducible assumption | with_reducible refine Below.alloc ?_ ?_ _ | with_reducible refine Below.setCell ?_ ?_ _ | with_reducible apply Below.drew | with_reducible apply below_drewN | with_reducible refine below_call ?_ (by with_reducible assumption) ?_) <;> (first | omega | (simp; done) | (simp; omega) | (simp at *; omega)))⟩
    case round =>
      obtain ⟨k, hk, rfl, rfl, hbx, hbr⟩ := hrel
      have hzr := hbr.size
      have hacc := csizes_le most d (l.take k) (1 + s.size)
      have htk : tsizes (l.take k) ≤ tsizes l := by
        have := tsizes_append (l.take k) (l.drop k)
        rw [List.take_append_drop] at this
        omega
      have hle : csizes most d (1 + s.size) (l.take k) ≤ 1100000000000 := by
        have h1 : (most + 2) * tsizes (l.take k) ≤ 1000002 * 1048576 := Nat.mul_le_mul (by omega) (by omega)
        omega
      clear hacc htk
      by_cases hlt : k < m
      · by_cases hst : csizes most d (1 + s.size) (l.take k) ≤ most
        · have hkl : k < l.length := by have := Hm.out; omega
          obtain ⟨ad, u, rfl, hu, h4⟩ := Ht.out.elem (List.getElem?_eq_getElem hkl)
          have hnx := csizes_take (List.getElem?_eq_getElem hkl) hst
          have hzt : tsize l[k] ≤ 1048576 := by
            have := tsizes_mem (List.getElem_mem hkl)
            omega
          have hcl := csize_le most d l[k]
          have hcl2 : csize most d l[k] ≤ 1100000000000 := by
            have h1 : (most + 2) * tsize l[k] ≤ 1000002 * 1048576 := Nat.mul_le_mul (by omega) (by omega)
            omega
          have hcall : ∀ W, Below wr.heap.size wr W → Calls Tryd.prog 9 #[u, .int .i64 (most : Int), .int .i64 (d : Int)] W (Gives W (.int .i64 (csize most d l[k] : Int))) := fun W h => Ih.out l[k] u W ((hu.keep hbr).keep h) hzt hd1
          obtain ⟨eb, eo, k', n', s', A', m', c', ha, rfl, q0, q1, q2, q3⟩ := h4.keep hbr
          have Hnx := Lib.hid hnx
          clear hnx hcl hzt hu
          generalize csizes most d (1 + s.size) (l.take k) = acc at *
          generalize csize most d l[k] = y at *
          have k0 : (0 : Int) ≤ (k : Int) := by omega
          have k1 : (k : Int) < (m : Int) := by omega
          go_wp2_with (go_at_call 9; (with_reducible refine (hcall _ ?hbel).mono ?_); (case hbel => ((repeat' first | with_reducible exact Below.refl _ _ | with_reducible assumption | with_reducible refine Below.alloc ?_ ?_ _ | with_reducible refine Below.setCell ?_ ?_ _ | with_reducible apply Below.drew | with_reducible apply below_drewN | with_reducible refine below_call ?_ (by with_reducible assumption) ?_) <;> (first | omega | (simp; done) | (simp; omega) | (simp at *; omega)))); rintro e w1 ⟨rfl, hbw1⟩; have hzw1 := hbw1.size; (try simp at hzw1))
          go_roundw
          case rel =>
            exact ⟨k + 1, by omega, by go_num, by rw [Hnx.out]; go_num, cell_keep (by assumption) hbx, by ((repeat' first | with_reducible exact Below.refl _ _ | with_reducible assumption | with_reducible refine Below.alloc ?_ ?_ _ | with_reducible refine Below.setCell ?_ ?_ _ | with_reducible apply Below.drew | with_reducible apply below_drewN | with_reducible refine below_call ?_ (by with_reducible assumption) ?_) <;> (first | omega | (simp; done) | (simp; omega) | (simp at *; omega)))⟩
          case measure => simp [intOf]; omega
        · have hfin := csizes_done (l := l) (d := d) (acc := 1 + s.size) (k := k) (most := most) (by omega)
          have Hfin := Lib.hid hfin
          clear hfin
          generalize csizes most d (1 + s.size) (l.take k) = acc at *
          go_wp2_with fail
          go_ret
          exact ⟨by rw [Hfin.out]; rfl, by ((repeat' first | with_reducible exact Below.refl _ _ | with_reducible assumption | with_reducible refine Below.alloc ?_ ?_ _ | with_reducible refine Below.setCell ?_ ?_ _ | with_reducible apply Below.drew | with_reducible apply below_drewN | with_reducible refine below_call ?_ (by with_reducible assumption) ?_) <;> (first | omega | (simp; done) | (simp; omega) | (simp at *; omega)))⟩
      · have hall : l.take k = l := List.take_of_length_le (by have := Hm.out; omega)
        rw [hall] at hle ⊢
        clear hall
        by_cases hst : csizes most d (1 + s.size) l ≤ most
        all_goals
          generalize csizes most d (1 + s.size) l = acc at *
          go_wp2_with fail
          go_ret
          exact ⟨rfl, by ((repeat' first | with_reducible exact Below.refl _ _ | with_reducible assumption | with_reducible refine Below.alloc ?_ ?_ _ | with_reducible refine Below.setCell ?_ ?_ _ | with_reducible apply Below.drew | with_reducible apply below_drewN | with_reducible refine below_call ?_ (by with_reducible assumption) ?_) <;> (first | omega | (simp; done) | (simp; omega) | (simp at *; omega)))⟩
end Go.Proofs.YtfdfcceleaodaaaDoor
