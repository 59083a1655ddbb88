/- The walks of package stonecropref03 on items: check. -/
import Derived.Test.YtlolnakeancenaaDoorMsgFramesQ1
import Derived.ChangeKeysEq
namespace Go.Proofs.YtlolnakeancenaaDoor
open Go.RowKit
set_option linter.unusedVariables false
set_option linter.unusedSimpArgs false
set_option maxRecDepth 20000
attribute [local go_sem ↓] Go.wp_at_zero Go.wp_at_succ
attribute [local go_sem] World.cell?_alloc_some frozen_alloc_some
attribute [local go_sem] lt2 lt3 lt4 lt5
attribute [local simp] lt2 lt3 lt4 lt5

theorem text_full {s : ByteArray} (h : s.size ≠ 0) : s.toList.isEmpty = false ∧ ¬ s.toList = [] := by
 have e : s.toList = s.data.toList := by simp [ByteArray.toList_eq]
 have : s.data.toList ≠ [] := fun h2 => h (by
  have h3 : s.data.size = 0 := by rw [← Array.length_toList, h2]; rfl
  exact h3)
 rw [e]
 exact ⟨by simpa using this, this⟩
set_option maxHeartbeats 4000000 in
theorem refcheck_bad (k : Int) (n : Nat) (s : ByteArray) (l : List Tree) (v : Value) (d : Int) (w : World) (ht : Holds w (.mk k n s l) v) (hb : bad k n s l = true) :
  Calls Tryd.prog 28 #[v, .int .i64 d] w (Gives w (.int .i64 4)) := by
 obtain ⟨A, m, c, rfl, hk, hn, hs, hm, hmc, hc, hel⟩ := ht.open_
 simp only [bad, decide_eq_true_iff] at hb
 rw [← hm] at hb
 have hb2 : k < 0 ∨ 2 < k ∨ (k ≠ 0 ∧ n ≠ 0) ∨ (k ≠ 1 ∧ s.size ≠ 0) ∨ (k ≠ 2 ∧ 0 < m) := by omega
 clear hel ht hm hb hk
 have HB := Lib.hid hb2
 clear hb2
 by_cases hneg : k < 0
 ·go_enter Tryd.func28, Tryd.ntmps28
  go_wp2_with fail
  go_ret
  exact ⟨rfl, blw⟩
 by_cases hbig : 2 < k
 ·go_enter Tryd.func28, Tryd.ntmps28
  go_wp2_with fail
  go_ret
  exact ⟨rfl, blw⟩
 by_cases h0 : k = 0
 ·subst h0
  by_cases h1 : s.size = 0
  ·have e1 := empty_of_size h1
   subst e1
   have hm0 : 0 < m := by have := HB.out; omega
   go_enter Tryd.func28, Tryd.ntmps28
   go_wp2_with fail
   go_ret
   exact ⟨rfl, blw⟩
  ·obtain ⟨h2, h3⟩ := text_full h1
   go_enter Tryd.func28, Tryd.ntmps28
   go_wp2_with fail
   go_ret
   exact ⟨rfl, blw⟩
 ·have h0' : (k != 0) = true := by simpa using h0
  by_cases hn0 : n = 0
  ·subst hn0
   by_cases h1 : k = 1
   ·subst h1
    have hm0 : 0 < m := by have := HB.out; omega
    go_enter Tryd.func28, Tryd.ntmps28
    go_wp2_with fail
    go_ret
    exact ⟨rfl, blw⟩
   ·have h2 : k = 2 := by omega
    subst h2
    have h1 : s.size ≠ 0 := by have := HB.out; omega
    obtain ⟨h2, h3⟩ := text_full h1
    go_enter Tryd.func28, Tryd.ntmps28
    go_wp2_with fail
    go_ret
    exact ⟨rfl, blw⟩
  ·have hn1 : ((n : Int) != 0) = true := by simp; omega
   go_enter Tryd.func28, Tryd.ntmps28
   go_wp2_with fail
   go_ret
   exact ⟨rfl, blw⟩
set_option maxHeartbeats 4000000 in
theorem refcheck_any (t : Tree) : ∀ (d : Nat) (v : Value) (w : World), Holds w t v → d ≤ 16 →
  Calls Tryd.prog 28 #[v, .int .i64 (d : Int)] w (Gives w (.int .i64 (check t d : Int))) := by
 refine Tree.ind (P := fun t => ∀ (d : Nat) (v : Value) (w : World), Holds w t v → d ≤ 16 → Calls Tryd.prog 28 #[v, .int .i64 (d : Int)] w (Gives w (.int .i64 (check t d : Int)))) ?_ t
 intro k n s l ih d v w ht hd
 cases hb : bad k n s l with
 | true =>
  have : check (.mk k n s l) d = 4 := by simp [check, hb]
  rw [this]
  exact refcheck_bad k n s l v d w ht hb
 | false =>
 have hp := bad_parts hb
 obtain ⟨A, m, c, rfl, hk, hn, hs, hm, hmc, hc, hel⟩ := ht.open_
 by_cases h16 : d = 16
 ·subst h16
  have : check (.mk k n s l) 16 = 12 := by simp [check, hb]
  rw [this]
  have h3 : (15 : Int) < ((16 : Nat) : Int) := by omega
  have Hm := Lib.hid hm
  clear ih ht hb hel hm this
  rcases hp with ⟨rfl, rfl, rfl⟩ | ⟨rfl, rfl, rfl⟩ | ⟨rfl, rfl, rfl⟩
  ·have hm0 : m = 0 := Hm.out
   subst hm0
   go_enter Tryd.func28, Tryd.ntmps28
   go_wp2_with fail
   go_ret
   exact ⟨rfl, blw⟩
  ·have hm0 : m = 0 := Hm.out
   subst hm0
   go_enter Tryd.func28, Tryd.ntmps28
   go_wp2_with fail
   go_ret
   exact ⟨rfl, blw⟩
  ·go_enter Tryd.func28, Tryd.ntmps28
   go_wp2_with fail
   go_ret
   exact ⟨rfl, blw⟩
 ·have hcs : check (.mk k n s l) d = checks l (d + 1) := by simp [check, hb, h16]
  rw [hcs]
  have hd1 : d ≤ 15 := by omega
  have hd2 : ¬ (15 : Int) < (d : Int) := by omega
  have hmm : m ≤ 9223372036854775807 := by unfold maxLen at hc; omega
  have Hm := Lib.hid hm
  have Ih := Lib.hid ih
  have Ht := Lib.hid ht
  clear ih ht hb hel hm hcs h16 hd
  rcases hp with ⟨rfl, rfl, rfl⟩ | ⟨rfl, rfl, rfl⟩ | ⟨rfl, rfl, rfl⟩
  ·have hm0 : m = 0 := Hm.out
   subst hm0
   clear Hm Ih Ht
   simp only [checks]
   go_enter Tryd.func28, Tryd.ntmps28
   go_wp2_with fail
   go_loopw [5] (fun s5 wr => s5 = .int .i64 0 ∧ wr.cell? ⟨w.heap.size, 3, none⟩ = some (.slice A 0 c) ∧ Below w.heap.size w wr) (fun _ _ => 0)
   case atStart => exact ⟨rfl, by simp [go_sem], blw⟩
   case round =>
    obtain ⟨rfl, hbx, hbr⟩ := hrel
    have hzr := hbr.size
    go_wp2_with fail
    go_ret
    exact ⟨rfl, blw⟩
  ·have hm0 : m = 0 := Hm.out
   subst hm0
   clear Hm Ih Ht
   simp only [checks]
   go_enter Tryd.func28, Tryd.ntmps28
   go_wp2_with fail
   go_loopw [5] (fun s5 wr => s5 = .int .i64 0 ∧ wr.cell? ⟨w.heap.size, 3, none⟩ = some (.slice A 0 c) ∧ Below w.heap.size w wr) (fun _ _ => 0)
   case atStart => exact ⟨rfl, by simp [go_sem], blw⟩
   case round =>
    obtain ⟨rfl, hbx, hbr⟩ := hrel
    have hzr := hbr.size
    go_wp2_with fail
    go_ret
    exact ⟨rfl, blw⟩
  ·go_enter Tryd.func28, Tryd.ntmps28
   go_wp2_with fail
   go_loopw [5] (fun s5 wr => ∃ j : Nat, j ≤ m ∧ s5 = .int .i64 j ∧ checks (l.take j) (d + 1) = 0 ∧ wr.cell? ⟨w.heap.size, 3, none⟩ = some (.slice A m c) ∧ Below w.heap.size w wr) (fun s5 _ => m - (intOf s5).toNat)
   case atStart => exact ⟨0, by omega, rfl, by simp [checks], by simp [go_sem], blw⟩
   case round =>
    obtain ⟨j, hj, rfl, hz, hbx, hbr⟩ := hrel
    have hzr := hbr.size
    by_cases hlt : j < m
    ·have hjl : j < l.length := by have := Hm.out; omega
     obtain ⟨ad, u, rfl, hu, h4⟩ := Ht.out.elem (List.getElem?_eq_getElem hjl)
     have hcall : ∀ W, Below wr.heap.size wr W → Calls Tryd.prog 28 #[u, .int .i64 ((d : Int) + 1)] W (Gives W (.int .i64 (check l[j] (d + 1) : Int))) := fun W h => Ih.out l[j] (List.getElem_mem hjl) (d + 1) u W ((hu.keep hbr).keep h) (by omega)
     obtain ⟨eb, eo, k', n', s', A', m', c', ha, rfl, q0, q1, q2, q3⟩ := h4.keep hbr
     have j0 : (0 : Int) ≤ (j : Int) := by omega
     have j1 : (j : Int) < (m : Int) := by omega
     by_cases hok : check l[j] (d + 1) = 0
     ·have hnx := checks_take (List.getElem?_eq_getElem hjl) hz hok
      rw [hok] at hcall
      have Hnx := Lib.hid hnx
      clear hnx hz hok hu
      go_wp2_with (go_at_call 28; (with_reducible refine (hcall _ ?hbel).mono ?_); (case hbel => exact blw); rintro e w1 ⟨rfl, hbw1⟩; have hzw1 := hbw1.size; (try simp at hzw1))
      go_roundw
      case rel => exact ⟨j + 1, by omega, by go_num, Hnx.out, cell_keep (by assumption) hbx, blw⟩
      case measure => simp [intOf]; omega
     ·have hfin := checks_first (List.getElem?_eq_getElem hjl) hz hok
      have Hfin := Lib.hid hfin
      have hne : ((check l[j] (d + 1) : Int) != 0) = true := by simp; omega
      clear hfin hz hok hu
      generalize check l[j] (d + 1) = y at *
      go_wp2_with (go_at_call 28; (with_reducible refine (hcall _ ?hbel).mono ?_); (case hbel => exact blw); rintro e w1 ⟨rfl, hbw1⟩; have hzw1 := hbw1.size; (try simp at hzw1))
      go_ret
      exact ⟨by rw [Hfin.out]; rfl, blw⟩
    ·have hall : l.take j = l := List.take_of_length_le (by have := Hm.out; omega)
     rw [hall] at hz
     have Hz := Lib.hid hz
     clear hz hall
     go_wp2_with fail
     go_ret
     exact ⟨by rw [Hz.out]; rfl, blw⟩
end Go.Proofs.YtlolnakeancenaaDoor
