/- The walks of package stonecropref03 on items: Same. -/
import Derived.Test.YtfdfcceleaodaaaAttrItemsQ13
namespace Go.Proofs.Ytfdfcceleaodaaa
open Go.RowKit
set_option linter.unusedVariables false
set_option linter.unusedSimpArgs false
set_option maxRecDepth 20000
attribute [local go_sem ↓] Go.wp_at_zero Go.wp_at_succ
attribute [local go_sem] World.cell?_alloc_some frozen_alloc_some
attribute [local go_sem] lt2 lt3 lt4 lt5
attribute [local simp] lt2 lt3 lt4 lt5

open Classical in
/-- Two trees are one. -/
noncomputable def tsame (t u : Tree) : Bool := decide (t = u)
theorem tsame_self (t : Tree) : tsame t t = true := by simp [tsame]
theorem tsame_iff {t u : Tree} : tsame t u = true ↔ t = u := by simp [tsame]
theorem tsame_no {t u : Tree} (h : t ≠ u) : tsame t u = false := by simp [tsame, h]
theorem list_parts {l m : List Tree} {j : Nat} (h : l.take j = m.take j) (h1 : j < l.length) (h2 : j < m.length) (he : l[j] = m[j]) : l.take (j + 1) = m.take (j + 1) := by
  rw [List.take_add_one, List.take_add_one, h, List.getElem?_eq_getElem h1, List.getElem?_eq_getElem h2, he]

theorem toList_inj {s t : ByteArray} (h : s.toList = t.toList) : s = t := by
  obtain ⟨⟨a⟩⟩ := s
  obtain ⟨⟨b⟩⟩ := t
  simp only [ByteArray.toList_eq] at h
  rw [show a = b from h]

set_option maxHeartbeats 4000000 in
theorem resame_any (t : Tree) : ∀ (u : Tree) (v x : Value) (w : World), Holds w t v → Holds w u x →
    Calls Try.prog 35 #[v, x] w (Gives w (.bool (tsame t u))) := by
  refine Tree.ind (P := fun t => ∀ (u : Tree) (v x : Value) (w : World), Holds w t v → Holds w u x → Calls Try.prog 35 #[v, x] w (Gives w (.bool (tsame t u)))) ?_ t
  intro k n s l ih u v x w hv hx
  obtain ⟨k2, n2, s2, l2⟩ := u
  have Hv := Lib.hid hv
  have Hx := Lib.hid hx
  have Ih := Lib.hid ih
  obtain ⟨A, m, c, rfl, hk, hn, hs, hm, hmc, hc, hel⟩ := hv.open_
  obtain ⟨A2, m2, c2, rfl, hk2, hn2, hs2, hm2, hmc2, hc2, hel2⟩ := hx.open_
  have Hm := Lib.hid hm
  have Hm2 := Lib.hid hm2
  clear hv hx ih hel hel2 hm hm2 hs hs2 hk hk2 hn hn2
  by_cases e1 : k = k2
  case neg =>
    rw [tsame_no (by intro h; injection h; exact e1 ‹_›)]
    have e1' : (k != k2) = true := by simpa using e1
    clear Hv Hx Ih Hm Hm2
    go_enter Try.func35, Try.ntmps35
    go_wp2_with fail
    go_ret
    exact ⟨rfl, by ((repeat' first | with_reducible exact Below.refl _ _ | with_reducible assumption | with_reducible refine Below.alloc ?_ ?_ _ | with_reducible refine Below.setCell ?_ ?_ _ | with_reducible apply Below.drew | with_reducible apply below_drewN | with_reducible refine below_call ?_ (by with_reducible assumption) ?_) <;> (first | omega | (simp; done) | (simp; omega) | (simp at *; omega)))⟩
  subst e1
  by_cases e2 : n = n2
  case neg =>
    rw [tsame_no (by intro h; injection h; exact e2 ‹_›)]
    have e2' : ((n : Int) != (n2 : Int)) = true := by simp; omega
    clear Hv Hx Ih Hm Hm2
    go_enter Try.func35, Try.ntmps35
    go_wp2_with fail
    go_ret
    exact ⟨rfl, by ((repeat' first | with_reducible exact Below.refl _ _ | with_reducible assumption | with_reducible refine Below.alloc ?_ ?_ _ | with_reducible refine Below.setCell ?_ ?_ _ | with_reducible apply Below.drew | with_reducible apply below_drewN | with_reducible refine below_call ?_ (by with_reducible assumption) ?_) <;> (first | omega | (simp; done) | (simp; omega) | (simp at *; omega)))⟩
  subst e2
  by_cases e3 : s = s2
  case neg =>
    rw [tsame_no (by intro h; injection h; exact e3 ‹_›)]
    have e3' : ¬ s.toList = s2.toList := fun h => e3 (toList_inj h)
    clear Hv Hx Ih Hm Hm2
    go_enter Try.func35, Try.ntmps35
    go_wp2_with fail
    go_ret
    exact ⟨rfl, by ((repeat' first | with_reducible exact Below.refl _ _ | with_reducible assumption | with_reducible refine Below.alloc ?_ ?_ _ | with_reducible refine Below.setCell ?_ ?_ _ | with_reducible apply Below.drew | with_reducible apply below_drewN | with_reducible refine below_call ?_ (by with_reducible assumption) ?_) <;> (first | omega | (simp; done) | (simp; omega) | (simp at *; omega)))⟩
  subst e3
  by_cases e4 : m = m2
  case neg =>
    rw [tsame_no (by intro h; injection h with _ _ _ h; exact e4 (by rw [Hm.out, Hm2.out, h]))]
    have e4' : ((m : Int) != (m2 : Int)) = true := by simp; omega
    clear Hv Hx Ih Hm Hm2
    go_enter Try.func35, Try.ntmps35
    go_wp2_with fail
    go_ret
    exact ⟨rfl, by ((repeat' first | with_reducible exact Below.refl _ _ | with_reducible assumption | with_reducible refine Below.alloc ?_ ?_ _ | with_reducible refine Below.setCell ?_ ?_ _ | with_reducible apply Below.drew | with_reducible apply below_drewN | with_reducible refine below_call ?_ (by with_reducible assumption) ?_) <;> (first | omega | (simp; done) | (simp; omega) | (simp at *; omega)))⟩
  subst e4
  have hmm : m ≤ 9223372036854775807 := by unfold maxLen at hc; omega
  generalize hR : tsame (.mk k n s l) (.mk k n s l2) = R
  have HR := Lib.hid hR
  clear hR
  go_enter Try.func35, Try.ntmps35
  go_wp2_with fail
  go_loopw [5] (fun s5 wr => ∃ j : Nat, j ≤ m ∧ s5 = .int .i64 j ∧ l.take j = l2.take j ∧ wr.cell? ⟨w.heap.size, 3, none⟩ = some (.slice A m c) ∧ wr.cell? ⟨w.heap.size + 1, 3, none⟩ = some (.slice A2 m c2) ∧ Below w.heap.size w wr) (fun s5 _ => m - (intOf s5).toNat)
  case atStart => exact ⟨0, by omega, rfl, rfl, by simp [go_sem], by simp [go_sem], by ((repeat' first | with_reducible exact Below.refl _ _ | with_reducible assumption | with_reducible refine Below.alloc ?_ ?_ _ | with_reducible refine Below.setCell ?_ ?_ _ | with_reducible apply Below.drew | with_reducible apply below_drewN | with_reducible refine below_call ?_ (by with_reducible assumption) ?_) <;> (first | omega | (simp; done) | (simp; omega) | (simp at *; omega)))⟩
  case round =>
    obtain ⟨j, hj, rfl, htk, hbx, hby, hbr⟩ := hrel
    have hzr := hbr.size
    have Htk := Lib.hid htk
    clear htk
    by_cases hlt : j < m
    · have hjl : j < l.length := by have := Hm.out; omega
      have hjl2 : j < l2.length := by have := Hm2.out; omega
      obtain ⟨ad, u, rfl, hu, h4⟩ := Hv.out.elem (List.getElem?_eq_getElem hjl)
      obtain ⟨ad2, u2, rfl, hu2, h42⟩ := Hx.out.elem (List.getElem?_eq_getElem hjl2)
      have hcall : ∀ W, Below wr.heap.size wr W → Calls Try.prog 35 #[u, u2] W (Gives W (.bool (tsame l[j] l2[j]))) := fun W h => Ih.out l[j] (List.getElem_mem hjl) l2[j] u u2 W ((hu.keep hbr).keep h) ((hu2.keep hbr).keep h)
      obtain ⟨eb, eo, k', n', s', A', m', c', ha, rfl, q0, q1, q2, q3⟩ := h4.keep hbr
      obtain ⟨eb2, eo2, k3, n3, s3, A3, m3, c3, ha2, rfl, p0, p1, p2, p3⟩ := h42.keep hbr
      have j0 : (0 : Int) ≤ (j : Int) := by omega
      have j1 : (j : Int) < (m : Int) := by omega
      cases hok : tsame l[j] l2[j] with
      | true =>
        rw [hok] at hcall
        have hnx := list_parts Htk.out hjl hjl2 (tsame_iff.1 hok)
        have Hnx := Lib.hid hnx
        clear hnx hok hu hu2
        go_wp2_with fail
        go_region_held3 (fun w' => Below wr.heap.size wr w' ∧ w'.cell? ⟨w.heap.size, 3, none⟩ = some (.slice (some ad) m c) ∧ w'.cell? ⟨w.heap.size + 1, 3, none⟩ = some (.slice (some ad2) m c2) ∧ w'.cell? ⟨eb, eo, none⟩ = some (.int .i64 k') ∧ w'.cell? ⟨eb, eo + 1, none⟩ = some (.int .u64 n') ∧ w'.cell? ⟨eb, eo + 2, none⟩ = some (.string s') ∧ w'.cell? ⟨eb, eo + 3, none⟩ = some (.slice A' m' c') ∧ w'.cell? ⟨eb2, eo2, none⟩ = some (.int .i64 k3) ∧ w'.cell? ⟨eb2, eo2 + 1, none⟩ = some (.int .u64 n3) ∧ w'.cell? ⟨eb2, eo2 + 2, none⟩ = some (.string s3) ∧ w'.cell? ⟨eb2, eo2 + 3, none⟩ = some (.slice A3 m3 c3)) ((go_split_ands; (repeat' apply And.intro) <;> (try simp only [World.cell?_drew, World.frozen?_drew]) <;> (first | with_reducible assumption | exact cell_keep (by with_reducible assumption) (by with_reducible assumption) | ((repeat' first | with_reducible exact Below.refl _ _ | with_reducible assumption | with_reducible refine Below.alloc ?_ ?_ _ | with_reducible refine Below.setCell ?_ ?_ _ | with_reducible apply Below.drew | with_reducible apply below_drewN | with_reducible refine below_call ?_ (by with_reducible assumption) ?_) <;> (first | omega | (simp; done) | (simp; omega) | (simp at *; omega)))))) ((go_at_call 35; (with_reducible refine (hcall _ ?hbel).mono ?_); (case hbel => (go_split_ands; ((repeat' first | with_reducible exact Below.refl _ _ | with_reducible assumption | with_reducible refine Below.alloc ?_ ?_ _ | with_reducible refine Below.setCell ?_ ?_ _ | with_reducible apply Below.drew | with_reducible apply below_drewN | with_reducible refine below_call ?_ (by with_reducible assumption) ?_) <;> (first | omega | (simp; done) | (simp; omega) | (simp at *; omega))))); rintro e w1 ⟨rfl, hbw1⟩; have hzw1 := hbw1.size; (try simp at hzw1)))
        all_goals
          go_split_ands
          go_wp2_with fail
          go_roundw
          case rel => exact ⟨j + 1, by omega, by go_num, Hnx.out, by assumption, by assumption, by ((repeat' first | with_reducible exact Below.refl _ _ | with_reducible assumption | with_reducible refine Below.alloc ?_ ?_ _ | with_reducible refine Below.setCell ?_ ?_ _ | with_reducible apply Below.drew | with_reducible apply below_drewN | with_reducible refine below_call ?_ (by with_reducible assumption) ?_) <;> (first | omega | (simp; done) | (simp; omega) | (simp at *; omega)))⟩
          case measure => simp [intOf]; omega
      | false =>
        rw [hok] at hcall
        have hfin : tsame (.mk k n s l) (.mk k n s l2) = false := tsame_no (by
          intro h; injection h with _ _ _ h
          subst h
          rw [tsame_self] at hok; cases hok)
        have Hfin := Lib.hid (HR.out.symm.trans hfin)
        clear hfin hok hu hu2
        go_wp2_with fail
        go_region_held3 (fun w' => Below wr.heap.size wr w' ∧ w'.cell? ⟨w.heap.size, 3, none⟩ = some (.slice (some ad) m c) ∧ w'.cell? ⟨w.heap.size + 1, 3, none⟩ = some (.slice (some ad2) m c2) ∧ w'.cell? ⟨eb, eo, none⟩ = some (.int .i64 k') ∧ w'.cell? ⟨eb, eo + 1, none⟩ = some (.int .u64 n') ∧ w'.cell? ⟨eb, eo + 2, none⟩ = some (.string s') ∧ w'.cell? ⟨eb, eo + 3, none⟩ = some (.slice A' m' c') ∧ w'.cell? ⟨eb2, eo2, none⟩ = some (.int .i64 k3) ∧ w'.cell? ⟨eb2, eo2 + 1, none⟩ = some (.int .u64 n3) ∧ w'.cell? ⟨eb2, eo2 + 2, none⟩ = some (.string s3) ∧ w'.cell? ⟨eb2, eo2 + 3, none⟩ = some (.slice A3 m3 c3)) ((go_split_ands; (repeat' apply And.intro) <;> (try simp only [World.cell?_drew, World.frozen?_drew]) <;> (first | with_reducible assumption | exact cell_keep (by with_reducible assumption) (by with_reducible assumption) | ((repeat' first | with_reducible exact Below.refl _ _ | with_reducible assumption | with_reducible refine Below.alloc ?_ ?_ _ | with_reducible refine Below.setCell ?_ ?_ _ | with_reducible apply Below.drew | with_reducible apply below_drewN | with_reducible refine below_call ?_ (by with_reducible assumption) ?_) <;> (first | omega | (simp; done) | (simp; omega) | (simp at *; omega)))))) ((go_at_call 35; (with_reducible refine (hcall _ ?hbel).mono ?_); (case hbel => (go_split_ands; ((repeat' first | with_reducible exact Below.refl _ _ | with_reducible assumption | with_reducible refine Below.alloc ?_ ?_ _ | with_reducible refine Below.setCell ?_ ?_ _ | with_reducible apply Below.drew | with_reducible apply below_drewN | with_reducible refine below_call ?_ (by with_reducible assumption) ?_) <;> (first | omega | (simp; done) | (simp; omega) | (simp at *; omega))))); rintro e w1 ⟨rfl, hbw1⟩; have hzw1 := hbw1.size; (try simp at hzw1)))
        all_goals
          go_split_ands
          go_wp2_with fail
          go_ret
          exact ⟨by rw [Hfin.out]; rfl, by ((repeat' first | with_reducible exact Below.refl _ _ | with_reducible assumption | with_reducible refine Below.alloc ?_ ?_ _ | with_reducible refine Below.setCell ?_ ?_ _ | with_reducible apply Below.drew | with_reducible apply below_drewN | with_reducible refine below_call ?_ (by with_reducible assumption) ?_) <;> (first | omega | (simp; done) | (simp; omega) | (simp at *; omega)))⟩
    · have h1 : l.take j = l := List.take_of_length_le (by have := Hm.out; omega)
      have h2 : l2.take j = l2 := List.take_of_length_le (by have := Hm2.out; omega)
      have hall : l = l2 := by have := Htk.out; rwa [h1, h2] at this
      have Hfin := Lib.hid (HR.out.symm.trans (by rw [hall, tsame_self]))
      clear hall h1 h2 Htk
      go_wp2_with fail
      go_ret
      exact ⟨by rw [Hfin.out]; rfl, by ((repeat' first | with_reducible exact Below.refl _ _ | with_reducible assumption | with_reducible refine Below.alloc ?_ ?_ _ | with_reducible refine Below.setCell ?_ ?_ _ | with_reducible apply Below.drew | with_reducible apply below_drewN | with_reducible refine below_call ?_ (by with_reducible assumption) ?_) <;> (first | omega | (simp; done) | (simp; omega) | (simp at *; omega)))⟩
end Go.Proofs.Ytfdfcceleaodaaa
