/- The walk of codec.Put. -/
import Derived.Test.YtfdfcceleaodaaaDoorCaught
namespace Go.Proofs.YtfdfcceleaodaaaDoor
open Go.RowKit
set_option linter.unusedVariables false
set_option linter.unusedSimpArgs false
set_option maxRecDepth 20000
attribute [local go_sem ↓] Go.wp_at_zero Go.wp_at_succ
attribute [local go_sem] World.cell?_alloc_some frozen_alloc_some
attribute [local go_sem] lt2 lt3 lt4 lt5
attribute [local simp] lt2 lt3 lt4 lt5

theorem tree_any (t : Tree) : ∀ (d : Nat) (v : Value) (w : World), d ≤ 16 → tsize t ≤ 10000000 → Holds w t v →
    Calls Tryd.prog 69 #[v, .int .i64 (d : Int)] w (Treed w t (check t d)) := by
  refine Tree.ind (P := fun t => ∀ (d : Nat) (v : Value) (w : World), d ≤ 16 → tsize t ≤ 10000000 → Holds w t v → Calls Tryd.prog 69 #[v, .int .i64 (d : Int)] w (Treed w t (check t d))) ?_ t
  intro k n s l ih d v w hd hsz ht
  simp only [tsize] at hsz
  simp only [check]
  cases hb : bad k n s l with
  | true => rw [if_pos rfl]; exact tree_bad k n s l v d w ht hb
  | false =>
  rw [if_neg (by simp)]
  by_cases h16 : d = 16
  · rw [if_pos h16]
    subst h16
    exact tree_deep k n s l v w ht hb
  rw [if_neg h16]
  rcases bad_parts hb with ⟨rfl, rfl, rfl⟩ | ⟨rfl, rfl, rfl⟩ | ⟨rfl, rfl, rfl⟩
  · exact tree_num n d v w ht (by omega)
  · exact tree_text s d v w ht (by omega)
  · exact tree_list l d v w ht (by omega) (by omega) fun t hm v w hh => ih t hm (d + 1) v w (by omega) (by have := tsizes_mem hm; omega) hh

set_option maxHeartbeats 8000000 in
theorem put3_bad (t : Tree) (v : Value) (w : World) (hsz : tsize t ≤ 10000000) (ht : Holds w t v) (hne : check t 0 ≠ 0) :
    Calls Tryd.prog 45 #[v] w (Puts w .i64 5 [] (check t 0)) := by
  have htr : ∀ W, Below w.heap.size w W → Calls Tryd.prog 69 #[v, .int .i64 0] W (Treed W t (check t 0)) := fun W h => tree_any t 0 v W (by omega) hsz (ht.keep h)
  obtain ⟨k, n, s, l⟩ := t
  obtain ⟨A, m, c, rfl, hk, hn, hs, hm, hmc, hc, hel⟩ := ht.open_
  clear hel hm ht hsz
  generalize check (.mk k n s l) 0 = E at *
  go_enter_defers Tryd.func45, Tryd.ntmps45
  go_wp2_with fail
  refine (htr _ (by ((repeat' first | with_reducible exact Below.refl _ _ | with_reducible assumption | with_reducible refine Below.alloc ?_ ?_ _ | with_reducible refine Below.setCell ?_ ?_ _ | with_reducible apply Below.drew | with_reducible apply below_drewN | with_reducible refine below_call ?_ (by with_reducible assumption) ?_) <;> (first | omega | (simp; done) | (simp; omega) | (simp at *; omega))))).mono ?_
  rintro e w1 ⟨hbw1, ⟨h0, x, rfl, hx⟩ | ⟨h0, rfl⟩⟩
  · exact absurd h0 hne
  have hp := cell_keep hbw1 (show World.cell? _ ⟨w.heap.size + 1, 0, none⟩ = some (.int .i64 0) by simp [go_sem])
  have hq := cell_keep hbw1 (show World.cell? _ ⟨w.heap.size + 1 + 1, 0, none⟩ = some (.int .i64 0) by simp [go_sem])
  have fp := frozen_keep (b := false) hbw1 (show World.cell? _ ⟨w.heap.size + 1, 0, none⟩ = some (.int .i64 0) by simp [go_sem]) (by simp [go_sem])
  have fq := frozen_keep (b := false) hbw1 (show World.cell? _ ⟨w.heap.size + 1 + 1, 0, none⟩ = some (.int .i64 0) by simp [go_sem]) (by simp [go_sem])
  have hbw : Below w.heap.size w w1 := by ((repeat' first | with_reducible exact Below.refl _ _ | with_reducible assumption | with_reducible refine Below.alloc ?_ ?_ _ | with_reducible refine Below.setCell ?_ ?_ _ | with_reducible apply Below.drew | with_reducible apply below_drewN | with_reducible refine below_call ?_ (by with_reducible assumption) ?_) <;> (first | omega | (simp; done) | (simp; omega) | (simp at *; omega)))
  refine leaves_cons (f := 67) (args := #[.pointer (some ⟨w.heap.size + 1, 0, none⟩), .pointer (some ⟨w.heap.size + 1 + 1, 0, none⟩)]) (by simp) (by simp [go_sem]) ?_
  refine (caught_fault (w.heap.size + 1) (w.heap.size + 1 + 1) 0 0 E 0 w1 hp hq fp fq (by omega)).mono ?_
  rintro e u' w2 ⟨rfl, rfl, k1, k2, k3⟩
  have hb2 := hbw.trans (k3 w.heap.size (by omega) (by omega))
  simp [Leaves, settle, results, Tryd.results45, go_sem, k1]
  exact ⟨_, rfl, OwnB.nil_ _ _ _, hb2⟩

set_option maxHeartbeats 8000000 in
theorem put3_good (t : Tree) (v : Value) (w : World) (hsz : tsize t ≤ 10000000) (ht : Holds w t v) (h0 : check t 0 = 0) :
    Calls Tryd.prog 45 #[v] w (Puts w .i64 5 (if 1048576 < (tform t).length then [] else tform t) (if 1048576 < (tform t).length then 12 else 0)) := by
  have htr : ∀ W, Below w.heap.size w W → Calls Tryd.prog 69 #[v, .int .i64 0] W (Treed W t (check t 0)) := fun W h => tree_any t 0 v W (by omega) hsz (ht.keep h)
  have hly := lay_any t
  have hlen := tform_len t ht.fit
  rw [h0] at htr
  obtain ⟨k, n, s, l⟩ := t
  obtain ⟨A, m, c, rfl, hk, hn, hs, hm, hmc, hc, hel⟩ := ht.open_
  clear hel hm ht h0
  generalize hF : tform (.mk k n s l) = F at *
  clear hF
  by_cases hbig : 1048576 < F.length
  · have hbig' : (1048576 : Int) < (F.length : Int) := by omega
    rw [if_pos hbig, if_pos hbig]
    go_enter_defers Tryd.func45, Tryd.ntmps45
    go_wp2_with fail
    refine (htr _ (by ((repeat' first | with_reducible exact Below.refl _ _ | with_reducible assumption | with_reducible refine Below.alloc ?_ ?_ _ | with_reducible refine Below.setCell ?_ ?_ _ | with_reducible apply Below.drew | with_reducible apply below_drewN | with_reducible refine below_call ?_ (by with_reducible assumption) ?_) <;> (first | omega | (simp; done) | (simp; omega) | (simp at *; omega))))).mono ?_
    rintro e w1 ⟨hbw1, hor⟩
    rcases hor.symm with ⟨h0, rfl⟩ | ⟨h0, x, rfl, hx⟩
    · exact absurd rfl h0
    have Hx := Lib.hid hx
    clear hx hor
    have hz1 := hbw1.size
    simp at hz1
    go_wp2_with fail
    refine (hly w1.heap.size x (.slice none 0 0) [] _ w1 Hx.out (fun b _ h => by simp [Value.ownBlock] at h) (OwnB.nil_ _ _ _) (Nat.le_refl _) (by simp; omega)).mono ?_
    rintro e w2 ⟨b2, rfl, hon⟩
    have hown := hon.own
    rw [List.nil_append] at hown
    have hbw2 : Below w1.heap.size w1 w2 := hon.below (Below.refl _ _) (Nat.le_refl _) (Nat.le_refl _) (OwnB.nil_ _ _ _)
    have hz2 := hbw2.size
    obtain ⟨A2, c2, rfl, _, _⟩ := hown.form
    have hp1 := cell_keep hbw1 (show World.cell? _ ⟨w.heap.size + 1, 0, none⟩ = some (.int .i64 0) by simp [go_sem])
    have fp1 := frozen_keep (b := false) hbw1 (show World.cell? _ ⟨w.heap.size + 1, 0, none⟩ = some (.int .i64 0) by simp [go_sem]) (by simp [go_sem])
    have hp := cell_keep hbw2 hp1
    have fp := frozen_keep hbw2 hp1 fp1
    have hbw : Below w.heap.size w w2 := by ((repeat' first | with_reducible exact Below.refl _ _ | with_reducible assumption | with_reducible refine Below.alloc ?_ ?_ _ | with_reducible refine Below.setCell ?_ ?_ _ | with_reducible apply Below.drew | with_reducible apply below_drewN | with_reducible refine below_call ?_ (by with_reducible assumption) ?_) <;> (first | omega | (simp; done) | (simp; omega) | (simp at *; omega)))
    clear hp1 fp1 hon htr hly
    go_wp2_with fail
    refine leaves_cons (f := 67) (args := #[.pointer (some ⟨w.heap.size + 1, 0, none⟩), .pointer (some ⟨w.heap.size + 1 + 1, 0, none⟩)]) (by simp) (by simp [go_sem]) ?_
    refine (caught_idle _ _ _).mono ?_
    rintro e u' w3 ⟨rfl, rfl, rfl⟩
    have hp3 := World.cell?_setCell_same' w2 ⟨w.heap.size + 1, 0, none⟩ (.int .i64 12) (by simp [hp])
    simp [Leaves, settle, results, Tryd.results45, go_sem, hp3]
    exact ⟨_, rfl, OwnB.nil_ _ _ _, by ((repeat' first | with_reducible exact Below.refl _ _ | with_reducible assumption | with_reducible refine Below.alloc ?_ ?_ _ | with_reducible refine Below.setCell ?_ ?_ _ | with_reducible apply Below.drew | with_reducible apply below_drewN | with_reducible refine below_call ?_ (by with_reducible assumption) ?_) <;> (first | omega | (simp; done) | (simp; omega) | (simp at *; omega)))⟩
  · have hbig' : ¬ (1048576 : Int) < (F.length : Int) := by omega
    rw [if_neg hbig, if_neg hbig]
    go_enter_defers Tryd.func45, Tryd.ntmps45
    go_wp2_with fail
    refine (htr _ (by ((repeat' first | with_reducible exact Below.refl _ _ | with_reducible assumption | with_reducible refine Below.alloc ?_ ?_ _ | with_reducible refine Below.setCell ?_ ?_ _ | with_reducible apply Below.drew | with_reducible apply below_drewN | with_reducible refine below_call ?_ (by with_reducible assumption) ?_) <;> (first | omega | (simp; done) | (simp; omega) | (simp at *; omega))))).mono ?_
    rintro e w1 ⟨hbw1, hor⟩
    rcases hor.symm with ⟨h0, rfl⟩ | ⟨h0, x, rfl, hx⟩
    · exact absurd rfl h0
    have Hx := Lib.hid hx
    clear hx hor
    have hz1 := hbw1.size
    simp at hz1
    go_wp2_with fail
    refine (hly w1.heap.size x (.slice none 0 0) [] _ w1 Hx.out (fun b _ h => by simp [Value.ownBlock] at h) (OwnB.nil_ _ _ _) (Nat.le_refl _) (by simp; omega)).mono ?_
    rintro e w2 ⟨b2, rfl, hon⟩
    have hown := hon.own
    rw [List.nil_append] at hown
    have hbw2 : Below w1.heap.size w1 w2 := hon.below (Below.refl _ _) (Nat.le_refl _) (Nat.le_refl _) (OwnB.nil_ _ _ _)
    have hz2 := hbw2.size
    obtain ⟨A2, c2, rfl, _, _⟩ := hown.form
    have hp1 := cell_keep hbw1 (show World.cell? _ ⟨w.heap.size + 1, 0, none⟩ = some (.int .i64 0) by simp [go_sem])
    have fp1 := frozen_keep (b := false) hbw1 (show World.cell? _ ⟨w.heap.size + 1, 0, none⟩ = some (.int .i64 0) by simp [go_sem]) (by simp [go_sem])
    have hp := cell_keep hbw2 hp1
    have fp := frozen_keep hbw2 hp1 fp1
    have hbw : Below w.heap.size w w2 := by ((repeat' first | with_reducible exact Below.refl _ _ | with_reducible assumption | with_reducible refine Below.alloc ?_ ?_ _ | with_reducible refine Below.setCell ?_ ?_ _ | with_reducible apply Below.drew | with_reducible apply below_drewN | with_reducible refine below_call ?_ (by with_reducible assumption) ?_) <;> (first | omega | (simp; done) | (simp; omega) | (simp at *; omega)))
    clear hp1 fp1 hon htr hly
    go_wp2_with fail
    refine leaves_cons (f := 67) (args := #[.pointer (some ⟨w.heap.size + 1, 0, none⟩), .pointer (some ⟨w.heap.size + 1 + 1, 0, none⟩)]) (by simp) (by simp [go_sem]) ?_
    refine (caught_idle _ _ _).mono ?_
    rintro e u' w3 ⟨rfl, rfl, rfl⟩
    have hp3 := World.cell?_setCell_same' w2 ⟨w.heap.size + 1, 0, none⟩ (.int .i64 0) (by simp [hp])
    simp [Leaves, settle, results, Tryd.results45, go_sem, hp3]
    have hown' : OwnB (w2.setCell ⟨w.heap.size + 1, 0, none⟩ (.int .i64 0)) w1.heap.size 5 (.slice A2 F.length c2) F := ⟨ownsRow_setCell_below hown.1 (by simp; omega) _, hown.2⟩
    exact ⟨_, rfl, hown'.lower (by omega), by ((repeat' first | with_reducible exact Below.refl _ _ | with_reducible assumption | with_reducible refine Below.alloc ?_ ?_ _ | with_reducible refine Below.setCell ?_ ?_ _ | with_reducible apply Below.drew | with_reducible apply below_drewN | with_reducible refine below_call ?_ (by with_reducible assumption) ?_) <;> (first | omega | (simp; done) | (simp; omega) | (simp at *; omega)))⟩

theorem put3_any (t : Tree) (v : Value) (w : World) (hsz : tsize t ≤ 10000000) (ht : Holds w t v) :
    Calls Tryd.prog 45 #[v] w (Puts w .i64 5 (pform t) (perr t)) := by
  by_cases h0 : check t 0 = 0
  · have hpe : perr t = if 1048576 < (tform t).length then 12 else 0 := by simp [perr, h0]
    have hpf : pform t = if 1048576 < (tform t).length then [] else tform t := by
      unfold pform; rw [hpe]; by_cases hl : 1048576 < (tform t).length
      · simp [hl]
      · simp [hl]
    rw [hpe, hpf]
    exact put3_good t v w hsz ht h0
  · have hpe : perr t = check t 0 := by simp [perr, h0]
    have hpf : pform t = [] := by simp [pform, hpe, h0]
    rw [hpe, hpf]
    exact put3_bad t v w hsz ht h0
end Go.Proofs.YtfdfcceleaodaaaDoor
