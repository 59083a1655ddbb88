/- tally: quorums; whether all are the same as one. -/
import Derived.Test.YtmgiholmhhjpaaaIdEq
import Derived.WalkKit
import Derived.WalkSpells
import Derived.WalkLawsBesides
import Derived.Deep.RegionHeld3
import Derived.Deep.DrawnRows
import Derived.Deep.DeepCutAuto
import Derived.Deep.DeepFit
import Derived.Lib.Hide
import Derived.BigQuiet
import Derived.Deep.QuietTactic
namespace Go.Proofs.Ytmgiholmhhjpaaa
open Go.RowKit
set_option linter.unusedVariables false
set_option linter.unusedSimpArgs false
set_option maxRecDepth 20000
attribute [local go_sem ↓] Go.wp_at_zero Go.wp_at_succ
attribute [local go_sem] World.cell?_alloc_some frozen_alloc_some

def quo (n : Int) : Int := if n < 1 then 0 else n / 2 + 1
set_option maxHeartbeats 400000 in
theorem quorum_any (n : Int) (w : World) (hn : (Lit.int .i64 n).wf = true) : Calls Try.prog 7 #[.int .i64 n] w (fun e w' => e = .returned (.int .i64 (quo n)) ∧ w' = w) := by
  have h1 := wf_i64 hn
  clear hn
  by_cases hlt : n < 1
  · rw [show quo n = 0 by simp [quo, hlt]]
    go_enter Try.func7, Try.ntmps7
    go_wp2
    go_ret
    exact ⟨rfl, rfl⟩
  · have hq : quo n = n / 2 + 1 := by simp [quo, hlt]
    have hd : n.tdiv 2 = n / 2 := Int.tdiv_eq_ediv_of_nonneg (by omega)
    have hw1 : IntKind.i64.wrap (n.tdiv 2) = n / 2 := by rw [hd]; exact IntWalk.i64_in _ (by omega)
    have hw2 : IntKind.i64.wrap (n / 2 + 1) = n / 2 + 1 := IntWalk.i64_in _ (by omega)
    rw [hq]
    go_enter Try.func7, Try.ntmps7
    go_wp2
    go_ret
    exact ⟨by simp_all, rfl⟩
set_option maxHeartbeats 400000 in
theorem fastquorum_any (n : Int) (w : World) : Calls Try.prog 10 #[.int .i64 n] w (fun e w' => e = .returned (.int .i64 (max n 0)) ∧ w' = w) := by
  go_enter Try.func10, Try.ntmps10
  go_wp2
  all_goals go_ret
  all_goals exact ⟨by first | rfl | (simp; omega) | (simp [Int.max_def]; omega), rfl⟩

/-- What an instance hangs on, as it lies. -/
structure AttrT where
  A : Option Addr
  m : Nat
  c : Nat
  q : Int
  t : Int
  l : List IdP
def AttrT.p (a : AttrT) : AttrP := ⟨a.l, a.q, a.t⟩
def AttrsAt (w : World) (A : Option Addr) (m : Nat) (ats : List AttrT) : Prop :=
  m = ats.length ∧ m ≤ maxLen ∧ ∀ (i : Nat) (a : AttrT), ats[i]? = some a → IdsAt w a.A a.m a.l ∧
    ∃ b o, A = some ⟨b, o, none⟩ ∧ w.cell? ⟨b, o + i * 3, none⟩ = some (.slice a.A a.m a.c) ∧ w.cell? ⟨b, o + i * 3 + 1, none⟩ = some (.int .i64 a.q) ∧ w.cell? ⟨b, o + i * 3 + 2, none⟩ = some (.int .i64 a.t)
theorem AttrsAt.keep {w w' : World} {A : Option Addr} {m : Nat} {l : List AttrT} (h : AttrsAt w A m l) (hb : Below w.heap.size w w') : AttrsAt w' A m l :=
  ⟨h.1, h.2.1, fun i x hi => by
    obtain ⟨hI, b, o, e, h1, h2, h3⟩ := h.2.2 i x hi
    exact ⟨hI.keep hb, b, o, e, cell_keep hb h1, cell_keep hb h2, cell_keep hb h3⟩⟩
def allsame (own : AttrP) (ats : List AttrT) : Bool := ats.all fun a => asame own a.p

set_option maxHeartbeats 1000000 in
theorem tsame_any (A A2 : Option Addr) (m c m2 c2 : Nat) (q t : Int) (l : List IdP) (ats : List AttrT) (w : World) (h1 : IdsAt w A m l) (h2 : AttrsAt w A2 m2 ats) :
    Calls Try.prog 11 #[.agg #[.slice A m c, .int .i64 q, .int .i64 t], .slice A2 m2 c2] w (Gives w (.bool (allsame ⟨l, q, t⟩ ats))) := by
  generalize hR : allsame ⟨l, q, t⟩ ats = R
  have HR := Lib.hid hR
  have H1 := Lib.hid h1
  have H2 := Lib.hid h2
  have Hm2 := Lib.hid h2.1
  have hc := h2.2.1
  clear hR h1 h2
  have hmm : m2 ≤ 9223372036854775807 := by unfold maxLen at hc; omega
  go_enter Try.func11, Try.ntmps11
  go_wp2_with fail
  go_loopw [9] (fun s9 wr => ∃ j : Nat, j ≤ m2 ∧ s9 = .int .i64 j ∧ allsame ⟨l, q, t⟩ (ats.take j) = true ∧ Below w.heap.size w wr ∧ Blk wr w.heap.size 24 #[.slice A m c, .int .i64 q, .int .i64 t]) (fun s9 _ => m2 - (intOf s9).toNat)
  case atStart => exact ⟨0, by omega, rfl, rfl, by ((repeat' first | with_reducible exact Below.refl _ _ | with_reducible assumption | with_reducible refine Below.alloc ?_ ?_ _ | with_reducible refine Below.setCell ?_ ?_ _ | with_reducible apply Below.drew | with_reducible apply below_drewN | with_reducible refine below_call ?_ (by with_reducible assumption) ?_) <;> (first | omega | (simp; done) | (simp; omega) | (simp at *; omega))), Blk.new _ _ _⟩
  case round =>
    obtain ⟨j, hj, rfl, htk, hbr, hblk⟩ := hrel
    have hzr := hbr.size
    have hzl := hblk.lt
    have k0 := hblk.cell 0
    have k1 := hblk.cell 1
    have k2 := hblk.cell 2
    simp only [List.getElem?_toArray, List.getElem?_cons_zero, List.getElem?_cons_succ] at k0 k1 k2
    have Htk := Lib.hid htk
    clear htk
    by_cases hlt : j < m2
    · have hjl : j < ats.length := by have := Hm2.out; omega
      obtain ⟨a, ha⟩ : ∃ a, a = ats[j] := ⟨_, rfl⟩
      obtain ⟨hI, b, o, rfl, p0, p1, p2⟩ := (H2.out.keep hbr).2.2 j a (by rw [ha]; exact List.getElem?_eq_getElem hjl)
      have hcall := fun W (hb : Below wr.heap.size wr W) => attrsame_any A a.A m c a.m a.c q t a.q a.t l a.l W ((H1.out.keep hbr).keep hb) (hI.keep hb)
      have hnx : allsame ⟨l, q, t⟩ (ats.take (j + 1)) = asame ⟨l, q, t⟩ a.p := by
        have h := Htk.out
        unfold allsame at *
        rw [List.take_add_one, List.all_append, h, List.getElem?_eq_getElem hjl, ← ha]
        simp
      have Ha := Lib.hid ha
      obtain ⟨s, hs⟩ : ∃ s, s = asame ⟨l, q, t⟩ a.p := ⟨_, rfl⟩
      rw [show asame ⟨l, q, t⟩ ⟨a.l, a.q, a.t⟩ = asame ⟨l, q, t⟩ a.p from rfl, ← hs] at hcall
      rw [← hs] at hnx
      have Hs := Lib.hid hs
      have Hnx := Lib.hid hnx
      have Hcall := Lib.hid hcall
      have j0 : (0 : Int) ≤ (j : Int) := by omega
      have j1 : (j : Int) < (m2 : Int) := by omega
      clear ha hs hnx hcall hI
      cases s
      · have hfin : R = false := by
          rw [← HR.out, ← Bool.not_eq_true]
          intro h
          have h2 := List.all_eq_true.1 h _ (List.getElem_mem hjl)
          rw [← Ha.out, ← Hs.out] at h2
          cases h2
        subst hfin
        go_wp2_with (go_at_call 15; refine (Hcall.out _ (by ((repeat' first | with_reducible exact Below.refl _ _ | with_reducible assumption | with_reducible refine Below.alloc ?_ ?_ _ | with_reducible refine Below.setCell ?_ ?_ _ | with_reducible apply Below.drew | with_reducible apply below_drewN | with_reducible refine below_call ?_ (by with_reducible assumption) ?_) <;> (first | omega | (simp; done) | (simp; omega) | (simp at *; omega))))).mono ?_; rintro e w1 ⟨rfl, hb1⟩; have hz1 := hb1.size; (try simp at hz1))
        go_ret
        exact ⟨rfl, by ((repeat' first | with_reducible exact Below.refl _ _ | with_reducible assumption | with_reducible refine Below.alloc ?_ ?_ _ | with_reducible refine Below.setCell ?_ ?_ _ | with_reducible apply Below.drew | with_reducible apply below_drewN | with_reducible refine below_call ?_ (by with_reducible assumption) ?_) <;> (first | omega | (simp; done) | (simp; omega) | (simp at *; omega)))⟩
      · go_wp2_with (go_at_call 15; refine (Hcall.out _ (by ((repeat' first | with_reducible exact Below.refl _ _ | with_reducible assumption | with_reducible refine Below.alloc ?_ ?_ _ | with_reducible refine Below.setCell ?_ ?_ _ | with_reducible apply Below.drew | with_reducible apply below_drewN | with_reducible refine below_call ?_ (by with_reducible assumption) ?_) <;> (first | omega | (simp; done) | (simp; omega) | (simp at *; omega))))).mono ?_; rintro e w1 ⟨rfl, hb1⟩; have hz1 := hb1.size; (try simp at hz1))
        go_roundw
        case rel => exact ⟨j + 1, by omega, by go_num, Hnx.out, by ((repeat' first | with_reducible exact Below.refl _ _ | with_reducible assumption | with_reducible refine Below.alloc ?_ ?_ _ | with_reducible refine Below.setCell ?_ ?_ _ | with_reducible apply Below.drew | with_reducible apply below_drewN | with_reducible refine below_call ?_ (by with_reducible assumption) ?_) <;> (first | omega | (simp; done) | (simp; omega) | (simp at *; omega))), Blk.keep (by (repeat' first | with_reducible assumption | with_reducible refine Blk.alloc ?_ _ | with_reducible refine Blk.far ?_ (by simp; omega) _)) hb1⟩
        case measure => simp [intOf]; omega
    · have hfin : R = true := by
        rw [← HR.out]
        have h := Htk.out
        rwa [List.take_of_length_le (by have := Hm2.out; omega)] at h
      subst hfin
      go_wp2_with fail
      go_ret
      exact ⟨rfl, by ((repeat' first | with_reducible exact Below.refl _ _ | with_reducible assumption | with_reducible refine Below.alloc ?_ ?_ _ | with_reducible refine Below.setCell ?_ ?_ _ | with_reducible apply Below.drew | with_reducible apply below_drewN | with_reducible refine below_call ?_ (by with_reducible assumption) ?_) <;> (first | omega | (simp; done) | (simp; omega) | (simp at *; omega)))⟩
end Go.Proofs.Ytmgiholmhhjpaaa
