/- tally.joined: what all that are the same are together. -/
import Derived.Test.YtmgiholmhhjpaaaPre
import Derived.Test.YtmgiholmhhjpaaaAttrJoin
import Derived.WalkKit
import Derived.WalkSpells
import Derived.WalkLawsBesides
import Derived.Deep.RegionHeld3
import Derived.Deep.DrawnRows
import Derived.Deep.DeepCutAuto
import Derived.Deep.DeepFit
import Derived.Lib.Hide
import Derived.BigQuiet
import Derived.Deep.QuietTactic
namespace Go.Proofs.Ytmgiholmhhjpaaa
open Go.RowKit
set_option linter.unusedVariables false
set_option linter.unusedSimpArgs false
set_option maxRecDepth 20000
attribute [local go_sem ↓] Go.wp_at_zero Go.wp_at_succ
attribute [local go_sem] World.cell?_alloc_some frozen_alloc_some

set_option maxHeartbeats 2000000 in
theorem attrjoin_self0 (A A2 : Option Addr) (m c m2 c2 : Nat) (q t q2 t2 : Int) (l : List IdP) (w : World) (h1 : IdsAt w A m l) (h2 : IdsAt w A2 m2 l) (hok : acheck ⟨l, q, t⟩ = 0) (hok2 : acheck ⟨l, q2, t2⟩ = 0) (hq : q2 = q) (ht : t2 = t) :
    Calls Try.prog 16 #[.agg #[.slice A m c, .int .i64 q, .int .i64 t], .agg #[.slice A2 m2 c2, .int .i64 q2, .int .i64 t2]] w
      fun e w' => ∃ A' c', e = .returned (.tuple #[.agg #[.slice A' m c', .int .i64 (max q q2), .int .i64 t], .int .i64 0]) ∧ IdsAt w' A' m l ∧ Fresh w.heap.size A' ∧ Below w.heap.size w w' := by
  have hk1 := fun W (hb : Below w.heap.size w W) => attrcheck_any A m c q t l W (h1.keep hb)
  have hk2 := fun W (hb : Below w.heap.size w W) => attrcheck_any A2 m2 c2 q2 t2 l W (h2.keep hb)
  have hl1 := h1.1
  have hl2 := h2.1
  have hid := idsOk_iff.1 (acheck_iff.1 hok).2
  have hlen : l.length ≤ 4096 := hid.2.2
  have hset : idSet (l ++ l) = l := by
    rw [idSet_congr (m := l) (fun x => by simp), idSet_self hid.2.1]
  have hj := fun W (hb : Below w.heap.size w W) => join_any A A2 m c m2 c2 l l W (h1.keep hb) (h2.keep hb) (by omega)
  rw [hset, ← hl1] at hj
  rw [hok] at hk1
  rw [hok2] at hk2
  have z4' : ¬ (4096 : Int) < (m : Int) := by omega
  have z3' : (t != t2) = false := by simp [ht]
  have hmm : True := trivial
  have Hk1 := Lib.hid hk1
  have Hk2 := Lib.hid hk2
  have Hj := Lib.hid hj
  clear hl2 hk1 hk2 hj h1 h2 hid hset hl1 hok hok2 hlen hq ht
  go_enter Try.func16, Try.ntmps16
  go_wp2_with (first | (go_at_call 4; (with_reducible refine (Hk1.out _ (by ((repeat' first | with_reducible exact Below.refl _ _ | with_reducible assumption | with_reducible refine Below.alloc ?_ ?_ _ | with_reducible refine Below.setCell ?_ ?_ _ | with_reducible apply Below.drew | with_reducible apply below_drewN | with_reducible refine below_call ?_ (by with_reducible assumption) ?_) <;> (first | omega | (simp; done) | (simp; omega) | (simp at *; omega))))).mono ?_); rintro e w1 ⟨rfl, hbx⟩; have hz1 := hbx.size; (try simp at hz1); (first | (have B0 := Blk.keep B0 hbx; have B1 := Blk.keep B1 hbx; have B2 := Blk.keep B2 hbx) | (have B0 : Blk w1 (w.heap.size) 24 #[.slice A m c, .int .i64 q, .int .i64 t] := (by (have h := Blk.keep (((Blk.new w _ _).alloc _).alloc _) hbx; first | exact h | (simpa only [World.size_alloc] using h))); have B0c := B0.cell; have B0f := B0.frozen; have B1 : Blk w1 (w.heap.size + 1) 24 #[.slice A2 m2 c2, .int .i64 q2, .int .i64 t2] := (by (have h := Blk.keep ((Blk.new (w.alloc _) _ _).alloc _) hbx; first | exact h | (simpa only [World.size_alloc] using h))); have B1c := B1.cell; have B1f := B1.frozen; have B2 : Blk w1 (w.heap.size + 1 + 1) 24 #[.slice none 0 0, .int .i64 0, .int .i64 0] := (by (have h := Blk.keep (Blk.new ((w.alloc _).alloc _) _ _) hbx; first | exact h | (simpa only [World.size_alloc] using h))); have B2c := B2.cell; have B2f := B2.frozen)); have B0c := B0.cell; have B1c := B1.cell; have B2c := B2.cell; have B2f := B2.frozen) | (go_at_call 4; (with_reducible refine (Hk2.out _ (by ((repeat' first | with_reducible exact Below.refl _ _ | with_reducible assumption | with_reducible refine Below.alloc ?_ ?_ _ | with_reducible refine Below.setCell ?_ ?_ _ | with_reducible apply Below.drew | with_reducible apply below_drewN | with_reducible refine below_call ?_ (by with_reducible assumption) ?_) <;> (first | omega | (simp; done) | (simp; omega) | (simp at *; omega))))).mono ?_); rintro e w1 ⟨rfl, hbx⟩; have hz1 := hbx.size; (try simp at hz1); (first | (have B0 := Blk.keep B0 hbx; have B1 := Blk.keep B1 hbx; have B2 := Blk.keep B2 hbx) | (have B0 : Blk w1 (w.heap.size) 24 #[.slice A m c, .int .i64 q, .int .i64 t] := (by (have h := Blk.keep (((Blk.new w _ _).alloc _).alloc _) hbx; first | exact h | (simpa only [World.size_alloc] using h))); have B0c := B0.cell; have B0f := B0.frozen; have B1 : Blk w1 (w.heap.size + 1) 24 #[.slice A2 m2 c2, .int .i64 q2, .int .i64 t2] := (by (have h := Blk.keep ((Blk.new (w.alloc _) _ _).alloc _) hbx; first | exact h | (simpa only [World.size_alloc] using h))); have B1c := B1.cell; have B1f := B1.frozen; have B2 : Blk w1 (w.heap.size + 1 + 1) 24 #[.slice none 0 0, .int .i64 0, .int .i64 0] := (by (have h := Blk.keep (Blk.new ((w.alloc _).alloc _) _ _) hbx; first | exact h | (simpa only [World.size_alloc] using h))); have B2c := B2.cell; have B2f := B2.frozen)); have B0c := B0.cell; have B1c := B1.cell; have B2c := B2.cell; have B2f := B2.frozen) | (go_at_call 19; (with_reducible refine (Hj.out _ (by ((repeat' first | with_reducible exact Below.refl _ _ | with_reducible assumption | with_reducible refine Below.alloc ?_ ?_ _ | with_reducible refine Below.setCell ?_ ?_ _ | with_reducible apply Below.drew | with_reducible apply below_drewN | with_reducible refine below_call ?_ (by with_reducible assumption) ?_) <;> (first | omega | (simp; done) | (simp; omega) | (simp at *; omega))))).mono ?_); rintro e w1 ⟨A3, c3, rfl, hkc, hI, hF, hbx⟩; have I3 := Lib.hid hI; have F3 := Lib.hid hF; clear hI hF; have hz1 := hbx.size; (try simp at hz1); (first | (have B0 := Blk.keep B0 hbx; have B1 := Blk.keep B1 hbx; have B2 := Blk.keep B2 hbx) | (have B0 : Blk w1 (w.heap.size) 24 #[.slice A m c, .int .i64 q, .int .i64 t] := (by (have h := Blk.keep (((Blk.new w _ _).alloc _).alloc _) hbx; first | exact h | (simpa only [World.size_alloc] using h))); have B0c := B0.cell; have B0f := B0.frozen; have B1 : Blk w1 (w.heap.size + 1) 24 #[.slice A2 m2 c2, .int .i64 q2, .int .i64 t2] := (by (have h := Blk.keep ((Blk.new (w.alloc _) _ _).alloc _) hbx; first | exact h | (simpa only [World.size_alloc] using h))); have B1c := B1.cell; have B1f := B1.frozen; have B2 : Blk w1 (w.heap.size + 1 + 1) 24 #[.slice none 0 0, .int .i64 0, .int .i64 0] := (by (have h := Blk.keep (Blk.new ((w.alloc _).alloc _) _ _) hbx; first | exact h | (simpa only [World.size_alloc] using h))); have B2c := B2.cell; have B2f := B2.frozen)); have B0c := B0.cell; have B1c := B1.cell; have B2c := B2.cell; have B2f := B2.frozen))
  refine bodyPost_ret (v := .tuple #[.agg #[.slice A3 m c3, .int .i64 (max q q2), .int .i64 t], .int .i64 0]) (by simp [results, Try.results16, go_sem, *]; try rfl) rfl ?_
  refine ⟨A3, c3, rfl, ?_, ?_, by ((repeat' first | with_reducible exact Below.refl _ _ | with_reducible assumption | with_reducible refine Below.alloc ?_ ?_ _ | with_reducible refine Below.setCell ?_ ?_ _ | with_reducible apply Below.drew | with_reducible apply below_drewN | with_reducible refine below_call ?_ (by with_reducible assumption) ?_) <;> (first | omega | (simp; done) | (simp; omega) | (simp at *; omega)))⟩
  · exact ((I3.out.far F3.out (p := ⟨w.heap.size + 1 + 1, 0, none⟩) (by simp only; omega) _).far F3.out (p := ⟨w.heap.size + 1 + 1, 1, none⟩) (by simp only; omega) _).far F3.out (p := ⟨w.heap.size + 1 + 1, 2, none⟩) (by simp only; omega) _
  · exact fun ad e => ⟨(F3.out ad e).1, by have := (F3.out ad e).2; omega⟩
theorem attrjoin_self (A A2 : Option Addr) (m c c2 : Nat) (q t : Int) (l : List IdP) (w : World) (h1 : IdsAt w A m l) (h2 : IdsAt w A2 m l) (hok : acheck ⟨l, q, t⟩ = 0) :
    Calls Try.prog 16 #[.agg #[.slice A m c, .int .i64 q, .int .i64 t], .agg #[.slice A2 m c2, .int .i64 q, .int .i64 t]] w
      fun e w' => ∃ A' c', e = .returned (.tuple #[.agg #[.slice A' m c', .int .i64 q, .int .i64 t], .int .i64 0]) ∧ IdsAt w' A' m l ∧ Fresh w.heap.size A' ∧ Below w.heap.size w w' := by
  have h := attrjoin_self0 A A2 m c m c2 q t q t l w h1 h2 hok hok rfl rfl
  rw [Int.max_self] at h
  exact h

set_option maxHeartbeats 4000000 in
theorem joined_any (A A2 : Option Addr) (m c m2 c2 : Nat) (q t : Int) (l : List IdP) (ats : List AttrT) (w : World) (h1 : IdsAt w A m l) (h2 : AttrsAt w A2 m2 ats) (hok : acheck ⟨l, q, t⟩ = 0)
    (hs : ∀ (i : Nat) (a : AttrT), ats[i]? = some a → a.p = ⟨l, q, t⟩) (hm2 : m2 ≤ 1000000) :
    Calls Try.prog 12 #[.agg #[.slice A m c, .int .i64 q, .int .i64 t], .slice A2 m2 c2] w
      (fun e w' => ∃ A' c', e = .returned (.tuple #[.agg #[.slice A' m c', .int .i64 q, .int .i64 t], .bool true]) ∧ Below w.heap.size w w') := by
  have hj0 := fun W (hb : Below w.heap.size w W) => attrjoin_self A A m c c q t l W (h1.keep hb) (h1.keep hb) hok
  have hjr := fun A' c' A2 c2 W (hI : IdsAt W A' m l) (hJ : IdsAt W A2 m l) => attrjoin_self A' A2 m c' c2 q t l W hI hJ hok
  have Hj0 := Lib.hid hj0
  have Hjr := Lib.hid hjr
  have H2 := Lib.hid h2
  have Hm2 := Lib.hid h2.1
  have Hs := Lib.hid hs
  have hl1 := h1.1
  have Hl1 := Lib.hid hl1
  clear hj0 hjr h1 h2 hs hok hl1
  go_enter Try.func12, Try.ntmps12
  go_wp2_with (go_at_call 16; (with_reducible refine (Hj0.out _ (by ((repeat' first | with_reducible exact Below.refl _ _ | with_reducible assumption | with_reducible refine Below.alloc ?_ ?_ _ | with_reducible refine Below.setCell ?_ ?_ _ | with_reducible apply Below.drew | with_reducible apply below_drewN | with_reducible refine below_call ?_ (by with_reducible assumption) ?_) <;> (first | omega | (simp; done) | (simp; omega) | (simp at *; omega))))).mono ?_); rintro e w1 ⟨A3, c3, rfl, hI, hF, hb1⟩; have I3 := Lib.hid hI; have F3 := Lib.hid hF; have hz1 := hb1.size; (try simp at hz1); have R1 : Blk w1 (w.heap.size + 1) 24 #[.slice none 0 0, .int .i64 0, .int .i64 0] := Blk.keep (Blk.newAt (by simp)) hb1; have k1 : Below w.heap.size w w1 := (by ((repeat' first | with_reducible exact Below.refl _ _ | with_reducible assumption | with_reducible refine Below.alloc ?_ ?_ _ | with_reducible refine Below.setCell ?_ ?_ _ | with_reducible apply Below.drew | with_reducible apply below_drewN | with_reducible refine below_call ?_ (by with_reducible assumption) ?_) <;> (first | omega | (simp; done) | (simp; omega) | (simp at *; omega)))); clear hI hF hb1)
  have hg : w.heap.size + 2 ≤ w1.heap.size := by omega
  have G1 : Blk (w1.alloc (.cells #[.slice A3 m c3, .int .i64 q, .int .i64 t] 24)) w1.heap.size 24 #[.slice A3 m c3, .int .i64 q, .int .i64 t] := Blk.new _ _ _
  have R2 := R1.alloc (.cells #[.slice A3 m c3, .int .i64 q, .int .i64 t] 24)
  have I4 := I3.out.keep (below_one (.cells #[.slice A3 m c3, .int .i64 q, .int .i64 t] 24))
  have k4 : Below w.heap.size w (w1.alloc (.cells #[.slice A3 m c3, .int .i64 q, .int .i64 t] 24)) := by ((repeat' first | with_reducible exact Below.refl _ _ | with_reducible assumption | with_reducible refine Below.alloc ?_ ?_ _ | with_reducible refine Below.setCell ?_ ?_ _ | with_reducible apply Below.drew | with_reducible apply below_drewN | with_reducible refine below_call ?_ (by with_reducible assumption) ?_) <;> (first | omega | (simp; done) | (simp; omega) | (simp at *; omega)))
  clear I3 F3 R1 k1 Hj0
  revert G1 R2 I4 k4
  generalize w1.heap.size = g at hg
  generalize w1.alloc _ = w2
  intro G1 R2 I4 k4
  have gl := G1.lt
  go_loopw [7, 18] (fun s7 s18 wr => ∃ (j : Nat) (A' : Option Addr) (c' : Nat), j ≤ m2 ∧ s7 = .int .i64 0 ∧ s18 = .int .i64 j ∧ Below w.heap.size w wr ∧ Blk wr g 24 #[.slice A' m c', .int .i64 q, .int .i64 t] ∧ Blk wr (w.heap.size + 1) 24 #[.slice none 0 0, .int .i64 0, .int .i64 0] ∧ IdsAt wr A' m l) (fun _ s18 _ => m2 - (intOf s18).toNat)
  case atStart => exact ⟨0, A3, c3, by omega, rfl, rfl, k4, G1, R2, I4⟩
  case round =>
    obtain ⟨j, A', c', hj, rfl, rfl, hbr, hG, hR, hI⟩ := hrel
    have hzr := hbr.size
    have hgl := hG.lt
    have Gc := hG.cell
    have Gf := hG.frozen
    have Rc := hR.cell
    have Rf := hR.frozen
    by_cases hlt : j < m2
    · have hjl : j < ats.length := by have := Hm2.out; omega
      obtain ⟨hIa, b, o, rfl, p0, p1, p2⟩ := (H2.out.keep hbr).2.2 j _ (List.getElem?_eq_getElem hjl)
      have hp := Hs.out j _ (List.getElem?_eq_getElem hjl)
      generalize ats[j] = a at hIa p0 p1 p2 hp
      obtain ⟨aA, am, ac, aq, aT, al⟩ := a
      simp only [AttrT.p, AttrP.mk.injEq] at hp
      obtain ⟨rfl, rfl, rfl⟩ := hp
      obtain rfl : am = m := by have h1 := hIa.1; have h2 := Hl1.out; simp only at h1; omega
      simp only at hIa p0 p1 p2
      have Hi := Lib.hid hI
      have Ha := Lib.hid hIa
      have j0 : (0 : Int) ≤ (j : Int) := by omega
      have j1 : (j : Int) < (m2 : Int) := by omega
      clear hI hIa
      go_wp2_with (go_at_call 16; (with_reducible refine (Hjr.out A' c' aA ac _ (Hi.out.keep (below_one _)) (Ha.out.keep (below_one _))).mono ?_); rintro e w1 ⟨A3, c3, rfl, hI, hF, hb1⟩; have I3 := Lib.hid hI; have F3 := Lib.hid hF; have hz1 := hb1.size; (try simp only [World.size_alloc] at hz1); have R1 := (hR.alloc (.cells #[.slice aA am ac, .int .i64 aq, .int .i64 aT] 24)).keep hb1; have G2 := (hG.alloc (.cells #[.slice aA am ac, .int .i64 aq, .int .i64 aT] 24)).keep hb1; have k1 : Below w.heap.size w w1 := (by ((repeat' first | with_reducible exact Below.refl _ _ | with_reducible assumption | with_reducible refine Below.alloc ?_ ?_ _ | with_reducible refine Below.setCell ?_ ?_ _ | with_reducible apply Below.drew | with_reducible apply below_drewN | with_reducible refine below_call ?_ (by with_reducible assumption) ?_) <;> (first | omega | (simp; done) | (simp; omega) | (simp at *; omega)))); have G2c := G2.cell; have G2f := G2.frozen; clear hI hF hb1)
      have G5 : Blk (((w1.setCell ⟨g, 0, none⟩ (.slice A3 am c3)).setCell ⟨g, 1, none⟩ (.int .i64 aq)).setCell ⟨g, 2, none⟩ (.int .i64 aT)) g 24 #[.slice A3 am c3, .int .i64 aq, .int .i64 aT] := by
        have := ((G2.set_ 0 (.slice A3 am c3)).set_ 1 (.int .i64 aq)).set_ 2 (.int .i64 aT)
        simpa using this
      have R5 := ((R1.far (p := ⟨g, 0, none⟩) (by simp only; omega) (.slice A3 am c3)).far (p := ⟨g, 1, none⟩) (by simp only; omega) (.int .i64 aq)).far (p := ⟨g, 2, none⟩) (by simp only; omega) (.int .i64 aT)
      have I5 := ((I3.out.far F3.out (p := ⟨g, 0, none⟩) (by simp only [World.size_alloc]; omega) (.slice A3 am c3)).far F3.out (p := ⟨g, 1, none⟩) (by simp only [World.size_alloc]; omega) (.int .i64 aq)).far F3.out (p := ⟨g, 2, none⟩) (by simp only [World.size_alloc]; omega) (.int .i64 aT)
      have k5 : Below w.heap.size w (((w1.setCell ⟨g, 0, none⟩ (.slice A3 am c3)).setCell ⟨g, 1, none⟩ (.int .i64 aq)).setCell ⟨g, 2, none⟩ (.int .i64 aT)) := ((k1.setCell (p := ⟨g, 0, none⟩) (by simp only; omega) _).setCell (p := ⟨g, 1, none⟩) (by simp only; omega) _).setCell (p := ⟨g, 2, none⟩) (by simp only; omega) _
      go_roundw
      case rel => exact ⟨j + 1, A3, c3, by omega, rfl, by go_num, k5, G5, R5, I5⟩
      case measure => simp [intOf]; omega
    · obtain rfl : j = m2 := by omega
      clear hI
      go_wp2_with fail
      refine bodyPost_ret (v := .tuple #[.agg #[.slice A' m c', .int .i64 q, .int .i64 t], .bool true]) (by simp [results, Try.results12, go_sem, *] <;> rfl) rfl ?_
      exact ⟨A', c', rfl, by ((repeat' first | with_reducible exact Below.refl _ _ | with_reducible assumption | with_reducible refine Below.alloc ?_ ?_ _ | with_reducible refine Below.setCell ?_ ?_ _ | with_reducible apply Below.drew | with_reducible apply below_drewN | with_reducible refine below_call ?_ (by with_reducible assumption) ?_) <;> (first | omega | (simp; done) | (simp; omega) | (simp at *; omega)))⟩
end Go.Proofs.Ytmgiholmhhjpaaa
