/- slices.IndexFunc, slices.DeleteFunc at ids, ids.Without. -/
import Derived.Test.YtmlhlananooclaaDoorIdSet2
import Derived.Test.YtmlhlananooclaaDoorIdDel
import Derived.WalkKit
import Derived.WalkSpells
import Derived.WalkLawsBesides
import Derived.Deep.RegionHeld3
import Derived.Deep.DrawnRows
import Derived.Deep.DeepCutAuto
import Derived.Deep.DeepFit
import Derived.Lib.Hide
import Derived.BigQuiet
import Derived.Deep.QuietTactic
namespace Go.Proofs.YtmlhlananooclaaDoor
open Go.RowKit
set_option linter.unusedVariables false
set_option linter.unusedSimpArgs false
set_option maxRecDepth 20000
attribute [local go_sem ↓] Go.wp_at_zero Go.wp_at_succ
attribute [local go_sem] World.cell?_alloc_some frozen_alloc_some
open Go.Sort Go.Lib

def cloV (ib : Nat) : Value := .func (.func 33) #[] #[.pointer (some ⟨ib, 0, none⟩)]
section
attribute [local go_sem ↓ high] id_neq_run id_eql_run
theorem clo_any (ib : Nat) (x1 x2 y1 y2 : Int) (w : World) (h0 : w.cell? ⟨ib, 0, none⟩ = some (.int .i64 x1)) (h1 : w.cell? ⟨ib, 1, none⟩ = some (.int .i64 x2)) :
    Calls Tryd.prog 33 #[.agg #[.int .i64 y1, .int .i64 y2], .pointer (some ⟨ib, 0, none⟩)] w (Gives w (.bool (y1 == x1 && y2 == x2))) := by
  have h0' := cell_alloc (o := .cells #[.int .i64 y1, .int .i64 y2] 24) h0
  have h1' := cell_alloc (o := .cells #[.int .i64 y1, .int .i64 y2] 24) h1
  generalize hR : (y1 == x1 && y2 == x2) = R
  go_enter Tryd.func33, Tryd.ntmps33
  go_wp2_with fail
  go_ret
  exact ⟨by simp_all, by ((repeat' first | with_reducible exact Below.refl _ _ | with_reducible assumption | with_reducible refine Below.alloc ?_ ?_ _ | with_reducible refine Below.setCell ?_ ?_ _ | with_reducible apply Below.drew | with_reducible apply below_drewN | with_reducible refine below_call ?_ (by with_reducible assumption) ?_) <;> (first | omega | (simp; done) | (simp; omega) | (simp at *; omega)))⟩
end
set_option maxHeartbeats 2000000 in
theorem indexfunc_any (ib : Nat) (A : Option Addr) (m c : Nat) (l : List IdP) (x1 x2 : Int) (w : World) (h1 : IdsAt w A m l) (c0 : w.cell? ⟨ib, 0, none⟩ = some (.int .i64 x1)) (c1 : w.cell? ⟨ib, 1, none⟩ = some (.int .i64 x2)) :
    Calls Tryd.prog 42 #[.slice A m c, cloV ib] w
      (fun e w' => ((∃ i : Nat, l[i]? = some (x1, x2) ∧ (x1, x2) ∉ l.take i ∧ e = .returned (.int .i64 i)) ∨ ((x1, x2) ∉ l ∧ e = .returned (.int .i64 (-1)))) ∧ Below w.heap.size w w') := by
  have H1 := Lib.hid h1
  have Hm := Lib.hid h1.1
  have hmm : m ≤ 9223372036854775807 := by have := h1.2.1; unfold maxLen at this; omega
  have hclo := fun r n W (hb : Below w.heap.size w W) => clo_any ib x1 x2 r n W (cell_keep hb c0) (cell_keep hb c1)
  have Hclo := Lib.hid hclo
  clear h1 hclo
  unfold cloV
  go_enter Tryd.func42, Tryd.ntmps42
  go_wp2_with fail
  go_loopw [8] (fun s8 wr => ∃ j : Nat, j ≤ m ∧ s8 = .int .i64 j ∧ (x1, x2) ∉ l.take j ∧ Below w.heap.size w wr) (fun s8 _ => m - (intOf s8).toNat)
  case atStart => exact ⟨0, by omega, rfl, by simp, Below.refl _ _⟩
  case round =>
    obtain ⟨j, hj, rfl, htk, hbr⟩ := hrel
    have hzr := hbr.size
    have Htk := Lib.hid htk
    clear htk
    by_cases hlt : j < m
    · obtain ⟨r, n, b, o, e1, _, _, rfl, p0, p1⟩ := (H1.out.keep hbr).at_ hlt
      have E1 := Lib.hid e1
      clear e1
      have j0 : (0 : Int) ≤ (j : Int) := by omega
      have j1 : (j : Int) < (m : Int) := by omega
      have hc := fun W (hb : Below w.heap.size w W) => Hclo.out r n W hb
      by_cases hok : r = x1 ∧ n = x2
      · rw [show (r == x1 && n == x2) = true by simp [hok]] at hc
        have Hfin := Lib.hid (show l[j]? = some (x1, x2) from by rw [E1.out, hok.1, hok.2])
        clear hok
        go_wp2_with fail
        refine (hc _ (by ((repeat' first | with_reducible exact Below.refl _ _ | with_reducible assumption | with_reducible refine Below.alloc ?_ ?_ _ | with_reducible refine Below.setCell ?_ ?_ _ | with_reducible apply Below.drew | with_reducible apply below_drewN | with_reducible refine below_call ?_ (by with_reducible assumption) ?_) <;> (first | omega | (simp; done) | (simp; omega) | (simp at *; omega))))).mono ?_
        rintro e w1 ⟨rfl, hb1⟩
        go_wp2_with fail
        go_ret
        exact ⟨.inl ⟨j, Hfin.out, Htk.out, rfl⟩, by ((repeat' first | with_reducible exact Below.refl _ _ | with_reducible assumption | with_reducible refine Below.alloc ?_ ?_ _ | with_reducible refine Below.setCell ?_ ?_ _ | with_reducible apply Below.drew | with_reducible apply below_drewN | with_reducible refine below_call ?_ (by with_reducible assumption) ?_) <;> (first | omega | (simp; done) | (simp; omega) | (simp at *; omega)))⟩
      · rw [show (r == x1 && n == x2) = false by simpa using hok] at hc
        have Hnx := Lib.hid (show (x1, x2) ∉ l.take (j + 1) from by
          rw [List.take_add_one, E1.out]
          intro h
          rcases List.mem_append.1 h with h | h
          · exact Htk.out h
          · simp at h; exact hok ⟨h.1.symm, h.2.symm⟩)
        clear hok
        go_wp2_with fail
        refine (hc _ (by ((repeat' first | with_reducible exact Below.refl _ _ | with_reducible assumption | with_reducible refine Below.alloc ?_ ?_ _ | with_reducible refine Below.setCell ?_ ?_ _ | with_reducible apply Below.drew | with_reducible apply below_drewN | with_reducible refine below_call ?_ (by with_reducible assumption) ?_) <;> (first | omega | (simp; done) | (simp; omega) | (simp at *; omega))))).mono ?_
        rintro e w1 ⟨rfl, hb1⟩
        have hb2 : Below w.heap.size w w1 := by ((repeat' first | with_reducible exact Below.refl _ _ | with_reducible assumption | with_reducible refine Below.alloc ?_ ?_ _ | with_reducible refine Below.setCell ?_ ?_ _ | with_reducible apply Below.drew | with_reducible apply below_drewN | with_reducible refine below_call ?_ (by with_reducible assumption) ?_) <;> (first | omega | (simp; done) | (simp; omega) | (simp at *; omega)))
        go_wp2_with fail
        go_roundw
        case rel => exact ⟨j + 1, by omega, by go_num, Hnx.out, hb2⟩
        case measure => simp [intOf]; omega
    · have nj : ¬ (j : Int) < (m : Int) := by omega
      have Hfin := Lib.hid (show (x1, x2) ∉ l from by
        have h := Htk.out
        rwa [List.take_of_length_le (by have := Hm.out; omega)] at h)
      go_wp2_with fail
      go_ret
      exact ⟨.inr ⟨Hfin.out, rfl⟩, by ((repeat' first | with_reducible exact Below.refl _ _ | with_reducible assumption | with_reducible refine Below.alloc ?_ ?_ _ | with_reducible refine Below.setCell ?_ ?_ _ | with_reducible apply Below.drew | with_reducible apply below_drewN | with_reducible refine below_call ?_ (by with_reducible assumption) ?_) <;> (first | omega | (simp; done) | (simp; omega) | (simp at *; omega)))⟩

set_option maxHeartbeats 8000000 in
theorem deletefunc_any (ib g cap n : Nat) (l : List IdP) (x1 x2 : Int) (w : World) (hr : RowAt w g l) (hl : l.length = n) (hn : n ≤ 1000000) (hg : g < w.heap.size) (hcap : n ≤ cap) (hcm : cap ≤ maxLen) (hwf : ∀ x ∈ l, (Lit.int .i64 x.1).wf = true ∧ (Lit.int .i64 x.2).wf = true)
    (hib : ib < g) (c0 : w.cell? ⟨ib, 0, none⟩ = some (.int .i64 x1)) (c1 : w.cell? ⟨ib, 1, none⟩ = some (.int .i64 x2)) :
    Calls Tryd.prog 32 #[.slice (some ⟨g, 0, none⟩) n cap, cloV ib] w
      (fun e w' => ∃ k, e = .returned (.slice (some ⟨g, 0, none⟩) k cap) ∧ IdsAt w' (some ⟨g, 0, none⟩) k (fl (x1, x2) l) ∧ ∀ B, B ≤ g → Below B w w') := by
  have hix := fun W (hb : Below w.heap.size w W) => indexfunc_any ib (some ⟨g, 0, none⟩) n cap l x1 x2 W ((hr.ids (m := n) hl (by unfold maxLen; omega) (fun _ _ h => h) hwf).keep hb) (cell_keep hb c0) (cell_keep hb c1)
  have hclo := fun r n W (hb : Below g w W) => clo_any ib x1 x2 r n W ((hb.cell (p := ⟨ib, 0, none⟩) hib).trans c0) ((hb.cell (p := ⟨ib, 1, none⟩) hib).trans c1)
  have Hix := Lib.hid hix
  have Hclo := Lib.hid hclo
  have Hr := Lib.hid hr
  have Hl := Lib.hid hl
  have Hwf := Lib.hid hwf
  have hc63 : cap ≤ 9223372036854775807 := by unfold maxLen at hcm; omega
  clear hix hclo hr hl hwf c0 c1
  unfold cloV at Hix ⊢
  go_enter Tryd.func32, Tryd.ntmps32
  go_wp2_with fail
  refine (Hix.out _ (Below.refl _ _)).mono ?_
  rintro e w1 ⟨he, hb1⟩
  have hz1 := hb1.size
  have R1 := Lib.hid (Hr.out.keep hb1)
  rcases he with ⟨i, hi, hni, rfl⟩ | ⟨hnot, rfl⟩
  · have hil : i < l.length := (List.getElem?_eq_some_iff.1 hi).1
    have hin : i < n := by rw [← Hl.out]; exact hil
    have D0 := Lib.hid (DelInv.start hi hni)
    have ine : ((i : Int) == -1) = false := by simp
    have iw : IntKind.i64.wrap ((i : Int) + 1) = (i : Int) + 1 := IntWalk.i64_in _ (by omega)
    clear hi hni
    go_wp2_with fail
    go_loopw [5, 6] (fun s5 s6 wq => ∃ (kk j : Nat) (R : List IdP), s5 = .int .i64 kk ∧ s6 = .int .i64 j ∧ j ≤ n ∧ DelInv l R (x1, x2) j kk ∧ RowAt wq g R ∧ g < wq.heap.size ∧ ∀ B, B ≤ g → Below B w wq) (fun s5 s6 _ => n - (intOf s6).toNat)
    case atStart => exact ⟨i, i + 1, l, rfl, by go_num, by omega, D0.out, R1.out, by omega, fun B hB => hb1.mono (by omega)⟩
    case round =>
      obtain ⟨kk, j, R, rfl, rfl, hjn, hD, hrow, hgq, hbq⟩ := hrel
      have hkj := hD.lt
      have hRl := hD.len
      have DD := Lib.hid hD
      have Rq := Lib.hid hrow
      have Bq := Lib.hid hbq
      have kk0 : (0 : Int) ≤ (kk : Int) := by omega
      have kk1 : (kk : Int) < (n : Int) := by omega
      have hkl : kk < R.length := by rw [hRl, Hl.out]; omega
      obtain ⟨f0, f1, f2, f3⟩ := hrow kk R[kk] (List.getElem?_eq_getElem hkl)
      clear hrow hbq
      by_cases hlt : j < n
      · obtain ⟨y1, y2, hy⟩ : ∃ y1 y2, l[j]? = some (y1, y2) := ⟨_, _, List.getElem?_eq_getElem (by rw [Hl.out]; exact hlt)⟩
        obtain ⟨p0, p1, _, _⟩ := Rq.out j (y1, y2) (by rw [DD.out.high j (Nat.le_refl _)]; exact hy)
        simp only at p0 p1
        have j0 : (0 : Int) ≤ (j : Int) := by omega
        have j1 : (j : Int) < (n : Int) := by omega
        have Y := Lib.hid hy
        have hc := fun W (hb : Below g w W) => Hclo.out y1 y2 W hb
        clear hy hD
        by_cases hok : y1 = x1 ∧ y2 = x2
        · rw [show (y1 == x1 && y2 == x2) = true by simp [hok]] at hc
          have Dn := Lib.hid (DD.out.skip (by rw [Y.out, hok.1, hok.2]))
          clear hok
          go_wp2_with fail
          refine (hc _ (by exact (Bq.out g (Nat.le_refl _)).alloc (by omega) _)).mono ?_
          rintro e w3 ⟨rfl, hb3⟩
          have hz3 := hb3.size
          simp at hz3
          go_wp2_with fail
          go_roundw
          case rel => exact ⟨kk, j + 1, R, rfl, by go_num, by omega, Dn.out, (RowAt.keep (fun i x hi => by obtain ⟨a1, a2, a3, a4⟩ := Rq.out i x hi; exact ⟨cell_alloc a1, cell_alloc a2, frozen_alloc a1 a3, frozen_alloc a2 a4⟩) hb3), by omega, fun B hB => ((Bq.out B hB).alloc (by omega) _).trans (hb3.mono (by simp; omega))⟩
          case measure => simp [intOf]; omega
        · rw [show (y1 == x1 && y2 == x2) = false by simpa using hok] at hc
          have Dn := Lib.hid (DD.out.keep Y.out (fun e => by injection e with e1 e2; exact hok ⟨e1, e2⟩))
          clear hok
          go_wp2_with fail
          refine (hc _ (by exact (Bq.out g (Nat.le_refl _)).alloc (by omega) _)).mono ?_
          rintro e w3 ⟨rfl, hb3⟩
          have hz3 := hb3.size
          simp at hz3
          have R3 := Lib.hid (RowAt.keep (fun i x hi => by obtain ⟨a1, a2, a3, a4⟩ := Rq.out i x hi; exact ⟨cell_alloc a1, cell_alloc a2, frozen_alloc a1 a3, frozen_alloc a2 a4⟩) hb3 : RowAt w3 g R)
          obtain ⟨g0, g1, g2, g3⟩ := R3.out kk R[kk] (List.getElem?_eq_getElem hkl)
          obtain ⟨v0, _⟩ := new_keep hb3 0 rfl
          obtain ⟨v1, _⟩ := new_keep hb3 1 rfl
          go_wp2_with fail
          go_roundw
          case rel =>
            refine ⟨kk + 1, j + 1, R.set kk (y1, y2), by go_num, by go_num, by omega, Dn.out, R3.out.set hkl (y1, y2), by simp; omega, fun B hB => ?_⟩
            exact ((((Bq.out B hB).alloc (by omega) _).trans (hb3.mono (by simp; omega))).setCell (p := ⟨g, kk * 2, none⟩) hB _).setCell (p := ⟨g, kk * 2 + 1, none⟩) hB _
          case measure => simp [intOf]; omega
      · have hjn2 : j = n := by omega
        have hend : j = l.length := by rw [hjn2, Hl.out]
        have hrows : ∀ p, p < (n - kk) * 2 → (wr.cell? ⟨g, kk * 2 + p, none⟩).isSome = true ∧ wr.frozen? ⟨g, kk * 2 + p, none⟩ = false := fun p hp => by
          have hpl : kk + p / 2 < R.length := by rw [hRl, Hl.out]; omega
          obtain ⟨m1, m2, m3, m4⟩ := Rq.out (kk + p / 2) R[kk + p / 2] (List.getElem?_eq_getElem hpl)
          rcases Nat.mod_two_eq_zero_or_one p with e | e
          · rw [show (kk + p / 2) * 2 = kk * 2 + p by omega] at m1 m3
            exact ⟨by rw [m1]; rfl, m3⟩
          · rw [show (kk + p / 2) * 2 + 1 = kk * 2 + p by omega] at m2 m4
            exact ⟨by rw [m2]; rfl, m4⟩
        have hcl : ∀ ty, (Builtin.clear_ #[22] ty #[.slice (some ⟨g, kk * 2, none⟩) (n - kk) (cap - kk)]).run Tryd.prog wr = .ok (.tuple #[]) (wr.setCells g (kk * 2) (List.replicate ((n - kk) * 2) (.int .i64 0))) :=
          fun ty => run_clear_ids wr ty g (kk * 2) (n - kk) (cap - kk) (by omega) (fun j hj => (hrows j hj).1) (fun j hj => (hrows j hj).2)
        have nj : ¬ (j : Int) < (n : Int) := by omega
        have kc : ¬ cap = kk := by omega
        have kc2 : (kk : Int) ≤ (cap : Int) := by omega
        have kc3 : (kk : Int) ≤ (n : Int) := by omega
        have kc4 : (n : Int) ≤ (cap : Int) := by omega
        have Hend := Lib.hid hend
        clear hrows f0 f1 f2 f3 hD hend hjn2
        go_wp2_with fail
        go_ret
        have hD := DD.out
        rw [Hend.out] at hD
        obtain ⟨d1, d2⟩ := hD.done
        refine ⟨kk, rfl, ?_, fun B hB => below_setCells hB _ _ (Bq.out B hB)⟩
        refine (rowAt_setCells (k := kk) Rq.out (Nat.le_refl _)).ids d1 (by unfold maxLen; omega) (fun i x hi => ?_) (fun x hx => Hwf.out x (fl_sub hx))
        have hik : i < kk := by rw [← d1]; exact (List.getElem?_eq_some_iff.1 hi).1
        rw [List.getElem?_take, if_pos hik]
        exact d2 i x hi
  · have hfl := fl_none hnot
    have Hfl := Lib.hid hfl
    clear hfl hnot
    go_wp2_with fail
    go_ret
    exact ⟨n, rfl, by rw [Hfl.out]; exact R1.out.ids Hl.out (by unfold maxLen; omega) (fun _ _ h => h) Hwf.out, fun B hB => hb1.mono (by omega)⟩
end Go.Proofs.YtmlhlananooclaaDoor
