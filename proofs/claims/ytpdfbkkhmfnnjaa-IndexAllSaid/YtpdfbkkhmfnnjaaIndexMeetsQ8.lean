/- slices.BinarySearchFunc at ids, ids.Has, attr.Check. -/
import Derived.Test.YtpdfbkkhmfnnjaaIndexMeetsQ6
import Derived.WalkKit
import Derived.WalkSpells
import Derived.WalkLawsBesides
import Derived.Deep.RegionHeld3
import Derived.Deep.DrawnRows
import Derived.Deep.DeepCutAuto
import Derived.Deep.DeepFit
import Derived.Lib.Hide
import Derived.BigQuiet
import Derived.Deep.QuietTactic
namespace Go.Proofs.Ytpdfbkkhmfnnjaa
open Go.RowKit
set_option linter.unusedVariables false
set_option linter.unusedSimpArgs false
set_option maxRecDepth 20000
attribute [local go_sem ↓] Go.wp_at_zero Go.wp_at_succ
attribute [local go_sem] World.cell?_alloc_some frozen_alloc_some

/-- What the search has ruled out. -/
def Split (l : List IdP) (x : IdP) (i j : Nat) : Prop := (∀ k y, k < i → l[k]? = some y → idLt y x) ∧ (∀ k y, j ≤ k → l[k]? = some y → ¬ idLt y x)
theorem Split.start (l : List IdP) (x : IdP) : Split l x 0 l.length := ⟨fun k y h => absurd h (by omega), fun k y h hy => by rw [List.getElem?_eq_none h] at hy; cases hy⟩
theorem Split.up {l : List IdP} {x y : IdP} {i j h : Nat} (s : Split l x i j) (ha : Asc l) (hy : l[h]? = some y) (hlt : idLt y x) : Split l x (h + 1) j := by
  refine ⟨fun k z hk hz => ?_, s.2⟩
  obtain ⟨h1, rfl⟩ := List.getElem?_eq_some_iff.1 hy
  obtain ⟨h2, rfl⟩ := List.getElem?_eq_some_iff.1 hz
  rcases Nat.lt_or_ge k h with hkh | hkh
  · exact idLt_trans (List.pairwise_iff_getElem.1 ha k h h2 h1 hkh) hlt
  · have : k = h := by omega
    subst this; exact hlt
theorem Split.down {l : List IdP} {x y : IdP} {i j h : Nat} (s : Split l x i j) (ha : Asc l) (hy : l[h]? = some y) (hlt : ¬ idLt y x) : Split l x i h := by
  refine ⟨s.1, fun k z hk hz => ?_⟩
  obtain ⟨h1, rfl⟩ := List.getElem?_eq_some_iff.1 hy
  obtain ⟨h2, rfl⟩ := List.getElem?_eq_some_iff.1 hz
  rcases Nat.lt_or_ge h k with hkh | hkh
  · exact fun hn => hlt (idLt_trans (List.pairwise_iff_getElem.1 ha h k h1 h2 hkh) hn)
  · have : k = h := by omega
    subst this; exact hlt
theorem Split.found {l : List IdP} {x : IdP} {i : Nat} (s : Split l x i i) (ha : Asc l) : (x ∈ l ↔ l[i]? = some x) := by
  constructor
  · intro h
    obtain ⟨k, hk, rfl⟩ := List.getElem_of_mem h
    rcases Nat.lt_or_ge k i with h1 | h1
    · exact absurd (s.1 k _ h1 (List.getElem?_eq_getElem hk)) (idLt_irrefl _)
    · rcases Nat.lt_or_ge i k with h2 | h2
      · exact absurd (List.pairwise_iff_getElem.1 ha i k (by omega) hk h2) (s.2 i _ (Nat.le_refl _) (List.getElem?_eq_getElem (by omega)))
      · have : k = i := by omega
        subst this; exact List.getElem?_eq_getElem hk
  · exact fun h => List.mem_of_getElem? h

abbrev BsS (w : World) (b o : Nat) (r n r2 n2 : Int) (wx : World) : Prop := Below w.heap.size w wx ∧ wx.cell? ⟨w.heap.size, 0, none⟩ = some (.int .i64 r) ∧ wx.cell? ⟨w.heap.size, 1, none⟩ = some (.int .i64 n) ∧ wx.cell? ⟨b, o, none⟩ = some (.int .i64 r2) ∧ wx.cell? ⟨b, o + 1, none⟩ = some (.int .i64 n2)
theorem BsS.drew {w W : World} {b o : Nat} {r n r2 n2 : Int} (h : BsS w b o r n r2 n2 W) : BsS w b o r n r2 n2 W.drew := ⟨h.1.drew, h.2⟩
theorem BsS.keep {w W w1 : World} {b o : Nat} {r n r2 n2 : Int} (hb : Below W.heap.size W w1) (h : BsS w b o r n r2 n2 W) : BsS w b o r n r2 n2 w1 :=
  ⟨h.1.trans (hb.mono (by have := h.1.size; omega)), cell_keep hb h.2.1, cell_keep hb h.2.2.1, cell_keep hb h.2.2.2.1, cell_keep hb h.2.2.2.2⟩

set_option maxHeartbeats 4000000 in
theorem search_any (A : Option Addr) (m c : Nat) (l : List IdP) (x1 x2 : Int) (w : World) (h1 : IdsAt w A m l) (ha : Asc l) (hm4 : m ≤ 1000000) :
    Calls Try.prog 42 #[.slice A m c, .agg #[.int .i64 x1, .int .i64 x2], .func (.func 43) #[] #[]] w
      (fun e w' => ∃ i : Int, e = .returned (.tuple #[.int .i64 i, .bool (decide ((x1, x2) ∈ l))]) ∧ Below w.heap.size w w') := by
  generalize hR : decide ((x1, x2) ∈ l) = R
  have HR := Lib.hid hR
  have H1 := Lib.hid h1
  have Hm := Lib.hid h1.1
  have Ha := Lib.hid ha
  have hc := h1.2.1
  clear hR h1 ha
  have hmm : m ≤ 9223372036854775807 := by unfold maxLen at hc; omega
  have ho := fun a b c d W => order_any a b c d W
  have Ho := Lib.hid ho
  clear ho
  go_enter Try.func42, Try.ntmps42
  go_wp2_with fail
  go_loopw [9, 10] (fun s9 s10 wr => ∃ i j : Nat, i ≤ j ∧ j ≤ m ∧ s9 = .int .i64 i ∧ s10 = .int .i64 j ∧ Split l (x1, x2) i j ∧ Below w.heap.size w wr ∧ wr.cell? ⟨w.heap.size, 0, none⟩ = some (.int .i64 x1) ∧ wr.cell? ⟨w.heap.size, 1, none⟩ = some (.int .i64 x2)) (fun s9 s10 _ => (intOf s10).toNat - (intOf s9).toNat)
  case atStart => exact ⟨0, m, by omega, by omega, rfl, rfl, by rw [Hm.out]; exact Split.start _ _, by ((repeat' first | with_reducible exact Below.refl _ _ | with_reducible assumption | with_reducible refine Below.alloc ?_ ?_ _ | with_reducible refine Below.setCell ?_ ?_ _ | with_reducible apply Below.drew | with_reducible apply below_drewN | with_reducible refine below_call ?_ (by with_reducible assumption) ?_) <;> (first | omega | (simp; done) | (simp; omega) | (simp at *; omega))), (new_cell w #[.int .i64 x1, .int .i64 x2] 26 0 rfl).1, (new_cell w #[.int .i64 x1, .int .i64 x2] 26 1 rfl).1⟩
  case round =>
    obtain ⟨i, j, hij, hj, rfl, rfl, hsp, hbr, t0, t1⟩ := hrel
    have hzr := hbr.size
    have Hsp := Lib.hid hsp
    clear hsp
    by_cases hlt : i < j
    · obtain ⟨h, hh⟩ : ∃ h, h = (i + j) / 2 := ⟨_, rfl⟩
      have hhm : h < m := by omega
      obtain ⟨r, n, b, o, e1, _, _, rfl, p0, p1⟩ := (H1.out.keep hbr).at_ hhm
      have ij : (i : Int) < (j : Int) := by omega
      have a1 : IntKind.i64.wrap ((i : Int) + (j : Int)) = (i : Int) + (j : Int) := IntWalk.i64_in _ (by omega)
      have a2 : ((i : Int) + (j : Int)) / 2 = (h : Int) := by omega
      have a3 : IntKind.i64.wrap ((h : Int) + 1) = (h : Int) + 1 := IntWalk.i64_in _ (by omega)
      have a4 : (0 : Int) ≤ (h : Int) := by omega
      have a5 : (h : Int) < (m : Int) := by omega
      have Hh := Lib.hid hh
      have E1 := Lib.hid e1
      have ho := fun W => Ho.out r n x1 x2 W
      have hpre : BsS w b (o + h * 2) x1 x2 r n wr := ⟨hbr, t0, t1, p0, p1⟩
      clear hh e1
      by_cases hlt2 : idLt (r, n) (x1, x2)
      · have hc0 := idCmp_lt.2 hlt2
        have Hs := Lib.hid (Hsp.out.up Ha.out E1.out hlt2)
        generalize idCmp (r, n) (x1, x2) = q at *
        clear hlt2
        go_upto_region 5 with fail
        go_region_held3 (fun wx => Below w.heap.size w wx ∧ wx.cell? ⟨w.heap.size, 0, none⟩ = some (.int .i64 x1) ∧ wx.cell? ⟨w.heap.size, 1, none⟩ = some (.int .i64 x2) ∧ wx.cell? ⟨b, o + h * 2, none⟩ = some (.int .i64 r) ∧ wx.cell? ⟨b, o + h * 2 + 1, none⟩ = some (.int .i64 n)) ((repeat' first | with_reducible assumption | with_reducible refine BsS.drew ?_ | with_reducible refine BsS.keep (by with_reducible assumption) ?_)) ((go_at_call 43; (with_reducible refine (ho _).mono ?_); rintro e w1 ⟨rfl, hb1, _⟩; have hz1 := hb1.size; (try simp at hz1)))
        all_goals
          go_wp2_with fail
          go_roundw
          case rel =>
            have hS : BsS w b (o + h * 2) x1 x2 r n w1 := by assumption
            exact ⟨h + 1, j, by have := Hh.out; omega, by omega, by go_num, rfl, Hs.out, hS.1, hS.2.1, hS.2.2.1⟩
          case measure => have := Hh.out; simp [intOf]; omega
      · have hc0 : ¬ idCmp (r, n) (x1, x2) < 0 := fun h => hlt2 (idCmp_lt.1 h)
        have Hs := Lib.hid (Hsp.out.down Ha.out E1.out hlt2)
        generalize idCmp (r, n) (x1, x2) = q at *
        clear hlt2
        go_upto_region 5 with fail
        go_region_held3 (fun wx => Below w.heap.size w wx ∧ wx.cell? ⟨w.heap.size, 0, none⟩ = some (.int .i64 x1) ∧ wx.cell? ⟨w.heap.size, 1, none⟩ = some (.int .i64 x2) ∧ wx.cell? ⟨b, o + h * 2, none⟩ = some (.int .i64 r) ∧ wx.cell? ⟨b, o + h * 2 + 1, none⟩ = some (.int .i64 n)) ((repeat' first | with_reducible assumption | with_reducible refine BsS.drew ?_ | with_reducible refine BsS.keep (by with_reducible assumption) ?_)) ((go_at_call 43; (with_reducible refine (ho _).mono ?_); rintro e w1 ⟨rfl, hb1, _⟩; have hz1 := hb1.size; (try simp at hz1)))
        all_goals
          go_wp2_with fail
          go_roundw
          case rel =>
            have hS : BsS w b (o + h * 2) x1 x2 r n w1 := by assumption
            exact ⟨i, h, by have := Hh.out; omega, by omega, rfl, rfl, Hs.out, hS.1, hS.2.1, hS.2.2.1⟩
          case measure => have := Hh.out; simp [intOf]; omega
    · have hje : j = i := by omega
      subst hje
      by_cases him : j < m
      · obtain ⟨r, n, b, o, e1, _, _, rfl, p0, p1⟩ := (H1.out.keep hbr).at_ him
        have hfin : R = decide (idCmp (r, n) (x1, x2) = 0) := by
          rw [← HR.out, Bool.eq_iff_iff, decide_eq_true_iff, decide_eq_true_iff, Hsp.out.found Ha.out, e1, idCmp_eq]
          exact ⟨fun h => Option.some.inj h, fun h => congrArg some h⟩
        have a4 : (0 : Int) ≤ (j : Int) := by omega
        have a5 : (j : Int) < (m : Int) := by omega
        have nj : ¬ (j : Int) < (j : Int) := by omega
        have ho := fun W => Ho.out r n x1 x2 W
        have hpre : BsS w b (o + j * 2) x1 x2 r n wr := ⟨hbr, t0, t1, p0, p1⟩
        generalize idCmp (r, n) (x1, x2) = q at *
        have Hfin := Lib.hid hfin
        clear hfin e1 hij hlt
        go_upto_region 8 with fail
        go_region_held3 (fun wx => Below w.heap.size w wx ∧ wx.cell? ⟨w.heap.size, 0, none⟩ = some (.int .i64 x1) ∧ wx.cell? ⟨w.heap.size, 1, none⟩ = some (.int .i64 x2) ∧ wx.cell? ⟨b, o + j * 2, none⟩ = some (.int .i64 r) ∧ wx.cell? ⟨b, o + j * 2 + 1, none⟩ = some (.int .i64 n)) ((repeat' first | with_reducible assumption | with_reducible refine BsS.drew ?_ | with_reducible refine BsS.keep (by with_reducible assumption) ?_)) ((go_at_call 43; (with_reducible refine (ho _).mono ?_); rintro e w1 ⟨rfl, hb1, _⟩; have hz1 := hb1.size; (try simp at hz1)))
        all_goals
          go_wp2_with fail
          refine bodyPost_ret (v := .tuple #[.int .i64 j, .bool R]) (by rw [Hfin.out]; simp [results, Try.results42, go_sem]; try (rw [Bool.eq_iff_iff]; simp)) rfl ?_
          have hS : BsS w b (o + j * 2) x1 x2 r n w1 := by assumption
          first | exact ⟨(j : Int), rfl, hS.1⟩ | exact ⟨⟨(j : Int), rfl⟩, hS.1⟩
      · have hfin : R = false := by
          rw [← HR.out, ← Bool.not_eq_true, decide_eq_true_iff, Hsp.out.found Ha.out, List.getElem?_eq_none (by have := Hm.out; omega)]
          simp
        subst hfin
        have a5 : ¬ (j : Int) < (m : Int) := by omega
        have a6 : decide ((j : Int) < (m : Int)) = false := by simp; omega
        have nj : ¬ (j : Int) < (j : Int) := by omega
        clear hij hlt
        go_upto_region 8 with fail
        go_quiet (fail)
        go_wp2_with fail
        refine bodyPost_ret (v := .tuple #[.int .i64 j, .bool false]) (by simp [results, Try.results42, go_sem]) rfl ?_
        have hB : Below w.heap.size w wr := hbr
        first | exact ⟨(j : Int), rfl, by ((repeat' first | with_reducible exact Below.refl _ _ | with_reducible assumption | with_reducible refine Below.alloc ?_ ?_ _ | with_reducible refine Below.setCell ?_ ?_ _ | with_reducible apply Below.drew | with_reducible apply below_drewN | with_reducible refine below_call ?_ (by with_reducible assumption) ?_) <;> (first | omega | (simp; done) | (simp; omega) | (simp at *; omega)))⟩ | exact ⟨⟨(j : Int), rfl⟩, by ((repeat' first | with_reducible exact Below.refl _ _ | with_reducible assumption | with_reducible refine Below.alloc ?_ ?_ _ | with_reducible refine Below.setCell ?_ ?_ _ | with_reducible apply Below.drew | with_reducible apply below_drewN | with_reducible refine below_call ?_ (by with_reducible assumption) ?_) <;> (first | omega | (simp; done) | (simp; omega) | (simp at *; omega)))⟩

set_option maxHeartbeats 400000 in
theorem has_any (A : Option Addr) (m c : Nat) (l : List IdP) (x1 x2 : Int) (w : World) (h1 : IdsAt w A m l) (hk : idsOk l = true) :
    Calls Try.prog 22 #[.slice A m c, .agg #[.int .i64 x1, .int .i64 x2]] w (Gives w (.bool (decide ((x1, x2) ∈ l)))) := by
  have hk2 := idsOk_iff.1 hk
  have h := fun W (hb : Below w.heap.size w W) => search_any A m c l x1 x2 W (h1.keep hb) hk2.2.1 (by rw [h1.1]; omega)
  clear hk hk2 h1
  generalize decide ((x1, x2) ∈ l) = R at h ⊢
  go_enter Try.func22, Try.ntmps22
  go_wp2_with (go_at_call 42; refine (h _ (by ((repeat' first | with_reducible exact Below.refl _ _ | with_reducible assumption | with_reducible refine Below.alloc ?_ ?_ _ | with_reducible refine Below.setCell ?_ ?_ _ | with_reducible apply Below.drew | with_reducible apply below_drewN | with_reducible refine below_call ?_ (by with_reducible assumption) ?_) <;> (first | omega | (simp; done) | (simp; omega) | (simp at *; omega))))).mono ?_; rintro e w1 ⟨i, rfl, hb1⟩)
  go_ret
  exact ⟨rfl, by ((repeat' first | with_reducible exact Below.refl _ _ | with_reducible assumption | with_reducible refine Below.alloc ?_ ?_ _ | with_reducible refine Below.setCell ?_ ?_ _ | with_reducible apply Below.drew | with_reducible apply below_drewN | with_reducible refine below_call ?_ (by with_reducible assumption) ?_) <;> (first | omega | (simp; done) | (simp; omega) | (simp at *; omega)))⟩

def errI (n : Nat) : Value := .int .i64 (n : Int)
end Go.Proofs.Ytpdfbkkhmfnnjaa
