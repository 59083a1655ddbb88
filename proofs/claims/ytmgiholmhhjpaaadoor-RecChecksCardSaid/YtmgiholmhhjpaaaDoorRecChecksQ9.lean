/- The document's ids: Right, Less, Has, Equal, Check. The walks of stonecropref04.Runes, Beginning, Key. The walk of stonecropref06.Great. This cut lacks the document's Writes, Meet. The parts of an item, one by one: rec's parts.next, parts.number. -/
import Derived.Test.YtmgiholmhhjpaaaDoorRecChecksQ6
import Derived.Test.YtmgiholmhhjpaaaDoorRecChecksQ7
import Derived.Test.YtmgiholmhhjpaaaDoorRecChecksQ0
import Derived.Test.YtmgiholmhhjpaaaDoorRecChecksQ5
import Derived.Test.YtmgiholmhhjpaaaDoorRecChecksQ4
import Derived.Test.YtmgiholmhhjpaaaDoorRecChecksQ8
import Derived.WalkKit
import Derived.WalkSpells
import Derived.WalkLawsBesides
import Derived.Deep.RegionHeld3
import Derived.Deep.DrawnRows
import Derived.Deep.DeepCutAuto
import Derived.Deep.DeepFit
import Derived.Lib.Hide
import Derived.BigQuiet
import Derived.Deep.QuietTactic
namespace Go.Proofs.YtmgiholmhhjpaaaDoor
open Go.RowKit
set_option linter.unusedVariables false
set_option linter.unusedSimpArgs false
set_option maxRecDepth 20000
attribute [local go_sem ↓] Go.wp_at_zero Go.wp_at_succ
attribute [local go_sem] World.cell?_alloc_some frozen_alloc_some

set_option maxHeartbeats 400000 in
theorem right5_any (a b : Int) (w : World) :
    Calls Tryd.prog 41 #[.agg #[.int .i64 a, .int .i64 b]] w (Gives w (.bool (idRight (a, b)))) := by
  go_enter Tryd.func41, Tryd.ntmps41
  go_wp2
  all_goals go_ret
  all_goals refine ⟨?_, ((Below.refl _ _).alloc (Nat.le_refl _) _)⟩
  all_goals
    by_cases hr : 0 ≤ a ∧ a < 7 ∧ 0 ≤ b ∧ b ≤ 1099511627776
    · have hr' := idRight_iff.2 (show 0 ≤ ((a, b) : IdP).1 ∧ ((a, b) : IdP).1 < 7 ∧ 0 ≤ ((a, b) : IdP).2 ∧ ((a, b) : IdP).2 ≤ 1099511627776 from hr)
      simp [hr']; try omega
    · have hr' := idRight_no (show ¬ (0 ≤ ((a, b) : IdP).1 ∧ ((a, b) : IdP).1 < 7 ∧ 0 ≤ ((a, b) : IdP).2 ∧ ((a, b) : IdP).2 ≤ 1099511627776) from hr)
      simp [hr']; try omega
set_option maxHeartbeats 400000 in
theorem less5_any (a b c d : Int) (w : World) :
    Calls Tryd.prog 88 #[.agg #[.int .i64 a, .int .i64 b], .agg #[.int .i64 c, .int .i64 d]] w (Gives w (.bool (decide (idLt (a, b) (c, d))))) := by
  by_cases h1 : b < d
  · rw [decide_eq_true (show idLt (a, b) (c, d) from .inl h1)]
    go_enter Tryd.func88, Tryd.ntmps88
    go_wp2_with fail
    go_ret
    exact ⟨by simp, by ((repeat' first | with_reducible exact Below.refl _ _ | with_reducible assumption | with_reducible refine Below.alloc ?_ ?_ _ | with_reducible refine Below.setCell ?_ ?_ _ | with_reducible apply Below.drew | with_reducible apply below_drewN | with_reducible refine below_call ?_ (by with_reducible assumption) ?_) <;> (first | omega | (simp; done) | (simp; omega) | (simp at *; omega)))⟩
  by_cases h2 : b = d
  · subst h2
    by_cases h3 : a < c
    · rw [decide_eq_true (show idLt (a, b) (c, b) from .inr ⟨rfl, h3⟩)]
      go_enter Tryd.func88, Tryd.ntmps88
      go_wp2_with fail
      go_ret
      exact ⟨by simp [h3], by ((repeat' first | with_reducible exact Below.refl _ _ | with_reducible assumption | with_reducible refine Below.alloc ?_ ?_ _ | with_reducible refine Below.setCell ?_ ?_ _ | with_reducible apply Below.drew | with_reducible apply below_drewN | with_reducible refine below_call ?_ (by with_reducible assumption) ?_) <;> (first | omega | (simp; done) | (simp; omega) | (simp at *; omega)))⟩
    · rw [decide_eq_false (show ¬ idLt (a, b) (c, b) from by unfold idLt; simp only; omega)]
      go_enter Tryd.func88, Tryd.ntmps88
      go_wp2_with fail
      go_ret
      exact ⟨by simp [h3]; try omega, by ((repeat' first | with_reducible exact Below.refl _ _ | with_reducible assumption | with_reducible refine Below.alloc ?_ ?_ _ | with_reducible refine Below.setCell ?_ ?_ _ | with_reducible apply Below.drew | with_reducible apply below_drewN | with_reducible refine below_call ?_ (by with_reducible assumption) ?_) <;> (first | omega | (simp; done) | (simp; omega) | (simp at *; omega)))⟩
  · rw [decide_eq_false (show ¬ idLt (a, b) (c, d) from by unfold idLt; simp only; omega)]
    have h2' : (b == d) = false := by simp [h2]
    go_enter Tryd.func88, Tryd.ntmps88
    go_wp2_with fail
    go_ret
    exact ⟨by simp, by ((repeat' first | with_reducible exact Below.refl _ _ | with_reducible assumption | with_reducible refine Below.alloc ?_ ?_ _ | with_reducible refine Below.setCell ?_ ?_ _ | with_reducible apply Below.drew | with_reducible apply below_drewN | with_reducible refine below_call ?_ (by with_reducible assumption) ?_) <;> (first | omega | (simp; done) | (simp; omega) | (simp at *; omega)))⟩

section
attribute [local go_sem ↓ high] id_neq_run id_eql_run
set_option maxHeartbeats 2000000 in
theorem has5_any (A : Option Addr) (m c : Nat) (l : List IdP) (x1 x2 : Int) (w : World) (h1 : IdsAt w A m l) :
    Calls Tryd.prog 46 #[.slice A m c, .agg #[.int .i64 x1, .int .i64 x2]] w (Gives w (.bool (decide ((x1, x2) ∈ l)))) := by
  generalize hR : decide ((x1, x2) ∈ l) = R
  have HR := Lib.hid hR
  have H1 := Lib.hid h1
  have Hm := Lib.hid h1.1
  have hc := h1.2.1
  clear hR h1
  have hmm : m ≤ 9223372036854775807 := by unfold maxLen at hc; omega
  go_enter Tryd.func46, Tryd.ntmps46
  go_wp2_with fail
  go_loopw [5] (fun s5 wr => ∃ j : Nat, j ≤ m ∧ s5 = .int .i64 j ∧ (x1, x2) ∉ l.take j ∧ Below w.heap.size w wr ∧ wr.cell? ⟨w.heap.size, 0, none⟩ = some (.int .i64 x1) ∧ wr.cell? ⟨w.heap.size, 1, none⟩ = some (.int .i64 x2)) (fun s5 _ => m - (intOf s5).toNat)
  case atStart => exact ⟨0, by omega, rfl, by simp, by ((repeat' first | with_reducible exact Below.refl _ _ | with_reducible assumption | with_reducible refine Below.alloc ?_ ?_ _ | with_reducible refine Below.setCell ?_ ?_ _ | with_reducible apply Below.drew | with_reducible apply below_drewN | with_reducible refine below_call ?_ (by with_reducible assumption) ?_) <;> (first | omega | (simp; done) | (simp; omega) | (simp at *; omega))), (new_cell w #[.int .i64 x1, .int .i64 x2] 28 0 rfl).1, (new_cell w #[.int .i64 x1, .int .i64 x2] 28 1 rfl).1⟩
  case round =>
    obtain ⟨j, hj, rfl, htk, hbr, t0, t1⟩ := hrel
    have hzr := hbr.size
    have Htk := Lib.hid htk
    clear htk
    by_cases hlt : j < m
    · obtain ⟨r, n, b, o, e1, _, _, rfl, p0, p1⟩ := (H1.out.keep hbr).at_ hlt
      have E1 := Lib.hid e1
      clear e1
      have j0 : (0 : Int) ≤ (j : Int) := by omega
      have j1 : (j : Int) < (m : Int) := by omega
      by_cases hok : r = x1 ∧ n = x2
      · have hok' : (r == x1 && n == x2) = true := by simp [hok]
        have hfin : R = true := by
          rw [← HR.out]
          exact decide_eq_true (List.mem_of_getElem? (by rw [← hok.1, ← hok.2]; exact E1.out))
        subst hfin
        clear hok
        go_upto_region 4 with fail
        go_region
        all_goals
          go_wp2_with fail
          go_ret
          exact ⟨rfl, by ((repeat' first | with_reducible exact Below.refl _ _ | with_reducible assumption | with_reducible refine Below.alloc ?_ ?_ _ | with_reducible refine Below.setCell ?_ ?_ _ | with_reducible apply Below.drew | with_reducible apply below_drewN | with_reducible refine below_call ?_ (by with_reducible assumption) ?_) <;> (first | omega | (simp; done) | (simp; omega) | (simp at *; omega)))⟩
      · have hok' : (r == x1 && n == x2) = false := by simpa using hok
        have Hnx := Lib.hid (show (x1, x2) ∉ l.take (j + 1) from by
          rw [List.take_add_one, E1.out]
          intro h
          rcases List.mem_append.1 h with h | h
          · exact Htk.out h
          · simp at h; exact hok ⟨h.1.symm, h.2.symm⟩)
        clear hok
        go_upto_region 4 with fail
        go_region
        all_goals
          go_wp2_with fail
          go_roundw
          case rel => exact ⟨j + 1, by omega, by go_num, Hnx.out, by ((repeat' first | with_reducible exact Below.refl _ _ | with_reducible assumption | with_reducible refine Below.alloc ?_ ?_ _ | with_reducible refine Below.setCell ?_ ?_ _ | with_reducible apply Below.drew | with_reducible apply below_drewN | with_reducible refine below_call ?_ (by with_reducible assumption) ?_) <;> (first | omega | (simp; done) | (simp; omega) | (simp at *; omega))), by simpa using t0, by simpa using t1⟩
          case measure => simp [intOf]; omega
    · have hfin : R = false := by
        rw [← HR.out]
        have h := Htk.out
        rw [List.take_of_length_le (by have := Hm.out; omega)] at h
        exact decide_eq_false h
      subst hfin
      go_wp2_with fail
      go_ret
      exact ⟨rfl, by ((repeat' first | with_reducible exact Below.refl _ _ | with_reducible assumption | with_reducible refine Below.alloc ?_ ?_ _ | with_reducible refine Below.setCell ?_ ?_ _ | with_reducible apply Below.drew | with_reducible apply below_drewN | with_reducible refine below_call ?_ (by with_reducible assumption) ?_) <;> (first | omega | (simp; done) | (simp; omega) | (simp at *; omega)))⟩
set_option maxHeartbeats 1000000 in
theorem equal5_any (A A2 : Option Addr) (m c m2 c2 : Nat) (l l2 : List IdP) (w : World) (h1 : IdsAt w A m l) (h2 : IdsAt w A2 m2 l2) :
    Calls Tryd.prog 66 #[.slice A m c, .slice A2 m2 c2] w (Gives w (.bool (lseq l l2))) := by
  generalize hR : lseq l l2 = R
  have HR := Lib.hid hR
  have H1 := Lib.hid h1
  have H2 := Lib.hid h2
  have Hm := Lib.hid h1.1
  have Hm2 := Lib.hid h2.1
  have hc := h1.2.1
  clear hR h1 h2
  by_cases e4 : m = m2
  case neg =>
    have hfin : R = false := by
      rw [← HR.out]
      simp only [lseq, decide_eq_false_iff_not]
      intro h; exact e4 (by rw [Hm.out, Hm2.out, h])
    subst hfin
    have e4' : ((m : Int) != (m2 : Int)) = true := by simp; omega
    go_enter Tryd.func66, Tryd.ntmps66
    go_wp2_with fail
    go_ret
    exact ⟨rfl, by ((repeat' first | with_reducible exact Below.refl _ _ | with_reducible assumption | with_reducible refine Below.alloc ?_ ?_ _ | with_reducible refine Below.setCell ?_ ?_ _ | with_reducible apply Below.drew | with_reducible apply below_drewN | with_reducible refine below_call ?_ (by with_reducible assumption) ?_) <;> (first | omega | (simp; done) | (simp; omega) | (simp at *; omega)))⟩
  subst e4
  have hmm : m ≤ 9223372036854775807 := by unfold maxLen at hc; omega
  go_enter Tryd.func66, Tryd.ntmps66
  go_wp2_with fail
  go_loopw [5] (fun s5 wr => ∃ j : Nat, j ≤ m ∧ s5 = .int .i64 j ∧ l.take j = l2.take j ∧ Below w.heap.size w wr) (fun s5 _ => m - (intOf s5).toNat)
  case atStart => exact ⟨0, by omega, rfl, rfl, by ((repeat' first | with_reducible exact Below.refl _ _ | with_reducible assumption | with_reducible refine Below.alloc ?_ ?_ _ | with_reducible refine Below.setCell ?_ ?_ _ | with_reducible apply Below.drew | with_reducible apply below_drewN | with_reducible refine below_call ?_ (by with_reducible assumption) ?_) <;> (first | omega | (simp; done) | (simp; omega) | (simp at *; omega)))⟩
  case round =>
    obtain ⟨j, hj, rfl, htk, hbr⟩ := hrel
    have hzr := hbr.size
    have Htk := Lib.hid htk
    clear htk
    by_cases hlt : j < m
    · obtain ⟨r, n, b, o, e1, _, _, rfl, p0, p1⟩ := (H1.out.keep hbr).at_ hlt
      obtain ⟨r2, n2, b2, o2, e2, _, _, rfl, q0, q1⟩ := (H2.out.keep hbr).at_ hlt
      have E1 := Lib.hid e1
      have E2 := Lib.hid e2
      clear e1 e2
      have j0 : (0 : Int) ≤ (j : Int) := by omega
      have j1 : (j : Int) < (m : Int) := by omega
      by_cases hok : r = r2 ∧ n = n2
      · have hok' : (r == r2 && n == n2) = true := by simp [hok]
        have Hnx := Lib.hid (take_step Htk.out E1.out (by rw [hok.1, hok.2]; exact E2.out))
        clear hok
        go_upto_region 6 with fail
        go_region
        all_goals
          go_wp2_with fail
          go_roundw
          case rel => exact ⟨j + 1, by omega, by go_num, Hnx.out, by ((repeat' first | with_reducible exact Below.refl _ _ | with_reducible assumption | with_reducible refine Below.alloc ?_ ?_ _ | with_reducible refine Below.setCell ?_ ?_ _ | with_reducible apply Below.drew | with_reducible apply below_drewN | with_reducible refine below_call ?_ (by with_reducible assumption) ?_) <;> (first | omega | (simp; done) | (simp; omega) | (simp at *; omega)))⟩
          case measure => simp [intOf]; omega
      · have hok' : (r == r2 && n == n2) = false := by simpa using hok
        have hfin : R = false := by
          rw [← HR.out]
          simp only [lseq, decide_eq_false_iff_not]
          intro h; subst h
          have h1 := E1.out
          rw [E2.out] at h1
          injection h1 with h1
          injection h1 with h1 h2
          exact hok ⟨h1.symm, h2.symm⟩
        subst hfin
        clear hok
        go_upto_region 6 with fail
        go_region
        all_goals
          go_wp2_with fail
          go_ret
          exact ⟨rfl, by ((repeat' first | with_reducible exact Below.refl _ _ | with_reducible assumption | with_reducible refine Below.alloc ?_ ?_ _ | with_reducible refine Below.setCell ?_ ?_ _ | with_reducible apply Below.drew | with_reducible apply below_drewN | with_reducible refine below_call ?_ (by with_reducible assumption) ?_) <;> (first | omega | (simp; done) | (simp; omega) | (simp at *; omega)))⟩
    · have g1 : l.take j = l := List.take_of_length_le (by have := Hm.out; omega)
      have g2 : l2.take j = l2 := List.take_of_length_le (by have := Hm2.out; omega)
      have hfin : R = true := by
        rw [← HR.out]
        simp only [lseq, decide_eq_true_eq]
        have := Htk.out; rwa [g1, g2] at this
      subst hfin
      clear g1 g2 Htk
      go_wp2_with fail
      go_ret
      exact ⟨rfl, by ((repeat' first | with_reducible exact Below.refl _ _ | with_reducible assumption | with_reducible refine Below.alloc ?_ ?_ _ | with_reducible refine Below.setCell ?_ ?_ _ | with_reducible apply Below.drew | with_reducible apply below_drewN | with_reducible refine below_call ?_ (by with_reducible assumption) ?_) <;> (first | omega | (simp; done) | (simp; omega) | (simp at *; omega)))⟩

end
end Go.Proofs.YtmgiholmhhjpaaaDoor

namespace Go.Proofs.YtmgiholmhhjpaaaDoor
open Go.RowKit
set_option linter.unusedVariables false
set_option linter.unusedSimpArgs false
set_option maxRecDepth 20000
attribute [local go_sem ↓] Go.wp_at_zero Go.wp_at_succ
attribute [local go_sem] World.cell?_alloc_some frozen_alloc_some
attribute [local go_sem] lt2 lt3 lt4 lt5
attribute [local simp] lt2 lt3 lt4 lt5

theorem info_rune : ∃ i, Tryd.prog.info? 119 = some i ∧ i.zero = some (.agg #[.int .i64 0, .int .i64 0]) ∧ i.size = 2 ∧ i.bytes = 16 := by
  have h : (Tryd.prog.info? 119).map (fun i => (i.zero, i.size, i.bytes)) = some (some (.agg #[.int .i64 0, .int .i64 0]), 2, 16) := by kernel_rfl
  cases hi : Tryd.prog.info? 119 with
  | none => rw [hi] at h; cases h
  | some i =>
    rw [hi] at h
    simp at h
    exact ⟨i, rfl, h.1, h.2.1, h.2.2⟩
theorem own_form2 {w : World} {base : Nat} {e : TypeId} {size : Nat} {v : Value} {n : Nat} {xs : List Value} (h : w.ownsRow base e size v n xs) : ∃ A c, v = .slice A n c ∧ n ≤ c ∧ c ≤ maxLen := by
  rcases h.2 with ⟨rfl, rfl⟩ | ⟨g, cap, cur, rfl, _, _, hle, hm, _⟩
  · exact ⟨none, 0, rfl, Nat.le_refl _, Nat.zero_le _⟩
  · exact ⟨_, cap, rfl, hle, hm⟩
theorem grown_cell_any {w w' : World} {row : Option Nat} (hg : w.grownBy w' row) {a : Addr} {v : Value} (h : w.cell? a = some v) (hr : some a.block ≠ row) : w'.cell? a = some v := by
  rw [← h]
  exact World.cell?_of_block (w := w) (hg.block _ (World.block_lt_of_cell? _ _ h) hr)
/-- The document's runes from a place on. -/
def drunes (s : ByteArray) : Nat → Nat → List (Int × Nat)
  | 0, _ => []
  | f + 1, pos => if pos < s.size then dAt s pos :: drunes s f (pos + (dAt s pos).2) else []
theorem drunes_end (s : ByteArray) (f pos : Nat) (h : ¬ pos < s.size) : drunes s f pos = [] := by cases f <;> simp [drunes, h]
theorem dAt_width (s : ByteArray) (pos : Nat) : (dAt s pos).2 = (Utf8.decode s pos).2 := by
  rw [dAt_eq]; unfold dLone; split
  · rename_i h; exact h.2.symm
  · rfl
theorem dAt_bounds (s : ByteArray) (pos : Nat) (h : pos < s.size) : 1 ≤ (dAt s pos).2 ∧ (dAt s pos).2 ≤ 4 := by
  refine ⟨by rw [dAt_width]; exact width_pos s pos h, ?_⟩
  unfold dAt dN
  repeat' split
  all_goals simp
def rcells (l : List (Int × Nat)) : List Value := l.flatMap fun r => [.int .i64 r.1, .int .i64 (r.2 : Int)]
theorem rcells_snoc (l : List (Int × Nat)) (r : Int × Nat) : rcells (l ++ [r]) = rcells l ++ [.int .i64 r.1, .int .i64 (r.2 : Int)] := by simp [rcells]
theorem rcells_len (l : List (Int × Nat)) : (rcells l).length = 2 * l.length := by induction l with | nil => rfl | cons a l ih => simp [rcells] at ih ⊢; omega
theorem rcells_get (l : List (Int × Nat)) (i : Nat) (r : Int × Nat) (h : l[i]? = some r) : (rcells l)[2 * i]? = some (.int .i64 r.1) := by
  induction l generalizing i with
  | nil => simp at h
  | cons a l ih =>
    cases i with
    | zero => simp at h; subst h; rfl
    | succ i =>
      have := ih i (by simpa using h)
      rw [show 2 * (i + 1) = 2 * i + 2 by omega]
      simpa [rcells] using this
def rmore (s : ByteArray) (f pos : Nat) : Nat := (drunes s f pos).length
/-- A row of its own of runes. -/
def RowR (w : World) (base : Nat) (v : Value) (l : List (Int × Nat)) : Prop := w.ownsRow base 119 2 v l.length (rcells l)
set_option maxHeartbeats 8000000 in
theorem runes_any (s : ByteArray) (w : World) (hs : s.size ≤ 1000000000) : Calls Tryd.prog 87 #[.string s] w (fun e w' => ∃ v, e = .returned v ∧ RowR w' w.heap.size v (drunes s s.size 0) ∧ Below w.heap.size w w') := by
  obtain ⟨L, hL⟩ : ∃ L, L = drunes s s.size 0 := ⟨_, rfl⟩
  rw [← hL]
  have HL := Lib.hid hL
  clear hL
  go_enter Tryd.func87, Tryd.ntmps87
  go_wp2_with fail
  go_loopw [3, 4] (fun s3 s4 wr => ∃ (pre : List (Int × Nat)) (pos f : Nat), s4 = .int .i64 (pos : Int) ∧ RowR wr w.heap.size s3 pre ∧ Below w.heap.size w wr ∧ L = pre ++ drunes s f pos ∧ s.size ≤ pos + f ∧ pos ≤ s.size + 4 ∧ pre.length ≤ pos) (fun _ s4 _ => s.size + 5 - (intOf s4).toNat)
  case atStart => exact ⟨[], 0, s.size, rfl, World.ownsRow_nil _ _ _ _, Below.refl _ _, HL.out, by omega, by omega, by simp⟩
  case round =>
    obtain ⟨pre, pos, f, rfl, hrow, hbr, hl, hf, hp4, hpl⟩ := hrel
    have zr := hbr.size
    by_cases hp : pos < s.size
    · have hat := at_any s pos wr hp hs
      have hw := dAt_bounds s pos hp
      obtain ⟨f, rfl⟩ : ∃ f', f = f' + 1 := ⟨f - 1, by omega⟩
      simp only [drunes, if_pos hp] at hl
      generalize dAt s pos = y at *
      obtain ⟨V, N⟩ := y
      simp only at hw hl
      unfold rv at hat
      simp only at hat
      have hp' : (pos : Int) < (s.size : Int) := by omega
      have hwn : IntKind.i64.wrap ((pos : Int) + (N : Int)) = ((pos + N : Nat) : Int) := by rw [IntWalk.i64_in _ (by omega)]; omega
      have Hl := Lib.hid hl
      have Hrow := Lib.hid hrow
      obtain ⟨A3, c3, rfl, hl3, hc3⟩ := own_form2 hrow
      clear hl hrow
      go_wp2_with fail
      refine hat.mono ?_
      rintro e w1 ⟨rfl, hb1⟩
      have z1 := hb1.size
      have hrow1 : w1.ownsRow w.heap.size 119 2 (.slice A3 pre.length c3) pre.length (rcells pre) := World.ownsRow.kept Hrow.out (grown_of_below hb1 none) (by cases (Value.slice A3 pre.length c3).ownBlock <;> simp)
      have hbb : Below w.heap.size w ((w1.alloc (.cells #[.int .i64 V, .int .i64 (N : Int)] 119)).alloc (.cells #[.int .i64 V, .int .i64 (N : Int)] 119)) := ((below_call hbr hb1 zr).alloc (by omega) _).alloc (by simp; omega) _
      have hrow2 : ((w1.alloc (.cells #[.int .i64 V, .int .i64 (N : Int)] 119)).alloc (.cells #[.int .i64 V, .int .i64 (N : Int)] 119)).ownsRow w.heap.size 119 2 (.slice A3 pre.length c3) pre.length (rcells pre) :=
        World.ownsRow.kept hrow1 (grown_of_below ((below_one _).trans ((below_one _).mono (by simp))) none) (by cases (Value.slice A3 pre.length c3).ownBlock <;> simp)
      have hsrc : Src ((w1.alloc (.cells #[.int .i64 V, .int .i64 (N : Int)] 119)).alloc (.cells #[.int .i64 V, .int .i64 (N : Int)] 119)) 2 (some ⟨w1.heap.size + 1, 0, none⟩) 1 [.int .i64 V, .int .i64 (N : Int)] := by
        refine ⟨rfl, fun j x hj => ⟨_, rfl, ?_⟩, fun x hx => ?_⟩
        · have hadd : (⟨w1.heap.size + 1, 0, none⟩ : Addr).add j = ⟨w1.heap.size + 1, j, none⟩ := by unfold Addr.add; split <;> simp_all
          rw [hadd]
          have h := (new_cell (w1.alloc (.cells #[.int .i64 V, .int .i64 (N : Int)] 119)) #[.int .i64 V, .int .i64 (N : Int)] 119 j (by simpa using hj)).1
          simp only [World.size_alloc] at h
          exact h
        · simp at hx; rcases hx with rfl | rfl <;> rfl
      have n5 : ((w1.alloc (.cells #[.int .i64 V, .int .i64 (N : Int)] 119)).alloc (.cells #[.int .i64 V, .int .i64 (N : Int)] 119)).cell? ⟨w1.heap.size, 1, none⟩ = some (.int .i64 (N : Int)) := cell_alloc (new_cell w1 _ _ 1 rfl).1
      have hnrow : some w1.heap.size ≠ (Value.slice A3 pre.length c3).ownBlock := fun e => Nat.lt_irrefl _ (Nat.lt_of_lt_of_le ((Hrow.out.lt _ e.symm).2) z1)
      obtain ⟨ii, hi, hz0, hz1, hz2⟩ := info_rune
      go_wp2_with ((at_builtin; go_loud (refine wpList_app _ rfl (.tmp 13) (.tmp 15) 116 rfl _ 119 ii _ 2 16 Tryd.underlying116 hi hz0 hz1 hz2 rfl (by omega) _ _ _ rfl hrow2 _ _ _ _ rfl hsrc ?h63 ?hby ?hbase ?_); (case h63 => (unfold maxLen; first | omega | (simp; done) | (simp; omega))); (case hby => first | omega | (simp; done) | (simp; omega)); (case hbase => first | omega | (simp; done) | (simp; omega)); intro v6 w6 hownw6 hgroww6 hatw6 holdw6); have n6 := grown_cell_any hgroww6 n5 hnrow)
      go_roundw
      case rel =>
        refine ⟨pre ++ [(V, N)], pos + N, f, by first | rfl | go_num, ?_, below_app hbb hrow2 hgroww6 (Nat.le_refl _) (by simp; omega), by rw [Hl.out]; simp, by omega, by omega, by simp; omega⟩
        unfold RowR
        rw [rcells_snoc, List.length_append, List.length_singleton]
        exact hownw6
      case measure => simp [intOf]; omega
    · rw [drunes_end s f pos hp, List.append_nil] at hl
      subst hl
      have hp' : ¬ (pos : Int) < (s.size : Int) := by omega
      have Hrow := Lib.hid hrow
      clear hrow
      go_wp2_with fail
      go_ret
      exact ⟨_, rfl, Hrow.out, hbr⟩
theorem RowR.elem {w : World} {base : Nat} {A : Option Addr} {m c : Nat} {l : List (Int × Nat)} (h : RowR w base (.slice A m c) l) {j : Nat} {r : Int × Nat} (hj : l[j]? = some r) :
    ∃ ad eb eo, A = some ad ∧ ad.add (j * 2) = ⟨eb, eo, none⟩ ∧ w.cell? ⟨eb, eo, none⟩ = some (.int .i64 r.1) := by
  have hlt : j < l.length := (List.getElem?_eq_some_iff.1 hj).1
  rcases h.2 with ⟨hv, hn⟩ | ⟨g, cap, cur, hv, hb, _⟩
  · omega
  · injection hv with hv _ _
    subst hv
    have hc := World.ownsRow.cells h (g := g) rfl (2 * j) (.int .i64 r.1) (rcells_get l j r hj)
    have hadd : (⟨g, 0, none⟩ : Addr).add (j * 2) = ⟨g, 2 * j, none⟩ := by unfold Addr.add; split <;> simp_all <;> omega
    have hadd2 : (⟨g, 0, none⟩ : Addr).add (2 * j) = ⟨g, 2 * j, none⟩ := by unfold Addr.add; split <;> simp_all
    rw [hadd2] at hc
    exact ⟨_, g, 2 * j, rfl, hadd, hc⟩
def dbad (r : Int × Nat) : Bool := decide (r.1 < 32) || r.1 == 127
def dbeg (s : ByteArray) : Bool := (drunes s s.size 0).all (fun r => !dbad r) && decide ((drunes s s.size 0).length ≤ 32)
set_option maxHeartbeats 8000000 in
theorem dbeg_any (s : ByteArray) (w : World) (hs : s.size ≤ 1000000000) : Calls Tryd.prog 63 #[.string s] w (Gives w (.bool (dbeg s))) := by
  have hru := runes_any s w hs
  obtain ⟨R, hR⟩ : ∃ R, R = dbeg s := ⟨_, rfl⟩
  rw [← hR]
  unfold dbeg at hR
  generalize drunes s s.size 0 = l at *
  have HR := Lib.hid hR
  clear hR
  go_enter Tryd.func63, Tryd.ntmps63
  go_wp2_with fail
  refine hru.mono ?_
  rintro e w1 ⟨v, rfl, hrow, hb1⟩
  obtain ⟨A, c, rfl, hlc, hcm⟩ := own_form2 hrow
  have z1 := hb1.size
  have Hrow := Lib.hid hrow
  have hlm : l.length ≤ 9223372036854775807 := Nat.le_trans hlc hcm
  clear hrow hru
  go_wp2_with fail
  go_loop [4] (fun s4 => ∃ j : Nat, j ≤ l.length ∧ s4 = .int .i64 (j : Int) ∧ ∀ t r, t < j → l[t]? = some r → dbad r = false) (fun s4 => l.length - (intOf s4).toNat)
  case atStart => exact ⟨0, by omega, rfl, fun t r ht => absurd ht (by omega)⟩
  case round =>
    obtain ⟨j, hj, rfl, hbf⟩ := hrel
    have Hbf := Lib.hid hbf
    clear hbf
    by_cases hlt : j < l.length
    · have hget : l[j]? = some l[j] := List.getElem?_eq_getElem hlt
      obtain ⟨ad, eb, eo, rfl, ha, hc⟩ := Hrow.out.elem hget
      have Hget := Lib.hid hget
      generalize l[j] = r at *
      obtain ⟨V, N⟩ := r
      simp only at hc
      have j0 : (0 : Int) ≤ (j : Int) := by omega
      have j1 : (j : Int) < (l.length : Int) := by omega
      clear hget
      by_cases g1 : V < 32
      · go_wp2_with fail
        go_ret
        refine ⟨?_, by ((repeat' first | with_reducible exact Below.refl _ _ | with_reducible assumption | with_reducible refine Below.alloc ?_ ?_ _ | with_reducible refine Below.setCell ?_ ?_ _ | with_reducible apply Below.drew | with_reducible apply below_drewN | with_reducible refine below_call ?_ (by with_reducible assumption) ?_) <;> (first | omega | (simp; done) | (simp; omega) | (simp at *; omega)))⟩
        rw [HR.out]
        have : l.all (fun r => !dbad r) = false := List.all_eq_false.2 ⟨(V, N), List.mem_of_getElem? Hget.out, by simp [dbad, g1]⟩
        rw [this]; rfl
      · by_cases g2 : V = 127
        · have g2' : (V == (127 : Int)) = true := by simp [g2]
          clear g2
          go_wp2_with fail
          go_ret
          refine ⟨?_, by ((repeat' first | with_reducible exact Below.refl _ _ | with_reducible assumption | with_reducible refine Below.alloc ?_ ?_ _ | with_reducible refine Below.setCell ?_ ?_ _ | with_reducible apply Below.drew | with_reducible apply below_drewN | with_reducible refine below_call ?_ (by with_reducible assumption) ?_) <;> (first | omega | (simp; done) | (simp; omega) | (simp at *; omega)))⟩
          rw [HR.out]
          have : l.all (fun r => !dbad r) = false := List.all_eq_false.2 ⟨(V, N), List.mem_of_getElem? Hget.out, by simp [dbad, g2']⟩
          rw [this]; rfl
        · have g2' : (V == (127 : Int)) = false := by simp [g2]
          go_wp2_with fail
          go_round
          case rel => exact ⟨j + 1, by omega, by first | rfl | go_num, fun t r ht hr => by
            by_cases h : t < j
            · exact Hbf.out t r h hr
            · obtain rfl : t = j := by omega
              rw [Hget.out] at hr
              injection hr with hr
              subst hr
              simp [dbad, g2']; omega⟩
          case measure => simp [intOf]; omega
    · have hjl : j = l.length := by omega
      have hall : l.all (fun r => !dbad r) = true := List.all_eq_true.2 fun r hr => by
        obtain ⟨t, ht, rfl⟩ := List.mem_iff_getElem.1 hr
        simp [Hbf.out t l[t] (by omega) (List.getElem?_eq_getElem ht)]
      have hr2 := HR.out
      rw [hall, Bool.true_and] at hr2
      have Hr2 := Lib.hid hr2
      clear hall hr2 hjl
      by_cases g : l.length ≤ 32
      · have g' : (l.length : Int) ≤ 32 := by omega
        go_wp2_with fail
        go_ret
        exact ⟨by rw [Hr2.out]; simp [g], by ((repeat' first | with_reducible exact Below.refl _ _ | with_reducible assumption | with_reducible refine Below.alloc ?_ ?_ _ | with_reducible refine Below.setCell ?_ ?_ _ | with_reducible apply Below.drew | with_reducible apply below_drewN | with_reducible refine below_call ?_ (by with_reducible assumption) ?_) <;> (first | omega | (simp; done) | (simp; omega) | (simp at *; omega)))⟩
      · have g' : ¬ (l.length : Int) ≤ 32 := by omega
        go_wp2_with fail
        go_ret
        exact ⟨by rw [Hr2.out]; simp [g], by ((repeat' first | with_reducible exact Below.refl _ _ | with_reducible assumption | with_reducible refine Below.alloc ?_ ?_ _ | with_reducible refine Below.setCell ?_ ?_ _ | with_reducible apply Below.drew | with_reducible apply below_drewN | with_reducible refine below_call ?_ (by with_reducible assumption) ?_) <;> (first | omega | (simp; done) | (simp; omega) | (simp at *; omega)))⟩
def dkey (s : ByteArray) : Bool := !(s.toList == []) && dbeg s
theorem dkey_any (s : ByteArray) (w : World) (hs : s.size ≤ 1000000000) : Calls Tryd.prog 64 #[.string s] w (Gives w (.bool (dkey s))) := by
  have hb := fun W => dbeg_any s W hs
  unfold dkey
  generalize dbeg s = b at *
  by_cases h : s.toList = []
  · have h' : (s.toList == []) = true := by simp [h]
    have h2 : s.toList.isEmpty = true := by simp [h]
    rw [h']
    go_enter Tryd.func64, Tryd.ntmps64
    go_wp2_with fail
    go_ret
    exact ⟨rfl, by ((repeat' first | with_reducible exact Below.refl _ _ | with_reducible assumption | with_reducible refine Below.alloc ?_ ?_ _ | with_reducible refine Below.setCell ?_ ?_ _ | with_reducible apply Below.drew | with_reducible apply below_drewN | with_reducible refine below_call ?_ (by with_reducible assumption) ?_) <;> (first | omega | (simp; done) | (simp; omega) | (simp at *; omega)))⟩
  · have h' : (s.toList == []) = false := by simp [h]
    have h2 : s.toList.isEmpty = false := by simp [h]
    rw [h']
    go_enter Tryd.func64, Tryd.ntmps64
    go_wp2_with fail
    refine (hb _).mono ?_
    rintro e w1 ⟨rfl, hb1⟩
    go_wp2_with fail
    go_ret
    exact ⟨by simp, by ((repeat' first | with_reducible exact Below.refl _ _ | with_reducible assumption | with_reducible refine Below.alloc ?_ ?_ _ | with_reducible refine Below.setCell ?_ ?_ _ | with_reducible apply Below.drew | with_reducible apply below_drewN | with_reducible refine below_call ?_ (by with_reducible assumption) ?_) <;> (first | omega | (simp; done) | (simp; omega) | (simp at *; omega)))⟩
/-- The document's count and test against the library's decoder. -/
theorem drunes_len (s : ByteArray) : ∀ (f pos : Nat), (drunes s f pos).length = rcnt s f pos
  | 0, _ => rfl
  | f + 1, pos => by
    simp only [drunes, rcnt]
    split
    · rw [List.length_cons, drunes_len s f, dAt_width]; omega
    · rfl
theorem dbad_eq (s : ByteArray) (pos : Nat) : dbad (dAt s pos) = rbad s pos := by
  rw [dAt_eq]
  unfold dbad rbad lone dLone
  generalize Utf8.decode s pos = y
  obtain ⟨c, l⟩ := y
  by_cases h : c = 65533 ∧ l = 1
  · obtain ⟨rfl, rfl⟩ := h; rfl
  · simp only [if_neg h]
    have h2 : (c == 65533 && l == 1) = false := by
      rw [Bool.eq_false_iff]; intro e; simp at e; exact h e
    rw [h2, Bool.or_false]
    congr 1
    · rw [decide_eq_decide]; omega
    · rw [Bool.eq_iff_iff]; simp; omega
theorem drunes_all (s : ByteArray) : ∀ (f pos : Nat), (drunes s f pos).all (fun r => !dbad r) = rclean s f pos
  | 0, _ => rfl
  | f + 1, pos => by
    simp only [drunes, rclean]
    split
    · rw [List.all_cons, drunes_all s f, dAt_width, dbad_eq]
    · rfl
theorem dbeg_eq (s : ByteArray) : rbeg s = if dbeg s then 0 else 11 := by
  unfold rbeg dbeg
  rw [drunes_len, drunes_all]
  by_cases h : 32 < rcnt s s.size 0
  · have h2 : ¬ rcnt s s.size 0 ≤ 32 := by omega
    simp [h, h2]
  · have h2 : rcnt s s.size 0 ≤ 32 := by omega
    simp only [h, h2, decide_false, decide_true, Bool.false_or, Bool.and_true]
    cases rclean s s.size 0 <;> rfl
theorem dkey_eq (s : ByteArray) : rkey s = if dkey s then 0 else 11 := by
  unfold rkey dkey
  by_cases h : s.toList = []
  · simp [h]
  · rw [if_neg h, dbeg_eq]
    have : (s.toList == []) = false := by simp [h]
    rw [this]; rfl
end Go.Proofs.YtmgiholmhhjpaaaDoor

namespace Go.Proofs.YtmgiholmhhjpaaaDoor
open Go.RowKit
set_option linter.unusedVariables false
set_option linter.unusedSimpArgs false
set_option maxRecDepth 20000
attribute [local go_sem ↓] Go.wp_at_zero Go.wp_at_succ
attribute [local go_sem] World.cell?_alloc_some frozen_alloc_some

def cgreat (y x : ByteArray) : Bool := decide (200 < y.size) || decide (2000 < x.size)
theorem great_any (k c q : Int) (y x : ByteArray) (r : Int) (w : World) :
    Calls Tryd.prog 38 #[.agg #[.int .i64 k, .int .i64 c, .int .i64 q, .string y, .string x, .int .i64 r]] w (Gives w (.bool (cgreat y x))) := by
  obtain ⟨R, hR⟩ : ∃ R, R = cgreat y x := ⟨_, rfl⟩
  rw [← hR]
  unfold cgreat at hR
  have HR := Lib.hid hR
  clear hR
  by_cases h1 : 200 < y.size
  · have h1' : (200 : Int) < (y.size : Int) := by omega
    go_enter Tryd.func38, Tryd.ntmps38
    go_wp2_with fail
    go_ret
    exact ⟨by rw [HR.out]; simp [h1], by ((repeat' first | with_reducible exact Below.refl _ _ | with_reducible assumption | with_reducible refine Below.alloc ?_ ?_ _ | with_reducible refine Below.setCell ?_ ?_ _ | with_reducible apply Below.drew | with_reducible apply below_drewN | with_reducible refine below_call ?_ (by with_reducible assumption) ?_) <;> (first | omega | (simp; done) | (simp; omega) | (simp at *; omega)))⟩
  · have h1' : ¬ (200 : Int) < (y.size : Int) := by omega
    by_cases h2 : 2000 < x.size
    · have h2' : (2000 : Int) < (x.size : Int) := by omega
      go_enter Tryd.func38, Tryd.ntmps38
      go_wp2_with fail
      go_ret
      exact ⟨by rw [HR.out]; simp [h1, h2], by ((repeat' first | with_reducible exact Below.refl _ _ | with_reducible assumption | with_reducible refine Below.alloc ?_ ?_ _ | with_reducible refine Below.setCell ?_ ?_ _ | with_reducible apply Below.drew | with_reducible apply below_drewN | with_reducible refine below_call ?_ (by with_reducible assumption) ?_) <;> (first | omega | (simp; done) | (simp; omega) | (simp at *; omega)))⟩
    · have h2' : ¬ (2000 : Int) < (x.size : Int) := by omega
      go_enter Tryd.func38, Tryd.ntmps38
      go_wp2_with fail
      go_ret
      exact ⟨by rw [HR.out]; simp [h1, h2], by ((repeat' first | with_reducible exact Below.refl _ _ | with_reducible assumption | with_reducible refine Below.alloc ?_ ?_ _ | with_reducible refine Below.setCell ?_ ?_ _ | with_reducible apply Below.drew | with_reducible apply below_drewN | with_reducible refine below_call ?_ (by with_reducible assumption) ?_) <;> (first | omega | (simp; done) | (simp; omega) | (simp at *; omega)))⟩
end Go.Proofs.YtmgiholmhhjpaaaDoor



namespace Go.Proofs.YtmgiholmhhjpaaaDoor
open Go.RowKit
set_option linter.unusedVariables false
set_option linter.unusedSimpArgs false
set_option maxRecDepth 20000
attribute [local go_sem ↓] Go.wp_at_zero Go.wp_at_succ
attribute [local go_sem] World.cell?_alloc_some frozen_alloc_some
attribute [local go_sem] lt2 lt3 lt4 lt5
attribute [local simp] lt2 lt3 lt4 lt5

/-- All but the block B lies as it lay. -/
structure But (B : Nat) (w w' : World) : Prop where
  below : Below B w w'
  rest : ∀ g, g < w.heap.size → g ≠ B → w'.heap[g]? = w.heap[g]?
theorem But.refl (B : Nat) (w : World) : But B w w := ⟨Below.refl _ _, fun _ _ _ => rfl⟩
theorem But.of {B : Nat} {w w' : World} (h : Below w.heap.size w w') (hB : B ≤ w.heap.size) : But B w w' := ⟨h.mono hB, fun g hg _ => h.block g hg⟩
theorem But.trans {B : Nat} {a b c : World} (h : But B a b) (h' : But B b c) : But B a c :=
  ⟨h.below.trans h'.below, fun g hg hn => by have := h.below.size; rw [h'.rest g (by omega) hn, h.rest g hg hn]⟩
theorem But.blk {B : Nat} {w w' : World} (h : But B w w') {g : Nat} {t : TypeId} {cs : Array Value} (hb : Blk w g t cs) (hg : g ≠ B) : Blk w' g t cs := (h.rest g hb.lt hg).trans hb
theorem But.hin {B : Nat} {w w' : World} (h : But B w w') {S : Nat → Prop} {t : Tree} {v : Value} (hv : HoldsIn w S t v) (hS : ¬ S B) : HoldsIn w' S t v := hv.keep fun b hb hl => h.rest b hl fun e => hS (e ▸ hb)
theorem But.set {B : Nat} {w w' : World} (h : But B w w') (i : Nat) (u : Value) (hB : B ≤ w.heap.size) : But B w (w'.setCell ⟨B, i, none⟩ u) :=
  ⟨h.below.setCell (Nat.le_refl _) _, fun g hg hn => by
    rw [Below.heap_setCell w' ⟨B, i, none⟩ u g hn]; exact h.rest g hg hn⟩
theorem But.new {B : Nat} {w w' : World} (h : But B w w') {p : Addr} (hp : w.heap.size ≤ p.block) (hB : B ≤ w.heap.size) (u : Value) : But B w (w'.setCell p u) :=
  ⟨h.below.setCell (by omega) _, fun g hg hn => by rw [Below.heap_setCell w' p u g (by omega)]; exact h.rest g hg hn⟩
theorem But.alloc {B : Nat} {w w' : World} (h : But B w w') (hB : B ≤ w.heap.size) (o : Obj) : But B w (w'.alloc o) := h.trans (But.of (below_one o) (by have := h.below.size; omega))
/-- The parts that are left, and whether each was one. -/
def PT (B : Nat) (gd : Bool) (l : List Tree) (w : World) : Prop := ∃ A m c, Blk w B 103 #[.slice A m c, .bool gd] ∧ HoldsIn w (fun b => b < B) (ltree l) (listV A m c)
theorem PT.under {B : Nat} {gd : Bool} {l : List Tree} {w w' : World} (h : PT B gd l w) (hb : Below w.heap.size w w') : PT B gd l w' := by
  obtain ⟨A, m, c, h1, h2⟩ := h
  exact ⟨A, m, c, h1.keep hb, h2.under hb⟩
theorem hin_cons {w : World} {S : Nat → Prop} {t : Tree} {l : List Tree} {A : Option Addr} {m c : Nat} (h : HoldsIn w S (ltree (t :: l)) (listV A m c)) :
    ∃ b o m' c' k n s A2 m2 c2, A = some ⟨b, o, none⟩ ∧ m = m' + 1 ∧ c = c' + 1 ∧ m' ≤ c' ∧ c' + 1 ≤ maxLen ∧ S b ∧ b < w.heap.size ∧ HoldsIn w S t (.agg #[.int .i64 k, .int .u64 n, .string s, .slice A2 m2 c2]) ∧
      w.cell? ⟨b, o, none⟩ = some (.int .i64 k) ∧ w.cell? ⟨b, o + 1, none⟩ = some (.int .u64 n) ∧ w.cell? ⟨b, o + 2, none⟩ = some (.string s) ∧ w.cell? ⟨b, o + 3, none⟩ = some (.slice A2 m2 c2) ∧
      ∀ A', (0 < m' → A' = some ⟨b, o + 4, none⟩) → HoldsIn w S (ltree l) (listV A' m' c') := by
  unfold ltree listV at h
  cases h with
  | mk k n s l A m c vs hk hn hs hm hmc hc hcell hsub =>
    simp only [List.length_cons] at hm
    obtain ⟨b, o, rfl, hb, hcl⟩ := hcell 0 (by omega)
    have h0 := hsub 0 t (by simp)
    obtain ⟨k0, n0, s0, A0, m0, c0, e0⟩ := h0.form
    rw [e0] at hcl h0
    have q0 := hcl 0 (.int .i64 k0) rfl
    have q1 := hcl 1 (.int .u64 n0) rfl
    have q2 := hcl 2 (.string s0) rfl
    have q3 := hcl 3 (.slice A0 m0 c0) rfl
    simp only [Nat.mul_zero, Nat.zero_add, Nat.add_zero] at q0 q1 q2 q3
    have hlt : b < w.heap.size := World.block_lt_of_cell? _ _ q0
    refine ⟨b, o, l.length, c - 1, k0, n0, s0, A0, m0, c0, rfl, hm, by omega, by omega, by omega, hb, hlt, h0, q0, q1, q2, q3, fun A' hA' => ?_⟩
    refine .mk 2 0 _ l A' l.length (c - 1) (fun i => vs (i + 1)) (by decide) (by decide) (by decide) rfl (by omega) (by omega) (fun i hi => ?_) fun i t' ht => hsub (i + 1) t' (by simpa using ht)
    obtain ⟨b', o', e', hb', hcl'⟩ := hcell (i + 1) (by omega)
    injection e' with e'
    injection e' with e1 e2
    subst e1 e2
    refine ⟨b, o + 4, hA' (by omega), hb', fun j u hu => ?_⟩
    have := hcl' j u hu
    rw [show o + 4 + (4 * i + j) = o + (4 * (i + 1) + j) by omega]; exact this
set_option maxHeartbeats 4000000 in
theorem next_cons (B : Nat) (gd : Bool) (t : Tree) (l : List Tree) (w : World) (h : PT B gd (t :: l) w) :
    Calls Tryd.prog 94 #[.pointer (some ⟨B, 0, none⟩)] w (fun e w' => ∃ v, e = .returned v ∧ HoldsIn w' (fun b => b < B) t v ∧ PT B gd l w' ∧ But B w w') := by
  obtain ⟨A, m, c, hB, hI⟩ := h
  obtain ⟨b, o, m', c', k, n, s, A2, m2, c2, rfl, rfl, rfl, hmc, hcm, hbB, hbw, hv, q0, q1, q2, q3, htl⟩ := hin_cons hI
  have hBlt := hB.lt
  have hbne : b ≠ B := by omega
  have Hv := Lib.hid hv
  have Htl := Lib.hid htl
  have HB := Lib.hid hB
  clear hI hv htl
  have b0 := hB.cell
  have f0 := hB.frozen
  obtain ⟨g, hg⟩ : ∃ g, g = w.heap.size := ⟨_, rfl⟩
  have hgB : B ≠ g := by omega
  have hgB1 : B ≠ g + 1 := by omega
  have m0 : ¬ ((m' : Int) + 1 = 0) := by omega
  clear hB
  have hc0 : (0 : Int) < (m' : Int) + 1 := by omega
  go_enter Tryd.func94, Tryd.ntmps94
  go_wp2_with fail
  · obtain rfl : c' = 0 := by assumption
    refine bodyPost_ret (v := .agg #[.int .i64 k, .int .u64 n, .string s, .slice A2 m2 c2]) (by simp [results, Tryd.results94, go_sem, *] <;> rfl) rfl ?_
    have hbut := (((But.refl B w).set 0 (.slice (some ⟨b, o, none⟩) m' 0) (by omega)).alloc (by omega) (.cells #[.int .i64 k, .int .u64 n, .string s, .slice A2 m2 c2] 56)).alloc (by omega) (.cells #[.int .i64 k, .int .u64 n, .string s, .slice A2 m2 c2] 56)
    have hblk : Blk (w.setCell ⟨B, 0, none⟩ (.slice (some ⟨b, o, none⟩) m' 0)) B 103 #[.slice (some ⟨b, o, none⟩) m' 0, .bool gd] := by
      have := HB.out.set_ 0 (.slice (some ⟨b, o, none⟩) m' 0)
      simpa using this
    exact ⟨_, rfl, hbut.hin Hv.out (by simp), ⟨_, m', 0, (hblk.alloc _).alloc _, hbut.hin (Htl.out _ (by intro h; first | rfl | omega)) (by simp)⟩, hbut⟩
  · refine bodyPost_ret (v := .agg #[.int .i64 k, .int .u64 n, .string s, .slice A2 m2 c2]) (by simp [results, Tryd.results94, go_sem, *] <;> rfl) rfl ?_
    have hbut := (((But.refl B w).set 0 (.slice (some ⟨b, o + 4, none⟩) m' c') (by omega)).alloc (by omega) (.cells #[.int .i64 k, .int .u64 n, .string s, .slice A2 m2 c2] 56)).alloc (by omega) (.cells #[.int .i64 k, .int .u64 n, .string s, .slice A2 m2 c2] 56)
    have hblk : Blk (w.setCell ⟨B, 0, none⟩ (.slice (some ⟨b, o + 4, none⟩) m' c')) B 103 #[.slice (some ⟨b, o + 4, none⟩) m' c', .bool gd] := by
      have := HB.out.set_ 0 (.slice (some ⟨b, o + 4, none⟩) m' c')
      simpa using this
    exact ⟨_, rfl, hbut.hin Hv.out (by simp), ⟨_, m', c', (hblk.alloc _).alloc _, hbut.hin (Htl.out _ (by intro h; first | rfl | omega)) (by simp)⟩, hbut⟩

/-- A number's tree, in memory. -/
theorem hin_ntree {w : World} {S : Nat → Prop} {a : Int} {v : Value} (h : HoldsIn w S (ntree a) v) : ∃ A c, v = .agg #[.int .i64 0, .int .u64 (u64n a : Int), .string ByteArray.empty, .slice A 0 c] := by
  unfold ntree at h
  cases h with
  | mk k n s l A m c vs hk hn hs hm hmc hc hcell hsub =>
    obtain rfl : m = 0 := hm
    exact ⟨A, c, rfl⟩
theorem i64_u64 {a : Int} (h0 : 0 ≤ a) (h1 : a ≤ 4611686018427387904) : (u64n a : Int) = a ∧ ¬ (4611686018427387904 : Int) < (u64n a : Int) := by
  rw [u64n_of h0 (by omega)]; omega
set_option maxHeartbeats 4000000 in
theorem number_cons (B : Nat) (a : Int) (l : List Tree) (w : World) (h0 : 0 ≤ a) (h1 : a ≤ 4611686018427387904) (h : PT B true (ntree a :: l) w) :
    Calls Tryd.prog 77 #[.pointer (some ⟨B, 0, none⟩)] w (fun e w' => e = .returned (.int .i64 a) ∧ PT B true l w' ∧ But B w w') := by
  have hBlt : B < w.heap.size := by obtain ⟨A, m, c, h1, h2⟩ := h; exact h1.lt
  have hnx := next_cons B true (ntree a) l w h
  obtain ⟨e1, e2⟩ := i64_u64 h0 h1
  have hwr : IntKind.i64.wrap a = a := IntWalk.i64_in _ (by omega)
  have hnum := fun W => num_any (u64n a) W
  unfold numV at hnum
  rw [e1] at hnum
  have hsm : ∀ (W : World) (A : Option Addr) (c : Nat), HoldsIn W (fun b => b < B) (ntree a) (.agg #[.int .i64 0, .int .u64 a, .string ByteArray.empty, .slice A 0 c]) → Calls Tryd.prog 95 #[.agg #[.int .i64 0, .int .u64 a, .string ByteArray.empty, .slice A 0 c], .agg #[.int .i64 0, .int .u64 a, .string ByteArray.empty, .slice none 0 0]] W (Gives W (.bool true)) := fun W A c hv => by
    have := codecsame_any (ntree a) (ntree a) _ _ W hv.holds (by have := (hin_num W (fun b => b < B) (u64n_lt a)).holds; unfold numV at this; rw [e1] at this; exact this)
    rw [tsame_self] at this; exact this
  have Hnx := Lib.hid hnx
  have Hsm := Lib.hid hsm
  clear hnx hsm h
  have hmin : ¬ (4611686018427387904 : Int) < a := by omega
  go_enter Tryd.func77, Tryd.ntmps77
  go_wp2_with fail
  refine Hnx.out.mono ?_
  rintro e w1 ⟨v, rfl, hv, hp, hb⟩
  obtain ⟨A1, c1, rfl⟩ := hin_ntree hv
  rw [e1] at hv ⊢
  have hz1 := hb.below.size
  obtain ⟨A, m, c, hB1, hI1⟩ := hp
  have hBl1 := hB1.lt
  have hgB : w1.heap.size ≠ B := by omega
  have X0 : Blk (w1.alloc (.cells #[.int .i64 0, .int .u64 a, .string ByteArray.empty, .slice A1 0 c1] 56)).drew w1.heap.size 56 #[.int .i64 0, .int .u64 a, .string ByteArray.empty, .slice A1 0 c1] := (Blk.new w1 _ _).drew
  have R0 : Blk (w1.alloc (.cells #[.int .i64 0, .int .u64 a, .string ByteArray.empty, .slice A1 0 c1] 56)).drew B 103 #[.slice A m c, .bool true] := (hB1.alloc _).drew
  have k0 : Below w1.heap.size w1 (w1.alloc (.cells #[.int .i64 0, .int .u64 a, .string ByteArray.empty, .slice A1 0 c1] 56)).drew := by ((repeat' first | with_reducible exact Below.refl _ _ | with_reducible assumption | with_reducible refine Below.alloc ?_ ?_ _ | with_reducible refine Below.setCell ?_ ?_ _ | with_reducible apply Below.drew | with_reducible apply below_drewN | with_reducible refine below_call ?_ (by with_reducible assumption) ?_) <;> (first | omega | (simp; done) | (simp; omega) | (simp at *; omega)))
  go_upto_region 2 with fail
  (refine wp_region_held_drew (S := (S11 B w1.heap.size #[.slice A m c, .bool true] #[.int .i64 0, .int .u64 a, .string ByteArray.empty, .slice A1 0 c1])) (by kernel_rfl) ?_ (fun hHeld => ?_); (· exact ⟨R0.cell, X0.cell⟩))
  (refine take_op (i := 0) (v := ?_) rfl (by kernel_rfl) (by kernel_rfl) (by kernel_rfl) (fun _ _ _ h => h) (by rfl) ?_ hHeld ?_; rotate_left; (· (intro wS hSw; (try dsimp only at hSw); go_simp; first | done | with_reducible rfl)); simp only [Act.put, List.setIfInBounds_toArray, List.set_cons_zero, List.set_cons_succ]); (refine take_op (i := 1) (v := ?_) rfl (by kernel_rfl) (by kernel_rfl) (by kernel_rfl) (fun _ _ _ h => h) (by rfl) ?_ hHeld ?_; rotate_left; (· (intro wS hSw; (try dsimp only at hSw); go_simp; first | done | with_reducible rfl)); simp only [Act.put, List.setIfInBounds_toArray, List.set_cons_zero, List.set_cons_succ]); (refine take_op (i := 2) (v := ?_) rfl (by kernel_rfl) (by kernel_rfl) (by kernel_rfl) (fun _ _ _ h => h) (by rfl) ?_ hHeld ?_; rotate_left; (· (intro wS hSw; (try dsimp only at hSw); go_simp; first | done | with_reducible rfl)); simp only [Act.put, List.setIfInBounds_toArray, List.set_cons_zero, List.set_cons_succ]); (refine take_op (i := 3) (v := ?_) rfl (by kernel_rfl) (by kernel_rfl) (by kernel_rfl) (fun _ _ _ h => h) (by rfl) ?_ hHeld ?_; rotate_left; (· (intro wS hSw; (try dsimp only at hSw); go_simp; first | done | with_reducible rfl)); simp only [Act.put, List.setIfInBounds_toArray, List.set_cons_zero, List.set_cons_succ]); (refine take_op (i := 4) (v := ?_) rfl (by kernel_rfl) (by kernel_rfl) (by kernel_rfl) (fun _ _ _ h => h) (by rfl) ?_ hHeld ?_; rotate_left; (· (intro wS hSw; (try dsimp only at hSw); go_simp; first | done | with_reducible rfl)); simp only [Act.put, List.setIfInBounds_toArray, List.set_cons_zero, List.set_cons_succ]); (refine take_op (i := 5) (v := ?_) rfl (by kernel_rfl) (by kernel_rfl) (by kernel_rfl) (fun _ _ _ h => h) (by rfl) ?_ hHeld ?_; rotate_left; (· (intro wS hSw; (try dsimp only at hSw); go_simp; first | done | with_reducible rfl)); simp only [Act.put, List.setIfInBounds_toArray, List.set_cons_zero, List.set_cons_succ]); (refine take_op (i := 6) (v := ?_) rfl (by kernel_rfl) (by kernel_rfl) (by kernel_rfl) (fun _ _ _ h => h) (by rfl) ?_ hHeld ?_; rotate_left; (· (intro wS hSw; (try dsimp only at hSw); go_simp; first | done | with_reducible rfl)); simp only [Act.put, List.setIfInBounds_toArray, List.set_cons_zero, List.set_cons_succ]); (refine take_op (i := 7) (v := ?_) rfl (by kernel_rfl) (by kernel_rfl) (by kernel_rfl) (fun _ _ _ h => h) (by rfl) ?_ hHeld ?_; rotate_left; (· (intro wS hSw; (try dsimp only at hSw); go_simp; first | done | with_reducible rfl)); simp only [Act.put, List.setIfInBounds_toArray, List.set_cons_zero, List.set_cons_succ]); (refine take_op (i := 8) (v := ?_) rfl (by kernel_rfl) (by kernel_rfl) (by kernel_rfl) (fun _ _ _ h => h) (by rfl) ?_ hHeld ?_; rotate_left; (· (intro wS hSw; (try dsimp only at hSw); go_simp; first | done | with_reducible rfl)); simp only [Act.put, List.setIfInBounds_toArray, List.set_cons_zero, List.set_cons_succ])
  revert X0 R0 k0
  generalize World.drew _ = w0
  intro X0 R0 k0
  (refine call_op (i := 9) rfl (by kernel_rfl) (by rfl) (fun K hK => ?_); go_simp; (go_at_call 68; (with_reducible refine (hnum _).mono ?_); rintro e w2 ⟨rfl, hb2⟩; have X2 := X0.keep hb2; have R2 := R0.keep hb2; have k2 := below_call k0 hb2 k0.size); refine hK.out _ _ ⟨R2.cell, X2.cell⟩ (fun hHeld2 => ?_); clear hK K hHeld; have hHeld := hHeld2; clear hHeld2; (try simp only [Act.put, List.setIfInBounds_toArray, List.set_cons_zero, List.set_cons_succ]))
  (refine call_op (i := 10) rfl (by kernel_rfl) (by rfl) (fun K hK => ?_); go_simp; (go_at_call 95; (with_reducible refine (Hsm.out _ _ _ (hv.under k2)).mono ?_); rintro e w3 ⟨rfl, hb3⟩; have X3 := X2.keep hb3; have R3 := R2.keep hb3; have k3 := below_call k2 hb3 k2.size; have R3c := R3.cell; have R3f := R3.frozen); refine hK.out _ _ ⟨R3.cell, X3.cell⟩ (fun hHeld2 => ?_); clear hK K hHeld; have hHeld := hHeld2; clear hHeld2; (try simp only [Act.put, List.setIfInBounds_toArray, List.set_cons_zero, List.set_cons_succ]))
  (refine take_op (i := 11) (v := ?_) rfl (by kernel_rfl) (by kernel_rfl) (by kernel_rfl) (fun _ _ _ h => h) (by rfl) ?_ hHeld ?_; rotate_left; (· (intro wS hSw; (try dsimp only at hSw); go_simp; first | done | with_reducible rfl)); simp only [Act.put, List.setIfInBounds_toArray, List.set_cons_zero, List.set_cons_succ]); (refine take_op (i := 12) (v := ?_) rfl (by kernel_rfl) (by kernel_rfl) (by kernel_rfl) (fun _ _ _ h => h) (by rfl) ?_ hHeld ?_; rotate_left; (· (intro wS hSw; (try dsimp only at hSw); go_simp; first | done | with_reducible rfl)); simp only [Act.put, List.setIfInBounds_toArray, List.set_cons_zero, List.set_cons_succ]); (refine take_op (i := 13) (v := ?_) rfl (by kernel_rfl) (by kernel_rfl) (by kernel_rfl) (fun _ _ _ h => h) (by rfl) ?_ hHeld ?_; rotate_left; (· (intro wS hSw; (try dsimp only at hSw); go_simp; first | done | with_reducible rfl)); simp only [Act.put, List.setIfInBounds_toArray, List.set_cons_zero, List.set_cons_succ])
  have R4 : Blk (w3.setCell ⟨B, 1, none⟩ (.bool true)) B 103 #[.slice A m c, .bool true] := by
    have := R3.set_ 1 (.bool true)
    simpa using this
  have X4 : Blk (w3.setCell ⟨B, 1, none⟩ (.bool true)) w1.heap.size 56 #[.int .i64 0, .int .u64 a, .string ByteArray.empty, .slice A1 0 c1] := X3.far (p := ⟨B, 1, none⟩) hgB _
  (refine call_op (i := 14) rfl (by kernel_rfl) (by rfl) (fun K hK => ?_); go_simp; skip; refine hK.out _ _ ⟨R4.cell, X4.cell⟩ (fun hHeld2 => ?_); clear hK K hHeld; have hHeld := hHeld2; clear hHeld2; (try simp only [Act.put, List.setIfInBounds_toArray, List.set_cons_zero, List.set_cons_succ]))
  (refine wpAnyH_done (by kernel_rfl) ?_ _)
  have but := (hb.trans (But.of k3 (by omega))).set 1 (.bool true) (by omega)
  have hI4 : HoldsIn (w3.setCell ⟨B, 1, none⟩ (.bool true)) (fun b => b < B) (ltree l) (listV A m c) := (hI1.under k3).set (p := ⟨B, 1, none⟩) (by simp) _
  have X4c := X4.cell
  clear R3c R3f hHeld hnum e1 e2
  go_wp2_with fail
  go_ret
  exact ⟨rfl, ⟨A, m, c, R4, hI4⟩, but⟩
end Go.Proofs.YtmgiholmhhjpaaaDoor
