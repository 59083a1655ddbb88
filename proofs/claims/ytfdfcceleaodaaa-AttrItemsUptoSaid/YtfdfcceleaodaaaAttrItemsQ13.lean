/- The walks of the document's numbers (package stonecropref01: digits, Put, Take), and of the example of package stonecroplaw01. The walks of package stonecropref03 on items: Size. The walks of package stonecropref03 on items: check. The walks of package stonecropref03 on items: Form. The walk of stonecropref03.Form: a list, and any item that is right. The walks of package stonecropref03 on items: Form of any item that is right, Put, Same. -/
import Derived.Test.YtfdfcceleaodaaaAttrItemsQ11
import Derived.Test.YtfdfcceleaodaaaAttrItemsQ3
import Derived.ChangeKeysEq
namespace Go.Proofs.Ytfdfcceleaodaaa
open Go.RowKit
set_option linter.unusedVariables false
set_option linter.unusedSimpArgs false
set_option maxRecDepth 20000
attribute [local go_sem ↓] Go.wp_at_zero Go.wp_at_succ
attribute [local go_sem] World.cell?_alloc_some frozen_alloc_some
attribute [local go_sem] lt2 lt3 lt4 lt5
attribute [local simp] lt2 lt3 lt4 lt5

/-- A literal row of bytes is of the call's own. -/
theorem OwnB.lit {w : World} {base : Nat} {e : TypeId} {l : List Nat} (hb : base ≤ w.heap.size) (hm : l.length ≤ maxLen) (hl : ∀ c ∈ l, c < 256) :
    OwnB (w.alloc (.cells (u8s l).toArray e)) base e (.slice (some ⟨w.heap.size, 0, none⟩) l.length l.length) l :=
  ⟨by simpa using World.ownsRow_lit (base := base) (e := e) (size := 1) w (u8s l).toArray l.length hb hm (by simp [u8s_length]), hl⟩

theorem wrap_u64 (n : Int) : IntKind.u64.wrap n = n % 18446744073709551616 := by simp [IntKind.wrap, IntKind.bits, IntKind.signed]
def gotV (l : List Nat) : Value := .agg #[.int .u64 ((ntake l).1 : Int), .int .i64 ((ntake l).2.1 : Int), .int .i64 ((ntake l).2.2 : Int)]
end Go.Proofs.Ytfdfcceleaodaaa

namespace Go.Proofs.Ytfdfcceleaodaaa
open Go.RowKit
set_option linter.unusedVariables false
set_option linter.unusedSimpArgs false
set_option maxRecDepth 20000
attribute [local go_sem ↓] Go.wp_at_zero Go.wp_at_succ
attribute [local go_sem] World.cell?_alloc_some frozen_alloc_some
attribute [local go_sem] lt2 lt3 lt4 lt5
attribute [local simp] lt2 lt3 lt4 lt5

set_option maxHeartbeats 2000000 in
theorem refsize_any (most : Nat) (hmost : most ≤ 1000000) (d : Nat) : ∀ (t : Tree) (v : Value) (w : World), Holds w t v → tsize t ≤ 1048576 → d ≤ 1000 →
    Calls Try.prog 4 #[v, .int .i64 (most : Int), .int .i64 (d : Int)] w (Gives w (.int .i64 (csize most d t : Int))) := by
  induction d with
  | zero =>
    intro t v w ht hz hd
    obtain ⟨k, n, s, l⟩ := t
    obtain ⟨A, m, c, rfl, _⟩ := ht.open_
    have hcs : csize most 0 (.mk k n s l) = most + 1 := by simp [csize]
    rw [hcs]
    clear hcs
    go_enter Try.func4, Try.ntmps4
    go_wp2_with fail
    go_ret
    exact ⟨ret_int (by omega), by ((repeat' first | with_reducible exact Below.refl _ _ | with_reducible assumption | with_reducible refine Below.alloc ?_ ?_ _ | with_reducible refine Below.setCell ?_ ?_ _ | with_reducible apply Below.drew | with_reducible apply below_drewN | with_reducible refine below_call ?_ (by with_reducible assumption) ?_) <;> (first | omega | (simp; done) | (simp; omega) | (simp at *; omega)))⟩
  | succ d ih =>
    intro t v w ht hz hd
    obtain ⟨k, n, s, l⟩ := t
    obtain ⟨A, m, c, rfl, hk, hn, hs, hm, hmc, hc, hel⟩ := ht.open_
    simp only [tsize] at hz
    have hcs : csize most (d + 1) (.mk k n s l) = csizes most d (1 + s.size) l := by simp [csize]
    rw [hcs]
    have Hm := Lib.hid hm
    have Ih := Lib.hid ih
    have Ht := Lib.hid ht
    clear hcs hm ih ht hel
    have hss : s.size ≤ 1048576 := by omega
    have hml : m ≤ 1048576 := by have := tsizes_len l; have := Hm.out; omega
    obtain ⟨D, hD⟩ : ∃ D, D = d + 1 := ⟨_, rfl⟩
    have hD1 : (D : Int) - 1 = (d : Int) := by omega
    have hD0 : ((D : Int) == 0) = false := by simp; omega
    rw [← hD]
    rw [← hD] at hd
    have hd1 : d ≤ 1000 := by omega
    clear hD
    go_enter Try.func4, Try.ntmps4
    go_wp2_with fail
    go_loopw [7, 8] (fun s7 s8 wr => ∃ k : Nat, k ≤ m ∧ s8 = .int .i64 k ∧ s7 = .int .i64 ((csizes most d (1 + s.size) (l.take k) : Nat) : Int) ∧ wr.cell? ⟨w.heap.size, 3, none⟩ = some (.slice A m c) ∧ Below w.heap.size w wr) (fun _ s8 _ => m - (intOf s8).toNat)
    case atStart => exact ⟨0, by omega, rfl, by simp [csizes], by simp [go_sem], by ((repeat' first | with_reducible exact Below.refl _ _ | with_reducible assumption | with_reducible refine Below.alloc ?_ ?_ _ | with_reducible refine Below.setCell ?_ ?_ _ | with_reducible apply Below.drew | with_reducible apply below_drewN | with_reducible refine below_call ?_ (by with_reducible assumption) ?_) <;> (first | omega | (simp; done) | (simp; omega) | (simp at *; omega)))⟩
    case round =>
      obtain ⟨k, hk, rfl, rfl, hbx, hbr⟩ := hrel
      have hzr := hbr.size
      have hacc := csizes_le most d (l.take k) (1 + s.size)
      have htk : tsizes (l.take k) ≤ tsizes l := by
        have := tsizes_append (l.take k) (l.drop k)
        rw [List.take_append_drop] at this
        omega
      have hle : csizes most d (1 + s.size) (l.take k) ≤ 1100000000000 := by
        have h1 : (most + 2) * tsizes (l.take k) ≤ 1000002 * 1048576 := Nat.mul_le_mul (by omega) (by omega)
        omega
      clear hacc htk
      by_cases hlt : k < m
      · by_cases hst : csizes most d (1 + s.size) (l.take k) ≤ most
        · have hkl : k < l.length := by have := Hm.out; omega
          obtain ⟨ad, u, rfl, hu, h4⟩ := Ht.out.elem (List.getElem?_eq_getElem hkl)
          have hnx := csizes_take (List.getElem?_eq_getElem hkl) hst
          have hzt : tsize l[k] ≤ 1048576 := by
            have := tsizes_mem (List.getElem_mem hkl)
            omega
          have hcl := csize_le most d l[k]
          have hcl2 : csize most d l[k] ≤ 1100000000000 := by
            have h1 : (most + 2) * tsize l[k] ≤ 1000002 * 1048576 := Nat.mul_le_mul (by omega) (by omega)
            omega
          have hcall : ∀ W, Below wr.heap.size wr W → Calls Try.prog 4 #[u, .int .i64 (most : Int), .int .i64 (d : Int)] W (Gives W (.int .i64 (csize most d l[k] : Int))) := fun W h => Ih.out l[k] u W ((hu.keep hbr).keep h) hzt hd1
          obtain ⟨eb, eo, k', n', s', A', m', c', ha, rfl, q0, q1, q2, q3⟩ := h4.keep hbr
          have Hnx := Lib.hid hnx
          clear hnx hcl hzt hu
          generalize csizes most d (1 + s.size) (l.take k) = acc at *
          generalize csize most d l[k] = y at *
          have k0 : (0 : Int) ≤ (k : Int) := by omega
          have k1 : (k : Int) < (m : Int) := by omega
          go_wp2_with (go_at_call 4; (with_reducible refine (hcall _ ?hbel).mono ?_); (case hbel => ((repeat' first | with_reducible exact Below.refl _ _ | with_reducible assumption | with_reducible refine Below.alloc ?_ ?_ _ | with_reducible refine Below.setCell ?_ ?_ _ | with_reducible apply Below.drew | with_reducible apply below_drewN | with_reducible refine below_call ?_ (by with_reducible assumption) ?_) <;> (first | omega | (simp; done) | (simp; omega) | (simp at *; omega)))); rintro e w1 ⟨rfl, hbw1⟩; have hzw1 := hbw1.size; (try simp at hzw1))
          go_roundw
          case rel =>
            exact ⟨k + 1, by omega, by go_num, by rw [Hnx.out]; go_num, cell_keep (by assumption) hbx, by ((repeat' first | with_reducible exact Below.refl _ _ | with_reducible assumption | with_reducible refine Below.alloc ?_ ?_ _ | with_reducible refine Below.setCell ?_ ?_ _ | with_reducible apply Below.drew | with_reducible apply below_drewN | with_reducible refine below_call ?_ (by with_reducible assumption) ?_) <;> (first | omega | (simp; done) | (simp; omega) | (simp at *; omega)))⟩
          case measure => simp [intOf]; omega
        · have hfin := csizes_done (l := l) (d := d) (acc := 1 + s.size) (k := k) (most := most) (by omega)
          have Hfin := Lib.hid hfin
          clear hfin
          generalize csizes most d (1 + s.size) (l.take k) = acc at *
          go_wp2_with fail
          go_ret
          exact ⟨by rw [Hfin.out]; rfl, by ((repeat' first | with_reducible exact Below.refl _ _ | with_reducible assumption | with_reducible refine Below.alloc ?_ ?_ _ | with_reducible refine Below.setCell ?_ ?_ _ | with_reducible apply Below.drew | with_reducible apply below_drewN | with_reducible refine below_call ?_ (by with_reducible assumption) ?_) <;> (first | omega | (simp; done) | (simp; omega) | (simp at *; omega)))⟩
      · have hall : l.take k = l := List.take_of_length_le (by have := Hm.out; omega)
        rw [hall] at hle ⊢
        clear hall
        by_cases hst : csizes most d (1 + s.size) l ≤ most
        all_goals
          generalize csizes most d (1 + s.size) l = acc at *
          go_wp2_with fail
          go_ret
          exact ⟨rfl, by ((repeat' first | with_reducible exact Below.refl _ _ | with_reducible assumption | with_reducible refine Below.alloc ?_ ?_ _ | with_reducible refine Below.setCell ?_ ?_ _ | with_reducible apply Below.drew | with_reducible apply below_drewN | with_reducible refine below_call ?_ (by with_reducible assumption) ?_) <;> (first | omega | (simp; done) | (simp; omega) | (simp at *; omega)))⟩
end Go.Proofs.Ytfdfcceleaodaaa

namespace Go.Proofs.Ytfdfcceleaodaaa
open Go.RowKit
set_option linter.unusedVariables false
set_option linter.unusedSimpArgs false
set_option maxRecDepth 20000
attribute [local go_sem ↓] Go.wp_at_zero Go.wp_at_succ
attribute [local go_sem] World.cell?_alloc_some frozen_alloc_some
attribute [local go_sem] lt2 lt3 lt4 lt5
attribute [local simp] lt2 lt3 lt4 lt5

theorem text_full {s : ByteArray} (h : s.size ≠ 0) : s.toList.isEmpty = false ∧ ¬ s.toList = [] := by
  have e : s.toList = s.data.toList := by simp [ByteArray.toList_eq]
  have : s.data.toList ≠ [] := fun h2 => h (by
    have h3 : s.data.size = 0 := by rw [← Array.length_toList, h2]; rfl
    exact h3)
  rw [e]
  exact ⟨by simpa using this, this⟩
end Go.Proofs.Ytfdfcceleaodaaa

namespace Go.Proofs.Ytfdfcceleaodaaa
open Go.RowKit
set_option linter.unusedVariables false
set_option linter.unusedSimpArgs false
set_option maxRecDepth 20000
attribute [local go_sem ↓] Go.wp_at_zero Go.wp_at_succ
attribute [local go_sem] World.cell?_alloc_some frozen_alloc_some
attribute [local go_sem] lt2 lt3 lt4 lt5
attribute [local simp] lt2 lt3 lt4 lt5

theorem OwnB.lower {w : World} {base base' : Nat} {e : TypeId} {v : Value} {l : List Nat} (h : OwnB w base e v l) (hb : base' ≤ base) : OwnB w base' e v l := by
  refine ⟨⟨h.1.1, ?_⟩, h.2⟩
  rcases h.1.2 with h1 | ⟨g, cap, cur, e1, h1, h2⟩
  · exact .inl h1
  · exact .inr ⟨g, cap, cur, e1, by omega, h2⟩
theorem own_lit {w : World} {o : Obj} {e : TypeId} {c : Nat} (hc : c < 256) :
    OwnB ((w.alloc o).alloc (.cells #[.int .u8 (c : Int)] e)) (w.heap.size + 1) e (.slice (some ⟨w.heap.size + 1, 0, none⟩) 1 1) [c] := by
  have h := OwnB.lit (w := w.alloc o) (base := w.heap.size + 1) (e := e) (l := [c]) (by simp) (by simp [maxLen]) (by simpa using hc)
  have e1 : (w.alloc o).heap.size = w.heap.size + 1 := by simp
  rw [e1] at h
  exact h
theorem below_lit {w : World} {o o2 : Obj} : Below (w.heap.size + 1) (w.alloc o) ((w.alloc o).alloc o2) := (Below.refl _ _).alloc (by simp) _
theorem below_box {w w' : World} {o : Obj} (h : Below (w.heap.size + 1) (w.alloc o) w') : Below w.heap.size w w' := (below_one o).trans (h.mono (by omega))
theorem box_cell {w w' : World} {c : Array Value} {t : TypeId} (h : Below (w.heap.size + 1) (w.alloc (.cells c t)) w') (i : Nat) {v : Value} (hv : c[i]? = some v) : w'.cell? ⟨w.heap.size, i, none⟩ = some v :=
  (h.cell (p := ⟨w.heap.size, i, none⟩) (Nat.lt_succ_self _)).trans (new_cell w c t i hv).1

end Go.Proofs.Ytfdfcceleaodaaa

namespace Go.Proofs.Ytfdfcceleaodaaa
open Go.RowKit
set_option linter.unusedVariables false
set_option linter.unusedSimpArgs false
set_option maxRecDepth 20000
attribute [local go_sem ↓] Go.wp_at_zero Go.wp_at_succ
attribute [local go_sem] World.cell?_alloc_some frozen_alloc_some
attribute [local go_sem] lt2 lt3 lt4 lt5
attribute [local simp] lt2 lt3 lt4 lt5

end Go.Proofs.Ytfdfcceleaodaaa

namespace Go.Proofs.Ytfdfcceleaodaaa
open Go.RowKit
set_option linter.unusedVariables false
set_option linter.unusedSimpArgs false
set_option maxRecDepth 20000
attribute [local go_sem ↓] Go.wp_at_zero Go.wp_at_succ
attribute [local go_sem] World.cell?_alloc_some frozen_alloc_some
attribute [local go_sem] lt2 lt3 lt4 lt5
attribute [local simp] lt2 lt3 lt4 lt5

theorem Holds.fit {w : World} {t : Tree} {v : Value} (h : Holds w t v) : Fit t := by
  induction h with
  | mk k n s l A m c vs hk hn hs hm hmc hc hcell hsub ih =>
    refine .mk k n s l hn (by unfold maxLen at hs; omega) (by unfold maxLen at hc; omega) fun t ht => ?_
    obtain ⟨i, hi, rfl⟩ := List.mem_iff_getElem.1 ht
    exact ih i _ (List.getElem?_eq_getElem hi)
theorem tsizes_le_take (l : List Tree) (j : Nat) : tsizes (l.take j) ≤ tsizes l := by
  conv => rhs; rw [← List.take_append_drop j l, tsizes_append]
  omega
theorem tforms_len (l : List Tree) (h : ∀ t ∈ l, Fit t) : (tforms l).length ≤ 10 * tsizes l := by
  induction l with
  | nil => simp [tforms]
  | cons t l ih =>
    have h1 := tform_len t (h t (List.mem_cons_self ..))
    have h2 := ih fun u hu => h u (List.mem_cons_of_mem _ hu)
    simp only [tforms, tsizes, List.length_append]
    omega
theorem checks_mem {l : List Tree} {d : Nat} (h : checks l d = 0) {t : Tree} (ht : t ∈ l) : check t d = 0 := checks_zero.1 h t ht

/-- The document's Put. -/
def putV (A : Option Addr) (n c : Nat) (e : Nat) : Value := .tuple #[.slice A n c, .int .i64 (e : Int)]
/-- The form of a tree and the error: what the document says. -/
def perr (t : Tree) : Nat := if check t 0 ≠ 0 then check t 0 else if 1048576 < (tform t).length then 12 else 0
def pform (t : Tree) : List Nat := if perr t = 0 then tform t else []
def Puts (w : World) (k : IntKind) (e : TypeId) (l : List Nat) (err : Nat) (r : Ending) (w' : World) : Prop :=
  ∃ v, r = .returned (.tuple #[v, .int k (err : Int)]) ∧ OwnB w' w.heap.size e v l ∧ Below w.heap.size w w'

end Go.Proofs.Ytfdfcceleaodaaa
