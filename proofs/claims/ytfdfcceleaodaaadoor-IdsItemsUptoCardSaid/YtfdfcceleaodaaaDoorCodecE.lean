/- The walks of package stonecropref03 on items: Form of any item that is right, Put, Same. -/
import Derived.Test.YtfdfcceleaodaaaDoorCodecD
import Derived.Test.YtfdfcceleaodaaaDoorCodecB
namespace Go.Proofs.YtfdfcceleaodaaaDoor
open Go.RowKit
set_option linter.unusedVariables false
set_option linter.unusedSimpArgs false
set_option maxRecDepth 20000
attribute [local go_sem ↓] Go.wp_at_zero Go.wp_at_succ
attribute [local go_sem] World.cell?_alloc_some frozen_alloc_some
attribute [local go_sem] lt2 lt3 lt4 lt5
attribute [local simp] lt2 lt3 lt4 lt5

theorem Holds.fit {w : World} {t : Tree} {v : Value} (h : Holds w t v) : Fit t := by
  induction h with
  | mk k n s l A m c vs hk hn hs hm hmc hc hcell hsub ih =>
    refine .mk k n s l hn (by unfold maxLen at hs; omega) (by unfold maxLen at hc; omega) fun t ht => ?_
    obtain ⟨i, hi, rfl⟩ := List.mem_iff_getElem.1 ht
    exact ih i _ (List.getElem?_eq_getElem hi)
theorem tsizes_le_take (l : List Tree) (j : Nat) : tsizes (l.take j) ≤ tsizes l := by
  conv => rhs; rw [← List.take_append_drop j l, tsizes_append]
  omega
theorem tforms_len (l : List Tree) (h : ∀ t ∈ l, Fit t) : (tforms l).length ≤ 10 * tsizes l := by
  induction l with
  | nil => simp [tforms]
  | cons t l ih =>
    have h1 := tform_len t (h t (List.mem_cons_self ..))
    have h2 := ih fun u hu => h u (List.mem_cons_of_mem _ hu)
    simp only [tforms, tsizes, List.length_append]
    omega
theorem checks_mem {l : List Tree} {d : Nat} (h : checks l d = 0) {t : Tree} (ht : t ∈ l) : check t d = 0 := checks_zero.1 h t ht

theorem reform_any (t : Tree) : ∀ (d : Nat) (v : Value) (w : World), check t d = 0 → tsize t ≤ 10000000 → Holds w t v →
    Calls Tryd.prog 48 #[v] w (Makes w 5 (tform t)) := by
  refine Tree.ind (P := fun t => ∀ (d : Nat) (v : Value) (w : World), check t d = 0 → tsize t ≤ 10000000 → Holds w t v → Calls Tryd.prog 48 #[v] w (Makes w 5 (tform t))) ?_ t
  intro k n s l ih d v w hc hsz ht
  simp only [tsize] at hsz
  have hft := ht.fit.out.2.2.2
  simp only [check] at hc
  cases hb : bad k n s l with
  | true => rw [if_pos hb] at hc; cases hc
  | false =>
  rw [if_neg (by simp [hb])] at hc
  by_cases h16 : d = 16
  · rw [if_pos h16] at hc; cases hc
  rw [if_neg h16] at hc
  rcases bad_parts hb with ⟨rfl, rfl, rfl⟩ | ⟨rfl, rfl, rfl⟩ | ⟨rfl, rfl, rfl⟩
  · simpa [tform] using reform_num n v w ht
  · simpa [tform] using reform_text s v w ht (by omega)
  · have := reform_list l (by omega) (fun t hm v w hh => ih t hm (d + 1) v w (checks_mem hc hm) (by have := tsizes_mem hm; omega) hh)
      (fun j hj => by
        have h1 := tforms_len (l.take j) (fun t hm => hft t (List.mem_of_mem_take hm))
        have h2 := tsizes_le_take l j
        omega)
      (fun t hm => tform_bytes t (hft t hm)) v w ht
    simpa [tform] using this

/-- The document's Put. -/
def putV (A : Option Addr) (n c : Nat) (e : Nat) : Value := .tuple #[.slice A n c, .int .i64 (e : Int)]
/-- The form of a tree and the error: what the document says. -/
def perr (t : Tree) : Nat := if check t 0 ≠ 0 then check t 0 else if 1048576 < (tform t).length then 12 else 0
def pform (t : Tree) : List Nat := if perr t = 0 then tform t else []
def Puts (w : World) (k : IntKind) (e : TypeId) (l : List Nat) (err : Nat) (r : Ending) (w' : World) : Prop :=
  ∃ v, r = .returned (.tuple #[v, .int k (err : Int)]) ∧ OwnB w' w.heap.size e v l ∧ Below w.heap.size w w'

set_option maxHeartbeats 4000000 in
theorem refput3_any (t : Tree) (v : Value) (w : World) (hsz : tsize t ≤ 10000000) (ht : Holds w t v) :
    Calls Tryd.prog 20 #[v] w (Puts w .i64 5 (pform t) (perr t)) := by
  have hck : ∀ W, Below w.heap.size w W → Calls Tryd.prog 47 #[v, .int .i64 0] W (Gives W (.int .i64 (check t 0 : Int))) := fun W h => refcheck_any t 0 v W (ht.keep h) (by omega)
  obtain ⟨k, n, s, l⟩ := t
  have Ht := Lib.hid ht
  obtain ⟨A, m, c, rfl, hk, hn, hs, hm, hmc, hc, hel⟩ := ht.open_
  by_cases h0 : check (.mk k n s l) 0 = 0
  · have hfm : ∀ W, Below w.heap.size w W → Calls Tryd.prog 48 #[.agg #[.int .i64 k, .int .u64 (n : Int), .string s, .slice A m c]] W (Makes W 5 (tform (.mk k n s l))) := fun W h => reform_any _ 0 _ W h0 hsz (Ht.out.keep h)
    have hlen := tform_len _ Ht.out.fit
    have hpe : perr (.mk k n s l) = if 1048576 < (tform (.mk k n s l)).length then 12 else 0 := by simp [perr, h0]
    have hpf : pform (.mk k n s l) = if 1048576 < (tform (.mk k n s l)).length then [] else tform (.mk k n s l) := by
      unfold pform; rw [hpe]; by_cases hl : 1048576 < (tform (.mk k n s l)).length
      · simp [hl]
      · simp [hl]
    rw [hpe, hpf]
    rw [h0] at hck
    clear hel hpe hpf h0 hm Ht ht hsz
    generalize tform (.mk k n s l) = F at *
    by_cases hF : 1048576 < F.length
    · have hF' : (1048576 : Int) < (F.length : Int) := by omega
      rw [if_pos hF, if_pos hF]
      go_enter Tryd.func20, Tryd.ntmps20
      go_wp2_with (go_at_call 47; (((with_reducible refine (hck _ ?hbel).mono ?_); (case hbel => ((repeat' first | with_reducible exact Below.refl _ _ | with_reducible assumption | with_reducible refine Below.alloc ?_ ?_ _ | with_reducible refine Below.setCell ?_ ?_ _ | with_reducible apply Below.drew | with_reducible apply below_drewN | with_reducible refine below_call ?_ (by with_reducible assumption) ?_) <;> (first | omega | (simp; done) | (simp; omega) | (simp at *; omega)))); rintro e w1 ⟨rfl, hbw1⟩; have hzw1 := hbw1.size; (try simp at hzw1); (first | (obtain ⟨q0, r0⟩ := new_keep hbw1 0 rfl) | (obtain ⟨q0, r0⟩ := new_keep_drew hbw1 0 rfl) | skip); (try simp at q0); (try simp at r0); (first | (obtain ⟨q1, r1⟩ := new_keep hbw1 1 rfl) | (obtain ⟨q1, r1⟩ := new_keep_drew hbw1 1 rfl) | skip); (try simp at q1); (try simp at r1); (first | (obtain ⟨q2, r2⟩ := new_keep hbw1 2 rfl) | (obtain ⟨q2, r2⟩ := new_keep_drew hbw1 2 rfl) | skip); (try simp at q2); (try simp at r2); (first | (obtain ⟨q3, r3⟩ := new_keep hbw1 3 rfl) | (obtain ⟨q3, r3⟩ := new_keep_drew hbw1 3 rfl) | skip); (try simp at q3); (try simp at r3); (first | (have s0 := new_keep2 hbw1 0 rfl) | (have s0 := new_keep2_drew hbw1 0 rfl) | skip); (try simp at s0))))
      refine (hfm _ (by ((repeat' first | with_reducible exact Below.refl _ _ | with_reducible assumption | with_reducible refine Below.alloc ?_ ?_ _ | with_reducible refine Below.setCell ?_ ?_ _ | with_reducible apply Below.drew | with_reducible apply below_drewN | with_reducible refine below_call ?_ (by with_reducible assumption) ?_) <;> (first | omega | (simp; done) | (simp; omega) | (simp at *; omega))))).mono ?_
      rintro e w2 ⟨b, rfl, hown, hbw2⟩
      obtain ⟨A1, c1, rfl, _, _⟩ := hown.form
      go_wp2_with fail
      go_ret2
      exact ⟨_, rfl, OwnB.nil_ _ _ _, by ((repeat' first | with_reducible exact Below.refl _ _ | with_reducible assumption | with_reducible refine Below.alloc ?_ ?_ _ | with_reducible refine Below.setCell ?_ ?_ _ | with_reducible apply Below.drew | with_reducible apply below_drewN | with_reducible refine below_call ?_ (by with_reducible assumption) ?_) <;> (first | omega | (simp; done) | (simp; omega) | (simp at *; omega)))⟩
    · have hF' : ¬ (1048576 : Int) < (F.length : Int) := by omega
      rw [if_neg hF, if_neg hF]
      go_enter Tryd.func20, Tryd.ntmps20
      go_wp2_with (go_at_call 47; (((with_reducible refine (hck _ ?hbel).mono ?_); (case hbel => ((repeat' first | with_reducible exact Below.refl _ _ | with_reducible assumption | with_reducible refine Below.alloc ?_ ?_ _ | with_reducible refine Below.setCell ?_ ?_ _ | with_reducible apply Below.drew | with_reducible apply below_drewN | with_reducible refine below_call ?_ (by with_reducible assumption) ?_) <;> (first | omega | (simp; done) | (simp; omega) | (simp at *; omega)))); rintro e w1 ⟨rfl, hbw1⟩; have hzw1 := hbw1.size; (try simp at hzw1); (first | (obtain ⟨q0, r0⟩ := new_keep hbw1 0 rfl) | (obtain ⟨q0, r0⟩ := new_keep_drew hbw1 0 rfl) | skip); (try simp at q0); (try simp at r0); (first | (obtain ⟨q1, r1⟩ := new_keep hbw1 1 rfl) | (obtain ⟨q1, r1⟩ := new_keep_drew hbw1 1 rfl) | skip); (try simp at q1); (try simp at r1); (first | (obtain ⟨q2, r2⟩ := new_keep hbw1 2 rfl) | (obtain ⟨q2, r2⟩ := new_keep_drew hbw1 2 rfl) | skip); (try simp at q2); (try simp at r2); (first | (obtain ⟨q3, r3⟩ := new_keep hbw1 3 rfl) | (obtain ⟨q3, r3⟩ := new_keep_drew hbw1 3 rfl) | skip); (try simp at q3); (try simp at r3); (first | (have s0 := new_keep2 hbw1 0 rfl) | (have s0 := new_keep2_drew hbw1 0 rfl) | skip); (try simp at s0))))
      refine (hfm _ (by ((repeat' first | with_reducible exact Below.refl _ _ | with_reducible assumption | with_reducible refine Below.alloc ?_ ?_ _ | with_reducible refine Below.setCell ?_ ?_ _ | with_reducible apply Below.drew | with_reducible apply below_drewN | with_reducible refine below_call ?_ (by with_reducible assumption) ?_) <;> (first | omega | (simp; done) | (simp; omega) | (simp at *; omega))))).mono ?_
      rintro e w2 ⟨b, rfl, hown, hbw2⟩
      obtain ⟨A1, c1, rfl, _, _⟩ := hown.form
      go_wp2_with fail
      go_ret2
      refine ⟨_, rfl, hown.lower ?_, by ((repeat' first | with_reducible exact Below.refl _ _ | with_reducible assumption | with_reducible refine Below.alloc ?_ ?_ _ | with_reducible refine Below.setCell ?_ ?_ _ | with_reducible apply Below.drew | with_reducible apply below_drewN | with_reducible refine below_call ?_ (by with_reducible assumption) ?_) <;> (first | omega | (simp; done) | (simp; omega) | (simp at *; omega)))⟩
      omega
  · have hpe : perr (.mk k n s l) = check (.mk k n s l) 0 := by simp [perr, h0]
    have hpf : pform (.mk k n s l) = [] := by simp [pform, hpe, h0]
    rw [hpe, hpf]
    clear hel hpe hpf hm Ht ht hsz
    generalize check (.mk k n s l) 0 = E at *
    have hE : ((E : Int) != 0) = true := by simpa using h0
    go_enter Tryd.func20, Tryd.ntmps20
    go_wp2_with (go_at_call 47; (((with_reducible refine (hck _ ?hbel).mono ?_); (case hbel => ((repeat' first | with_reducible exact Below.refl _ _ | with_reducible assumption | with_reducible refine Below.alloc ?_ ?_ _ | with_reducible refine Below.setCell ?_ ?_ _ | with_reducible apply Below.drew | with_reducible apply below_drewN | with_reducible refine below_call ?_ (by with_reducible assumption) ?_) <;> (first | omega | (simp; done) | (simp; omega) | (simp at *; omega)))); rintro e w1 ⟨rfl, hbw1⟩; have hzw1 := hbw1.size; (try simp at hzw1); (first | (obtain ⟨q0, r0⟩ := new_keep hbw1 0 rfl) | (obtain ⟨q0, r0⟩ := new_keep_drew hbw1 0 rfl) | skip); (try simp at q0); (try simp at r0); (first | (obtain ⟨q1, r1⟩ := new_keep hbw1 1 rfl) | (obtain ⟨q1, r1⟩ := new_keep_drew hbw1 1 rfl) | skip); (try simp at q1); (try simp at r1); (first | (obtain ⟨q2, r2⟩ := new_keep hbw1 2 rfl) | (obtain ⟨q2, r2⟩ := new_keep_drew hbw1 2 rfl) | skip); (try simp at q2); (try simp at r2); (first | (obtain ⟨q3, r3⟩ := new_keep hbw1 3 rfl) | (obtain ⟨q3, r3⟩ := new_keep_drew hbw1 3 rfl) | skip); (try simp at q3); (try simp at r3); (first | (have s0 := new_keep2 hbw1 0 rfl) | (have s0 := new_keep2_drew hbw1 0 rfl) | skip); (try simp at s0))))
    go_ret2
    exact ⟨_, rfl, OwnB.nil_ _ _ _, by ((repeat' first | with_reducible exact Below.refl _ _ | with_reducible assumption | with_reducible refine Below.alloc ?_ ?_ _ | with_reducible refine Below.setCell ?_ ?_ _ | with_reducible apply Below.drew | with_reducible apply below_drewN | with_reducible refine below_call ?_ (by with_reducible assumption) ?_) <;> (first | omega | (simp; done) | (simp; omega) | (simp at *; omega)))⟩
end Go.Proofs.YtfdfcceleaodaaaDoor
