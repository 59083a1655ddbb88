/- log.Form. -/
import Derived.Test.YtpdlhcfepafjeaaLogB
import Derived.Test.YtpdlhcfepafjeaaNumMath
namespace Go.Proofs.Ytpdlhcfepafjeaa
open Go.RowKit
set_option linter.unusedVariables false
set_option linter.unusedSimpArgs false
set_option maxRecDepth 20000
attribute [local go_sem ↓] Go.wp_at_zero Go.wp_at_succ
attribute [local go_sem] World.cell?_alloc_some frozen_alloc_some
open Go.Sort Go.Lib Go.Shelf

theorem put_new (v : Nat) (w : World) (hv : v < 2 ^ 64) : Calls Try.prog 80 #[.slice none 0 0, .int .u64 (v : Int)] w (Makes w 5 (form v)) :=
  (put_any _ [] w.heap.size v w (OwnB.nil_ _ _ _) (Nat.le_refl _) (by simp) hv).mono fun e w' ⟨b', he, ho⟩ =>
    ⟨b', he, by simpa using ho.own, ⟨ho.grown.os, ho.grown.tape, ho.grown.output, ho.grown.size, fun k hk => ho.grown.block k hk (by simp [Value.ownBlock])⟩⟩
theorem form_le (v : Nat) (hv : v < 2 ^ 64) : (form v).length ≤ 9 := by
  rw [size_form]; have := wid_bound hv; unfold size; split <;> omega
theorem texts3 {w : World} {g : Nat} {B0 B1 B2 : Option Addr} {m0 c0 m1 c1 m2 c2 : Nat} {l0 l1 l2 : List Nat} (h0 : w.cell? ⟨g, 0, none⟩ = some (.slice B0 m0 c0)) (h1 : w.cell? ⟨g, 1, none⟩ = some (.slice B1 m1 c1)) (h2 : w.cell? ⟨g, 2, none⟩ = some (.slice B2 m2 c2))
    (b0 : Bytes w B0 m0 l0) (b1 : Bytes w B1 m1 l1) (b2 : Bytes w B2 m2 l2) : Texts w (some ⟨g, 0, none⟩) 3 [l0, l1, l2] :=
  ⟨rfl, by decide, fun i l hi => by
    match i with
    | 0 => simp at hi; subst hi; exact ⟨_, _, _, _, rfl, by simpa [Addr.add] using h0, b0⟩
    | 1 => simp at hi; subst hi; exact ⟨_, _, _, _, rfl, by simpa [Addr.add] using h1, b1⟩
    | 2 => simp at hi; subst hi; exact ⟨_, _, _, _, rfl, by simpa [Addr.add] using h2, b2⟩
    | i + 3 => simp at hi⟩
theorem OwnB.low {w : World} {base base' : Nat} {e : TypeId} {v : Value} {l : List Nat} (h : OwnB w base e v l) (hb : base' ≤ base) : OwnB w base' e v l :=
  ⟨⟨h.1.1, h.1.2.imp id fun ⟨g, cap, cur, e1, e2, r⟩ => ⟨g, cap, cur, e1, Nat.le_trans hb e2, r⟩⟩, h.2⟩
theorem crc_lt (l : List Nat) : crc l < 4294967296 := Nat.lt_of_le_of_lt (Nat.sub_le _ _) (by decide)

set_option maxHeartbeats 1000000 in
theorem form_any (A : Option Addr) (n c : Nat) (l : List Nat) (w : World) (h : Bytes w A n l) (hn : n ≤ 1048576) :
    Calls Try.prog 52 #[.slice A n c] w (fun e w' => ∃ v, e = .returned (.tuple #[v, .int .i64 0]) ∧ OwnB w' w.heap.size 5 v (frm l) ∧ Below w.heap.size w w') := by
  have Hn := Lib.hid h.1
  have H := Lib.hid h
  have Hl := Lib.hid (form_le n (by omega))
  have Hput := Lib.hid (fun W => put_new n W (by omega))
  have hfl : frm l = form n ++ (fourB (crc (form n ++ l)) ++ l) := by rw [frm, ← h.1]
  have Hfl := Lib.hid hfl
  have hz := h.2.1
  clear hfl h
  generalize form n = fm at *
  go_enter Try.func52, Try.ntmps52
  go_wp2_with (first
    | (go_at_call 80; refine (Hput.out _).mono ?_; rintro e w1 ⟨v1, rfl, hown1, hb1⟩; obtain ⟨A1, c1, rfl, hle1, hc1⟩ := hown1.form; have O1 := Lib.hid hown1; clear hown1; have hz1 := hb1.size; clear hle1 hc1)
    | (go_at_call 83; refine (sum_any _ _ _ [fm, l] _ ?hs).mono ?_; (case hs => exact texts2 (new_cell _ _ _ 0 rfl).1 (new_cell _ _ _ 1 rfl).1 (O1.out.bytes.2.2.keep (below_one _)) ((H.out.keep hb1).keep (below_one _))); rintro e w2 ⟨rfl, hb2⟩; have hz2 := hb2.size)
    | (go_at_call 82; refine (four_any _ _ (crc_lt (fm ++ l))).mono ?_; rintro e w3 ⟨v3, rfl, hown3, hb3⟩; obtain ⟨A3, c3, rfl, _, _⟩ := hown3.form; have O3 := Lib.hid hown3; clear hown3; have hz3 := hb3.size)
    | (go_at_call 81; refine (concat_bytes _ _ _ [fm, fourB (crc (fm ++ l)), l] _ ?hs ?hl).mono ?_; (case hs => exact texts3 (new_cell _ _ _ 0 rfl).1 (new_cell _ _ _ 1 rfl).1 (new_cell _ _ _ 2 rfl).1 ((O1.out.bytes.2.2.keep (by ((repeat' first | with_reducible exact Below.refl _ _ | with_reducible assumption | with_reducible refine Below.alloc ?_ ?_ _ | with_reducible refine Below.setCell ?_ ?_ _ | with_reducible apply Below.drew | with_reducible apply below_drewN | with_reducible refine below_call ?_ (by with_reducible assumption) ?_) <;> (first | omega | (simp; done) | (simp; omega) | (simp at *; omega))))).keep (below_one _)) (O3.out.bytes.2.2.keep (below_one _)) ((H.out.keep (by ((repeat' first | with_reducible exact Below.refl _ _ | with_reducible assumption | with_reducible refine Below.alloc ?_ ?_ _ | with_reducible refine Below.setCell ?_ ?_ _ | with_reducible apply Below.drew | with_reducible apply below_drewN | with_reducible refine below_call ?_ (by with_reducible assumption) ?_) <;> (first | omega | (simp; done) | (simp; omega) | (simp at *; omega))))).keep (below_one _))); (case hl => (simp only [List.flatten_cons, List.flatten_nil, List.length_append, List.length_nil, fourB_length, ← Hn.out]; have := Hl.out; omega)); rintro e w4 ⟨v4, rfl, hown4, hb4⟩; have O4 := Lib.hid hown4; clear hown4; have hz4 := hb4.size))
  go_ret2
  refine ⟨v4, rfl, ?_, by ((repeat' first | with_reducible exact Below.refl _ _ | with_reducible assumption | with_reducible refine Below.alloc ?_ ?_ _ | with_reducible refine Below.setCell ?_ ?_ _ | with_reducible apply Below.drew | with_reducible apply below_drewN | with_reducible refine below_call ?_ (by with_reducible assumption) ?_) <;> (first | omega | (simp; done) | (simp; omega) | (simp at *; omega)))⟩
  have h4 := O4.out
  rw [Hfl.out]
  simp only [List.flatten_cons, List.flatten_nil, List.append_nil] at h4
  exact OwnB.low h4 (by simp at hz1 hz2 hz3 ⊢; omega)
end Go.Proofs.Ytpdlhcfepafjeaa
