/- The law's own example of records. -/
import Derived.Test.YtpdlhcfepafjeaaLogRef
namespace Go.Proofs.Ytpdlhcfepafjeaa
open Go.RowKit
set_option linter.unusedVariables false
set_option linter.unusedSimpArgs false
set_option maxRecDepth 20000
attribute [local go_sem ↓] Go.wp_at_zero Go.wp_at_succ
attribute [local go_sem] World.cell?_alloc_some frozen_alloc_some
open Go.Sort Go.Lib Go.Shelf

theorem OwnB.spot {w : World} {base : Nat} {e : TypeId} {A : Option Addr} {n c : Nat} {l : List Nat} (h : OwnB w base e (.slice A n c) l) : ∀ ad, A = some ad → ad.spot = none := fun ad e => by
  subst e
  rcases h.1.2 with ⟨e, _⟩ | ⟨g, cap, cur, e, _⟩
  · cases e
  · cases e; rfl
theorem frm_nil : (frm []).length = 5 ∧ (frm [])[0]? = some 0 := ⟨by rw [frm_length]; simp [size], by simp [frm, form]⟩

set_option maxHeartbeats 2000000 in
theorem awake13 (w : World) : Calls Try.prog 14 #[] w (Gives w (.bool true)) := by
  obtain ⟨hL, hL0⟩ := frm_nil
  have hf : ∀ W, Calls Try.prog 52 #[.slice none 0 0] W (fun e w' => ∃ v, e = .returned (.tuple #[v, .int .i64 0]) ∧ OwnB w' W.heap.size 5 v (frm []) ∧ Below W.heap.size W w') := fun W => form_any none 0 0 [] W Bytes.none_ (by omega)
  have hr : ∀ W, Calls Try.prog 53 #[.slice none 0 0] W (Makes W 5 (frm [])) := fun W => refform_any none 0 0 [] W Bytes.none_ (by omega)
  have hs : ∀ W A c, Bytes W A 5 (frm []) → 5 ≤ c → Calls Try.prog 15 #[.slice A 5 c] W (fun e w' => ∃ v, e = .returned (.tuple #[v, .int .i64 5]) ∧ OwnRows w' W.heap.size v [[]] ∧ Below W.heap.size W w') := fun W A c hb hc => by
    have h := scan_any A 5 c (frm []) W hb (by omega) hc
    obtain ⟨h1, h2⟩ := scan_frm [] (by simp)
    rw [h1, h2, hL] at h
    exact h
  have same : ∀ (W : World) (A B : Option Addr) (n m c d : Nat) (l : List Nat), Bytes W A n l → Bytes W B m l → Calls Try.prog 37 #[.slice A n c, .slice B m d] W (Gives W (.bool true)) := fun W A B n m c d l ha hb => by
    have := same_any A B n m c d l l W ha hb
    rw [decide_eq_true rfl] at this
    exact this
  generalize frm [] = L at *
  have HL := Lib.hid hL
  have HL0 := Lib.hid hL0
  clear hL hL0
  go_enter Try.func14, Try.ntmps14
  go_wp2_with (first
    | (go_at_call 52; refine (hf _).mono ?_; rintro e w1 ⟨v1, rfl, hown1, hb1⟩; obtain ⟨A1, c1, hv1, hle1, _⟩ := hown1.form; rw [HL.out] at hv1 hle1; subst hv1; have y1 := hown1.bytes.2.2; have z1 := hown1.spot; obtain ⟨ad, x, rfl, hx, hx2, hxc⟩ := y1.at_ (k := 0) (by omega); rw [HL0.out] at hx; injection hx with hx; subst hx; obtain ⟨g0, o0, sp0⟩ := ad; obtain rfl : sp0 = none := z1 _ rfl; simp only [Addr.add, if_pos] at hxc; have hz1 := hb1.size; have Y1 := Lib.hid y1; clear y1 z1 hown1)
    | (go_at_call 15; refine (hs _ _ _ Y1.out hle1).mono ?_; rintro e w2 ⟨v2, rfl, hrow2, hb2⟩; obtain ⟨A2, c2, rfl⟩ : ∃ A2 c2, v2 = .slice A2 1 c2 := (by
        obtain ⟨vs, hr2, _⟩ := hrow2
        rcases hr2.2 with ⟨rfl, e⟩ | ⟨g, cap, cur, rfl, _⟩
        · cases e
        · exact ⟨_, _, rfl⟩); have hz2 := hb2.size; have hxc2 := cell_keep hb2 hxc; clear hrow2)
    | (go_at_call 53; refine (hr _).mono ?_; rintro e w3 ⟨v3, rfl, hown3, hb3⟩; obtain ⟨A3, c3, rfl, _, _⟩ := hown3.form; have y3 := hown3.bytes.2.2; have hz3 := hb3.size)
    | (go_at_call 37; refine (same _ _ _ _ _ _ _ _ (Y1.out.keep (by ((repeat' first | with_reducible exact Below.refl _ _ | with_reducible assumption | with_reducible refine Below.alloc ?_ ?_ _ | with_reducible refine Below.setCell ?_ ?_ _ | with_reducible apply Below.drew | with_reducible apply below_drewN | with_reducible refine below_call ?_ (by with_reducible assumption) ?_) <;> (first | omega | (simp; done) | (simp; omega) | (simp at *; omega))))) y3).mono ?_; rintro e w4 ⟨rfl, hb4⟩; have hz4 := hb4.size))
  all_goals go_ret
  all_goals exact ⟨by simp, by ((repeat' first | with_reducible exact Below.refl _ _ | with_reducible assumption | with_reducible refine Below.alloc ?_ ?_ _ | with_reducible refine Below.setCell ?_ ?_ _ | with_reducible apply Below.drew | with_reducible apply below_drewN | with_reducible refine below_call ?_ (by with_reducible assumption) ?_) <;> (first | omega | (simp; done) | (simp; omega) | (simp at *; omega)))⟩
end Go.Proofs.Ytpdlhcfepafjeaa
