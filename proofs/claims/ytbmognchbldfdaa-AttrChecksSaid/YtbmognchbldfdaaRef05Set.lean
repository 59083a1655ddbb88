/- The document's Set and Join of ids. -/
import Derived.Test.YtbmognchbldfdaaRef05S
import Derived.WalkKit
import Derived.WalkSpells
import Derived.WalkLawsBesides
import Derived.Deep.RegionHeld3
import Derived.Deep.DrawnRows
import Derived.Deep.DeepCutAuto
import Derived.Deep.DeepFit
import Derived.Lib.Hide
import Derived.BigQuiet
import Derived.Deep.QuietTactic
namespace Go.Proofs.Ytbmognchbldfdaa
open Go.RowKit
set_option linter.unusedVariables false
set_option linter.unusedSimpArgs false
set_option maxRecDepth 20000
attribute [local go_sem ↓] Go.wp_at_zero Go.wp_at_succ
attribute [local go_sem] World.cell?_alloc_some frozen_alloc_some
open Go.Sort Go.Lib

theorem take_fold {l : List IdP} {i : Nat} {y : IdP} (hy : l[i]? = some y) : idSet (l.take (i + 1)) = setStep (idSet (l.take i)) y := by
  unfold idSet
  rw [List.take_add_one, hy, List.foldl_append]
  rfl
theorem idSet_take_len {l : List IdP} {i : Nat} : (idSet (l.take i)).length ≤ i := by
  have := length_idSet (l.take i)
  rw [List.length_take] at this
  omega
set_option maxHeartbeats 4000000 in
theorem set5_fresh (A : Option Addr) (m c : Nat) (l : List IdP) (w : World) (h1 : IdsAt w A m l) (hm : m ≤ 1000000) :
    Calls Try.prog 35 #[.slice A m c] w
      fun e w' => ∃ A' c', e = .returned (.slice A' (idSet l).length c') ∧ IdsAt w' A' (idSet l).length (idSet l) ∧ Fresh w.heap.size A' ∧ Below w.heap.size w w' := by
  have H1 := Lib.hid h1
  have Hm := Lib.hid h1.1
  have hh := fun A' m' c' l' r n W (h : IdsAt W A' m' l') => has5_any A' m' c' l' r n W h
  have ha := fun A' m' c' l' r n W (h : IdsAt W A' m' l') h2 h3 h4 => add5_fresh A' m' c' l' r n W h h2 h3 h4
  have HH := Lib.hid hh
  have HA := Lib.hid ha
  clear h1 hh ha
  go_enter Try.func35, Try.ntmps35
  go_wp2_with fail
  go_loopw [3, 4] (fun s3 s4 wr => ∃ (i k c' : Nat) (A' : Option Addr), i ≤ m ∧ s4 = .int .i64 i ∧ s3 = .slice A' k c' ∧ k = (idSet (l.take i)).length ∧ IdsAt wr A' k (idSet (l.take i)) ∧ Fresh w.heap.size A' ∧ Below w.heap.size w wr) (fun s3 s4 _ => m - (intOf s4).toNat)
  case atStart => exact ⟨0, 0, 0, none, by omega, rfl, rfl, rfl, IdsAt.nil, fun ad h => (by cases h), by ((repeat' first | with_reducible exact Below.refl _ _ | with_reducible assumption | with_reducible refine Below.alloc ?_ ?_ _ | with_reducible refine Below.setCell ?_ ?_ _ | with_reducible apply Below.drew | with_reducible apply below_drewN | with_reducible refine below_call ?_ (by with_reducible assumption) ?_) <;> (first | omega | (simp; done) | (simp; omega) | (simp at *; omega)))⟩
  case round =>
    obtain ⟨i, k, c', A', hi, rfl, rfl, hk, hI, hF, hbr⟩ := hrel
    have F0 := Lib.hid hF
    clear hF
    have hzr := hbr.size
    have hkm : k ≤ i := by rw [hk]; exact idSet_take_len
    have Hk := Lib.hid hk
    have I0 := Lib.hid hI
    clear hk hI
    by_cases hlt : i < m
    · obtain ⟨r, n, b, o, e1, wr1, wn1, rfl, pw0, pw1⟩ := H1.out.at_ hlt
      have E1 := Lib.hid e1
      have p0 := cell_keep hbr pw0
      have p1 := cell_keep hbr pw1
      have i0 : (0 : Int) ≤ (i : Int) := by omega
      have i1 : (i : Int) < (m : Int) := by omega
      have Hf := Lib.hid (take_fold e1)
      clear e1
      by_cases hx : (r, n) ∈ idSet (l.take i)
      · have Hf2 := Lib.hid (show idSet (l.take (i + 1)) = idSet (l.take i) from by rw [Hf.out, setStep, if_pos hx])
        have h5 := fun W (hb : Below wr.heap.size wr W) => HH.out A' k c' _ r n W (I0.out.keep hb)
        rw [decide_eq_true hx] at h5
        clear hx
        go_wp2_with (go_at_call 45; (with_reducible refine (h5 _ (by ((repeat' first | with_reducible exact Below.refl _ _ | with_reducible assumption | with_reducible refine Below.alloc ?_ ?_ _ | with_reducible refine Below.setCell ?_ ?_ _ | with_reducible apply Below.drew | with_reducible apply below_drewN | with_reducible refine below_call ?_ (by with_reducible assumption) ?_) <;> (first | omega | (simp; done) | (simp; omega) | (simp at *; omega))))).mono ?_); rintro e w1 ⟨rfl, hb1⟩; have hz1 := hb1.size; (try simp at hz1))
        go_roundw
        case rel => exact ⟨i + 1, k, c', A', by omega, by go_num, rfl, by rw [Hf2.out]; exact Hk.out, by rw [Hf2.out]; exact I0.out.keep (by ((repeat' first | with_reducible exact Below.refl _ _ | with_reducible assumption | with_reducible refine Below.alloc ?_ ?_ _ | with_reducible refine Below.setCell ?_ ?_ _ | with_reducible apply Below.drew | with_reducible apply below_drewN | with_reducible refine below_call ?_ (by with_reducible assumption) ?_) <;> (first | omega | (simp; done) | (simp; omega) | (simp at *; omega)))), F0.out, by ((repeat' first | with_reducible exact Below.refl _ _ | with_reducible assumption | with_reducible refine Below.alloc ?_ ?_ _ | with_reducible refine Below.setCell ?_ ?_ _ | with_reducible apply Below.drew | with_reducible apply below_drewN | with_reducible refine below_call ?_ (by with_reducible assumption) ?_) <;> (first | omega | (simp; done) | (simp; omega) | (simp at *; omega)))⟩
        case measure => simp [intOf]; omega
      · have Hf2 := Lib.hid (show idSet (l.take (i + 1)) = ins (r, n) (idSet (l.take i)) from by rw [Hf.out, setStep, if_neg hx])
        have h5 := fun W (hb : Below wr.heap.size wr W) => HH.out A' k c' _ r n W (I0.out.keep hb)
        have h6 := fun W (hb : Below wr.heap.size wr W) => HA.out A' k c' _ r n W (I0.out.keep hb) (by omega) wr1 wn1
        rw [decide_eq_false hx] at h5
        clear hx
        go_wp2_with (first | (go_at_call 45; (with_reducible refine (h5 _ (by ((repeat' first | with_reducible exact Below.refl _ _ | with_reducible assumption | with_reducible refine Below.alloc ?_ ?_ _ | with_reducible refine Below.setCell ?_ ?_ _ | with_reducible apply Below.drew | with_reducible apply below_drewN | with_reducible refine below_call ?_ (by with_reducible assumption) ?_) <;> (first | omega | (simp; done) | (simp; omega) | (simp at *; omega))))).mono ?_); rintro e w1 ⟨rfl, hb1⟩; have hz1 := hb1.size; (try simp at hz1); have q0 := cell_keep hb1 p0; have q1 := cell_keep hb1 p1) | (go_at_call 46; (with_reducible refine (h6 _ (by ((repeat' first | with_reducible exact Below.refl _ _ | with_reducible assumption | with_reducible refine Below.alloc ?_ ?_ _ | with_reducible refine Below.setCell ?_ ?_ _ | with_reducible apply Below.drew | with_reducible apply below_drewN | with_reducible refine below_call ?_ (by with_reducible assumption) ?_) <;> (first | omega | (simp; done) | (simp; omega) | (simp at *; omega))))).mono ?_); rintro e w2 ⟨A4, c4, rfl, hI2, hF2, hb2⟩; have I2 := Lib.hid hI2; have F2 := Lib.hid hF2; clear hI2 hF2; have hz2 := hb2.size; (try simp at hz2)))
        go_roundw
        case rel => exact ⟨i + 1, k + 1, c4, A4, by omega, by go_num, rfl, by rw [Hf2.out, length_ins, Hk.out], by rw [Hf2.out]; exact I2.out, F2.out.mono (by omega), by ((repeat' first | with_reducible exact Below.refl _ _ | with_reducible assumption | with_reducible refine Below.alloc ?_ ?_ _ | with_reducible refine Below.setCell ?_ ?_ _ | with_reducible apply Below.drew | with_reducible apply below_drewN | with_reducible refine below_call ?_ (by with_reducible assumption) ?_) <;> (first | omega | (simp; done) | (simp; omega) | (simp at *; omega)))⟩
        case measure => simp [intOf]; omega
    · have ni : ¬ (i : Int) < (m : Int) := by omega
      have hall : l.take i = l := List.take_of_length_le (by have := Hm.out; omega)
      have Hall := Lib.hid hall
      clear hall
      go_wp2_with fail
      go_ret
      have h := I0.out
      have hk2 := Hk.out
      rw [Hall.out] at h hk2
      subst hk2
      exact ⟨A', ⟨c', rfl⟩, h, F0.out, hbr⟩
theorem set5_any (A : Option Addr) (m c : Nat) (l : List IdP) (w : World) (h1 : IdsAt w A m l) (hm : m ≤ 1000000) :
    Calls Try.prog 35 #[.slice A m c] w
      fun e w' => ∃ A' c', e = .returned (.slice A' (idSet l).length c') ∧ IdsAt w' A' (idSet l).length (idSet l) ∧ Below w.heap.size w w' :=
  (set5_fresh A m c l w h1 hm).mono fun e w' ⟨A', c', he, hI, _, hb⟩ => ⟨A', c', he, hI, hb⟩
set_option maxHeartbeats 1000000 in
theorem join5_fresh (A A2 : Option Addr) (m c m2 c2 : Nat) (l l2 : List IdP) (w : World) (h1 : IdsAt w A m l) (h2 : IdsAt w A2 m2 l2) (hm : m + m2 ≤ 1000000) :
    Calls Try.prog 25 #[.slice A m c, .slice A2 m2 c2] w
      fun e w' => ∃ A' c', e = .returned (.slice A' (idSet (l ++ l2)).length c') ∧ IdsAt w' A' (idSet (l ++ l2)).length (idSet (l ++ l2)) ∧ Fresh w.heap.size A' ∧ Below w.heap.size w w' := by
  have hwf : ∀ x ∈ l ++ l2, (Lit.int .i64 x.1).wf = true ∧ (Lit.int .i64 x.2).wf = true := fun x hx => by
    rcases List.mem_append.1 hx with hx | hx
    · exact h1.wf x hx
    · exact h2.wf x hx
  have Hwf := Lib.hid hwf
  have hs := fun A3 c3 W h3 => set5_fresh A3 (m + m2) c3 (l ++ l2) W h3 hm
  have Hs := Lib.hid hs
  have hk : Below w.heap.size w (w.alloc (.cells #[] 47)) := (Below.refl _ _).alloc (Nat.le_refl _) _
  have hown : (w.alloc (.cells #[] 47)).ownsRow w.heap.size 47 2 (.slice (some ⟨w.heap.size, 0, none⟩) 0 0) 0 (flat2 []) := World.ownsRow_made w #[] 0 (Nat.le_refl _) (Nat.zero_le _) (by simp)
  have hs1 := (h1.keep hk).src
  have S2 := Lib.hid h2.src
  clear hs h1 h2 hwf
  obtain ⟨i0, hi0, hz00, hz01, hz02⟩ := idinfo
  go_enter Try.func25, Try.ntmps25
  go_wp2_with (first | ((at_builtin; go_loud (refine wpList_app _ rfl (.tmp 5) (.tmp 6) 25 rfl _ 47 i0 _ 2 16 Try.underlying25 hi0 hz00 hz01 hz02 rfl (by omega) _ _ _ rfl hown _ _ _ _ rfl hs1 ?h63 ?hby ?hbase ?_); (case h63 => (unfold maxLen; first | omega | (simp; done) | (simp; omega))); (case hby => first | omega | (simp; done) | (simp; omega)); (case hbase => first | omega | (simp; done) | (simp; omega)); intro v2 w2 hownw2 hgroww2 hatw2 holdw2); have hb2 := below_app hk hown hgroww2 (Nat.le_refl _) (by simp); have hs2 := S2.out.keep2 hb2; have hown2 : w2.ownsRow w.heap.size 47 2 v2 m (flat2 l) := (by simpa [flat2] using hownw2); have hz2 := hb2.size) | ((at_builtin; go_loud (refine wpList_app _ rfl (.tmp 7) (.tmp 8) 25 rfl _ 47 i0 _ 2 16 Try.underlying25 hi0 hz00 hz01 hz02 rfl (by omega) _ _ _ rfl hown2 _ _ _ _ rfl hs2 ?h63 ?hby ?hbase ?_); (case h63 => (unfold maxLen; first | omega | (simp; done) | (simp; omega))); (case hby => first | omega | (simp; done) | (simp; omega)); (case hbase => first | omega | (simp; done) | (simp; omega)); intro v3 w3 hownw3 hgroww3 hatw3 holdw3); have hb3 := below_app hb2 hown2 hgroww3 (Nat.le_refl _) (by omega); have hown3 : w3.ownsRow w.heap.size 47 2 v3 (m + m2) (flat2 (l ++ l2)) := (by rw [flat2_append]; exact hownw3); obtain ⟨A3, c3, rfl, _, _⟩ := own_form5 hown3; obtain ⟨r1, _, _⟩ := ids_of_own hown3 (by unfold maxLen; omega) Hwf.out; have I3 := Lib.hid r1; clear r1; have hz3 := hb3.size) | (go_at_call 35; (with_reducible refine (Hs.out _ _ _ I3.out).mono ?_); rintro e w4 ⟨A4, c4, rfl, hI4, hF4, hb4⟩; have I4 := Lib.hid hI4; have F4 := Lib.hid hF4; clear hI4 hF4))
  go_ret
  exact ⟨A4, c4, rfl, I4.out, F4.out.mono (by omega), by ((repeat' first | with_reducible exact Below.refl _ _ | with_reducible assumption | with_reducible refine Below.alloc ?_ ?_ _ | with_reducible refine Below.setCell ?_ ?_ _ | with_reducible apply Below.drew | with_reducible apply below_drewN | with_reducible refine below_call ?_ (by with_reducible assumption) ?_) <;> (first | omega | (simp; done) | (simp; omega) | (simp at *; omega)))⟩
theorem join5_any (A A2 : Option Addr) (m c m2 c2 : Nat) (l l2 : List IdP) (w : World) (h1 : IdsAt w A m l) (h2 : IdsAt w A2 m2 l2) (hm : m + m2 ≤ 1000000) :
    Calls Try.prog 25 #[.slice A m c, .slice A2 m2 c2] w
      fun e w' => ∃ A' c', e = .returned (.slice A' (idSet (l ++ l2)).length c') ∧ IdsAt w' A' (idSet (l ++ l2)).length (idSet (l ++ l2)) ∧ Below w.heap.size w w' :=
  (join5_fresh A A2 m c m2 c2 l l2 w h1 h2 hm).mono fun e w' ⟨A', c', he, hI, _, hb⟩ => ⟨A', c', he, hI, hb⟩
end Go.Proofs.Ytbmognchbldfdaa
