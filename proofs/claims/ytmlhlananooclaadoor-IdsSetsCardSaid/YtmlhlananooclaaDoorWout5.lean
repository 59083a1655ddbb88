/- The document's set without an id. -/
import Derived.Test.YtmlhlananooclaaDoorRef05S
import Derived.Test.YtmlhlananooclaaDoorIdDel
import Derived.WalkKit
import Derived.WalkSpells
import Derived.WalkLawsBesides
import Derived.Deep.RegionHeld3
import Derived.Deep.DrawnRows
import Derived.Deep.DeepCutAuto
import Derived.Deep.DeepFit
import Derived.Lib.Hide
import Derived.BigQuiet
import Derived.Deep.QuietTactic
namespace Go.Proofs.YtmlhlananooclaaDoor
open Go.RowKit
set_option linter.unusedVariables false
set_option linter.unusedSimpArgs false
set_option maxRecDepth 20000
attribute [local go_sem ↓] Go.wp_at_zero Go.wp_at_succ
attribute [local go_sem] World.cell?_alloc_some frozen_alloc_some
open Go.Sort Go.Lib

section
attribute [local go_sem ↓ high] id_neq_run id_eql_run
set_option maxHeartbeats 4000000 in
theorem without5_any (A : Option Addr) (m c : Nat) (l : List IdP) (x1 x2 : Int) (w : World) (h1 : IdsAt w A m l) (hm : m ≤ 1000000) :
    Calls Tryd.prog 24 #[.slice A m c, .agg #[.int .i64 x1, .int .i64 x2]] w
      fun e w' => ∃ A' k c', e = .returned (.slice A' k c') ∧ IdsAt w' A' k (fl (x1, x2) l) ∧ Below w.heap.size w w' := by
  have H1 := Lib.hid h1
  have Hm := Lib.hid h1.1
  have hwf : ∀ z ∈ fl (x1, x2) l, (Lit.int .i64 z.1).wf = true ∧ (Lit.int .i64 z.2).wf = true := fun z hz => h1.wf z (fl_sub hz)
  have Hwf := Lib.hid hwf
  clear h1 hwf
  go_enter Tryd.func24, Tryd.ntmps24
  go_wp2_with fail
  go_loopw [5, 6] (fun s5 s6 wr => ∃ (i k c' : Nat) (A' : Option Addr), i ≤ m ∧ s6 = .int .i64 i ∧ s5 = .slice A' k c' ∧ k ≤ i ∧ wr.ownsRow (w.heap.size + 1) 24 2 (.slice A' k c') k (flat2 (fl (x1, x2) (l.take i))) ∧ Below (w.heap.size + 1) (w.alloc (.cells #[.int .i64 x1, .int .i64 x2] 24)) wr) (fun s5 s6 _ => m - (intOf s6).toNat)
  case atStart => exact ⟨0, 0, 0, none, by omega, rfl, rfl, by omega, by simp [fl, flat2]; exact World.ownsRow_nil _ _ _ _, Below.refl _ _⟩
  case round =>
    obtain ⟨i, k, c', A', hi, rfl, rfl, hkm, hown, hb0⟩ := hrel
    have hbr := below_w hb0
    have hzr := hb0.size
    simp only [World.size_alloc] at hzr
    have t0 : wr.cell? ⟨w.heap.size, 0, none⟩ = some (.int .i64 x1) := (hb0.cell (p := ⟨w.heap.size, 0, none⟩) (by simp)).trans (new_cell w #[.int .i64 x1, .int .i64 x2] 24 0 rfl).1
    have t1 : wr.cell? ⟨w.heap.size, 1, none⟩ = some (.int .i64 x2) := (hb0.cell (p := ⟨w.heap.size, 1, none⟩) (by simp)).trans (new_cell w #[.int .i64 x1, .int .i64 x2] 24 1 rfl).1
    by_cases hlt : i < m
    · obtain ⟨r, n, b, o, e1, _, _, rfl, pw0, pw1⟩ := H1.out.at_ hlt
      have E1 := Lib.hid e1
      have p0 := cell_keep hbr pw0
      have p1 := cell_keep hbr pw1
      have i0 : (0 : Int) ≤ (i : Int) := by omega
      have i1 : (i : Int) < (m : Int) := by omega
      have hst := fl_step (x := (x1, x2)) e1
      clear e1
      have hpre : S4 ⟨w.heap.size, 0, none⟩ ⟨w.heap.size, 1, none⟩ ⟨b, o + i * 2, none⟩ ⟨b, o + i * 2 + 1, none⟩ (.int .i64 x1) (.int .i64 x2) (.int .i64 r) (.int .i64 n) wr := ⟨t0, t1, p0, p1⟩
      by_cases hq : r = x1 ∧ n = x2
      · obtain ⟨rfl, rfl⟩ := hq
        rw [if_pos rfl, List.append_nil] at hst
        have Hst := Lib.hid hst
        clear hst t0 t1 p0 p1 pw0 pw1
        go_upto_region 5 with fail
        (refine wp_region_held_drew (S := (S4 ⟨w.heap.size, 0, none⟩ ⟨w.heap.size, 1, none⟩ ⟨b, o + i * 2, none⟩ ⟨b, o + i * 2 + 1, none⟩ (.int .i64 r) (.int .i64 n) (.int .i64 r) (.int .i64 n))) (by kernel_rfl) ?_ (fun hHeld => ?_); (· exact hpre.drew))
        (refine take_op (i := 0) (v := ?_) rfl (by kernel_rfl) (by kernel_rfl) (by kernel_rfl) (fun _ _ _ h => h) (by rfl) ?_ hHeld ?_; rotate_left; (· (intro wS hSw; (try dsimp only at hSw); go_simp; first | done | with_reducible rfl)); simp only [Act.put, List.setIfInBounds_toArray, List.set_cons_zero, List.set_cons_succ]); (refine take_op (i := 1) (v := ?_) rfl (by kernel_rfl) (by kernel_rfl) (by kernel_rfl) (fun _ _ _ h => h) (by rfl) ?_ hHeld ?_; rotate_left; (· (intro wS hSw; (try dsimp only at hSw); go_simp; first | done | with_reducible rfl)); simp only [Act.put, List.setIfInBounds_toArray, List.set_cons_zero, List.set_cons_succ]); (refine take_op (i := 2) (v := ?_) rfl (by kernel_rfl) (by kernel_rfl) (by kernel_rfl) (fun _ _ _ h => h) (by rfl) ?_ hHeld ?_; rotate_left; (· (intro wS hSw; (try dsimp only at hSw); go_simp; first | done | with_reducible rfl)); simp only [Act.put, List.setIfInBounds_toArray, List.set_cons_zero, List.set_cons_succ]); (refine take_op (i := 3) (v := ?_) rfl (by kernel_rfl) (by kernel_rfl) (by kernel_rfl) (fun _ _ _ h => h) (by rfl) ?_ hHeld ?_; rotate_left; (· (intro wS hSw; (try dsimp only at hSw); go_simp; first | done | with_reducible rfl)); simp only [Act.put, List.setIfInBounds_toArray, List.set_cons_zero, List.set_cons_succ]); (refine take_op (i := 4) (v := ?_) rfl (by kernel_rfl) (by kernel_rfl) (by kernel_rfl) (fun _ _ _ h => h) (by rfl) ?_ hHeld ?_; rotate_left; (· (intro wS hSw; (try dsimp only at hSw); go_simp; first | done | with_reducible rfl)); simp only [Act.put, List.setIfInBounds_toArray, List.set_cons_zero, List.set_cons_succ]); (refine take_op (i := 5) (v := ?_) rfl (by kernel_rfl) (by kernel_rfl) (by kernel_rfl) (fun _ _ _ h => h) (by rfl) ?_ hHeld ?_; rotate_left; (· (intro wS hSw; (try dsimp only at hSw); go_simp; first | done | with_reducible rfl)); simp only [Act.put, List.setIfInBounds_toArray, List.set_cons_zero, List.set_cons_succ])
        (refine wpAnyH_done (by kernel_rfl) ?_ _)
        replace hown := own_keep hown ((Below.refl _ _).drew)
        replace hb0 := hb0.drew
        clear hpre hHeld
        generalize wr.drew = wd at hown hb0 ⊢
        go_wp2_with fail
        go_roundw
        case rel => exact ⟨i + 1, k, c', A', by omega, by go_num, rfl, by omega, by rw [Hst.out]; exact hown, hb0⟩
        case measure => simp [intOf]; omega
      · rw [if_neg (fun e => hq (by injection e with e1 e2; exact ⟨e1, e2⟩))] at hst
        have Hst := Lib.hid hst
        have hneq : (r == x1 && n == x2) = false := by simpa using hq
        clear hst t0 t1
        go_upto_region 5 with fail
        (refine wp_region_held_drew (S := (S4 ⟨w.heap.size, 0, none⟩ ⟨w.heap.size, 1, none⟩ ⟨b, o + i * 2, none⟩ ⟨b, o + i * 2 + 1, none⟩ (.int .i64 x1) (.int .i64 x2) (.int .i64 r) (.int .i64 n))) (by kernel_rfl) ?_ (fun hHeld => ?_); (· exact hpre.drew))
        (refine take_op (i := 0) (v := ?_) rfl (by kernel_rfl) (by kernel_rfl) (by kernel_rfl) (fun _ _ _ h => h) (by rfl) ?_ hHeld ?_; rotate_left; (· (intro wS hSw; (try dsimp only at hSw); go_simp; first | done | with_reducible rfl)); simp only [Act.put, List.setIfInBounds_toArray, List.set_cons_zero, List.set_cons_succ]); (refine take_op (i := 1) (v := ?_) rfl (by kernel_rfl) (by kernel_rfl) (by kernel_rfl) (fun _ _ _ h => h) (by rfl) ?_ hHeld ?_; rotate_left; (· (intro wS hSw; (try dsimp only at hSw); go_simp; first | done | with_reducible rfl)); simp only [Act.put, List.setIfInBounds_toArray, List.set_cons_zero, List.set_cons_succ]); (refine take_op (i := 2) (v := ?_) rfl (by kernel_rfl) (by kernel_rfl) (by kernel_rfl) (fun _ _ _ h => h) (by rfl) ?_ hHeld ?_; rotate_left; (· (intro wS hSw; (try dsimp only at hSw); go_simp; first | done | with_reducible rfl)); simp only [Act.put, List.setIfInBounds_toArray, List.set_cons_zero, List.set_cons_succ]); (refine take_op (i := 3) (v := ?_) rfl (by kernel_rfl) (by kernel_rfl) (by kernel_rfl) (fun _ _ _ h => h) (by rfl) ?_ hHeld ?_; rotate_left; (· (intro wS hSw; (try dsimp only at hSw); go_simp; first | done | with_reducible rfl)); simp only [Act.put, List.setIfInBounds_toArray, List.set_cons_zero, List.set_cons_succ]); (refine take_op (i := 4) (v := ?_) rfl (by kernel_rfl) (by kernel_rfl) (by kernel_rfl) (fun _ _ _ h => h) (by rfl) ?_ hHeld ?_; rotate_left; (· (intro wS hSw; (try dsimp only at hSw); go_simp; first | done | with_reducible rfl)); simp only [Act.put, List.setIfInBounds_toArray, List.set_cons_zero, List.set_cons_succ])
        (refine take_op (i := 5) (v := .bool true) rfl (by kernel_rfl) (by kernel_rfl) (by kernel_rfl) (fun _ _ _ h => h) (by rfl) ?_ hHeld ?_; (· (intro wS hSw; clear hSw; go_simp)); simp only [Act.put, List.setIfInBounds_toArray, List.set_cons_zero, List.set_cons_succ])
        (refine wpAnyH_done (by kernel_rfl) ?_ _)
        replace hown := own_keep hown ((Below.refl _ _).drew)
        replace hb0 := hb0.drew
        rw [show wr.heap.size = wr.drew.heap.size from rfl] at hzr
        obtain ⟨t0, t1, q0, q1⟩ := hHeld
        clear hpre p0 p1 hneq hq
        generalize wr.drew = wd at t0 t1 q0 q1 hown hb0 hzr ⊢
        go_wp2_with (at_builtin; obtain ⟨i0, hi0, hz00, hz01, hz02⟩ := idinfo; (at_builtin; go_loud (refine wpList_app _ rfl (.tmp 19) (.tmp 24) 22 rfl _ 24 i0 _ 2 16 Tryd.underlying22 hi0 hz00 hz01 hz02 rfl (by omega) _ _ _ rfl (hown.alloc _) _ _ _ _ rfl src_two' ?h63 ?hby ?hbase ?_); (case h63 => (unfold maxLen; first | omega | (simp; done) | (simp; omega))); (case hby => first | omega | (simp; done) | (simp; omega)); (case hbase => first | omega | (simp; done) | (simp; omega)); intro v_w3' w3' hownw3' hgroww3' hatw3' holdw3'); clear hi0 hz00 hz01 hz02; have hb3 := below_app ((hb0).alloc (by omega) (.cells #[_, _] 24)) (hown.alloc _) hgroww3' (Nat.le_refl _) (by simp; omega); have hown3 : w3'.ownsRow (w.heap.size + 1) 24 2 v_w3' (k + 1) (flat2 ((fl (x1, x2) (l.take i) ++ [(r, n)]))) := (by rw [flat2_append]; exact hownw3'); obtain ⟨A5, c5, rfl, _, _⟩ := own_form5 hown3; have hz3 := hb3.size; simp only [World.size_alloc] at hz3; skip)
        go_roundw
        case rel => exact ⟨i + 1, k + 1, c5, A5, by omega, by go_num, rfl, by omega, by rw [Hst.out]; exact hown3, hb3⟩
        case measure => simp [intOf]; omega
    · have hil : i = l.length := by have := Hm.out; omega
      have ni : ¬ (i : Int) < (m : Int) := by omega
      rw [hil, List.take_length] at hown
      have Hown := Lib.hid hown
      clear hown
      go_wp2_with fail
      go_ret
      obtain ⟨r1, _, _⟩ := ids_of_own Hown.out (by unfold maxLen; omega) Hwf.out
      exact ⟨A', k, ⟨c', rfl⟩, r1, hbr⟩
end
end Go.Proofs.YtmlhlananooclaaDoor
