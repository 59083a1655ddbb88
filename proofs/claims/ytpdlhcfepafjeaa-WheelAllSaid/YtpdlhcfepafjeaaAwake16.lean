/- The document's example of timers: awake. -/
import Derived.Test.YtpdlhcfepafjeaaWhDue
import Derived.WalkKit
import Derived.WalkSpells
import Derived.WalkLawsBesides
import Derived.Deep.RegionHeld3
import Derived.Deep.DrawnRows
import Derived.Deep.DeepCutAuto
import Derived.Deep.DeepFit
import Derived.Lib.Hide
import Derived.BigQuiet
import Derived.Deep.QuietTactic
import Derived.Deep.RegionHeld3
namespace Go.Proofs.Ytpdlhcfepafjeaa
open Go.RowKit
set_option linter.unusedVariables false
set_option linter.unusedSimpArgs false
set_option maxRecDepth 20000
attribute [local go_sem ↓] Go.wp_at_zero Go.wp_at_succ
attribute [local go_sem] World.cell?_alloc_some frozen_alloc_some
attribute [local go_sem ↓ high] id_neq_run id_eql_run

abbrev SA3 (g : Nat) (cs : Array Value) (b o : Nat) (r n : Int) (wx : World) : Prop := (∀ i, wx.cell? ⟨g, i, none⟩ = cs[i]?) ∧ wx.cell? ⟨b, o, none⟩ = some (.int .i64 r) ∧ wx.cell? ⟨b, o + 1, none⟩ = some (.int .i64 n)
set_option maxHeartbeats 4000000 in
theorem awake16_any (w : World) : Calls Try.prog 17 #[] w (Gives w (.bool true)) := by
  have hnew := fun W => whnew_any W
  go_enter Try.func17, Try.ntmps17
  go_upto_region 3 with (go_at_call 18; (with_reducible refine (hnew _).mono ?_); rintro e w1 ⟨rfl, H, hb⟩)
  have hz1 := H.pb.lt
  replace H := H.keep (below_one (.cells #[.int .i64 0, .int .i64 1] 34))
  replace H := H.keep (below_one (.cells #[.int .i64 0, .int .i64 2] 34))
  have B2 : Blk ((w1.alloc (.cells #[.int .i64 0, .int .i64 1] 34)).alloc (.cells #[.int .i64 0, .int .i64 2] 34)) w1.heap.size 34 #[.int .i64 0, .int .i64 1] := (Blk.new _ _ _).alloc _
  have B3 : Blk ((w1.alloc (.cells #[.int .i64 0, .int .i64 1] 34)).alloc (.cells #[.int .i64 0, .int .i64 2] 34)) (w1.heap.size + 1) 34 #[.int .i64 0, .int .i64 2] := Blk.newAt (by simp)
  replace hb : Below w.heap.size w ((w1.alloc (.cells #[.int .i64 0, .int .i64 1] 34)).alloc (.cells #[.int .i64 0, .int .i64 2] 34)) := by ((repeat' first | with_reducible exact Below.refl _ _ | with_reducible assumption | with_reducible refine Below.alloc ?_ ?_ _ | with_reducible refine Below.setCell ?_ ?_ _ | with_reducible apply Below.drew | with_reducible apply below_drewN | with_reducible refine below_call ?_ (by with_reducible assumption) ?_) <;> (first | omega | (simp; done) | (simp; omega) | (simp at *; omega)))
  clear hnew
  revert H B2 B3 hb
  generalize hg2 : w1.heap.size = g2 at hz1
  generalize World.alloc (World.alloc w1 _) _ = w2
  intro H B2 B3 hb
  clear hg2
  have b2 := B2.cell
  have b3 := B3.cell
  go_upto_region 4 with (go_at_call 19; (with_reducible refine (whset_any _ _ _ _ ((0, 1), 5) _ H (by unfold maxLen; omega) ⟨rfl, rfl⟩ rfl).mono ?_); rintro e w' ⟨rfl, H2, hg⟩; have hc := H.cells hg; replace B2 := hc.blk B2; replace B3 := hc.blk B3; replace hb := below_turn hb hg (Nat.le_refl _) hb.size; clear H hc hg b2 b3; have H := H2; clear H2; have b2 := B2.cell; have b3 := B3.cell)
  rw [show setT [] (((0, 1), 5) : TimT) = [((0, 1), 5)] by decide] at H
  go_upto_region 5 with (go_at_call 19; (with_reducible refine (whset_any _ _ _ _ ((0, 2), 3) _ H (by unfold maxLen; omega) ⟨rfl, rfl⟩ rfl).mono ?_); rintro e w' ⟨rfl, H2, hg⟩; have hc := H.cells hg; replace B2 := hc.blk B2; replace B3 := hc.blk B3; replace hb := below_turn hb hg (Nat.le_refl _) hb.size; clear H hc hg b2 b3; have H := H2; clear H2; have b2 := B2.cell; have b3 := B3.cell)
  rw [show setT [((0, 1), 5)] (((0, 2), 3) : TimT) = [((0, 2), 3), ((0, 1), 5)] by decide] at H
  go_upto_region 6 with (go_at_call 21; (with_reducible refine (whdue_any _ _ _ _ 4 _ H (by decide) (by decide) (by decide)).mono ?_); rintro e w5 ⟨A, m, c, rfl, hI, H2, hg⟩; have hc := H.cells hg; replace B3 := hc.blk B3; replace hb := below_turn hb hg (Nat.le_refl _) hb.size; clear H hc hg b2 b3 B2)
  rw [show (([((0, 2), 3), ((0, 1), 5)] : List TimT).take (dueN [((0, 2), 3), ((0, 1), 5)] 4)).map (·.1) = [(0, 2)] by decide] at hI
  rw [show ([((0, 2), 3), ((0, 1), 5)] : List TimT).drop (dueN [((0, 2), 3), ((0, 1), 5)] 4) = [((0, 1), 5)] by decide] at H2
  go_upto_region 7 with (go_at_call 28; (with_reducible refine (whnext_any _ _ _ _ _ H2).mono ?_); rintro e w6 ⟨lst, sm, rfl, hN, hb6⟩; replace H2 := H2.keep hb6; replace hI := hI.keep hb6; replace B3 := Blk.keep B3 hb6; replace hb := below_call hb hb6 hb.size; clear hb6)
  obtain ⟨rfl, rfl⟩ : lst = 5 ∧ sm = true := by
    rcases hN.out with ⟨e, _⟩ | ⟨e1, ⟨t, ht, e2⟩, _⟩
    · cases e
    · simp at ht; subst ht; exact ⟨e2.symm, e1⟩
  obtain rfl : m = 1 := hI.1
  obtain ⟨r, nn, bb, o, e1, _, _, rfl, c0, c1⟩ := hI.at_ (show 0 < 1 by omega)
  simp at e1
  obtain ⟨rfl, rfl⟩ := e1
  replace H2 := H2.keep (Below.refl _ _).drew
  replace hI := hI.keep (Below.refl _ _).drew
  replace B3 := Blk.keep B3 (Below.refl _ _).drew
  replace hb := hb.drew
  clear hN hz1
  rw [Nat.zero_mul, Nat.add_zero] at c0
  rw [Nat.zero_mul, Nat.add_zero] at c1
  (refine wp_region_held_drew (S := (SA3 (g2 + 1) #[.int .i64 0, .int .i64 2] bb o 0 2)) (by kernel_rfl) ?_ (fun hHeld => ?_); (· exact ⟨B3.cell, c0, c1⟩))
  (refine take_op (i := 0) (v := ?_) rfl (by kernel_rfl) (by kernel_rfl) (by kernel_rfl) (fun _ _ _ h => h) (by rfl) ?_ hHeld ?_; rotate_left; (· (intro wS hSw; (try dsimp only at hSw); go_simp; first | done | with_reducible rfl)); simp only [Act.put, List.setIfInBounds_toArray, List.set_cons_zero, List.set_cons_succ]); (refine take_op (i := 1) (v := ?_) rfl (by kernel_rfl) (by kernel_rfl) (by kernel_rfl) (fun _ _ _ h => h) (by rfl) ?_ hHeld ?_; rotate_left; (· (intro wS hSw; (try dsimp only at hSw); go_simp; first | done | with_reducible rfl)); simp only [Act.put, List.setIfInBounds_toArray, List.set_cons_zero, List.set_cons_succ]); (refine take_op (i := 2) (v := ?_) rfl (by kernel_rfl) (by kernel_rfl) (by kernel_rfl) (fun _ _ _ h => h) (by rfl) ?_ hHeld ?_; rotate_left; (· (intro wS hSw; (try dsimp only at hSw); go_simp; first | done | with_reducible rfl)); simp only [Act.put, List.setIfInBounds_toArray, List.set_cons_zero, List.set_cons_succ]); (refine take_op (i := 3) (v := ?_) rfl (by kernel_rfl) (by kernel_rfl) (by kernel_rfl) (fun _ _ _ h => h) (by rfl) ?_ hHeld ?_; rotate_left; (· (intro wS hSw; (try dsimp only at hSw); go_simp; first | done | with_reducible rfl)); simp only [Act.put, List.setIfInBounds_toArray, List.set_cons_zero, List.set_cons_succ]); (refine take_op (i := 4) (v := ?_) rfl (by kernel_rfl) (by kernel_rfl) (by kernel_rfl) (fun _ _ _ h => h) (by rfl) ?_ hHeld ?_; rotate_left; (· (intro wS hSw; (try dsimp only at hSw); go_simp; first | done | with_reducible rfl)); simp only [Act.put, List.setIfInBounds_toArray, List.set_cons_zero, List.set_cons_succ]); (refine take_op (i := 5) (v := ?_) rfl (by kernel_rfl) (by kernel_rfl) (by kernel_rfl) (fun _ _ _ h => h) (by rfl) ?_ hHeld ?_; rotate_left; (· (intro wS hSw; (try dsimp only at hSw); go_simp; first | done | with_reducible rfl)); simp only [Act.put, List.setIfInBounds_toArray, List.set_cons_zero, List.set_cons_succ]); (refine take_op (i := 6) (v := ?_) rfl (by kernel_rfl) (by kernel_rfl) (by kernel_rfl) (fun _ _ _ h => h) (by rfl) ?_ hHeld ?_; rotate_left; (· (intro wS hSw; (try dsimp only at hSw); go_simp; first | done | with_reducible rfl)); simp only [Act.put, List.setIfInBounds_toArray, List.set_cons_zero, List.set_cons_succ]); (refine take_op (i := 7) (v := ?_) rfl (by kernel_rfl) (by kernel_rfl) (by kernel_rfl) (fun _ _ _ h => h) (by rfl) ?_ hHeld ?_; rotate_left; (· (intro wS hSw; (try dsimp only at hSw); go_simp; first | done | with_reducible rfl)); simp only [Act.put, List.setIfInBounds_toArray, List.set_cons_zero, List.set_cons_succ]); (refine take_op (i := 8) (v := ?_) rfl (by kernel_rfl) (by kernel_rfl) (by kernel_rfl) (fun _ _ _ h => h) (by rfl) ?_ hHeld ?_; rotate_left; (· (intro wS hSw; (try dsimp only at hSw); go_simp; first | done | with_reducible rfl)); simp only [Act.put, List.setIfInBounds_toArray, List.set_cons_zero, List.set_cons_succ]); (refine take_op (i := 9) (v := ?_) rfl (by kernel_rfl) (by kernel_rfl) (by kernel_rfl) (fun _ _ _ h => h) (by rfl) ?_ hHeld ?_; rotate_left; (· (intro wS hSw; (try dsimp only at hSw); go_simp; first | done | with_reducible rfl)); simp only [Act.put, List.setIfInBounds_toArray, List.set_cons_zero, List.set_cons_succ]); (refine take_op (i := 10) (v := ?_) rfl (by kernel_rfl) (by kernel_rfl) (by kernel_rfl) (fun _ _ _ h => h) (by rfl) ?_ hHeld ?_; rotate_left; (· (intro wS hSw; (try dsimp only at hSw); go_simp; first | done | with_reducible rfl)); simp only [Act.put, List.setIfInBounds_toArray, List.set_cons_zero, List.set_cons_succ]); (refine take_op (i := 11) (v := ?_) rfl (by kernel_rfl) (by kernel_rfl) (by kernel_rfl) (fun _ _ _ h => h) (by rfl) ?_ hHeld ?_; rotate_left; (· (intro wS hSw; (try dsimp only at hSw); go_simp; first | done | with_reducible rfl)); simp only [Act.put, List.setIfInBounds_toArray, List.set_cons_zero, List.set_cons_succ])
  (refine call_op (i := 12) rfl (by kernel_rfl) (by rfl) (fun K hK => ?_); go_simp; (go_at_call 20; (with_reducible refine (whlen_any _ _ _ _ _ H2).mono ?_); rintro e w7 ⟨rfl, hb7⟩; replace B3 := Blk.keep B3 hb7; replace c0 := cell_keep hb7 (cell_keep (Below.refl w6.heap.size w6).drew c0); replace c1 := cell_keep hb7 (cell_keep (Below.refl w6.heap.size w6).drew c1); replace hb := below_call hb hb7 hb.size; clear hb7); refine hK.out _ _ ⟨B3.cell, c0, c1⟩ (fun hHeld2 => ?_); clear hK K hHeld; have hHeld := hHeld2; clear hHeld2; (try simp only [Act.put, List.setIfInBounds_toArray, List.set_cons_zero, List.set_cons_succ]))
  (refine take_op (i := 13) (v := ?_) rfl (by kernel_rfl) (by kernel_rfl) (by kernel_rfl) (fun _ _ _ h => h) (by rfl) ?_ hHeld ?_; rotate_left; (· (intro wS hSw; (try dsimp only at hSw); go_simp; first | done | with_reducible rfl)); simp only [Act.put, List.setIfInBounds_toArray, List.set_cons_zero, List.set_cons_succ]); (refine take_op (i := 14) (v := ?_) rfl (by kernel_rfl) (by kernel_rfl) (by kernel_rfl) (fun _ _ _ h => h) (by rfl) ?_ hHeld ?_; rotate_left; (· (intro wS hSw; (try dsimp only at hSw); go_simp; first | done | with_reducible rfl)); simp only [Act.put, List.setIfInBounds_toArray, List.set_cons_zero, List.set_cons_succ]); (refine take_op (i := 15) (v := ?_) rfl (by kernel_rfl) (by kernel_rfl) (by kernel_rfl) (fun _ _ _ h => h) (by rfl) ?_ hHeld ?_; rotate_left; (· (intro wS hSw; (try dsimp only at hSw); go_simp; first | done | with_reducible rfl)); simp only [Act.put, List.setIfInBounds_toArray, List.set_cons_zero, List.set_cons_succ]); (refine take_op (i := 16) (v := ?_) rfl (by kernel_rfl) (by kernel_rfl) (by kernel_rfl) (fun _ _ _ h => h) (by rfl) ?_ hHeld ?_; rotate_left; (· (intro wS hSw; (try dsimp only at hSw); go_simp; first | done | with_reducible rfl)); simp only [Act.put, List.setIfInBounds_toArray, List.set_cons_zero, List.set_cons_succ]); (refine take_op (i := 17) (v := ?_) rfl (by kernel_rfl) (by kernel_rfl) (by kernel_rfl) (fun _ _ _ h => h) (by rfl) ?_ hHeld ?_; rotate_left; (· (intro wS hSw; (try dsimp only at hSw); go_simp; first | done | with_reducible rfl)); simp only [Act.put, List.setIfInBounds_toArray, List.set_cons_zero, List.set_cons_succ]); (refine take_op (i := 18) (v := ?_) rfl (by kernel_rfl) (by kernel_rfl) (by kernel_rfl) (fun _ _ _ h => h) (by rfl) ?_ hHeld ?_; rotate_left; (· (intro wS hSw; (try dsimp only at hSw); go_simp; first | done | with_reducible rfl)); simp only [Act.put, List.setIfInBounds_toArray, List.set_cons_zero, List.set_cons_succ]); (refine take_op (i := 19) (v := ?_) rfl (by kernel_rfl) (by kernel_rfl) (by kernel_rfl) (fun _ _ _ h => h) (by rfl) ?_ hHeld ?_; rotate_left; (· (intro wS hSw; (try dsimp only at hSw); go_simp; first | done | with_reducible rfl)); simp only [Act.put, List.setIfInBounds_toArray, List.set_cons_zero, List.set_cons_succ]); (refine take_op (i := 20) (v := ?_) rfl (by kernel_rfl) (by kernel_rfl) (by kernel_rfl) (fun _ _ _ h => h) (by rfl) ?_ hHeld ?_; rotate_left; (· (intro wS hSw; (try dsimp only at hSw); go_simp; first | done | with_reducible rfl)); simp only [Act.put, List.setIfInBounds_toArray, List.set_cons_zero, List.set_cons_succ]); (refine take_op (i := 21) (v := ?_) rfl (by kernel_rfl) (by kernel_rfl) (by kernel_rfl) (fun _ _ _ h => h) (by rfl) ?_ hHeld ?_; rotate_left; (· (intro wS hSw; (try dsimp only at hSw); go_simp; first | done | with_reducible rfl)); simp only [Act.put, List.setIfInBounds_toArray, List.set_cons_zero, List.set_cons_succ]); (refine take_op (i := 22) (v := ?_) rfl (by kernel_rfl) (by kernel_rfl) (by kernel_rfl) (fun _ _ _ h => h) (by rfl) ?_ hHeld ?_; rotate_left; (· (intro wS hSw; (try dsimp only at hSw); go_simp; first | done | with_reducible rfl)); simp only [Act.put, List.setIfInBounds_toArray, List.set_cons_zero, List.set_cons_succ])
  (refine wpAnyH_done (by kernel_rfl) ?_ _)
  go_wp2_with fail
  go_ret
  exact ⟨rfl, hb⟩
end Go.Proofs.Ytpdlhcfepafjeaa
