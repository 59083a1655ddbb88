/- The walk of ballot.Item. -/
import Derived.Test.YtmgiholmhhjpaaaDoorRecChecksQ11
import Derived.Test.YtmgiholmhhjpaaaDoorRecChecksQ1
import Derived.Test.YtmgiholmhhjpaaaDoorRecChecksQ5
import Derived.Test.YtmgiholmhhjpaaaDoorRecChecksQ8
import Derived.WalkKit
import Derived.WalkSpells
import Derived.WalkLawsBesides
import Derived.Deep.RegionHeld3
import Derived.Deep.DrawnRows
import Derived.Deep.DeepCutAuto
import Derived.Deep.DeepFit
import Derived.Lib.Hide
import Derived.BigQuiet
import Derived.Deep.QuietTactic
namespace Go.Proofs.YtmgiholmhhjpaaaDoor
open Go.RowKit
set_option linter.unusedVariables false
set_option linter.unusedSimpArgs false
set_option maxRecDepth 20000
attribute [local go_sem ↓] Go.wp_at_zero Go.wp_at_succ
attribute [local go_sem] World.cell?_alloc_some frozen_alloc_some
attribute [local go_sem] lt2 lt3 lt4 lt5
attribute [local simp] lt2 lt3 lt4 lt5

def btree (a b : Int) : Tree := ltree [ntree a, ntree b]
set_option maxHeartbeats 4000000 in
theorem balitem_any (a b : Int) (w : World) : Calls Tryd.prog 69 #[.agg #[.int .i64 a, .int .i64 b]] w
    (fun e w' => ∃ A c, e = .returned (listV A 2 c) ∧ HoldsIn w' (fun x => w.heap.size ≤ x) (btree a b) (listV A 2 c) ∧ Below w.heap.size w w') := by
  have wa := u64n_cast a
  have wb := u64n_cast b
  have hna := fun W => num_any (u64n a) W
  have hnb := fun W => num_any (u64n b) W
  have hli : ∀ W : World, w.heap.size + 2 ≤ W.heap.size → Calls Tryd.prog 67 #[.slice (some ⟨W.heap.size, 0, none⟩) 2 2] (W.alloc (.cells #[.int .i64 0, .int .u64 (u64n a : Int), .string ByteArray.empty, .slice none 0 0, .int .i64 0, .int .u64 (u64n b : Int), .string ByteArray.empty, .slice none 0 0] 56))
      (fun e w' => ∃ A' c', e = .returned (.agg #[.int .i64 2, .int .u64 0, .string ByteArray.empty, .slice A' 2 c']) ∧ HoldsIn w' (fun x => w.heap.size + 2 ≤ x) (btree a b) (.agg #[.int .i64 2, .int .u64 0, .string ByteArray.empty, .slice A' 2 c']) ∧ Below (W.alloc (.cells #[.int .i64 0, .int .u64 (u64n a : Int), .string ByteArray.empty, .slice none 0 0, .int .i64 0, .int .u64 (u64n b : Int), .string ByteArray.empty, .slice none 0 0] 56)).heap.size (W.alloc (.cells #[.int .i64 0, .int .u64 (u64n a : Int), .string ByteArray.empty, .slice none 0 0, .int .i64 0, .int .u64 (u64n b : Int), .string ByteArray.empty, .slice none 0 0] 56)) w') := fun W h =>
    list_in (us := [numV (u64n a), numV (u64n b)]) W (by simp [flatL, numV, Value.cells]) rfl rfl h (by decide) (fun i t u ht hu => by
      match i with
      | 0 => simp at ht hu; subst ht hu; exact hin_num _ _ (u64n_lt a)
      | 1 => simp at ht hu; subst ht hu; exact hin_num _ _ (u64n_lt b)
      | i + 2 => simp at ht)
  unfold numV at hna hnb
  have Hli := Lib.hid hli
  clear hli
  go_enter Tryd.func69, Tryd.ntmps69
  go_upto_region 1 with fail
  have R0 : Blk ((w.alloc (.cells #[.int .i64 a, .int .i64 b] 30)).alloc (.cells #[.int .i64 0, .int .u64 0, .string ⟨#[]⟩, .slice none 0 0] 56)).drew (w.heap.size + 1) 56 #[.int .i64 0, .int .u64 0, .string ⟨#[]⟩, .slice none 0 0] := (Blk.newAt (by simp)).drew
  have b0 : Below w.heap.size w ((w.alloc (.cells #[.int .i64 a, .int .i64 b] 30)).alloc (.cells #[.int .i64 0, .int .u64 0, .string ⟨#[]⟩, .slice none 0 0] 56)).drew := by ((repeat' first | with_reducible exact Below.refl _ _ | with_reducible assumption | with_reducible refine Below.alloc ?_ ?_ _ | with_reducible refine Below.setCell ?_ ?_ _ | with_reducible apply Below.drew | with_reducible apply below_drewN | with_reducible refine below_call ?_ (by with_reducible assumption) ?_) <;> (first | omega | (simp; done) | (simp; omega) | (simp at *; omega)))
  (refine wp_region_held_drew (S := (S2 ⟨w.heap.size, 0, none⟩ ⟨w.heap.size, 1, none⟩ (.int .i64 a) (.int .i64 b))) (by kernel_rfl) ?_ (fun hHeld => ?_); (· exact S2.drew ⟨by simp [go_sem], by simp [go_sem]⟩))
  (refine take_op (i := 0) (v := ?_) rfl (by kernel_rfl) (by kernel_rfl) (by kernel_rfl) (fun _ _ _ h => h) (by rfl) ?_ hHeld ?_; rotate_left; (· (intro wS hSw; (try dsimp only at hSw); go_simp; first | done | with_reducible rfl)); simp only [Act.put, List.setIfInBounds_toArray, List.set_cons_zero, List.set_cons_succ]); (refine take_op (i := 1) (v := ?_) rfl (by kernel_rfl) (by kernel_rfl) (by kernel_rfl) (fun _ _ _ h => h) (by rfl) ?_ hHeld ?_; rotate_left; (· (intro wS hSw; (try dsimp only at hSw); go_simp; first | done | with_reducible rfl)); simp only [Act.put, List.setIfInBounds_toArray, List.set_cons_zero, List.set_cons_succ]); (refine take_op (i := 2) (v := ?_) rfl (by kernel_rfl) (by kernel_rfl) (by kernel_rfl) (fun _ _ _ h => h) (by rfl) ?_ hHeld ?_; rotate_left; (· (intro wS hSw; (try dsimp only at hSw); go_simp; first | done | with_reducible rfl)); simp only [Act.put, List.setIfInBounds_toArray, List.set_cons_zero, List.set_cons_succ]); (refine take_op (i := 4) (v := ?_) rfl (by kernel_rfl) (by kernel_rfl) (by kernel_rfl) (fun _ _ _ h => h) (by rfl) ?_ hHeld ?_; rotate_left; (· (intro wS hSw; (try dsimp only at hSw); go_simp; first | done | with_reducible rfl)); simp only [Act.put, List.setIfInBounds_toArray, List.set_cons_zero, List.set_cons_succ]); (refine take_op (i := 5) (v := ?_) rfl (by kernel_rfl) (by kernel_rfl) (by kernel_rfl) (fun _ _ _ h => h) (by rfl) ?_ hHeld ?_; rotate_left; (· (intro wS hSw; (try dsimp only at hSw); go_simp; first | done | with_reducible rfl)); simp only [Act.put, List.setIfInBounds_toArray, List.set_cons_zero, List.set_cons_succ]); (refine take_op (i := 6) (v := ?_) rfl (by kernel_rfl) (by kernel_rfl) (by kernel_rfl) (fun _ _ _ h => h) (by rfl) ?_ hHeld ?_; rotate_left; (· (intro wS hSw; (try dsimp only at hSw); go_simp; first | done | with_reducible rfl)); simp only [Act.put, List.setIfInBounds_toArray, List.set_cons_zero, List.set_cons_succ])
  (refine call_op (i := 3) rfl (by kernel_rfl) (by rfl) (fun K hK => ?_); go_simp; (go_at_call 68; (with_reducible refine (hna _).mono ?_); rintro e w1 ⟨rfl, hb1⟩; have R1 := R0.keep hb1; have z1 := hb1.size; (try simp at z1)); refine hK.out _ _ (hHeld.keep hb1) (fun hHeld2 => ?_); clear hK K hHeld; have hHeld := hHeld2; clear hHeld2; (try simp only [Act.put, List.setIfInBounds_toArray, List.set_cons_zero, List.set_cons_succ]))
  (refine call_op (i := 7) rfl (by kernel_rfl) (by rfl) (fun K hK => ?_); go_simp; (go_at_call 68; (with_reducible refine (hnb _).mono ?_); rintro e w2 ⟨rfl, hb2⟩; have R2 := R1.keep hb2; have z2 := hb2.size); refine hK.out _ _ (hHeld.keep hb2) (fun hHeld2 => ?_); clear hK K hHeld; have hHeld := hHeld2; clear hHeld2; (try simp only [Act.put, List.setIfInBounds_toArray, List.set_cons_zero, List.set_cons_succ]))
  (refine call_op (i := 8) rfl (by kernel_rfl) (by rfl) (fun K hK => ?_); go_simp; skip; refine hK.out _ _ (hHeld.keep (below_one _)) (fun hHeld2 => ?_); clear hK K hHeld; have hHeld := hHeld2; clear hHeld2; (try simp only [Act.put, List.setIfInBounds_toArray, List.set_cons_zero, List.set_cons_succ]))
  (refine call_op (i := 9) rfl (by kernel_rfl) (by rfl) (fun K hK => ?_); go_simp; (go_at_call 67; (with_reducible refine (Hli.out w2 (by omega)).mono ?_); rintro e w3 ⟨A3, c3, rfl, hin, hb3⟩; have Hin := Lib.hid hin; clear hin; have R3 := (R2.alloc _).keep hb3; have z3 := hb3.size; (try simp at z3); have R3c := R3.cell; have R3f := R3.frozen); refine hK.out _ _ ((hHeld.keep hb3)) (fun hHeld2 => ?_); clear hK K hHeld; have hHeld := hHeld2; clear hHeld2; (try simp only [Act.put, List.setIfInBounds_toArray, List.set_cons_zero, List.set_cons_succ]))
  have hbw : Below w.heap.size w w3 := by ((repeat' first | with_reducible exact Below.refl _ _ | with_reducible assumption | with_reducible refine Below.alloc ?_ ?_ _ | with_reducible refine Below.setCell ?_ ?_ _ | with_reducible apply Below.drew | with_reducible apply below_drewN | with_reducible refine below_call ?_ (by with_reducible assumption) ?_) <;> (first | omega | (simp; done) | (simp; omega) | (simp at *; omega)))
  (refine call_op (i := 10) rfl (by kernel_rfl) (by rfl) (fun K hK => ?_); go_simp; skip; refine hK.out _ _ (hHeld.below (B := w.heap.size + 1) (by ((repeat' first | with_reducible exact Below.refl _ _ | with_reducible assumption | with_reducible refine Below.alloc ?_ ?_ _ | with_reducible refine Below.setCell ?_ ?_ _ | with_reducible apply Below.drew | with_reducible apply below_drewN | with_reducible refine below_call ?_ (by with_reducible assumption) ?_) <;> (first | omega | (simp; done) | (simp; omega) | (simp at *; omega)))) (by simp) (by simp)) (fun hHeld2 => ?_); clear hK K hHeld; have hHeld := hHeld2; clear hHeld2; (try simp only [Act.put, List.setIfInBounds_toArray, List.set_cons_zero, List.set_cons_succ]))
  (refine wpAnyH_done (by kernel_rfl) ?_ _)
  go_wp2_with fail
  refine bodyPost_ret (v := listV A3 2 c3) (by simp [results, Tryd.results69, go_sem, *] <;> rfl) rfl ?_
  exact ⟨A3, c3, rfl, (hin_set4 Hin.out (by simp) _ _ _ _).mono fun b hb => by omega, by ((repeat' first | with_reducible exact Below.refl _ _ | with_reducible assumption | with_reducible refine Below.alloc ?_ ?_ _ | with_reducible refine Below.setCell ?_ ?_ _ | with_reducible apply Below.drew | with_reducible apply below_drewN | with_reducible refine below_call ?_ (by with_reducible assumption) ?_) <;> (first | omega | (simp; done) | (simp; omega) | (simp at *; omega)))⟩
end Go.Proofs.YtmgiholmhhjpaaaDoor
