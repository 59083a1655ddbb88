/- An id's text, ours and the document's. -/
import Derived.Test.YtmlhlananooclaaDoorText01
import Derived.Test.YtmlhlananooclaaDoorShelf
import Derived.Lib.LaidTab
import Derived.Lib.LaidU8
import Derived.Lib.AppendIntMem
import Derived.WalkKit
import Derived.WalkSpells
import Derived.WalkLawsBesides
import Derived.Deep.RegionHeld3
import Derived.Deep.DrawnRows
import Derived.Deep.DeepCutAuto
import Derived.Deep.DeepFit
import Derived.Lib.Hide
import Derived.BigQuiet
import Derived.Deep.QuietTactic
namespace Go.Proofs.YtmlhlananooclaaDoor
open Go.RowKit
set_option linter.unusedVariables false
set_option linter.unusedSimpArgs false
set_option maxRecDepth 20000
attribute [local go_sem ↓] Go.wp_at_zero Go.wp_at_succ
attribute [local go_sem] World.cell?_alloc_some frozen_alloc_some
open Go.Lib

abbrev Pow10 (W : World) : Prop := Lib.TabIs Tryd.prog W "internal/strconv.uint64pow10" .u64 Lib.pow10Tab
theorem Pow10.keep {w W : World} (h : Pow10 w) (hb : Below w.heap.size w W) : Pow10 W := tabBelow_of_tabIs h W hb
def idText (r n : Int) : List UInt8 := itoa r ++ [46] ++ itoa n
theorem itoa_len (n : Int) (h0 : -9223372036854775808 ≤ n) (h1 : n ≤ 9223372036854775807) : (itoa n).length ≤ 1844674407370955163 := by
  unfold itoa
  split
  · have := dec_len n.natAbs
    simp only [List.length_cons]
    omega
  · have := dec_len n.toNat
    omega
theorem itoa_run (n : Int) (h0 : -9223372036854775808 ≤ n) (h1 : n ≤ 9223372036854775807) (w : World) (ht : Pow10 w) :
    Calls Tryd.prog 35 #[.int .i64 n] w (Gives w (.string ⟨(itoa n).toArray⟩)) :=
  (Tryd.strconv_Itoa n h0 h1 w ht).mono fun e w' ⟨he, k, os, hw⟩ => ⟨he, by rw [hw]; exact below_grow _ _ (Nat.le_refl _) k os⟩
set_option maxHeartbeats 1000000 in
theorem idtext_any (r n : Int) (w : World) (ht : Pow10 w) (hr0 : -4611686018427387904 ≤ r) (hr1 : r ≤ 9223372036854775807) (hn0 : -4611686018427387904 ≤ n) (hn1 : n ≤ 9223372036854775807) :
    Calls Tryd.prog 20 #[.agg #[.int .i64 r, .int .i64 n]] w (Gives w (.string ⟨(idText r n).toArray⟩)) := by
  have h1 := fun W (hb : Below w.heap.size w W) => itoa_run r (by omega) hr1 W (ht.keep hb)
  have h2 := fun W (hb : Below w.heap.size w W) => itoa_run n (by omega) hn1 W (ht.keep hb)
  have hl1 := itoa_len r (by omega) hr1
  have hl2 := itoa_len n (by omega) hn1
  have ha : ∀ x y : List UInt8, ByteArray.mk x.toArray ++ ⟨#[46]⟩ ++ ⟨y.toArray⟩ = ⟨(x ++ [46] ++ y).toArray⟩ := fun x y => by rw [show (⟨#[46]⟩ : ByteArray) = ⟨([46] : List UInt8).toArray⟩ from rfl, str_add, str_add]
  unfold idText
  generalize itoa r = A at *
  generalize itoa n = B at *
  have hA : ¬ (9223372036854775807 < A.length + 1) := by omega
  have hB : ¬ (9223372036854775807 < A.length + 1 + B.length) := by omega
  have Ha := Lib.hid ha
  clear ha hl1 hl2 hr0 hr1 hn0 hn1
  go_enter Tryd.func20, Tryd.ntmps20
  go_upto_region 1 with fail
  have hb0 : Below w.heap.size w (w.alloc (.cells #[.int .i64 r, .int .i64 n] 24)).drew := by ((repeat' first | with_reducible exact Below.refl _ _ | with_reducible assumption | with_reducible refine Below.alloc ?_ ?_ _ | with_reducible refine Below.setCell ?_ ?_ _ | with_reducible apply Below.drew | with_reducible apply below_drewN | with_reducible refine below_call ?_ (by with_reducible assumption) ?_) <;> (first | omega | (simp; done) | (simp; omega) | (simp at *; omega)))
  have hp : S2 ⟨w.heap.size, 0, none⟩ ⟨w.heap.size, 1, none⟩ (.int .i64 r) (.int .i64 n) (w.alloc (.cells #[.int .i64 r, .int .i64 n] 24)) := ⟨(new_cell w #[.int .i64 r, .int .i64 n] 24 0 rfl).1, (new_cell w #[.int .i64 r, .int .i64 n] 24 1 rfl).1⟩
  (refine wp_region_held_drew (S := (S2 ⟨w.heap.size, 0, none⟩ ⟨w.heap.size, 1, none⟩ (.int .i64 r) (.int .i64 n))) (by kernel_rfl) ?_ (fun hHeld => ?_); (· exact hp.drew))
  (refine take_op (i := 0) (v := ?_) rfl (by kernel_rfl) (by kernel_rfl) (by kernel_rfl) (fun _ _ _ h => h) (by rfl) ?_ hHeld ?_; rotate_left; (· (intro wS hSw; (try dsimp only at hSw); go_simp; first | done | with_reducible rfl)); simp only [Act.put, List.setIfInBounds_toArray, List.set_cons_zero, List.set_cons_succ]); (refine take_op (i := 1) (v := ?_) rfl (by kernel_rfl) (by kernel_rfl) (by kernel_rfl) (fun _ _ _ h => h) (by rfl) ?_ hHeld ?_; rotate_left; (· (intro wS hSw; (try dsimp only at hSw); go_simp; first | done | with_reducible rfl)); simp only [Act.put, List.setIfInBounds_toArray, List.set_cons_zero, List.set_cons_succ]); (refine take_op (i := 4) (v := ?_) rfl (by kernel_rfl) (by kernel_rfl) (by kernel_rfl) (fun _ _ _ h => h) (by rfl) ?_ hHeld ?_; rotate_left; (· (intro wS hSw; (try dsimp only at hSw); go_simp; first | done | with_reducible rfl)); simp only [Act.put, List.setIfInBounds_toArray, List.set_cons_zero, List.set_cons_succ]); (refine take_op (i := 5) (v := ?_) rfl (by kernel_rfl) (by kernel_rfl) (by kernel_rfl) (fun _ _ _ h => h) (by rfl) ?_ hHeld ?_; rotate_left; (· (intro wS hSw; (try dsimp only at hSw); go_simp; first | done | with_reducible rfl)); simp only [Act.put, List.setIfInBounds_toArray, List.set_cons_zero, List.set_cons_succ])
  (refine call_op (i := 2) rfl (by kernel_rfl) (by rfl) (fun K hK => ?_); go_simp; (go_at_call 35; (with_reducible refine (h1 _ hb0).mono ?_); rintro e w1 ⟨rfl, hb1⟩; have hb1' := hb0.trans (hb1.mono (by simp))); refine hK.out _ _ (hHeld.keep hb1) (fun hHeld2 => ?_); clear hK K hHeld; have hHeld := hHeld2; clear hHeld2; (try simp only [Act.put, List.setIfInBounds_toArray, List.set_cons_zero, List.set_cons_succ]))
  have hsz := hb1.size
  simp at hsz
  (refine take_op (i := 3) (v := ?_) rfl (by kernel_rfl) (by kernel_rfl) (by kernel_rfl) (fun _ _ _ h => h) (by rfl) ?_ hHeld ?_; rotate_left; (· (intro wS hSw; (try dsimp only at hSw); go_simp; first | done | with_reducible rfl)); simp only [Act.put, List.setIfInBounds_toArray, List.set_cons_zero, List.set_cons_succ])
  (refine call_op (i := 6) rfl (by kernel_rfl) (by rfl) (fun K hK => ?_); go_simp; (go_at_call 35; (with_reducible refine (h2 _ hb1').mono ?_); rintro e w2 ⟨rfl, hb2⟩; have hb2' := hb1'.trans (hb2.mono (by omega))); refine hK.out _ _ (hHeld.keep hb2) (fun hHeld2 => ?_); clear hK K hHeld; have hHeld := hHeld2; clear hHeld2; (try simp only [Act.put, List.setIfInBounds_toArray, List.set_cons_zero, List.set_cons_succ]))
  (refine take_op (i := 7) (v := ?_) rfl (by kernel_rfl) (by kernel_rfl) (by kernel_rfl) (fun _ _ _ h => h) (by rfl) ?_ hHeld ?_; rotate_left; (· (intro wS hSw; (try dsimp only at hSw); go_simp; first | done | with_reducible rfl)); simp only [Act.put, List.setIfInBounds_toArray, List.set_cons_zero, List.set_cons_succ]); (refine take_op (i := 8) (v := ?_) rfl (by kernel_rfl) (by kernel_rfl) (by kernel_rfl) (fun _ _ _ h => h) (by rfl) ?_ hHeld ?_; rotate_left; (· (intro wS hSw; (try dsimp only at hSw); go_simp; first | done | with_reducible rfl)); simp only [Act.put, List.setIfInBounds_toArray, List.set_cons_zero, List.set_cons_succ])
  (refine wpAnyH_done (by kernel_rfl) ?_ _)
  go_wp2_with fail
  go_ret
  exact ⟨congrArg (fun x => Ending.returned (Value.string x)) (Ha.out A B), hb2'⟩
set_option maxHeartbeats 1000000 in
theorem text5_any (r n : Int) (w : World) (hr0 : -4611686018427387904 ≤ r) (hr1 : r ≤ 9223372036854775807) (hn0 : -4611686018427387904 ≤ n) (hn1 : n ≤ 9223372036854775807) :
    Calls Tryd.prog 21 #[.agg #[.int .i64 r, .int .i64 n]] w (Gives w (.string ⟨(idText r n).toArray⟩)) := by
  have h1 := fun W => text01_any r W hr0 hr1
  have h2 := fun W => text01_any n W hn0 hn1
  have hl1 := itoa_len r (by omega) hr1
  have hl2 := itoa_len n (by omega) hn1
  have ha : ∀ x y : List UInt8, ByteArray.mk x.toArray ++ ⟨#[46]⟩ ++ ⟨y.toArray⟩ = ⟨(x ++ [46] ++ y).toArray⟩ := fun x y => by rw [show (⟨#[46]⟩ : ByteArray) = ⟨([46] : List UInt8).toArray⟩ from rfl, str_add, str_add]
  unfold idText
  generalize itoa r = A at *
  generalize itoa n = B at *
  have hA : ¬ (9223372036854775807 < A.length + 1) := by omega
  have hB : ¬ (9223372036854775807 < A.length + 1 + B.length) := by omega
  have Ha := Lib.hid ha
  clear ha hl1 hl2 hr0 hr1 hn0 hn1
  go_enter Tryd.func21, Tryd.ntmps21
  go_upto_region 1 with fail
  have hb0 : Below w.heap.size w (w.alloc (.cells #[.int .i64 r, .int .i64 n] 24)).drew := by ((repeat' first | with_reducible exact Below.refl _ _ | with_reducible assumption | with_reducible refine Below.alloc ?_ ?_ _ | with_reducible refine Below.setCell ?_ ?_ _ | with_reducible apply Below.drew | with_reducible apply below_drewN | with_reducible refine below_call ?_ (by with_reducible assumption) ?_) <;> (first | omega | (simp; done) | (simp; omega) | (simp at *; omega)))
  have hp : S2 ⟨w.heap.size, 0, none⟩ ⟨w.heap.size, 1, none⟩ (.int .i64 r) (.int .i64 n) (w.alloc (.cells #[.int .i64 r, .int .i64 n] 24)) := ⟨(new_cell w #[.int .i64 r, .int .i64 n] 24 0 rfl).1, (new_cell w #[.int .i64 r, .int .i64 n] 24 1 rfl).1⟩
  (refine wp_region_held_drew (S := (S2 ⟨w.heap.size, 0, none⟩ ⟨w.heap.size, 1, none⟩ (.int .i64 r) (.int .i64 n))) (by kernel_rfl) ?_ (fun hHeld => ?_); (· exact hp.drew))
  (refine take_op (i := 0) (v := ?_) rfl (by kernel_rfl) (by kernel_rfl) (by kernel_rfl) (fun _ _ _ h => h) (by rfl) ?_ hHeld ?_; rotate_left; (· (intro wS hSw; (try dsimp only at hSw); go_simp; first | done | with_reducible rfl)); simp only [Act.put, List.setIfInBounds_toArray, List.set_cons_zero, List.set_cons_succ]); (refine take_op (i := 1) (v := ?_) rfl (by kernel_rfl) (by kernel_rfl) (by kernel_rfl) (fun _ _ _ h => h) (by rfl) ?_ hHeld ?_; rotate_left; (· (intro wS hSw; (try dsimp only at hSw); go_simp; first | done | with_reducible rfl)); simp only [Act.put, List.setIfInBounds_toArray, List.set_cons_zero, List.set_cons_succ]); (refine take_op (i := 4) (v := ?_) rfl (by kernel_rfl) (by kernel_rfl) (by kernel_rfl) (fun _ _ _ h => h) (by rfl) ?_ hHeld ?_; rotate_left; (· (intro wS hSw; (try dsimp only at hSw); go_simp; first | done | with_reducible rfl)); simp only [Act.put, List.setIfInBounds_toArray, List.set_cons_zero, List.set_cons_succ]); (refine take_op (i := 5) (v := ?_) rfl (by kernel_rfl) (by kernel_rfl) (by kernel_rfl) (fun _ _ _ h => h) (by rfl) ?_ hHeld ?_; rotate_left; (· (intro wS hSw; (try dsimp only at hSw); go_simp; first | done | with_reducible rfl)); simp only [Act.put, List.setIfInBounds_toArray, List.set_cons_zero, List.set_cons_succ])
  (refine call_op (i := 2) rfl (by kernel_rfl) (by rfl) (fun K hK => ?_); go_simp; (go_at_call 36; (with_reducible refine (h1 _ ).mono ?_); rintro e w1 ⟨rfl, hb1⟩; have hb1' := hb0.trans (hb1.mono (by simp))); refine hK.out _ _ (hHeld.keep hb1) (fun hHeld2 => ?_); clear hK K hHeld; have hHeld := hHeld2; clear hHeld2; (try simp only [Act.put, List.setIfInBounds_toArray, List.set_cons_zero, List.set_cons_succ]))
  have hsz := hb1.size
  simp at hsz
  (refine take_op (i := 3) (v := ?_) rfl (by kernel_rfl) (by kernel_rfl) (by kernel_rfl) (fun _ _ _ h => h) (by rfl) ?_ hHeld ?_; rotate_left; (· (intro wS hSw; (try dsimp only at hSw); go_simp; first | done | with_reducible rfl)); simp only [Act.put, List.setIfInBounds_toArray, List.set_cons_zero, List.set_cons_succ])
  (refine call_op (i := 6) rfl (by kernel_rfl) (by rfl) (fun K hK => ?_); go_simp; (go_at_call 36; (with_reducible refine (h2 _ ).mono ?_); rintro e w2 ⟨rfl, hb2⟩; have hb2' := hb1'.trans (hb2.mono (by omega))); refine hK.out _ _ (hHeld.keep hb2) (fun hHeld2 => ?_); clear hK K hHeld; have hHeld := hHeld2; clear hHeld2; (try simp only [Act.put, List.setIfInBounds_toArray, List.set_cons_zero, List.set_cons_succ]))
  (refine take_op (i := 7) (v := ?_) rfl (by kernel_rfl) (by kernel_rfl) (by kernel_rfl) (fun _ _ _ h => h) (by rfl) ?_ hHeld ?_; rotate_left; (· (intro wS hSw; (try dsimp only at hSw); go_simp; first | done | with_reducible rfl)); simp only [Act.put, List.setIfInBounds_toArray, List.set_cons_zero, List.set_cons_succ]); (refine take_op (i := 8) (v := ?_) rfl (by kernel_rfl) (by kernel_rfl) (by kernel_rfl) (fun _ _ _ h => h) (by rfl) ?_ hHeld ?_; rotate_left; (· (intro wS hSw; (try dsimp only at hSw); go_simp; first | done | with_reducible rfl)); simp only [Act.put, List.setIfInBounds_toArray, List.set_cons_zero, List.set_cons_succ])
  (refine wpAnyH_done (by kernel_rfl) ?_ _)
  go_wp2_with fail
  go_ret
  exact ⟨congrArg (fun x => Ending.returned (Value.string x)) (Ha.out A B), hb2'⟩
end Go.Proofs.YtmlhlananooclaaDoor
