/- The walks of stonecropref03.Num, List, of stonecropref05.Item. -/
import Derived.Test.YtfdfcceleaodaaaAttrItemsQ20
import Derived.WalkKit
import Derived.WalkSpells
import Derived.WalkLawsBesides
import Derived.Deep.RegionHeld3
import Derived.Deep.DrawnRows
import Derived.Deep.DeepCutAuto
import Derived.Deep.DeepFit
import Derived.Lib.Hide
import Derived.BigQuiet
import Derived.Deep.QuietTactic
namespace Go.Proofs.Ytfdfcceleaodaaa
open Go.RowKit
set_option linter.unusedVariables false
set_option linter.unusedSimpArgs false
set_option maxRecDepth 20000
attribute [local go_sem ↓] Go.wp_at_zero Go.wp_at_succ
attribute [local go_sem] World.cell?_alloc_some frozen_alloc_some
attribute [local go_sem] lt2 lt3 lt4 lt5
attribute [local simp] lt2 lt3 lt4 lt5

theorem refnumz_any (a : Int) (w : World) : Calls Try.prog 30 #[.int .i64 a] w (Gives w (numV (u64n a))) := by
  have hw := u64n_cast a
  go_enter Try.func30, Try.ntmps30
  go_wp2_with fail
  refine bodyPost_ret (v := numV (u64n a)) (by simp [results, Try.results30, go_sem, *, numV] <;> rfl) rfl ?_
  exact ⟨rfl, by ((repeat' first | with_reducible exact Below.refl _ _ | with_reducible assumption | with_reducible refine Below.alloc ?_ ?_ _ | with_reducible refine Below.setCell ?_ ?_ _ | with_reducible apply Below.drew | with_reducible apply below_drewN | with_reducible refine below_call ?_ (by with_reducible assumption) ?_) <;> (first | omega | (simp; done) | (simp; omega) | (simp at *; omega)))⟩
theorem reflist_any (A : Option Addr) (m c : Nat) (w : World) : Calls Try.prog 29 #[.slice A m c] w (Gives w (.agg #[.int .i64 2, .int .u64 0, .string ByteArray.empty, .slice A m c])) := by
  go_enter Try.func29, Try.ntmps29
  go_wp2_with fail
  refine bodyPost_ret (v := .agg #[.int .i64 2, .int .u64 0, .string ByteArray.empty, .slice A m c]) (by simp [results, Try.results29, go_sem, *] <;> rfl) rfl ?_
  exact ⟨rfl, by ((repeat' first | with_reducible exact Below.refl _ _ | with_reducible assumption | with_reducible refine Below.alloc ?_ ?_ _ | with_reducible refine Below.setCell ?_ ?_ _ | with_reducible apply Below.drew | with_reducible apply below_drewN | with_reducible refine below_call ?_ (by with_reducible assumption) ?_) <;> (first | omega | (simp; done) | (simp; omega) | (simp at *; omega)))⟩

set_option maxHeartbeats 8000000 in
theorem refidsitem_any (A : Option Addr) (m c : Nat) (l : List IdP) (w : World) (h1 : IdsAt w A m l) (hm : m ≤ 1000000) : Calls Try.prog 31 #[.slice A m c] w
    (fun e w' => ∃ A' c', e = .returned (listV A' (2 * m) c') ∧ HoldsIn w' (fun x => w.heap.size ≤ x) (ltree (itrees l)) (listV A' (2 * m) c') ∧ Below w.heap.size w w') := by
  obtain ⟨i1, hi, hz0, hz1, hz2⟩ := info_item
  have Hm := Lib.hid h1.1
  have H1 := Lib.hid h1
  clear h1
  have hnum := fun n W => refnumz_any n W
  have hlist := fun A m c W => reflist_any A m c W
  unfold numV at hnum
  go_enter Try.func31, Try.ntmps31
  go_wp2_with fail
  go_loopw [3, 4] (fun s3 s4 wr => ∃ (j : Nat) (A' : Option Addr) (c' : Nat), j ≤ m ∧ s4 = .int .i64 j ∧ s3 = .slice A' (2 * j) c' ∧ Blk wr w.heap.size 28 #[.int .i64 0, .int .u64 0, .string ⟨#[]⟩, .slice none 0 0] ∧ wr.ownsRow (w.heap.size + 1) 28 4 (.slice A' (2 * j) c') (2 * j) (flatL (ivals (l.take j))) ∧ Below w.heap.size w wr) (fun _ s4 _ => m - (intOf s4).toNat)
  case atStart => exact ⟨0, none, 0, by omega, rfl, rfl, Blk.new w _ _, World.ownsRow_nil _ _ _ _, by ((repeat' first | with_reducible exact Below.refl _ _ | with_reducible assumption | with_reducible refine Below.alloc ?_ ?_ _ | with_reducible refine Below.setCell ?_ ?_ _ | with_reducible apply Below.drew | with_reducible apply below_drewN | with_reducible refine below_call ?_ (by with_reducible assumption) ?_) <;> (first | omega | (simp; done) | (simp; omega) | (simp at *; omega)))⟩
  case round =>
    obtain ⟨j, A', c', hj, rfl, rfl, hR, hown, hbr⟩ := hrel
    have hzr := hR.lt
    by_cases hlt : j < m
    · obtain ⟨r, n, b, o, e1, _, _, rfl, p0, p1⟩ := H1.out.at_ hlt
      have Hiv := Lib.hid (ivals_take e1)
      clear e1
      have j0 : (0 : Int) ≤ (j : Int) := by omega
      have j1 : (j : Int) < (m : Int) := by omega
      have hna := fun W => hnum r W
      have hnb := fun W => hnum n W
      go_upto_region 5 with fail
      have k0 : Below w.heap.size w wr.drew := hbr.drew
      have O0 := own_below hown (w' := wr.drew) (Below.refl _ _).drew
      have R0 := hR.drew
      have hol := fun k hk => (hown.lt k hk).2
      clear hR hown hnum
      (refine wp_region_held_drew (S := (S2 ⟨b, o + j * 2, none⟩ ⟨b, o + j * 2 + 1, none⟩ (.int .i64 r) (.int .i64 n))) (by kernel_rfl) ?_ (fun hHeld => ?_); (· exact ⟨cell_keep k0 p0, cell_keep k0 p1⟩))
      revert hHeld k0 O0 R0
      generalize World.drew _ = w0
      intro k0 O0 R0 hHeld
      (refine take_op (i := 0) (v := ?_) rfl (by kernel_rfl) (by kernel_rfl) (by kernel_rfl) (fun _ _ _ h => h) (by rfl) ?_ hHeld ?_; rotate_left; (· (intro wS hSw; (try dsimp only at hSw); go_simp; first | done | with_reducible rfl)); simp only [Act.put, List.setIfInBounds_toArray, List.set_cons_zero, List.set_cons_succ]); (refine take_op (i := 1) (v := ?_) rfl (by kernel_rfl) (by kernel_rfl) (by kernel_rfl) (fun _ _ _ h => h) (by rfl) ?_ hHeld ?_; rotate_left; (· (intro wS hSw; (try dsimp only at hSw); go_simp; first | done | with_reducible rfl)); simp only [Act.put, List.setIfInBounds_toArray, List.set_cons_zero, List.set_cons_succ]); (refine take_op (i := 2) (v := ?_) rfl (by kernel_rfl) (by kernel_rfl) (by kernel_rfl) (fun _ _ _ h => h) (by rfl) ?_ hHeld ?_; rotate_left; (· (intro wS hSw; (try dsimp only at hSw); go_simp; first | done | with_reducible rfl)); simp only [Act.put, List.setIfInBounds_toArray, List.set_cons_zero, List.set_cons_succ]); (refine take_op (i := 3) (v := ?_) rfl (by kernel_rfl) (by kernel_rfl) (by kernel_rfl) (fun _ _ _ h => h) (by rfl) ?_ hHeld ?_; rotate_left; (· (intro wS hSw; (try dsimp only at hSw); go_simp; first | done | with_reducible rfl)); simp only [Act.put, List.setIfInBounds_toArray, List.set_cons_zero, List.set_cons_succ]); (refine take_op (i := 4) (v := ?_) rfl (by kernel_rfl) (by kernel_rfl) (by kernel_rfl) (fun _ _ _ h => h) (by rfl) ?_ hHeld ?_; rotate_left; (· (intro wS hSw; (try dsimp only at hSw); go_simp; first | done | with_reducible rfl)); simp only [Act.put, List.setIfInBounds_toArray, List.set_cons_zero, List.set_cons_succ]); (refine take_op (i := 5) (v := ?_) rfl (by kernel_rfl) (by kernel_rfl) (by kernel_rfl) (fun _ _ _ h => h) (by rfl) ?_ hHeld ?_; rotate_left; (· (intro wS hSw; (try dsimp only at hSw); go_simp; first | done | with_reducible rfl)); simp only [Act.put, List.setIfInBounds_toArray, List.set_cons_zero, List.set_cons_succ]); (refine take_op (i := 7) (v := ?_) rfl (by kernel_rfl) (by kernel_rfl) (by kernel_rfl) (fun _ _ _ h => h) (by rfl) ?_ hHeld ?_; rotate_left; (· (intro wS hSw; (try dsimp only at hSw); go_simp; first | done | with_reducible rfl)); simp only [Act.put, List.setIfInBounds_toArray, List.set_cons_zero, List.set_cons_succ]); (refine take_op (i := 8) (v := ?_) rfl (by kernel_rfl) (by kernel_rfl) (by kernel_rfl) (fun _ _ _ h => h) (by rfl) ?_ hHeld ?_; rotate_left; (· (intro wS hSw; (try dsimp only at hSw); go_simp; first | done | with_reducible rfl)); simp only [Act.put, List.setIfInBounds_toArray, List.set_cons_zero, List.set_cons_succ]); (refine take_op (i := 9) (v := ?_) rfl (by kernel_rfl) (by kernel_rfl) (by kernel_rfl) (fun _ _ _ h => h) (by rfl) ?_ hHeld ?_; rotate_left; (· (intro wS hSw; (try dsimp only at hSw); go_simp; first | done | with_reducible rfl)); simp only [Act.put, List.setIfInBounds_toArray, List.set_cons_zero, List.set_cons_succ]); (refine take_op (i := 10) (v := ?_) rfl (by kernel_rfl) (by kernel_rfl) (by kernel_rfl) (fun _ _ _ h => h) (by rfl) ?_ hHeld ?_; rotate_left; (· (intro wS hSw; (try dsimp only at hSw); go_simp; first | done | with_reducible rfl)); simp only [Act.put, List.setIfInBounds_toArray, List.set_cons_zero, List.set_cons_succ]); (refine take_op (i := 11) (v := ?_) rfl (by kernel_rfl) (by kernel_rfl) (by kernel_rfl) (fun _ _ _ h => h) (by rfl) ?_ hHeld ?_; rotate_left; (· (intro wS hSw; (try dsimp only at hSw); go_simp; first | done | with_reducible rfl)); simp only [Act.put, List.setIfInBounds_toArray, List.set_cons_zero, List.set_cons_succ])
      (refine call_op (i := 6) rfl (by kernel_rfl) (by rfl) (fun K hK => ?_); go_simp; (go_at_call 30; (with_reducible refine (hna _).mono ?_); rintro e w1 ⟨rfl, hb1⟩; have R1 := R0.keep hb1; have O1 := own_below O0 hb1; have k1 := below_call k0 hb1 k0.size; have z1 := hb1.size); refine hK.out _ _ ⟨cell_keep k1 p0, cell_keep k1 p1⟩ (fun hHeld2 => ?_); clear hK K hHeld; have hHeld := hHeld2; clear hHeld2; (try simp only [Act.put, List.setIfInBounds_toArray, List.set_cons_zero, List.set_cons_succ]))
      (refine call_op (i := 12) rfl (by kernel_rfl) (by rfl) (fun K hK => ?_); go_simp; (go_at_call 30; (with_reducible refine (hnb _).mono ?_); rintro e w2 ⟨rfl, hb2⟩; have R2 := R1.keep hb2; have O2 := own_below O1 hb2; have k2 := below_call k1 hb2 k1.size; have z2 := hb2.size); refine hK.out _ _ ⟨cell_keep k2 p0, cell_keep k2 p1⟩ (fun hHeld2 => ?_); clear hK K hHeld; have hHeld := hHeld2; clear hHeld2; (try simp only [Act.put, List.setIfInBounds_toArray, List.set_cons_zero, List.set_cons_succ]))
      have O3 := own_below O2 (below_one (.cells #[.int .i64 0, .int .u64 (u64n r : Int), .string ByteArray.empty, .slice none 0 0, .int .i64 0, .int .u64 (u64n n : Int), .string ByteArray.empty, .slice none 0 0] 28))
      have R3 := R2.alloc (.cells #[.int .i64 0, .int .u64 (u64n r : Int), .string ByteArray.empty, .slice none 0 0, .int .i64 0, .int .u64 (u64n n : Int), .string ByteArray.empty, .slice none 0 0] 28)
      have k3 : Below w.heap.size w (w2.alloc (.cells #[.int .i64 0, .int .u64 (u64n r : Int), .string ByteArray.empty, .slice none 0 0, .int .i64 0, .int .u64 (u64n n : Int), .string ByteArray.empty, .slice none 0 0] 28)) := k2.alloc k2.size _
      have z3 := R2.lt
      (refine call_op (i := 13) rfl (by kernel_rfl) (by rfl) (fun K hK => ?_); go_simp; skip; refine hK.out _ _ ⟨cell_keep k3 p0, cell_keep k3 p1⟩ (fun hHeld2 => ?_); clear hK K hHeld; have hHeld := hHeld2; clear hHeld2; (try simp only [Act.put, List.setIfInBounds_toArray, List.set_cons_zero, List.set_cons_succ]))
      have hsrc := src_items (us := [numV (u64n r), numV (u64n n)]) (cs := #[.int .i64 0, .int .u64 (u64n r : Int), .string ByteArray.empty, .slice none 0 0, .int .i64 0, .int .u64 (u64n n : Int), .string ByteArray.empty, .slice none 0 0]) w2 (by simp [flatL, numV, Value.cells]) (fun u hu => by simp at hu; rcases hu with rfl | rfl <;> exact four_num _ (u64n_lt _))
      (refine call_op (i := 14) rfl (by kernel_rfl) (by rfl) (fun K hK => ?_); ((refine wp_app _ (.tmp 11) (.tmp 24) 26 rfl _ 28 i1 _ 4 56 Try.underlying26 hi hz0 hz1 hz2 rfl (by omega) _ _ _ rfl O3 _ _ _ _ rfl hsrc ?h63 ?hby ?hbase ?_); (case h63 => (unfold maxLen; first | omega | (simp; done) | (simp; omega))); (case hby => first | omega | (simp; done) | (simp; omega)); (case hbase => first | omega | (simp; done) | (simp; omega)); intro v4 w4 hownw4 hgroww4 hatw4 holdw4); have R4 : Blk w4 w.heap.size 28 _ := (hgroww4.block _ R3.lt (fun e => by have := (O3.lt _ e.symm).1; omega)).trans R3; have k4 := below_app (B := w.heap.size) k3 O3 hgroww4 (by omega) (by simp; omega); refine hK.out _ _ ⟨cell_keep k4 p0, cell_keep k4 p1⟩ (fun hHeld2 => ?_); clear hK K hHeld; have hHeld := hHeld2; clear hHeld2; (try simp only [Act.put, List.setIfInBounds_toArray, List.set_cons_zero, List.set_cons_succ]))
      have hown4 : w4.ownsRow (w.heap.size + 1) 28 4 v4 (2 * (j + 1)) (flatL (ivals (l.take (j + 1)))) := by rw [Hiv.out, flatL_append]; exact hownw4
      obtain ⟨A4, c4, rfl, _, _⟩ := own_form7 hown4
      (refine take_op (i := 15) (v := ?_) rfl (by kernel_rfl) (by kernel_rfl) (by kernel_rfl) (fun _ _ _ h => h) (by rfl) ?_ hHeld ?_; rotate_left; (· (intro wS hSw; (try dsimp only at hSw); go_simp; first | done | with_reducible rfl)); simp only [Act.put, List.setIfInBounds_toArray, List.set_cons_zero, List.set_cons_succ])
      (refine wpAnyH_done (by kernel_rfl) ?_ _)
      clear hHeld k0 k1 k2 k3 O0 O1 O2 O3 R0 R1 R2 R3 hownw4 hgroww4 holdw4 hatw4 hsrc
      go_wp2_with fail
      go_roundw
      case rel => exact ⟨j + 1, A4, c4, by omega, by go_num, rfl, R4, hown4, k4⟩
      case measure => simp [intOf]; omega
    · obtain rfl : j = m := by omega
      have hin := hin_nums hown (by have := Hm.out; simp; omega)
      have hlt' : List.take j l = l := List.take_of_length_le (by have := Hm.out; omega)
      rw [hlt'] at hin
      have Hin := Lib.hid hin
      clear hin hown hlt' hnum
      go_wp2_with (go_at_call 29; (with_reducible refine (hlist _ _ _ _).mono ?_); rintro e w1 ⟨rfl, hb1⟩; have R1 := hR.keep hb1; have Rc := R1.cell; have Rf := R1.frozen; have k1 := below_call hbr hb1 hbr.size; have h1 := Lib.hid (Hin.out.under hb1))
      refine bodyPost_ret (v := listV A' (2 * j) c') (by simp [results, Try.results31, go_sem, *] <;> rfl) rfl ?_
      exact ⟨A', c', rfl, (hin_set4 h1.out (by simp) _ _ _ _).mono (fun b hb => by omega), by ((repeat' first | with_reducible exact Below.refl _ _ | with_reducible assumption | with_reducible refine Below.alloc ?_ ?_ _ | with_reducible refine Below.setCell ?_ ?_ _ | with_reducible apply Below.drew | with_reducible apply below_drewN | with_reducible refine below_call ?_ (by with_reducible assumption) ?_) <;> (first | omega | (simp; done) | (simp; omega) | (simp at *; omega)))⟩
end Go.Proofs.Ytfdfcceleaodaaa
