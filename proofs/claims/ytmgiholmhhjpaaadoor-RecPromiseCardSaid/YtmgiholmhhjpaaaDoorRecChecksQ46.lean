/- The walks of ids.Item at nil, attr.Item at the zero Attr, rec.Item and rec.Take at a record that has nothing but a promise. The walk of stonecroplaw09.awake. -/
import Derived.Test.YtmgiholmhhjpaaaDoorRecChecksQ44
import Derived.Test.YtmgiholmhhjpaaaDoorRecChecksQ38
import Derived.Test.YtmgiholmhhjpaaaDoorRecChecksQ41
import Derived.WalkKit
import Derived.WalkSpells
import Derived.WalkLawsBesides
import Derived.Deep.RegionHeld3
import Derived.Deep.DrawnRows
import Derived.Deep.DeepCutAuto
import Derived.Deep.DeepFit
import Derived.Lib.Hide
import Derived.BigQuiet
import Derived.Deep.QuietTactic
namespace Go.Proofs.YtmgiholmhhjpaaaDoor
open Go.RowKit
set_option linter.unusedVariables false
set_option linter.unusedSimpArgs false
set_option maxRecDepth 20000
attribute [local go_sem ↓] Go.wp_at_zero Go.wp_at_succ
attribute [local go_sem] World.cell?_alloc_some frozen_alloc_some
attribute [local go_sem] lt2 lt3 lt4 lt5
attribute [local simp] lt2 lt3 lt4 lt5

set_option maxHeartbeats 2000000 in
theorem idsitem_nil (w : World) : Calls Tryd.prog 86 #[.slice none 0 0] w (Gives w (listV none 0 0)) := by
  unfold listV
  go_enter Tryd.func86, Tryd.ntmps86
  go_wp2_with fail
  go_loopw [9] (fun s9 wr => s9 = .int .i64 0 ∧ wr = (w.alloc (.cells zitem 56)).alloc (.cells #[.int .i64 2, .int .u64 0, .string ⟨#[]⟩, .slice none 0 0] 56)) (fun s9 wr => 0)
  case atStart => exact ⟨rfl, rfl⟩
  case round =>
    obtain ⟨rfl, rfl⟩ := hrel
    go_wp2_with fail
    refine bodyPost_ret (v := listV none 0 0) (by simp [results, Tryd.results86, go_sem, *] <;> rfl) rfl ?_
    exact ⟨rfl, by ((repeat' first | with_reducible exact Below.refl _ _ | with_reducible assumption | with_reducible refine Below.alloc ?_ ?_ _ | with_reducible refine Below.setCell ?_ ?_ _ | with_reducible apply Below.drew | with_reducible apply below_drewN | with_reducible refine below_call ?_ (by with_reducible assumption) ?_) <;> (first | omega | (simp; done) | (simp; omega) | (simp at *; omega)))⟩
def zattr : Value := .agg #[.slice none 0 0, .int .i64 0, .int .i64 0]
set_option maxHeartbeats 4000000 in
theorem attritem_zero (w : World) : Calls Tryd.prog 62 #[zattr] w
    (fun e w' => ∃ A c, e = .returned (listV A 3 c) ∧ Below w.heap.size w w') := by
  have wz : IntKind.u64.wrap 0 = 0 := rfl
  have hn : ∀ W, Calls Tryd.prog 68 #[.int .u64 0] W (Gives W (.agg #[.int .i64 0, .int .u64 0, .string ByteArray.empty, .slice none 0 0])) := fun W => num_any 0 W
  have hid := fun W => idsitem_nil W
  have hli : ∀ W : World, Calls Tryd.prog 67 #[.slice (some ⟨W.heap.size, 0, none⟩) 3 3] (W.alloc (.cells #[.int .i64 0, .int .u64 0, .string ByteArray.empty, .slice none 0 0, .int .i64 0, .int .u64 0, .string ByteArray.empty, .slice none 0 0, .int .i64 2, .int .u64 0, .string ByteArray.empty, .slice none 0 0] 56))
      (fun e w' => ∃ A' c', e = .returned (.agg #[.int .i64 2, .int .u64 0, .string ByteArray.empty, .slice A' 3 c']) ∧ Below (W.alloc (.cells #[.int .i64 0, .int .u64 0, .string ByteArray.empty, .slice none 0 0, .int .i64 0, .int .u64 0, .string ByteArray.empty, .slice none 0 0, .int .i64 2, .int .u64 0, .string ByteArray.empty, .slice none 0 0] 56)).heap.size (W.alloc (.cells #[.int .i64 0, .int .u64 0, .string ByteArray.empty, .slice none 0 0, .int .i64 0, .int .u64 0, .string ByteArray.empty, .slice none 0 0, .int .i64 2, .int .u64 0, .string ByteArray.empty, .slice none 0 0] 56)) w') := fun W =>
    (list_in (base := 0) (us := [numV 0, numV 0, listV none 0 0]) (l := [.mk 0 0 ByteArray.empty [], .mk 0 0 ByteArray.empty [], ltree []]) W (by simp [flatL, numV, Value.cells]) rfl rfl (Nat.zero_le _) (by decide) (fun i t u ht hu => by
      match i with
      | 0 => simp at ht hu; subst ht hu; exact hin_num _ _ (by decide)
      | 1 => simp at ht hu; subst ht hu; exact hin_num _ _ (by decide)
      | 2 => simp at ht hu; subst ht hu; exact hin_nil _ _
      | i + 3 => simp at ht)).mono (fun e w' ⟨A', c', h1, _, h3⟩ => ⟨A', c', h1, h3⟩)
  unfold listV at hid
  unfold zattr
  have Hli := Lib.hid hli
  clear hli
  go_enter Tryd.func62, Tryd.ntmps62
  go_upto_region 1 with fail
  have R0 : Blk ((w.alloc (.cells #[.slice none 0 0, .int .i64 0, .int .i64 0] 26)).alloc (.cells zitem 56)).drew (w.heap.size + 1) 56 zitem := (Blk.newAt (by simp)).drew
  have X0 : Blk ((w.alloc (.cells #[.slice none 0 0, .int .i64 0, .int .i64 0] 26)).alloc (.cells zitem 56)).drew w.heap.size 26 #[.slice none 0 0, .int .i64 0, .int .i64 0] := ((Blk.new w _ _).alloc _).drew
  have k0 : Below w.heap.size w ((w.alloc (.cells #[.slice none 0 0, .int .i64 0, .int .i64 0] 26)).alloc (.cells zitem 56)).drew := by ((repeat' first | with_reducible exact Below.refl _ _ | with_reducible assumption | with_reducible refine Below.alloc ?_ ?_ _ | with_reducible refine Below.setCell ?_ ?_ _ | with_reducible apply Below.drew | with_reducible apply below_drewN | with_reducible refine below_call ?_ (by with_reducible assumption) ?_) <;> (first | omega | (simp; done) | (simp; omega) | (simp at *; omega)))
  (refine wp_region_held_drew (S := (S1 w.heap.size #[.slice none 0 0, .int .i64 0, .int .i64 0])) (by kernel_rfl) ?_ (fun hHeld => ?_); (· exact X0.s1))
  (refine take_op (i := 0) (v := ?_) rfl (by kernel_rfl) (by kernel_rfl) (by kernel_rfl) (fun _ _ _ h => h) (by rfl) ?_ hHeld ?_; rotate_left; (· (intro wS hSw; (try dsimp only at hSw); go_simp; first | done | with_reducible rfl)); simp only [Act.put, List.setIfInBounds_toArray, List.set_cons_zero, List.set_cons_succ]); (refine take_op (i := 1) (v := ?_) rfl (by kernel_rfl) (by kernel_rfl) (by kernel_rfl) (fun _ _ _ h => h) (by rfl) ?_ hHeld ?_; rotate_left; (· (intro wS hSw; (try dsimp only at hSw); go_simp; first | done | with_reducible rfl)); simp only [Act.put, List.setIfInBounds_toArray, List.set_cons_zero, List.set_cons_succ]); (refine take_op (i := 2) (v := ?_) rfl (by kernel_rfl) (by kernel_rfl) (by kernel_rfl) (fun _ _ _ h => h) (by rfl) ?_ hHeld ?_; rotate_left; (· (intro wS hSw; (try dsimp only at hSw); go_simp; first | done | with_reducible rfl)); simp only [Act.put, List.setIfInBounds_toArray, List.set_cons_zero, List.set_cons_succ]); (refine take_op (i := 4) (v := ?_) rfl (by kernel_rfl) (by kernel_rfl) (by kernel_rfl) (fun _ _ _ h => h) (by rfl) ?_ hHeld ?_; rotate_left; (· (intro wS hSw; (try dsimp only at hSw); go_simp; first | done | with_reducible rfl)); simp only [Act.put, List.setIfInBounds_toArray, List.set_cons_zero, List.set_cons_succ]); (refine take_op (i := 5) (v := ?_) rfl (by kernel_rfl) (by kernel_rfl) (by kernel_rfl) (fun _ _ _ h => h) (by rfl) ?_ hHeld ?_; rotate_left; (· (intro wS hSw; (try dsimp only at hSw); go_simp; first | done | with_reducible rfl)); simp only [Act.put, List.setIfInBounds_toArray, List.set_cons_zero, List.set_cons_succ]); (refine take_op (i := 6) (v := ?_) rfl (by kernel_rfl) (by kernel_rfl) (by kernel_rfl) (fun _ _ _ h => h) (by rfl) ?_ hHeld ?_; rotate_left; (· (intro wS hSw; (try dsimp only at hSw); go_simp; first | done | with_reducible rfl)); simp only [Act.put, List.setIfInBounds_toArray, List.set_cons_zero, List.set_cons_succ]); (refine take_op (i := 8) (v := ?_) rfl (by kernel_rfl) (by kernel_rfl) (by kernel_rfl) (fun _ _ _ h => h) (by rfl) ?_ hHeld ?_; rotate_left; (· (intro wS hSw; (try dsimp only at hSw); go_simp; first | done | with_reducible rfl)); simp only [Act.put, List.setIfInBounds_toArray, List.set_cons_zero, List.set_cons_succ]); (refine take_op (i := 9) (v := ?_) rfl (by kernel_rfl) (by kernel_rfl) (by kernel_rfl) (fun _ _ _ h => h) (by rfl) ?_ hHeld ?_; rotate_left; (· (intro wS hSw; (try dsimp only at hSw); go_simp; first | done | with_reducible rfl)); simp only [Act.put, List.setIfInBounds_toArray, List.set_cons_zero, List.set_cons_succ])
  revert X0 R0 k0
  generalize World.drew _ = w0
  intro R0 X0 k0
  (refine call_op (i := 3) rfl (by kernel_rfl) (by rfl) (fun K hK => ?_); go_simp; (go_at_call 68; (with_reducible refine (hn _).mono ?_); rintro e w1 ⟨rfl, hb1⟩; have X1 := X0.keep hb1; have R1 := R0.keep hb1; have k1 := below_call k0 hb1 k0.size); refine hK.out _ _ X1.s1 (fun hHeld2 => ?_); clear hK K hHeld; have hHeld := hHeld2; clear hHeld2; (try simp only [Act.put, List.setIfInBounds_toArray, List.set_cons_zero, List.set_cons_succ]))
  (refine call_op (i := 7) rfl (by kernel_rfl) (by rfl) (fun K hK => ?_); go_simp; (go_at_call 68; (with_reducible refine (hn _).mono ?_); rintro e w2 ⟨rfl, hb2⟩; have X2 := X1.keep hb2; have R2 := R1.keep hb2; have k2 := below_call k1 hb2 k1.size); refine hK.out _ _ X2.s1 (fun hHeld2 => ?_); clear hK K hHeld; have hHeld := hHeld2; clear hHeld2; (try simp only [Act.put, List.setIfInBounds_toArray, List.set_cons_zero, List.set_cons_succ]))
  (refine call_op (i := 10) rfl (by kernel_rfl) (by rfl) (fun K hK => ?_); go_simp; (go_at_call 86; (with_reducible refine (hid _).mono ?_); rintro e w3 ⟨rfl, hb3⟩; have X3 := X2.keep hb3; have R3 := R2.keep hb3; have k3 := below_call k2 hb3 k2.size); refine hK.out _ _ X3.s1 (fun hHeld2 => ?_); clear hK K hHeld; have hHeld := hHeld2; clear hHeld2; (try simp only [Act.put, List.setIfInBounds_toArray, List.set_cons_zero, List.set_cons_succ]))
  (refine call_op (i := 11) rfl (by kernel_rfl) (by rfl) (fun K hK => ?_); go_simp; skip; refine hK.out _ _ (X3.alloc _).s1 (fun hHeld2 => ?_); clear hK K hHeld; have hHeld := hHeld2; clear hHeld2; (try simp only [Act.put, List.setIfInBounds_toArray, List.set_cons_zero, List.set_cons_succ]))
  (refine call_op (i := 12) rfl (by kernel_rfl) (by rfl) (fun K hK => ?_); go_simp; (go_at_call 67; (with_reducible refine (Hli.out w3).mono ?_); rintro e w4 ⟨A4, c4, rfl, hb4⟩; have X4 := (X3.alloc _).keep hb4; have R4 := (R3.alloc _).keep hb4; have k4 := below_call (below_call k3 (below_one _) k3.size) hb4 (by have := k3.size; simp; omega); have R4c := R4.cell; have R4f := R4.frozen); refine hK.out _ _ X4.s1 (fun hHeld2 => ?_); clear hK K hHeld; have hHeld := hHeld2; clear hHeld2; (try simp only [Act.put, List.setIfInBounds_toArray, List.set_cons_zero, List.set_cons_succ]))
  (refine call_op (i := 13) rfl (by kernel_rfl) (by rfl) (fun K hK => ?_); go_simp; skip; refine hK.out _ _ (((((X4.far (p := ⟨w.heap.size + 1, 0, none⟩) (by simp) _).far (p := ⟨w.heap.size + 1, 1, none⟩) (by simp) _).far (p := ⟨w.heap.size + 1, 2, none⟩) (by simp) _).far (p := ⟨w.heap.size + 1, 3, none⟩) (by simp) _).s1) (fun hHeld2 => ?_); clear hK K hHeld; have hHeld := hHeld2; clear hHeld2; (try simp only [Act.put, List.setIfInBounds_toArray, List.set_cons_zero, List.set_cons_succ]))
  (refine wpAnyH_done (by kernel_rfl) ?_ _)
  go_wp2_with fail
  refine bodyPost_ret (v := listV A4 3 c4) (by simp [results, Tryd.results62, go_sem, *] <;> rfl) rfl ?_
  exact ⟨A4, c4, rfl, by ((repeat' first | with_reducible exact Below.refl _ _ | with_reducible assumption | with_reducible refine Below.alloc ?_ ?_ _ | with_reducible refine Below.setCell ?_ ?_ _ | with_reducible apply Below.drew | with_reducible apply below_drewN | with_reducible refine below_call ?_ (by with_reducible assumption) ?_) <;> (first | omega | (simp; done) | (simp; omega) | (simp at *; omega)))⟩
attribute [local go_sem ↓ high] loadVar_rec storeVar_rec
attribute [local go_sem] rec_store_new
set_option maxHeartbeats 4000000 in
theorem recitem0_any (i n br bb tr tb : Int) (w : World) : Calls Tryd.prog 40 #[(rec0 i n br bb tr tb).v] w
    (fun e w' => ∃ A c, e = .returned (listV A 5 c) ∧ HoldsIn w' (fun x => w.heap.size ≤ x) (rtree0 i n 0 br bb tr tb) (listV A 5 c) ∧ Below w.heap.size w w') := by
  have hat := fun W => attritem_zero W
  have hla : ∀ (W : World) (A : Option Addr) (c : Nat), Calls Tryd.prog 48 #[.agg #[.int .i64 i, .int .i64 n, .int .i64 0, .int .i64 br, .int .i64 bb, .int .i64 tr, .int .i64 tb, .int .i64 0, .int .i64 0, .int .i64 0, .string ⟨#[]⟩, .string ⟨#[]⟩, .int .i64 0, .slice none 0 0, .int .i64 0, .int .i64 0], .agg #[.int .i64 2, .int .u64 0, .string ByteArray.empty, .slice A 3 c]] W (fun e w' => ∃ A c, e = .returned (.agg #[.int .i64 2, .int .u64 0, .string ByteArray.empty, .slice A 5 c]) ∧ HoldsIn w' (fun x => W.heap.size ≤ x) (rtree0 i n 0 br bb tr tb) (listV A 5 c) ∧ Below W.heap.size W w') := fun W A c => laid0_any i n br bb tr tb 0 0 0 ⟨#[]⟩ ⟨#[]⟩ 0 none 0 0 0 0 2 0 ByteArray.empty A 3 c W
  unfold listV zattr at hat
  have Hla := Lib.hid hla
  have Hat := Lib.hid hat
  clear hla hat
  unfold rec0 RecT.v
  go_enter Tryd.func40, Tryd.ntmps40
  go_upto_region 1 with fail
  have X0 : Blk ((w.alloc (.cells #[.int .i64 i, .int .i64 n, .int .i64 0, .int .i64 br, .int .i64 bb, .int .i64 tr, .int .i64 tb, .int .i64 0, .int .i64 0, .int .i64 0, .string ⟨#[]⟩, .string ⟨#[]⟩, .int .i64 0, .slice none 0 0, .int .i64 0, .int .i64 0] 33)).alloc (.cells zitem 56)).drew w.heap.size 33 #[.int .i64 i, .int .i64 n, .int .i64 0, .int .i64 br, .int .i64 bb, .int .i64 tr, .int .i64 tb, .int .i64 0, .int .i64 0, .int .i64 0, .string ⟨#[]⟩, .string ⟨#[]⟩, .int .i64 0, .slice none 0 0, .int .i64 0, .int .i64 0] := ((Blk.new w _ _).alloc _).drew
  have R0 : Blk ((w.alloc (.cells #[.int .i64 i, .int .i64 n, .int .i64 0, .int .i64 br, .int .i64 bb, .int .i64 tr, .int .i64 tb, .int .i64 0, .int .i64 0, .int .i64 0, .string ⟨#[]⟩, .string ⟨#[]⟩, .int .i64 0, .slice none 0 0, .int .i64 0, .int .i64 0] 33)).alloc (.cells zitem 56)).drew (w.heap.size + 1) 56 zitem := (Blk.newAt (by simp)).drew
  have k0 : Below w.heap.size w ((w.alloc (.cells #[.int .i64 i, .int .i64 n, .int .i64 0, .int .i64 br, .int .i64 bb, .int .i64 tr, .int .i64 tb, .int .i64 0, .int .i64 0, .int .i64 0, .string ⟨#[]⟩, .string ⟨#[]⟩, .int .i64 0, .slice none 0 0, .int .i64 0, .int .i64 0] 33)).alloc (.cells zitem 56)).drew := by ((repeat' first | with_reducible exact Below.refl _ _ | with_reducible assumption | with_reducible refine Below.alloc ?_ ?_ _ | with_reducible refine Below.setCell ?_ ?_ _ | with_reducible apply Below.drew | with_reducible apply below_drewN | with_reducible refine below_call ?_ (by with_reducible assumption) ?_) <;> (first | omega | (simp; done) | (simp; omega) | (simp at *; omega)))
  have z0 : w.heap.size + 2 ≤ ((w.alloc (.cells #[.int .i64 i, .int .i64 n, .int .i64 0, .int .i64 br, .int .i64 bb, .int .i64 tr, .int .i64 tb, .int .i64 0, .int .i64 0, .int .i64 0, .string ⟨#[]⟩, .string ⟨#[]⟩, .int .i64 0, .slice none 0 0, .int .i64 0, .int .i64 0] 33)).alloc (.cells zitem 56)).drew.heap.size := by simp
  (refine wp_region_held_drew (S := (SL w.heap.size #[.int .i64 i, .int .i64 n, .int .i64 0, .int .i64 br, .int .i64 bb, .int .i64 tr, .int .i64 tb, .int .i64 0, .int .i64 0, .int .i64 0, .string ⟨#[]⟩, .string ⟨#[]⟩, .int .i64 0, .slice none 0 0, .int .i64 0, .int .i64 0])) (by kernel_rfl) ?_ (fun hHeld => ?_); (· exact X0.sl))
  (refine take_op (i := 0) (v := ?_) rfl (by kernel_rfl) (by kernel_rfl) (by kernel_rfl) (fun _ _ _ h => h) (by rfl) ?_ hHeld ?_; rotate_left; (· (intro wS hSw; (try dsimp only at hSw); go_simp; first | done | with_reducible rfl)); simp only [Act.put, List.setIfInBounds_toArray, List.set_cons_zero, List.set_cons_succ]); (refine take_op (i := 1) (v := ?_) rfl (by kernel_rfl) (by kernel_rfl) (by kernel_rfl) (fun _ _ _ h => h) (by rfl) ?_ hHeld ?_; rotate_left; (· (intro wS hSw; (try dsimp only at hSw); go_simp; first | done | with_reducible rfl)); simp only [Act.put, List.setIfInBounds_toArray, List.set_cons_zero, List.set_cons_succ]); (refine take_op (i := 2) (v := ?_) rfl (by kernel_rfl) (by kernel_rfl) (by kernel_rfl) (fun _ _ _ h => h) (by rfl) ?_ hHeld ?_; rotate_left; (· (intro wS hSw; (try dsimp only at hSw); go_simp; first | done | with_reducible rfl)); simp only [Act.put, List.setIfInBounds_toArray, List.set_cons_zero, List.set_cons_succ])
  revert X0 R0 k0 z0
  generalize World.drew _ = w0
  intro X0 R0 k0 z0
  (refine call_op (i := 3) rfl (by kernel_rfl) (by rfl) (fun K hK => ?_); go_simp; (go_at_call 62; (with_reducible refine (Hat.out _).mono ?_); rintro e w1 ⟨A1, c1, rfl, hb1⟩; have X1 := X0.keep hb1; have R1 := R0.keep hb1; have k1 := below_call k0 hb1 k0.size; have z1 := hb1.size); refine hK.out _ _ X1.sl (fun hHeld2 => ?_); clear hK K hHeld; have hHeld := hHeld2; clear hHeld2; (try simp only [Act.put, List.setIfInBounds_toArray, List.set_cons_zero, List.set_cons_succ]))
  (refine call_op (i := 4) rfl (by kernel_rfl) (by rfl) (fun K hK => ?_); go_simp; (go_at_call 48; (with_reducible refine (Hla.out _ _ _).mono ?_); rintro e w2 ⟨A2, c2, rfl, hin2, hb2⟩; have Hin2 := Lib.hid hin2; clear hin2; have X2 := X1.keep hb2; have R2 := R1.keep hb2; have k2 := below_call k1 hb2 k1.size; have R2c := R2.cell; have R2f := R2.frozen); refine hK.out _ _ X2.sl (fun hHeld2 => ?_); clear hK K hHeld; have hHeld := hHeld2; clear hHeld2; (try simp only [Act.put, List.setIfInBounds_toArray, List.set_cons_zero, List.set_cons_succ]))
  (refine call_op (i := 5) rfl (by kernel_rfl) (by rfl) (fun K hK => ?_); go_simp; skip; refine hK.out _ _ (Blk.sl ((((X2.far (p := ⟨w.heap.size + 1, 0, none⟩) (by simp) _).far (p := ⟨w.heap.size + 1, 1, none⟩) (by simp) _).far (p := ⟨w.heap.size + 1, 2, none⟩) (by simp) _).far (p := ⟨w.heap.size + 1, 3, none⟩) (by simp) _)) (fun hHeld2 => ?_); clear hK K hHeld; have hHeld := hHeld2; clear hHeld2; (try simp only [Act.put, List.setIfInBounds_toArray, List.set_cons_zero, List.set_cons_succ]))
  (refine wpAnyH_done (by kernel_rfl) ?_ _)
  go_wp2_with fail
  refine bodyPost_ret (v := listV A2 5 c2) (by simp [results, Tryd.results40, go_sem, *] <;> rfl) rfl ?_
  exact ⟨A2, c2, rfl, (hin_set4 Hin2.out (by omega) _ _ _ _).mono (fun b hb => by omega), by ((repeat' first | with_reducible exact Below.refl _ _ | with_reducible assumption | with_reducible refine Below.alloc ?_ ?_ _ | with_reducible refine Below.setCell ?_ ?_ _ | with_reducible apply Below.drew | with_reducible apply below_drewN | with_reducible refine below_call ?_ (by with_reducible assumption) ?_) <;> (first | omega | (simp; done) | (simp; omega) | (simp at *; omega)))⟩
set_option maxHeartbeats 4000000 in
theorem rectake0_any (i n br bb tr tb : Int) (hi0 : 0 ≤ i) (hi1 : i ≤ 4611686018427387904) (hn0 : 0 ≤ n) (hn1 : n ≤ 4611686018427387904) (hrb : rightB br bb = true) (hrt : rightB tr tb = true) (hok : recOk (rec0 i n br bb tr tb) = true)
    (w : World) (hT : Tabs w) (S : Nat → Prop) (v : Value) (hv : HoldsIn w S (rtree0 i n 0 br bb tr tb) v) :
    Calls Tryd.prog 39 #[v] w (fun e w' => e = .returned (.tuple #[(rec0 i n br bb tr tb).v, .bool true]) ∧ Below w.heap.size w w') := by
  have hrd := fun W (hb : Below w.heap.size w W) => read0_any i n br bb tr tb hi0 hi1 hn0 hn1 hrb hrt hok W (hT.keep hb) S v (.func (.func 61) #[] #[]) (hv.under hb)
  obtain ⟨A, m, c, rfl⟩ := hin_list hv
  clear hv hT
  unfold listV rec0 RecT.v at *
  have Hrd := Lib.hid hrd
  clear hrd
  go_enter Tryd.func39, Tryd.ntmps39
  go_wp2_with fail
  have R0 : Blk ((w.alloc (.cells #[.int .i64 2, .int .u64 0, .string ByteArray.empty, .slice A m c] 56)).alloc (.cells #[.int .i64 0, .int .i64 0, .int .i64 0, .int .i64 0, .int .i64 0, .int .i64 0, .int .i64 0, .int .i64 0, .int .i64 0, .int .i64 0, .string ⟨#[]⟩, .string ⟨#[]⟩, .int .i64 0, .slice none 0 0, .int .i64 0, .int .i64 0] 33)) (w.heap.size + 1) 33 #[.int .i64 0, .int .i64 0, .int .i64 0, .int .i64 0, .int .i64 0, .int .i64 0, .int .i64 0, .int .i64 0, .int .i64 0, .int .i64 0, .string ⟨#[]⟩, .string ⟨#[]⟩, .int .i64 0, .slice none 0 0, .int .i64 0, .int .i64 0] := Blk.newAt (by simp)
  refine (Hrd.out _ (by ((repeat' first | with_reducible exact Below.refl _ _ | with_reducible assumption | with_reducible refine Below.alloc ?_ ?_ _ | with_reducible refine Below.setCell ?_ ?_ _ | with_reducible apply Below.drew | with_reducible apply below_drewN | with_reducible refine below_call ?_ (by with_reducible assumption) ?_) <;> (first | omega | (simp; done) | (simp; omega) | (simp at *; omega))))).mono ?_
  rintro e w1 ⟨rfl, hb1⟩
  have k1 : Below w.heap.size w w1 := by ((repeat' first | with_reducible exact Below.refl _ _ | with_reducible assumption | with_reducible refine Below.alloc ?_ ?_ _ | with_reducible refine Below.setCell ?_ ?_ _ | with_reducible apply Below.drew | with_reducible apply below_drewN | with_reducible refine below_call ?_ (by with_reducible assumption) ?_) <;> (first | omega | (simp; done) | (simp; omega) | (simp at *; omega)))
  have z1 := hb1.size
  simp at z1
  have R1 := R0.keep hb1
  have R1s := rec_store R1 rfl i n 0 br bb tr tb 0 0 0 ⟨#[]⟩ ⟨#[]⟩ 0 none 0 0 0 0
  clear R0 hb1 Hrd
  go_wp2_with fail
  refine bodyPost_ret (results_rec (g := w.heap.size + 1) rfl rfl rfl (R1.recSet rfl)) rfl ?_
  exact ⟨rfl, below_recSet k1 (by omega) _⟩
end Go.Proofs.YtmgiholmhhjpaaaDoor

namespace Go.Proofs.YtmgiholmhhjpaaaDoor
open Go.RowKit
set_option linter.unusedVariables false
set_option linter.unusedSimpArgs false
set_option maxRecDepth 20000
attribute [local go_sem ↓] Go.wp_at_zero Go.wp_at_succ
attribute [local go_sem] World.cell?_alloc_some frozen_alloc_some
attribute [local go_sem] lt2 lt3 lt4 lt5
attribute [local simp] lt2 lt3 lt4 lt5

def aw9 : RecT := rec0 2 1 3 1 0 0
theorem aw9_ok : recOk aw9 = true := by kernel_rfl
def bad9 : RecT := ⟨0, 0, 9, 0, 0, 0, 0, 0, 0, 0, ⟨#[]⟩, ⟨#[]⟩, 0, none, 0, 0, 0, 0, []⟩
theorem bad9_no : recOk bad9 = false := by kernel_rfl
theorem wf0 (x : Int) (h0 : 0 ≤ x) (h1 : x ≤ 1000) : (Lit.int .i64 x).wf = true := by simp [Lit.wf, IntKind.min, IntKind.max, IntKind.bits, IntKind.signed]; omega
attribute [local go_sem ↓ high] loadVar_rec storeVar_rec
attribute [local go_sem] rec_store_new
set_option maxHeartbeats 8000000 in
theorem awake09 (w : World) (hT : Tabs w) : Calls Tryd.prog 17 #[] w (Gives w (.bool true)) := by
  have hit := fun W => recitem0_any 2 1 3 1 0 0 W
  have htk := fun W (hb : Below w.heap.size w W) S v hv => rectake0_any 2 1 3 1 0 0 (by omega) (by omega) (by omega) (by omega) (by decide) (by decide) aw9_ok W (hT.keep hb) S v hv
  have hck : ∀ W, Below w.heap.size w W → Calls Tryd.prog 10 #[aw9.v] W (Gives W (.int .i64 0)) := fun W hb => by
    have := reccheck_any aw9 W ⟨wf0 2 (by omega) (by omega), wf0 1 (by omega) (by omega), wf0 0 (by omega) (by omega), wf0 3 (by omega) (by omega), wf0 1 (by omega) (by omega), wf0 0 (by omega) (by omega), wf0 0 (by omega) (by omega), wf0 0 (by omega) (by omega), wf0 0 (by omega) (by omega), wf0 0 (by omega) (by omega), (by show (0 : Nat) ≤ maxLen; decide), (by show (0 : Nat) ≤ maxLen; decide), wf0 0 (by omega) (by omega), Nat.le_refl _, Nat.zero_le _, IdsAt.nil, wf0 0 (by omega) (by omega), wf0 0 (by omega) (by omega)⟩ (hT.keep hb)
    rw [aw9_ok] at this; exact this
  have hbd : ∀ W, Below w.heap.size w W → Calls Tryd.prog 10 #[bad9.v] W (Gives W (.int .i64 4)) := fun W hb => by
    have := reccheck_any bad9 W ⟨wf0 0 (by omega) (by omega), wf0 0 (by omega) (by omega), wf0 9 (by omega) (by omega), wf0 0 (by omega) (by omega), wf0 0 (by omega) (by omega), wf0 0 (by omega) (by omega), wf0 0 (by omega) (by omega), wf0 0 (by omega) (by omega), wf0 0 (by omega) (by omega), wf0 0 (by omega) (by omega), (by show (0 : Nat) ≤ maxLen; decide), (by show (0 : Nat) ≤ maxLen; decide), wf0 0 (by omega) (by omega), Nat.le_refl _, Nat.zero_le _, IdsAt.nil, wf0 0 (by omega) (by omega), wf0 0 (by omega) (by omega)⟩ (hT.keep hb)
    rw [bad9_no] at this; exact this
  have hsm : ∀ W, Calls Tryd.prog 19 #[aw9.v, aw9.v] W (Gives W (.bool true)) := fun W => by
    have := recsame_any aw9 aw9 W IdsAt.nil IdsAt.nil
    rw [(recsame_iff.2 ⟨⟨rfl, rfl⟩, rfl, ⟨rfl, rfl⟩, ⟨rfl, rfl⟩, ⟨rfl, rfl, rfl, rfl, rfl, rfl⟩, rfl⟩ : recsame aw9 aw9 = true)] at this; exact this
  clear hT
  unfold aw9 bad9 rec0 RecT.v listV at *
  have Hit := Lib.hid hit
  have Htk := Lib.hid htk
  have Hck := Lib.hid hck
  have Hbd := Lib.hid hbd
  have Hsm := Lib.hid hsm
  clear hit htk hck hbd hsm
  have B0 : Blk (w.alloc (.cells #[.int .i64 2, .int .i64 1, .int .i64 0, .int .i64 3, .int .i64 1, .int .i64 0, .int .i64 0, .int .i64 0, .int .i64 0, .int .i64 0, .string ⟨#[]⟩, .string ⟨#[]⟩, .int .i64 0, .slice none 0 0, .int .i64 0, .int .i64 0] 33)) w.heap.size 33 #[.int .i64 2, .int .i64 1, .int .i64 0, .int .i64 3, .int .i64 1, .int .i64 0, .int .i64 0, .int .i64 0, .int .i64 0, .int .i64 0, .string ⟨#[]⟩, .string ⟨#[]⟩, .int .i64 0, .slice none 0 0, .int .i64 0, .int .i64 0] := Blk.new _ _ _
  have B0l := rec_load B0
  go_enter Tryd.func17, Tryd.ntmps17
  go_wp2_with fail
  refine (Hit.out _).mono ?_
  rintro e w1 ⟨A1, c1, rfl, hin, hb1⟩
  have B1 := B0.keep hb1
  have k1 : Below w.heap.size w w1 := by ((repeat' first | with_reducible exact Below.refl _ _ | with_reducible assumption | with_reducible refine Below.alloc ?_ ?_ _ | with_reducible refine Below.setCell ?_ ?_ _ | with_reducible apply Below.drew | with_reducible apply below_drewN | with_reducible refine below_call ?_ (by with_reducible assumption) ?_) <;> (first | omega | (simp; done) | (simp; omega) | (simp at *; omega)))
  have z1 := hb1.size
  simp at z1
  clear B0 B0l hb1
  go_wp2_with fail
  refine (Htk.out _ k1 _ _ hin).mono ?_
  rintro e w2 ⟨rfl, hb2⟩
  have B2 := B1.keep hb2
  have k2 := below_call k1 hb2 k1.size
  have z2 := hb2.size
  have nb : w2.heap.size ≠ w.heap.size := by omega
  have nb' : w.heap.size ≠ w2.heap.size := by omega
  have C0 : Blk (w2.alloc (.cells #[.int .i64 2, .int .i64 1, .int .i64 0, .int .i64 3, .int .i64 1, .int .i64 0, .int .i64 0, .int .i64 0, .int .i64 0, .int .i64 0, .string ⟨#[]⟩, .string ⟨#[]⟩, .int .i64 0, .slice none 0 0, .int .i64 0, .int .i64 0] 33)) w2.heap.size 33 #[.int .i64 2, .int .i64 1, .int .i64 0, .int .i64 3, .int .i64 1, .int .i64 0, .int .i64 0, .int .i64 0, .int .i64 0, .int .i64 0, .string ⟨#[]⟩, .string ⟨#[]⟩, .int .i64 0, .slice none 0 0, .int .i64 0, .int .i64 0] := Blk.new _ _ _
  have B3 := B2.alloc (.cells #[.int .i64 2, .int .i64 1, .int .i64 0, .int .i64 3, .int .i64 1, .int .i64 0, .int .i64 0, .int .i64 0, .int .i64 0, .int .i64 0, .string ⟨#[]⟩, .string ⟨#[]⟩, .int .i64 0, .slice none 0 0, .int .i64 0, .int .i64 0] 33)
  have k3 : Below w.heap.size w (w2.alloc (.cells #[.int .i64 2, .int .i64 1, .int .i64 0, .int .i64 3, .int .i64 1, .int .i64 0, .int .i64 0, .int .i64 0, .int .i64 0, .int .i64 0, .string ⟨#[]⟩, .string ⟨#[]⟩, .int .i64 0, .slice none 0 0, .int .i64 0, .int .i64 0] 33)) := by ((repeat' first | with_reducible exact Below.refl _ _ | with_reducible assumption | with_reducible refine Below.alloc ?_ ?_ _ | with_reducible refine Below.setCell ?_ ?_ _ | with_reducible apply Below.drew | with_reducible apply below_drewN | with_reducible refine below_call ?_ (by with_reducible assumption) ?_) <;> (first | omega | (simp; done) | (simp; omega) | (simp at *; omega)))
  have B3l := rec_load B3
  clear hin B1 hb2
  go_wp2_with fail
  refine (Hck.out _ k3).mono ?_
  rintro e w4 ⟨rfl, hb4⟩
  have B4 := B3.keep hb4
  have C4 := C0.keep hb4
  have k4 := below_call k3 hb4 k3.size
  have B4l := rec_load B4
  have C4l := rec_load C4
  clear B3l B3 C0 hb4
  go_wp2_with fail
  refine (Hsm.out _).mono ?_
  rintro e w5 ⟨rfl, hb5⟩
  have k5 := below_call k4 hb5 k4.size
  clear B4l C4l B4 C4 hb5
  go_wp2_with fail
  refine (Hbd.out _ k5).mono ?_
  rintro e w6 ⟨rfl, hb6⟩
  have k6 := below_call k5 hb6 k5.size
  clear hb6
  go_wp2_with fail
  go_ret
  exact ⟨rfl, k6⟩
end Go.Proofs.YtmgiholmhhjpaaaDoor
