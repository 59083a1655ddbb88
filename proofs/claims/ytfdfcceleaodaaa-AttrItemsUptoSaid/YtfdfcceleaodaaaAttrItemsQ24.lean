/- The walks of attr.Item, attr.old. -/
import Derived.Test.YtfdfcceleaodaaaAttrItemsQ20
import Derived.WalkKit
import Derived.WalkSpells
import Derived.WalkLawsBesides
import Derived.Deep.RegionHeld3
import Derived.Deep.DrawnRows
import Derived.Deep.DeepCutAuto
import Derived.Deep.DeepFit
import Derived.Lib.Hide
import Derived.BigQuiet
import Derived.Deep.QuietTactic
namespace Go.Proofs.Ytfdfcceleaodaaa
open Go.RowKit
set_option linter.unusedVariables false
set_option linter.unusedSimpArgs false
set_option maxRecDepth 20000
attribute [local go_sem ↓] Go.wp_at_zero Go.wp_at_succ
attribute [local go_sem] World.cell?_alloc_some frozen_alloc_some
attribute [local go_sem] lt2 lt3 lt4 lt5
attribute [local simp] lt2 lt3 lt4 lt5

def atree (l : List IdP) (sq tg : Int) : Tree := ltree [ntree tg, ntree sq, ltree (itrees l)]
def otree (l : List IdP) (sq : Int) : Tree := ltree [ntree sq, ltree (itrees l)]
set_option maxHeartbeats 4000000 in
theorem attritem_any (A : Option Addr) (m c : Nat) (sq tg : Int) (l : List IdP) (w : World) (h1 : IdsAt w A m l) (hm : m ≤ 1000000) : Calls Try.prog 9 #[.agg #[.slice A m c, .int .i64 sq, .int .i64 tg]] w
    (fun e w' => ∃ A' c', e = .returned (listV A' 3 c') ∧ HoldsIn w' (fun x => w.heap.size ≤ x) (atree l sq tg) (listV A' 3 c') ∧ Below w.heap.size w w') := by
  have ws := u64n_cast sq
  have wt := u64n_cast tg
  have hns := fun W => num_any (u64n sq) W
  have hnt := fun W => num_any (u64n tg) W
  have hid := fun W (hb : Below w.heap.size w W) => idsitem_any A m c l W (h1.keep hb) hm
  have hli : ∀ (W : World) (A3 : Option Addr) (c3 : Nat), w.heap.size + 2 ≤ W.heap.size → HoldsIn W (fun x => w.heap.size + 2 ≤ x) (ltree (itrees l)) (listV A3 (2 * m) c3) → Calls Try.prog 25 #[.slice (some ⟨W.heap.size, 0, none⟩) 3 3] (W.alloc (.cells #[.int .i64 0, .int .u64 (u64n tg : Int), .string ByteArray.empty, .slice none 0 0, .int .i64 0, .int .u64 (u64n sq : Int), .string ByteArray.empty, .slice none 0 0, .int .i64 2, .int .u64 0, .string ByteArray.empty, .slice A3 (2 * m) c3] 28))
      (fun e w' => ∃ A' c', e = .returned (.agg #[.int .i64 2, .int .u64 0, .string ByteArray.empty, .slice A' 3 c']) ∧ HoldsIn w' (fun x => w.heap.size + 2 ≤ x) (atree l sq tg) (.agg #[.int .i64 2, .int .u64 0, .string ByteArray.empty, .slice A' 3 c']) ∧ Below (W.alloc (.cells #[.int .i64 0, .int .u64 (u64n tg : Int), .string ByteArray.empty, .slice none 0 0, .int .i64 0, .int .u64 (u64n sq : Int), .string ByteArray.empty, .slice none 0 0, .int .i64 2, .int .u64 0, .string ByteArray.empty, .slice A3 (2 * m) c3] 28)).heap.size (W.alloc (.cells #[.int .i64 0, .int .u64 (u64n tg : Int), .string ByteArray.empty, .slice none 0 0, .int .i64 0, .int .u64 (u64n sq : Int), .string ByteArray.empty, .slice none 0 0, .int .i64 2, .int .u64 0, .string ByteArray.empty, .slice A3 (2 * m) c3] 28)) w') := fun W A3 c3 h hi =>
    list_in (us := [numV (u64n tg), numV (u64n sq), listV A3 (2 * m) c3]) W (by simp [flatL, numV, Value.cells]) rfl rfl h (by decide) (fun i t u ht hu => by
      match i with
      | 0 => simp at ht hu; subst ht hu; exact hin_num _ _ (u64n_lt _)
      | 1 => simp at ht hu; subst ht hu; exact hin_num _ _ (u64n_lt _)
      | 2 => simp at ht hu; subst ht hu; exact hi
      | i + 3 => simp at ht)
  unfold numV at hns hnt
  unfold listV at hid
  have Hli := Lib.hid hli
  have Hid := Lib.hid hid
  clear hli hid h1
  go_enter Try.func9, Try.ntmps9
  go_upto_region 1 with fail
  have X0 : Blk ((w.alloc (.cells #[.slice A m c, .int .i64 sq, .int .i64 tg] 24)).alloc (.cells #[.int .i64 0, .int .u64 0, .string ⟨#[]⟩, .slice none 0 0] 28)).drew w.heap.size 24 #[.slice A m c, .int .i64 sq, .int .i64 tg] := ((Blk.new w _ _).alloc _).drew
  have R0 : Blk ((w.alloc (.cells #[.slice A m c, .int .i64 sq, .int .i64 tg] 24)).alloc (.cells #[.int .i64 0, .int .u64 0, .string ⟨#[]⟩, .slice none 0 0] 28)).drew (w.heap.size + 1) 28 #[.int .i64 0, .int .u64 0, .string ⟨#[]⟩, .slice none 0 0] := (Blk.newAt (by simp)).drew
  have k0 : Below w.heap.size w ((w.alloc (.cells #[.slice A m c, .int .i64 sq, .int .i64 tg] 24)).alloc (.cells #[.int .i64 0, .int .u64 0, .string ⟨#[]⟩, .slice none 0 0] 28)).drew := by ((repeat' first | with_reducible exact Below.refl _ _ | with_reducible assumption | with_reducible refine Below.alloc ?_ ?_ _ | with_reducible refine Below.setCell ?_ ?_ _ | with_reducible apply Below.drew | with_reducible apply below_drewN | with_reducible refine below_call ?_ (by with_reducible assumption) ?_) <;> (first | omega | (simp; done) | (simp; omega) | (simp at *; omega)))
  have z0 : w.heap.size + 2 ≤ ((w.alloc (.cells #[.slice A m c, .int .i64 sq, .int .i64 tg] 24)).alloc (.cells #[.int .i64 0, .int .u64 0, .string ⟨#[]⟩, .slice none 0 0] 28)).drew.heap.size := by simp
  (refine wp_region_held_drew (S := (S1 w.heap.size #[.slice A m c, .int .i64 sq, .int .i64 tg])) (by kernel_rfl) ?_ (fun hHeld => ?_); (· exact X0.s1))
  (refine take_op (i := 0) (v := ?_) rfl (by kernel_rfl) (by kernel_rfl) (by kernel_rfl) (fun _ _ _ h => h) (by rfl) ?_ hHeld ?_; rotate_left; (· (intro wS hSw; (try dsimp only at hSw); go_simp; first | done | with_reducible rfl)); simp only [Act.put, List.setIfInBounds_toArray, List.set_cons_zero, List.set_cons_succ]); (refine take_op (i := 1) (v := ?_) rfl (by kernel_rfl) (by kernel_rfl) (by kernel_rfl) (fun _ _ _ h => h) (by rfl) ?_ hHeld ?_; rotate_left; (· (intro wS hSw; (try dsimp only at hSw); go_simp; first | done | with_reducible rfl)); simp only [Act.put, List.setIfInBounds_toArray, List.set_cons_zero, List.set_cons_succ]); (refine take_op (i := 2) (v := ?_) rfl (by kernel_rfl) (by kernel_rfl) (by kernel_rfl) (fun _ _ _ h => h) (by rfl) ?_ hHeld ?_; rotate_left; (· (intro wS hSw; (try dsimp only at hSw); go_simp; first | done | with_reducible rfl)); simp only [Act.put, List.setIfInBounds_toArray, List.set_cons_zero, List.set_cons_succ]); (refine take_op (i := 4) (v := ?_) rfl (by kernel_rfl) (by kernel_rfl) (by kernel_rfl) (fun _ _ _ h => h) (by rfl) ?_ hHeld ?_; rotate_left; (· (intro wS hSw; (try dsimp only at hSw); go_simp; first | done | with_reducible rfl)); simp only [Act.put, List.setIfInBounds_toArray, List.set_cons_zero, List.set_cons_succ]); (refine take_op (i := 5) (v := ?_) rfl (by kernel_rfl) (by kernel_rfl) (by kernel_rfl) (fun _ _ _ h => h) (by rfl) ?_ hHeld ?_; rotate_left; (· (intro wS hSw; (try dsimp only at hSw); go_simp; first | done | with_reducible rfl)); simp only [Act.put, List.setIfInBounds_toArray, List.set_cons_zero, List.set_cons_succ]); (refine take_op (i := 6) (v := ?_) rfl (by kernel_rfl) (by kernel_rfl) (by kernel_rfl) (fun _ _ _ h => h) (by rfl) ?_ hHeld ?_; rotate_left; (· (intro wS hSw; (try dsimp only at hSw); go_simp; first | done | with_reducible rfl)); simp only [Act.put, List.setIfInBounds_toArray, List.set_cons_zero, List.set_cons_succ]); (refine take_op (i := 8) (v := ?_) rfl (by kernel_rfl) (by kernel_rfl) (by kernel_rfl) (fun _ _ _ h => h) (by rfl) ?_ hHeld ?_; rotate_left; (· (intro wS hSw; (try dsimp only at hSw); go_simp; first | done | with_reducible rfl)); simp only [Act.put, List.setIfInBounds_toArray, List.set_cons_zero, List.set_cons_succ]); (refine take_op (i := 9) (v := ?_) rfl (by kernel_rfl) (by kernel_rfl) (by kernel_rfl) (fun _ _ _ h => h) (by rfl) ?_ hHeld ?_; rotate_left; (· (intro wS hSw; (try dsimp only at hSw); go_simp; first | done | with_reducible rfl)); simp only [Act.put, List.setIfInBounds_toArray, List.set_cons_zero, List.set_cons_succ])
  revert X0 R0 k0 z0
  generalize World.drew _ = w0
  intro X0 R0 k0 z0
  (refine call_op (i := 3) rfl (by kernel_rfl) (by rfl) (fun K hK => ?_); go_simp; (go_at_call 26; (with_reducible refine (hnt _).mono ?_); rintro e w1 ⟨rfl, hb1⟩; have X1 := X0.keep hb1; have R1 := R0.keep hb1; have k1 := below_call k0 hb1 k0.size; have z1 := hb1.size); refine hK.out _ _ X1.s1 (fun hHeld2 => ?_); clear hK K hHeld; have hHeld := hHeld2; clear hHeld2; (try simp only [Act.put, List.setIfInBounds_toArray, List.set_cons_zero, List.set_cons_succ]))
  (refine call_op (i := 7) rfl (by kernel_rfl) (by rfl) (fun K hK => ?_); go_simp; (go_at_call 26; (with_reducible refine (hns _).mono ?_); rintro e w2 ⟨rfl, hb2⟩; have X2 := X1.keep hb2; have R2 := R1.keep hb2; have k2 := below_call k1 hb2 k1.size; have z2 := hb2.size); refine hK.out _ _ X2.s1 (fun hHeld2 => ?_); clear hK K hHeld; have hHeld := hHeld2; clear hHeld2; (try simp only [Act.put, List.setIfInBounds_toArray, List.set_cons_zero, List.set_cons_succ]))
  (refine call_op (i := 10) rfl (by kernel_rfl) (by rfl) (fun K hK => ?_); go_simp; (go_at_call 27; (with_reducible refine (Hid.out _ k2).mono ?_); rintro e w3 ⟨A3, c3, rfl, hin3, hb3⟩; have Hin3 := Lib.hid hin3; clear hin3; have X3 := X2.keep hb3; have R3 := R2.keep hb3; have k3 := below_call k2 hb3 k2.size; have z3 := hb3.size); refine hK.out _ _ X3.s1 (fun hHeld2 => ?_); clear hK K hHeld; have hHeld := hHeld2; clear hHeld2; (try simp only [Act.put, List.setIfInBounds_toArray, List.set_cons_zero, List.set_cons_succ]))
  (refine call_op (i := 11) rfl (by kernel_rfl) (by rfl) (fun K hK => ?_); go_simp; skip; refine hK.out _ _ (X3.alloc _).s1 (fun hHeld2 => ?_); clear hK K hHeld; have hHeld := hHeld2; clear hHeld2; (try simp only [Act.put, List.setIfInBounds_toArray, List.set_cons_zero, List.set_cons_succ]))
  (refine call_op (i := 12) rfl (by kernel_rfl) (by rfl) (fun K hK => ?_); go_simp; (go_at_call 25; (with_reducible refine (Hli.out w3 _ _ (by omega) (Hin3.out.mono (fun b hb => by omega))).mono ?_); rintro e w4 ⟨A4, c4, rfl, hin4, hb4⟩; have Hin4 := Lib.hid hin4; clear hin4; have X4 := (X3.alloc _).keep hb4; have R4 := (R3.alloc _).keep hb4; have k4 := below_call (below_call k3 (below_one _) k3.size) hb4 (by have := k3.size; simp; omega); have R4c := R4.cell; have R4f := R4.frozen); refine hK.out _ _ X4.s1 (fun hHeld2 => ?_); clear hK K hHeld; have hHeld := hHeld2; clear hHeld2; (try simp only [Act.put, List.setIfInBounds_toArray, List.set_cons_zero, List.set_cons_succ]))
  (refine call_op (i := 13) rfl (by kernel_rfl) (by rfl) (fun K hK => ?_); go_simp; skip; refine hK.out _ _ (((((X4.far (p := ⟨w.heap.size + 1, 0, none⟩) (by simp) _).far (p := ⟨w.heap.size + 1, 1, none⟩) (by simp) _).far (p := ⟨w.heap.size + 1, 2, none⟩) (by simp) _).far (p := ⟨w.heap.size + 1, 3, none⟩) (by simp) _).s1) (fun hHeld2 => ?_); clear hK K hHeld; have hHeld := hHeld2; clear hHeld2; (try simp only [Act.put, List.setIfInBounds_toArray, List.set_cons_zero, List.set_cons_succ]))
  (refine wpAnyH_done (by kernel_rfl) ?_ _)
  go_wp2_with fail
  refine bodyPost_ret (v := listV A4 3 c4) (by simp [results, Try.results9, go_sem, *] <;> rfl) rfl ?_
  exact ⟨A4, c4, rfl, (hin_set4 Hin4.out (by omega) _ _ _ _).mono (fun b hb => by omega), by ((repeat' first | with_reducible exact Below.refl _ _ | with_reducible assumption | with_reducible refine Below.alloc ?_ ?_ _ | with_reducible refine Below.setCell ?_ ?_ _ | with_reducible apply Below.drew | with_reducible apply below_drewN | with_reducible refine below_call ?_ (by with_reducible assumption) ?_) <;> (first | omega | (simp; done) | (simp; omega) | (simp at *; omega)))⟩

set_option maxHeartbeats 4000000 in
theorem attroldi_any (A : Option Addr) (m c : Nat) (sq tg : Int) (l : List IdP) (w : World) (h1 : IdsAt w A m l) (hm : m ≤ 1000000) : Calls Try.prog 20 #[.agg #[.slice A m c, .int .i64 sq, .int .i64 tg]] w
    (fun e w' => ∃ A' c', e = .returned (listV A' 2 c') ∧ HoldsIn w' (fun x => w.heap.size ≤ x) (otree l sq) (listV A' 2 c') ∧ Below w.heap.size w w') := by
  have ws := u64n_cast sq
  have wt := u64n_cast tg
  have hns := fun W => num_any (u64n sq) W
  have hnt := fun W => num_any (u64n tg) W
  have hid := fun W (hb : Below w.heap.size w W) => idsitem_any A m c l W (h1.keep hb) hm
  have hli : ∀ (W : World) (A3 : Option Addr) (c3 : Nat), w.heap.size + 2 ≤ W.heap.size → HoldsIn W (fun x => w.heap.size + 2 ≤ x) (ltree (itrees l)) (listV A3 (2 * m) c3) → Calls Try.prog 25 #[.slice (some ⟨W.heap.size, 0, none⟩) 2 2] (W.alloc (.cells #[.int .i64 0, .int .u64 (u64n sq : Int), .string ByteArray.empty, .slice none 0 0, .int .i64 2, .int .u64 0, .string ByteArray.empty, .slice A3 (2 * m) c3] 28))
      (fun e w' => ∃ A' c', e = .returned (.agg #[.int .i64 2, .int .u64 0, .string ByteArray.empty, .slice A' 2 c']) ∧ HoldsIn w' (fun x => w.heap.size + 2 ≤ x) (otree l sq) (.agg #[.int .i64 2, .int .u64 0, .string ByteArray.empty, .slice A' 2 c']) ∧ Below (W.alloc (.cells #[.int .i64 0, .int .u64 (u64n sq : Int), .string ByteArray.empty, .slice none 0 0, .int .i64 2, .int .u64 0, .string ByteArray.empty, .slice A3 (2 * m) c3] 28)).heap.size (W.alloc (.cells #[.int .i64 0, .int .u64 (u64n sq : Int), .string ByteArray.empty, .slice none 0 0, .int .i64 2, .int .u64 0, .string ByteArray.empty, .slice A3 (2 * m) c3] 28)) w') := fun W A3 c3 h hi =>
    list_in (us := [numV (u64n sq), listV A3 (2 * m) c3]) W (by simp [flatL, numV, Value.cells]) rfl rfl h (by decide) (fun i t u ht hu => by
      match i with
      | 0 => simp at ht hu; subst ht hu; exact hin_num _ _ (u64n_lt _)
      | 1 => simp at ht hu; subst ht hu; exact hi
      | i + 2 => simp at ht)
  unfold numV at hns hnt
  unfold listV at hid
  have Hli := Lib.hid hli
  have Hid := Lib.hid hid
  clear hli hid h1
  go_enter Try.func20, Try.ntmps20
  go_upto_region 1 with fail
  have X0 : Blk ((w.alloc (.cells #[.slice A m c, .int .i64 sq, .int .i64 tg] 24)).alloc (.cells #[.int .i64 0, .int .u64 0, .string ⟨#[]⟩, .slice none 0 0] 28)).drew w.heap.size 24 #[.slice A m c, .int .i64 sq, .int .i64 tg] := ((Blk.new w _ _).alloc _).drew
  have R0 : Blk ((w.alloc (.cells #[.slice A m c, .int .i64 sq, .int .i64 tg] 24)).alloc (.cells #[.int .i64 0, .int .u64 0, .string ⟨#[]⟩, .slice none 0 0] 28)).drew (w.heap.size + 1) 28 #[.int .i64 0, .int .u64 0, .string ⟨#[]⟩, .slice none 0 0] := (Blk.newAt (by simp)).drew
  have k0 : Below w.heap.size w ((w.alloc (.cells #[.slice A m c, .int .i64 sq, .int .i64 tg] 24)).alloc (.cells #[.int .i64 0, .int .u64 0, .string ⟨#[]⟩, .slice none 0 0] 28)).drew := by ((repeat' first | with_reducible exact Below.refl _ _ | with_reducible assumption | with_reducible refine Below.alloc ?_ ?_ _ | with_reducible refine Below.setCell ?_ ?_ _ | with_reducible apply Below.drew | with_reducible apply below_drewN | with_reducible refine below_call ?_ (by with_reducible assumption) ?_) <;> (first | omega | (simp; done) | (simp; omega) | (simp at *; omega)))
  have z0 : w.heap.size + 2 ≤ ((w.alloc (.cells #[.slice A m c, .int .i64 sq, .int .i64 tg] 24)).alloc (.cells #[.int .i64 0, .int .u64 0, .string ⟨#[]⟩, .slice none 0 0] 28)).drew.heap.size := by simp
  (refine wp_region_held_drew (S := (S1 w.heap.size #[.slice A m c, .int .i64 sq, .int .i64 tg])) (by kernel_rfl) ?_ (fun hHeld => ?_); (· exact X0.s1))
  (refine take_op (i := 0) (v := ?_) rfl (by kernel_rfl) (by kernel_rfl) (by kernel_rfl) (fun _ _ _ h => h) (by rfl) ?_ hHeld ?_; rotate_left; (· (intro wS hSw; (try dsimp only at hSw); go_simp; first | done | with_reducible rfl)); simp only [Act.put, List.setIfInBounds_toArray, List.set_cons_zero, List.set_cons_succ]); (refine take_op (i := 1) (v := ?_) rfl (by kernel_rfl) (by kernel_rfl) (by kernel_rfl) (fun _ _ _ h => h) (by rfl) ?_ hHeld ?_; rotate_left; (· (intro wS hSw; (try dsimp only at hSw); go_simp; first | done | with_reducible rfl)); simp only [Act.put, List.setIfInBounds_toArray, List.set_cons_zero, List.set_cons_succ]); (refine take_op (i := 2) (v := ?_) rfl (by kernel_rfl) (by kernel_rfl) (by kernel_rfl) (fun _ _ _ h => h) (by rfl) ?_ hHeld ?_; rotate_left; (· (intro wS hSw; (try dsimp only at hSw); go_simp; first | done | with_reducible rfl)); simp only [Act.put, List.setIfInBounds_toArray, List.set_cons_zero, List.set_cons_succ]); (refine take_op (i := 4) (v := ?_) rfl (by kernel_rfl) (by kernel_rfl) (by kernel_rfl) (fun _ _ _ h => h) (by rfl) ?_ hHeld ?_; rotate_left; (· (intro wS hSw; (try dsimp only at hSw); go_simp; first | done | with_reducible rfl)); simp only [Act.put, List.setIfInBounds_toArray, List.set_cons_zero, List.set_cons_succ]); (refine take_op (i := 5) (v := ?_) rfl (by kernel_rfl) (by kernel_rfl) (by kernel_rfl) (fun _ _ _ h => h) (by rfl) ?_ hHeld ?_; rotate_left; (· (intro wS hSw; (try dsimp only at hSw); go_simp; first | done | with_reducible rfl)); simp only [Act.put, List.setIfInBounds_toArray, List.set_cons_zero, List.set_cons_succ])
  revert X0 R0 k0 z0
  generalize World.drew _ = w0
  intro X0 R0 k0 z0
  (refine call_op (i := 3) rfl (by kernel_rfl) (by rfl) (fun K hK => ?_); go_simp; (go_at_call 26; (with_reducible refine (hns _).mono ?_); rintro e w2 ⟨rfl, hb2⟩; have X2 := X0.keep hb2; have R2 := R0.keep hb2; have k2 := below_call k0 hb2 k0.size; have z2 := hb2.size); refine hK.out _ _ X2.s1 (fun hHeld2 => ?_); clear hK K hHeld; have hHeld := hHeld2; clear hHeld2; (try simp only [Act.put, List.setIfInBounds_toArray, List.set_cons_zero, List.set_cons_succ]))
  (refine call_op (i := 6) rfl (by kernel_rfl) (by rfl) (fun K hK => ?_); go_simp; (go_at_call 27; (with_reducible refine (Hid.out _ k2).mono ?_); rintro e w3 ⟨A3, c3, rfl, hin3, hb3⟩; have Hin3 := Lib.hid hin3; clear hin3; have X3 := X2.keep hb3; have R3 := R2.keep hb3; have k3 := below_call k2 hb3 k2.size; have z3 := hb3.size); refine hK.out _ _ X3.s1 (fun hHeld2 => ?_); clear hK K hHeld; have hHeld := hHeld2; clear hHeld2; (try simp only [Act.put, List.setIfInBounds_toArray, List.set_cons_zero, List.set_cons_succ]))
  (refine call_op (i := 7) rfl (by kernel_rfl) (by rfl) (fun K hK => ?_); go_simp; skip; refine hK.out _ _ (X3.alloc _).s1 (fun hHeld2 => ?_); clear hK K hHeld; have hHeld := hHeld2; clear hHeld2; (try simp only [Act.put, List.setIfInBounds_toArray, List.set_cons_zero, List.set_cons_succ]))
  (refine call_op (i := 8) rfl (by kernel_rfl) (by rfl) (fun K hK => ?_); go_simp; (go_at_call 25; (with_reducible refine (Hli.out w3 _ _ (by omega) (Hin3.out.mono (fun b hb => by omega))).mono ?_); rintro e w4 ⟨A4, c4, rfl, hin4, hb4⟩; have Hin4 := Lib.hid hin4; clear hin4; have X4 := (X3.alloc _).keep hb4; have R4 := (R3.alloc _).keep hb4; have k4 := below_call (below_call k3 (below_one _) k3.size) hb4 (by have := k3.size; simp; omega); have R4c := R4.cell; have R4f := R4.frozen); refine hK.out _ _ X4.s1 (fun hHeld2 => ?_); clear hK K hHeld; have hHeld := hHeld2; clear hHeld2; (try simp only [Act.put, List.setIfInBounds_toArray, List.set_cons_zero, List.set_cons_succ]))
  (refine call_op (i := 9) rfl (by kernel_rfl) (by rfl) (fun K hK => ?_); go_simp; skip; refine hK.out _ _ (((((X4.far (p := ⟨w.heap.size + 1, 0, none⟩) (by simp) _).far (p := ⟨w.heap.size + 1, 1, none⟩) (by simp) _).far (p := ⟨w.heap.size + 1, 2, none⟩) (by simp) _).far (p := ⟨w.heap.size + 1, 3, none⟩) (by simp) _).s1) (fun hHeld2 => ?_); clear hK K hHeld; have hHeld := hHeld2; clear hHeld2; (try simp only [Act.put, List.setIfInBounds_toArray, List.set_cons_zero, List.set_cons_succ]))
  (refine wpAnyH_done (by kernel_rfl) ?_ _)
  go_wp2_with fail
  refine bodyPost_ret (v := listV A4 2 c4) (by simp [results, Try.results20, go_sem, *] <;> rfl) rfl ?_
  exact ⟨A4, c4, rfl, (hin_set4 Hin4.out (by omega) _ _ _ _).mono (fun b hb => by omega), by ((repeat' first | with_reducible exact Below.refl _ _ | with_reducible assumption | with_reducible refine Below.alloc ?_ ?_ _ | with_reducible refine Below.setCell ?_ ?_ _ | with_reducible apply Below.drew | with_reducible apply below_drewN | with_reducible refine below_call ?_ (by with_reducible assumption) ?_) <;> (first | omega | (simp; done) | (simp; omega) | (simp at *; omega)))⟩

end Go.Proofs.Ytfdfcceleaodaaa
