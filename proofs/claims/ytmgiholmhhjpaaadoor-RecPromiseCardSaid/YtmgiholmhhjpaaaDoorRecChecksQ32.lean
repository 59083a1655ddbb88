/- The walks of ballot.Take and of rec.take at a right ballot's item. -/
import Derived.Test.YtmgiholmhhjpaaaDoorRecChecksQ23
import Derived.WalkKit
import Derived.WalkSpells
import Derived.WalkLawsBesides
import Derived.Deep.RegionHeld3
import Derived.Deep.DrawnRows
import Derived.Deep.DeepCutAuto
import Derived.Deep.DeepFit
import Derived.Lib.Hide
import Derived.BigQuiet
import Derived.Deep.QuietTactic
namespace Go.Proofs.YtmgiholmhhjpaaaDoor
open Go.RowKit
set_option linter.unusedVariables false
set_option linter.unusedSimpArgs false
set_option maxRecDepth 20000
attribute [local go_sem ↓] Go.wp_at_zero Go.wp_at_succ
attribute [local go_sem] World.cell?_alloc_some frozen_alloc_some
attribute [local go_sem] lt2 lt3 lt4 lt5
attribute [local simp] lt2 lt3 lt4 lt5

theorem hin_list {w : World} {S : Nat → Prop} {l : List Tree} {v : Value} (h : HoldsIn w S (ltree l) v) : ∃ A m c, v = listV A m c := by
  unfold ltree at h
  cases h with
  | mk k n s l A m c vs hk hn hs hm hmc hc hcell hsub => exact ⟨A, m, c, rfl⟩
/-- A ballot's item: where its two numbers lie. -/
theorem hin_btree {w : World} {S : Nat → Prop} {a b : Int} {v : Value} (h : HoldsIn w S (btree a b) v) : ∃ g o c, v = listV (some ⟨g, o, none⟩) 2 c ∧ 2 ≤ c ∧ c ≤ maxLen ∧
    w.cell? ⟨g, o + 1, none⟩ = some (.int .u64 (u64n a : Int)) ∧ w.cell? ⟨g, o + 4 + 1, none⟩ = some (.int .u64 (u64n b : Int)) := by
  obtain ⟨A, m, c, rfl⟩ := hin_list h
  obtain ⟨g, o, m', c', k, n, s, A2, m2, c2, rfl, rfl, rfl, hmc, hcm, hS, hgw, hv, q0, q1, q2, q3, htl⟩ := hin_cons h
  obtain ⟨A3, c3, e⟩ := hin_ntree hv
  injection e with e
  simp at e
  obtain ⟨rfl, rfl, rfl, _⟩ := e
  obtain ⟨g', o', m'', c'', k', n', s', A2', m2', c2', e0, rfl, rfl, hmc', hcm', hS', hgw', hv', q0', q1', q2', q3', htl'⟩ := hin_cons (htl (some ⟨g, o + 4, none⟩) (fun _ => rfl))
  injection e0 with e0
  injection e0 with e1 e2
  subst e1 e2
  obtain ⟨A3', c3', e'⟩ := hin_ntree hv'
  injection e' with e'
  simp at e'
  obtain ⟨rfl, rfl, rfl, _⟩ := e'
  have hm : m'' = 0 := by
    have := htl' none (fun h => by
      have h2 := htl' (some ⟨g, o + 4 + 4, none⟩) (fun _ => rfl)
      unfold ltree listV at h2
      cases h2 with
      | mk k n s l A m c vs hk hn hs hm hmc hc hcell hsub => simp at hm; omega)
    unfold ltree listV at this
    cases this with
    | mk k n s l A m c vs hk hn hs hm hmc hc hcell hsub => simpa using hm
  subst hm
  exact ⟨g, o, _, rfl, by omega, hcm, q1, q1'⟩
set_option maxHeartbeats 4000000 in
theorem baltake_right (a b : Int) (hr : rightB a b = true) (w : World) (S : Nat → Prop) (v : Value) (hv : HoldsIn w S (btree a b) v) :
    Calls Tryd.prog 79 #[v] w (fun e w' => e = .returned (.tuple #[.agg #[.int .i64 a, .int .i64 b], .bool true]) ∧ Below w.heap.size w w') := by
  obtain ⟨g, o, c, rfl, hc2, hcm, p0, p1⟩ := hin_btree hv
  obtain ⟨ha0, ha1, hb0, hb1⟩ := rightB_iff.1 hr
  rw [(i64_u64 ha0 (by omega)).1] at p0
  rw [(i64_u64 hb0 (by omega)).1] at p1
  have hwa : IntKind.i64.wrap a = a := IntWalk.i64_in _ (by omega)
  have hwb : IntKind.i64.wrap b = b := IntWalk.i64_in _ (by omega)
  have hma : ¬ (4611686018427387904 : Int) < a := by omega
  have hmb : ¬ (4611686018427387904 : Int) < b := by omega
  have hri := fun W => right_any a b W
  rw [hr] at hri
  have hbi := fun W => balitem_any a b W
  have hsm : ∀ (W W1 : World) (A : Option Addr) (c' : Nat), Below w.heap.size w W → HoldsIn W (fun x => W1.heap.size ≤ x) (btree a b) (listV A 2 c') → Calls Tryd.prog 95 #[.agg #[.int .i64 2, .int .u64 0, .string ByteArray.empty, .slice (some ⟨g, o, none⟩) 2 c], .agg #[.int .i64 2, .int .u64 0, .string ByteArray.empty, .slice A 2 c']] W (Gives W (.bool true)) := fun W W1 A c' hb h => by
    have := codecsame_any (btree a b) (btree a b) _ _ W (hv.under hb).holds h.holds
    rw [tsame_self] at this; exact this
  unfold listV at hbi
  have Hbi := Lib.hid hbi
  have Hsm := Lib.hid hsm
  clear hbi hsm hv hr ha0 ha1 hb0 hb1
  have gw : g < w.heap.size := World.block_lt_of_cell? _ _ p0
  have hgn : g ≠ w.heap.size := by omega
  unfold listV
  go_enter Tryd.func79, Tryd.ntmps79
  go_upto_region 3 with fail
  have X0 : Blk ((w.alloc (.cells #[.int .i64 2, .int .u64 0, .string ByteArray.empty, .slice (some ⟨g, o, none⟩) 2 c] 56)).alloc (.cells #[.int .i64 0, .int .i64 0] 30)).drew w.heap.size 56 #[.int .i64 2, .int .u64 0, .string ByteArray.empty, .slice (some ⟨g, o, none⟩) 2 c] := ((Blk.new w _ _).alloc _).drew
  have R0 : Blk ((w.alloc (.cells #[.int .i64 2, .int .u64 0, .string ByteArray.empty, .slice (some ⟨g, o, none⟩) 2 c] 56)).alloc (.cells #[.int .i64 0, .int .i64 0] 30)).drew (w.heap.size + 1) 30 #[.int .i64 0, .int .i64 0] := (Blk.newAt (by simp)).drew
  have k0 : Below w.heap.size w ((w.alloc (.cells #[.int .i64 2, .int .u64 0, .string ByteArray.empty, .slice (some ⟨g, o, none⟩) 2 c] 56)).alloc (.cells #[.int .i64 0, .int .i64 0] 30)).drew := by ((repeat' first | with_reducible exact Below.refl _ _ | with_reducible assumption | with_reducible refine Below.alloc ?_ ?_ _ | with_reducible refine Below.setCell ?_ ?_ _ | with_reducible apply Below.drew | with_reducible apply below_drewN | with_reducible refine below_call ?_ (by with_reducible assumption) ?_) <;> (first | omega | (simp; done) | (simp; omega) | (simp at *; omega)))
  have z0 : ((w.alloc (.cells #[.int .i64 2, .int .u64 0, .string ByteArray.empty, .slice (some ⟨g, o, none⟩) 2 c] 56)).alloc (.cells #[.int .i64 0, .int .i64 0] 30)).drew.heap.size = w.heap.size + 2 := by simp
  have p0' := (k0.cell (p := ⟨g, o + 1, none⟩) gw).trans p0
  have p1' := (k0.cell (p := ⟨g, o + 4 + 1, none⟩) gw).trans p1
  (refine wp_region_held_drew (S := (S12 w.heap.size #[.int .i64 2, .int .u64 0, .string ByteArray.empty, .slice (some ⟨g, o, none⟩) 2 c] ⟨g, o + 1, none⟩ ⟨g, o + 4 + 1, none⟩ (.int .u64 a) (.int .u64 b))) (by kernel_rfl) ?_ (fun hHeld => ?_); (· exact ⟨X0.cell, p0', p1'⟩))
  (refine take_op (i := 0) (v := ?_) rfl (by kernel_rfl) (by kernel_rfl) (by kernel_rfl) (fun _ _ _ h => h) (by rfl) ?_ hHeld ?_; rotate_left; (· (intro wS hSw; (try dsimp only at hSw); go_simp; first | done | with_reducible rfl)); simp only [Act.put, List.setIfInBounds_toArray, List.set_cons_zero, List.set_cons_succ]); (refine take_op (i := 1) (v := ?_) rfl (by kernel_rfl) (by kernel_rfl) (by kernel_rfl) (fun _ _ _ h => h) (by rfl) ?_ hHeld ?_; rotate_left; (· (intro wS hSw; (try dsimp only at hSw); go_simp; first | done | with_reducible rfl)); simp only [Act.put, List.setIfInBounds_toArray, List.set_cons_zero, List.set_cons_succ]); (refine take_op (i := 2) (v := ?_) rfl (by kernel_rfl) (by kernel_rfl) (by kernel_rfl) (fun _ _ _ h => h) (by rfl) ?_ hHeld ?_; rotate_left; (· (intro wS hSw; (try dsimp only at hSw); go_simp; first | done | with_reducible rfl)); simp only [Act.put, List.setIfInBounds_toArray, List.set_cons_zero, List.set_cons_succ]); (refine take_op (i := 3) (v := ?_) rfl (by kernel_rfl) (by kernel_rfl) (by kernel_rfl) (fun _ _ _ h => h) (by rfl) ?_ hHeld ?_; rotate_left; (· (intro wS hSw; (try dsimp only at hSw); go_simp; first | done | with_reducible rfl)); simp only [Act.put, List.setIfInBounds_toArray, List.set_cons_zero, List.set_cons_succ]); (refine take_op (i := 4) (v := ?_) rfl (by kernel_rfl) (by kernel_rfl) (by kernel_rfl) (fun _ _ _ h => h) (by rfl) ?_ hHeld ?_; rotate_left; (· (intro wS hSw; (try dsimp only at hSw); go_simp; first | done | with_reducible rfl)); simp only [Act.put, List.setIfInBounds_toArray, List.set_cons_zero, List.set_cons_succ]); (refine take_op (i := 5) (v := ?_) rfl (by kernel_rfl) (by kernel_rfl) (by kernel_rfl) (fun _ _ _ h => h) (by rfl) ?_ hHeld ?_; rotate_left; (· (intro wS hSw; (try dsimp only at hSw); go_simp; first | done | with_reducible rfl)); simp only [Act.put, List.setIfInBounds_toArray, List.set_cons_zero, List.set_cons_succ]); (refine take_op (i := 6) (v := ?_) rfl (by kernel_rfl) (by kernel_rfl) (by kernel_rfl) (fun _ _ _ h => h) (by rfl) ?_ hHeld ?_; rotate_left; (· (intro wS hSw; (try dsimp only at hSw); go_simp; first | done | with_reducible rfl)); simp only [Act.put, List.setIfInBounds_toArray, List.set_cons_zero, List.set_cons_succ]); (refine take_op (i := 7) (v := ?_) rfl (by kernel_rfl) (by kernel_rfl) (by kernel_rfl) (fun _ _ _ h => h) (by rfl) ?_ hHeld ?_; rotate_left; (· (intro wS hSw; (try dsimp only at hSw); go_simp; first | done | with_reducible rfl)); simp only [Act.put, List.setIfInBounds_toArray, List.set_cons_zero, List.set_cons_succ]); (refine take_op (i := 8) (v := ?_) rfl (by kernel_rfl) (by kernel_rfl) (by kernel_rfl) (fun _ _ _ h => h) (by rfl) ?_ hHeld ?_; rotate_left; (· (intro wS hSw; (try dsimp only at hSw); go_simp; first | done | with_reducible rfl)); simp only [Act.put, List.setIfInBounds_toArray, List.set_cons_zero, List.set_cons_succ]); (refine take_op (i := 9) (v := ?_) rfl (by kernel_rfl) (by kernel_rfl) (by kernel_rfl) (fun _ _ _ h => h) (by rfl) ?_ hHeld ?_; rotate_left; (· (intro wS hSw; (try dsimp only at hSw); go_simp; first | done | with_reducible rfl)); simp only [Act.put, List.setIfInBounds_toArray, List.set_cons_zero, List.set_cons_succ]); (refine take_op (i := 10) (v := ?_) rfl (by kernel_rfl) (by kernel_rfl) (by kernel_rfl) (fun _ _ _ h => h) (by rfl) ?_ hHeld ?_; rotate_left; (· (intro wS hSw; (try dsimp only at hSw); go_simp; first | done | with_reducible rfl)); simp only [Act.put, List.setIfInBounds_toArray, List.set_cons_zero, List.set_cons_succ]); (refine take_op (i := 11) (v := ?_) rfl (by kernel_rfl) (by kernel_rfl) (by kernel_rfl) (fun _ _ _ h => h) (by rfl) ?_ hHeld ?_; rotate_left; (· (intro wS hSw; (try dsimp only at hSw); go_simp; first | done | with_reducible rfl)); simp only [Act.put, List.setIfInBounds_toArray, List.set_cons_zero, List.set_cons_succ]); (refine take_op (i := 12) (v := ?_) rfl (by kernel_rfl) (by kernel_rfl) (by kernel_rfl) (fun _ _ _ h => h) (by rfl) ?_ hHeld ?_; rotate_left; (· (intro wS hSw; (try dsimp only at hSw); go_simp; first | done | with_reducible rfl)); simp only [Act.put, List.setIfInBounds_toArray, List.set_cons_zero, List.set_cons_succ]); (refine take_op (i := 13) (v := ?_) rfl (by kernel_rfl) (by kernel_rfl) (by kernel_rfl) (fun _ _ _ h => h) (by rfl) ?_ hHeld ?_; rotate_left; (· (intro wS hSw; (try dsimp only at hSw); go_simp; first | done | with_reducible rfl)); simp only [Act.put, List.setIfInBounds_toArray, List.set_cons_zero, List.set_cons_succ]); (refine take_op (i := 14) (v := ?_) rfl (by kernel_rfl) (by kernel_rfl) (by kernel_rfl) (fun _ _ _ h => h) (by rfl) ?_ hHeld ?_; rotate_left; (· (intro wS hSw; (try dsimp only at hSw); go_simp; first | done | with_reducible rfl)); simp only [Act.put, List.setIfInBounds_toArray, List.set_cons_zero, List.set_cons_succ])
  revert X0 R0 k0 z0 p0' p1'
  generalize World.drew _ = w0
  intro X0 R0 k0 z0 p0' p1'
  (refine call_op (i := 15) rfl (by kernel_rfl) (by rfl) (fun K hK => ?_); go_simp; skip; refine hK.out _ _ ⟨(X0.alloc _).cell, cell_alloc p0', cell_alloc p1'⟩ (fun hHeld2 => ?_); clear hK K hHeld; have hHeld := hHeld2; clear hHeld2; (try simp only [Act.put, List.setIfInBounds_toArray, List.set_cons_zero, List.set_cons_succ]))
  (refine call_op (i := 16) rfl (by kernel_rfl) (by rfl) (fun K hK => ?_); go_simp; skip; refine hK.out _ _ ⟨(X0.alloc _).cell, cell_alloc p0', cell_alloc p1'⟩ (fun hHeld2 => ?_); clear hK K hHeld; have hHeld := hHeld2; clear hHeld2; (try simp only [Act.put, List.setIfInBounds_toArray, List.set_cons_zero, List.set_cons_succ]))
  (refine wpAnyH_done (by kernel_rfl) ?_ _)
  clear hHeld p0 p1
  have X1 : Blk (w0.alloc (.cells #[.int .i64 a, .int .i64 b] 30)) w.heap.size 56 #[.int .i64 2, .int .u64 0, .string ByteArray.empty, .slice (some ⟨g, o, none⟩) 2 c] := X0.alloc _
  have B1 : Blk (w0.alloc (.cells #[.int .i64 a, .int .i64 b] 30)) (w.heap.size + 2) 30 #[.int .i64 a, .int .i64 b] := Blk.newAt z0
  have R1 : Blk (w0.alloc (.cells #[.int .i64 a, .int .i64 b] 30)) (w.heap.size + 1) 30 #[.int .i64 0, .int .i64 0] := R0.alloc _
  have k1 : Below w.heap.size w (w0.alloc (.cells #[.int .i64 a, .int .i64 b] 30)) := by ((repeat' first | with_reducible exact Below.refl _ _ | with_reducible assumption | with_reducible refine Below.alloc ?_ ?_ _ | with_reducible refine Below.setCell ?_ ?_ _ | with_reducible apply Below.drew | with_reducible apply below_drewN | with_reducible refine below_call ?_ (by with_reducible assumption) ?_) <;> (first | omega | (simp; done) | (simp; omega) | (simp at *; omega)))
  clear X0 R0 k0 p0' p1'
  go_upto_region 4 with fail
  revert X1 B1 R1 k1
  generalize (w0.alloc (.cells #[.int .i64 a, .int .i64 b] 30)) = w1
  intro X1 B1 R1 k1
  (refine wp_region_held_drew (S := (S11 w.heap.size (w.heap.size + 2) #[.int .i64 2, .int .u64 0, .string ByteArray.empty, .slice (some ⟨g, o, none⟩) 2 c] #[.int .i64 a, .int .i64 b])) (by kernel_rfl) ?_ (fun hHeld => ?_); (· exact ⟨X1.drew.cell, B1.drew.cell⟩))
  (refine take_op (i := 0) (v := ?_) rfl (by kernel_rfl) (by kernel_rfl) (by kernel_rfl) (fun _ _ _ h => h) (by rfl) ?_ hHeld ?_; rotate_left; (· (intro wS hSw; (try dsimp only at hSw); go_simp; first | done | with_reducible rfl)); simp only [Act.put, List.setIfInBounds_toArray, List.set_cons_zero, List.set_cons_succ])
  (refine call_op (i := 1) rfl (by kernel_rfl) (by rfl) (fun K hK => ?_); go_simp; (go_at_call 25; (with_reducible refine (hri _).mono ?_); rintro e w2 ⟨rfl, hb2⟩; have X2 := X1.drew.keep hb2; have B2 := B1.drew.keep hb2; have R2 := R1.drew.keep hb2; have k2 := below_call k1.drew hb2 k1.drew.size); refine hK.out _ _ ⟨X2.cell, B2.cell⟩ (fun hHeld2 => ?_); clear hK K hHeld; have hHeld := hHeld2; clear hHeld2; (try simp only [Act.put, List.setIfInBounds_toArray, List.set_cons_zero, List.set_cons_succ]))
  (refine take_op (i := 2) (v := ?_) rfl (by kernel_rfl) (by kernel_rfl) (by kernel_rfl) (fun _ _ _ h => h) (by rfl) ?_ hHeld ?_; rotate_left; (· (intro wS hSw; (try dsimp only at hSw); go_simp; first | done | with_reducible rfl)); simp only [Act.put, List.setIfInBounds_toArray, List.set_cons_zero, List.set_cons_succ]); (refine take_op (i := 3) (v := ?_) rfl (by kernel_rfl) (by kernel_rfl) (by kernel_rfl) (fun _ _ _ h => h) (by rfl) ?_ hHeld ?_; rotate_left; (· (intro wS hSw; (try dsimp only at hSw); go_simp; first | done | with_reducible rfl)); simp only [Act.put, List.setIfInBounds_toArray, List.set_cons_zero, List.set_cons_succ]); (refine take_op (i := 4) (v := ?_) rfl (by kernel_rfl) (by kernel_rfl) (by kernel_rfl) (fun _ _ _ h => h) (by rfl) ?_ hHeld ?_; rotate_left; (· (intro wS hSw; (try dsimp only at hSw); go_simp; first | done | with_reducible rfl)); simp only [Act.put, List.setIfInBounds_toArray, List.set_cons_zero, List.set_cons_succ]); (refine take_op (i := 5) (v := ?_) rfl (by kernel_rfl) (by kernel_rfl) (by kernel_rfl) (fun _ _ _ h => h) (by rfl) ?_ hHeld ?_; rotate_left; (· (intro wS hSw; (try dsimp only at hSw); go_simp; first | done | with_reducible rfl)); simp only [Act.put, List.setIfInBounds_toArray, List.set_cons_zero, List.set_cons_succ])
  (refine call_op (i := 6) rfl (by kernel_rfl) (by rfl) (fun K hK => ?_); go_simp; (go_at_call 69; (with_reducible refine (Hbi.out _).mono ?_); rintro e w3 ⟨A3, c3, rfl, hin3, hb3⟩; have Hin3 := Lib.hid hin3; clear hin3; have X3 := X2.keep hb3; have B3 := B2.keep hb3; have R3 := R2.keep hb3; have k3 := below_call k2 hb3 k2.size); refine hK.out _ _ ⟨X3.cell, B3.cell⟩ (fun hHeld2 => ?_); clear hK K hHeld; have hHeld := hHeld2; clear hHeld2; (try simp only [Act.put, List.setIfInBounds_toArray, List.set_cons_zero, List.set_cons_succ]))
  (refine call_op (i := 7) rfl (by kernel_rfl) (by rfl) (fun K hK => ?_); go_simp; (go_at_call 95; (with_reducible refine (Hsm.out _ _ _ _ k3 Hin3.out).mono ?_); rintro e w4 ⟨rfl, hb4⟩; have X4 := X3.keep hb4; have B4 := B3.keep hb4; have R4 := R3.keep hb4; have k4 := below_call k3 hb4 k3.size); refine hK.out _ _ ⟨X4.cell, B4.cell⟩ (fun hHeld2 => ?_); clear hK K hHeld; have hHeld := hHeld2; clear hHeld2; (try simp only [Act.put, List.setIfInBounds_toArray, List.set_cons_zero, List.set_cons_succ]))
  (refine take_op (i := 8) (v := ?_) rfl (by kernel_rfl) (by kernel_rfl) (by kernel_rfl) (fun _ _ _ h => h) (by rfl) ?_ hHeld ?_; rotate_left; (· (intro wS hSw; (try dsimp only at hSw); go_simp; first | done | with_reducible rfl)); simp only [Act.put, List.setIfInBounds_toArray, List.set_cons_zero, List.set_cons_succ]); (refine take_op (i := 9) (v := ?_) rfl (by kernel_rfl) (by kernel_rfl) (by kernel_rfl) (fun _ _ _ h => h) (by rfl) ?_ hHeld ?_; rotate_left; (· (intro wS hSw; (try dsimp only at hSw); go_simp; first | done | with_reducible rfl)); simp only [Act.put, List.setIfInBounds_toArray, List.set_cons_zero, List.set_cons_succ])
  (refine wpAnyH_done (by kernel_rfl) ?_ _)
  have B4c := B4.cell
  have R4c := R4.cell
  have R4f := R4.frozen
  go_wp2_with fail
  refine bodyPost_ret (v := .tuple #[.agg #[.int .i64 a, .int .i64 b], .bool true]) (by simp [results, Tryd.results79, go_sem, *] <;> rfl) rfl ?_
  exact ⟨rfl, by ((repeat' first | with_reducible exact Below.refl _ _ | with_reducible assumption | with_reducible refine Below.alloc ?_ ?_ _ | with_reducible refine Below.setCell ?_ ?_ _ | with_reducible apply Below.drew | with_reducible apply below_drewN | with_reducible refine below_call ?_ (by with_reducible assumption) ?_) <;> (first | omega | (simp; done) | (simp; omega) | (simp at *; omega)))⟩
set_option maxHeartbeats 4000000 in
theorem takebal_cons (B : Nat) (a b : Int) (l : List Tree) (w : World) (hr : rightB a b = true) (h : PT B true (btree a b :: l) w) :
    Calls Tryd.prog 78 #[.pointer (some ⟨B, 0, none⟩), .func (.func 79) #[] #[]] w
      (fun e w' => e = .returned (.agg #[.int .i64 a, .int .i64 b]) ∧ PT B true l w' ∧ But B w w') := by
  have hBlt : B < w.heap.size := by obtain ⟨A, m, c, h1, h2⟩ := h; exact h1.lt
  have hk0 : Below w.heap.size w (w.alloc (.cells #[.int .i64 0, .int .i64 0] 30)) := below_one _
  have hnx := next_cons B true (btree a b) l _ (h.under hk0)
  have hbt := fun W S v hv => baltake_right a b hr W S v hv
  have Hnx := Lib.hid hnx
  have Hbt := Lib.hid hbt
  clear hnx hbt h
  go_enter Tryd.func78, Tryd.ntmps78
  go_wp2_with fail
  refine Hnx.out.mono ?_
  rintro e w1 ⟨v, rfl, hv, hp, hb⟩
  have hz1 := hb.below.size
  simp at hz1
  have R1 : Blk w1 w.heap.size 30 #[.int .i64 0, .int .i64 0] := hb.blk (Blk.new w _ _) (by omega)
  have but1 : But B w w1 := (But.of hk0 (by omega)).trans hb
  clear hb hk0
  go_wp2_with fail
  refine (Hbt.out _ _ _ hv).mono ?_
  rintro e w2 ⟨rfl, hb2⟩
  have hz2 := hb2.size
  have R2 := R1.keep hb2
  have but2 := but1.trans (But.of hb2 (by omega))
  obtain ⟨A, m, c, hB1, hI1⟩ := hp.under hb2
  have B2c := hB1.cell
  have B2f := hB1.frozen
  have R2c := R2.cell
  have R2f := R2.frozen
  have n1 : w.heap.size ≠ B := by omega
  have n2 : w2.heap.size ≠ B := by omega
  have n3 : w2.heap.size ≠ w.heap.size := by omega
  have n4 : B ≠ w.heap.size := by omega
  have n5 : B ≠ w2.heap.size := by omega
  have n6 : w.heap.size ≠ w2.heap.size := by omega
  clear hp but1 hb2 R1 hv
  have Hb1 := Lib.hid hB1
  have HI1 := Lib.hid hI1
  have But2 := Lib.hid but2
  clear hB1 hI1 but2
  go_wp2_with fail
  refine bodyPost_ret (v := .agg #[.int .i64 a, .int .i64 b]) (by simp [results, Tryd.results78, go_sem, *] <;> rfl) rfl ?_
  have R4 : Blk ((w2.alloc (.cells #[.int .i64 a, .int .i64 b] 30)).setCell ⟨B, 1, none⟩ (.bool true)) B 103 #[.slice A m c, .bool true] := by
    have := (Hb1.out.alloc (.cells #[.int .i64 a, .int .i64 b] 30)).set_ 1 (.bool true)
    simpa using this
  exact ⟨rfl, ⟨A, m, c, (R4.far (p := ⟨w.heap.size, 0, none⟩) n4 _).far (p := ⟨w.heap.size, 1, none⟩) n4 _, (((HI1.out.under (below_one _)).set (p := ⟨B, 1, none⟩) (by simp) _).set (p := ⟨w.heap.size, 0, none⟩) (by simp; omega) _).set (p := ⟨w.heap.size, 1, none⟩) (by simp; omega) _⟩,
    (((But2.out.alloc (by omega) _).set 1 (.bool true) (by omega)).new (p := ⟨w.heap.size, 0, none⟩) (by simp) (by omega) _).new (p := ⟨w.heap.size, 1, none⟩) (by simp) (by omega) _⟩
end Go.Proofs.YtmgiholmhhjpaaaDoor
