/- ids.number; slices.Chunk of items in twos; ids.Take at any item. -/
import Derived.Test.YtfdfcceleaodaaaAttrItemsQ22
import Derived.Test.YtfdfcceleaodaaaAttrItemsQ8
import Derived.Test.YtfdfcceleaodaaaAttrItemsQ16
import Derived.Test.YtfdfcceleaodaaaAttrItemsQ6
import Derived.Test.YtfdfcceleaodaaaAttrItemsQ18
import Derived.WalkKit
import Derived.WalkSpells
import Derived.WalkLawsBesides
import Derived.Deep.RegionHeld3
import Derived.Deep.DrawnRows
import Derived.Deep.DeepCutAuto
import Derived.Deep.DeepFit
import Derived.Lib.Hide
import Derived.BigQuiet
import Derived.Deep.QuietTactic
namespace Go.Proofs.Ytfdfcceleaodaaa
open Go.RowKit
set_option linter.unusedVariables false
set_option linter.unusedSimpArgs false
set_option maxRecDepth 20000
attribute [local go_sem ↓] Go.wp_at_zero Go.wp_at_succ
attribute [local go_sem] World.cell?_alloc_some frozen_alloc_some
attribute [local go_sem] lt2 lt3 lt4 lt5
attribute [local simp] lt2 lt3 lt4 lt5

/-- Is it a number, and no more? -/
noncomputable def isN (t : Tree) : Bool := tsame t (.mk 0 (tN t) ByteArray.empty [])
set_option maxHeartbeats 2000000 in
theorem idnum_any (t : Tree) (v : Value) (w : World) (hv : Holds w t v) : Calls Try.prog 42 #[v] w (Gives w (.tuple #[.int .i64 (clamp (tN t) : Int), .bool (isN t)])) := by
  obtain ⟨k, n, s, l⟩ := t
  have hsm : ∀ W, Below w.heap.size w W → Calls Try.prog 10 #[v, numV n] W (Gives W (.bool (isN (.mk k n s l)))) := fun W h =>
    codecsame_any _ (.mk 0 n ByteArray.empty []) v _ W (hv.keep h) (hin_num W (fun _ => True) (by obtain ⟨_, _, _, _, _, hn, _⟩ := hv.open_; exact hn)).holds
  have hnum := fun W => num_any n W
  obtain ⟨A, m, c, rfl, -, hn, -⟩ := hv.open_
  have Hsm := Lib.hid hsm
  show Calls _ _ _ _ (Gives w (.tuple #[.int .i64 (clamp n : Int), _]))
  generalize isN (.mk k n s l) = R at *
  have hw : IntKind.i64.wrap (min (n : Int) 4611686018427387904) = (clamp n : Int) := by rw [clamp_int, clamp_wrap]
  have HW := Lib.hid hw
  unfold numV at hnum Hsm
  clear hsm hv hw
  go_enter Try.func42, Try.ntmps42
  go_upto_region 1 with fail
  have X0 : Blk (w.alloc (.cells #[.int .i64 k, .int .u64 (n : Int), .string s, .slice A m c] 28)).drew w.heap.size 28 #[.int .i64 k, .int .u64 (n : Int), .string s, .slice A m c] := (Blk.new w _ _).drew
  have k0 : Below w.heap.size w (w.alloc (.cells #[.int .i64 k, .int .u64 (n : Int), .string s, .slice A m c] 28)).drew := by ((repeat' first | with_reducible exact Below.refl _ _ | with_reducible assumption | with_reducible refine Below.alloc ?_ ?_ _ | with_reducible refine Below.setCell ?_ ?_ _ | with_reducible apply Below.drew | with_reducible apply below_drewN | with_reducible refine below_call ?_ (by with_reducible assumption) ?_) <;> (first | omega | (simp; done) | (simp; omega) | (simp at *; omega)))
  (refine wp_region_held_drew (S := (S1 w.heap.size #[.int .i64 k, .int .u64 (n : Int), .string s, .slice A m c])) (by kernel_rfl) ?_ (fun hHeld => ?_); (· exact X0.cell))
  (refine take_op (i := 0) (v := ?_) rfl (by kernel_rfl) (by kernel_rfl) (by kernel_rfl) (fun _ _ _ h => h) (by rfl) ?_ hHeld ?_; rotate_left; (· (intro wS hSw; (try dsimp only at hSw); go_simp; first | done | with_reducible rfl)); simp only [Act.put, List.setIfInBounds_toArray, List.set_cons_zero, List.set_cons_succ]); (refine take_op (i := 1) (v := ?_) rfl (by kernel_rfl) (by kernel_rfl) (by kernel_rfl) (fun _ _ _ h => h) (by rfl) ?_ hHeld ?_; rotate_left; (· (intro wS hSw; (try dsimp only at hSw); go_simp; first | done | with_reducible rfl)); simp only [Act.put, List.setIfInBounds_toArray, List.set_cons_zero, List.set_cons_succ]); (refine take_op (i := 2) (v := ?_) rfl (by kernel_rfl) (by kernel_rfl) (by kernel_rfl) (fun _ _ _ h => h) (by rfl) ?_ hHeld ?_; rotate_left; (· (intro wS hSw; (try dsimp only at hSw); go_simp; first | done | with_reducible rfl)); simp only [Act.put, List.setIfInBounds_toArray, List.set_cons_zero, List.set_cons_succ]); (refine take_op (i := 3) (v := ?_) rfl (by kernel_rfl) (by kernel_rfl) (by kernel_rfl) (fun _ _ _ h => h) (by rfl) ?_ hHeld ?_; rotate_left; (· (intro wS hSw; (try dsimp only at hSw); go_simp; first | done | with_reducible rfl)); simp only [Act.put, List.setIfInBounds_toArray, List.set_cons_zero, List.set_cons_succ]); (refine take_op (i := 4) (v := ?_) rfl (by kernel_rfl) (by kernel_rfl) (by kernel_rfl) (fun _ _ _ h => h) (by rfl) ?_ hHeld ?_; rotate_left; (· (intro wS hSw; (try dsimp only at hSw); go_simp; first | done | with_reducible rfl)); simp only [Act.put, List.setIfInBounds_toArray, List.set_cons_zero, List.set_cons_succ]); (refine take_op (i := 5) (v := ?_) rfl (by kernel_rfl) (by kernel_rfl) (by kernel_rfl) (fun _ _ _ h => h) (by rfl) ?_ hHeld ?_; rotate_left; (· (intro wS hSw; (try dsimp only at hSw); go_simp; first | done | with_reducible rfl)); simp only [Act.put, List.setIfInBounds_toArray, List.set_cons_zero, List.set_cons_succ]); (refine take_op (i := 6) (v := ?_) rfl (by kernel_rfl) (by kernel_rfl) (by kernel_rfl) (fun _ _ _ h => h) (by rfl) ?_ hHeld ?_; rotate_left; (· (intro wS hSw; (try dsimp only at hSw); go_simp; first | done | with_reducible rfl)); simp only [Act.put, List.setIfInBounds_toArray, List.set_cons_zero, List.set_cons_succ])
  revert X0 k0
  generalize World.drew _ = w0
  intro X0 k0
  (refine call_op (i := 7) rfl (by kernel_rfl) (by rfl) (fun K hK => ?_); go_simp; (go_at_call 26; (with_reducible refine (hnum _).mono ?_); rintro e w2 ⟨rfl, hb2⟩; have X2 := X0.keep hb2; have k2 := below_call k0 hb2 k0.size); refine hK.out _ _ X2.cell (fun hHeld2 => ?_); clear hK K hHeld; have hHeld := hHeld2; clear hHeld2; (try simp only [Act.put, List.setIfInBounds_toArray, List.set_cons_zero, List.set_cons_succ]))
  (refine call_op (i := 8) rfl (by kernel_rfl) (by rfl) (fun K hK => ?_); go_simp; (go_at_call 10; (with_reducible refine (Hsm.out _ k2).mono ?_); rintro e w3 ⟨rfl, hb3⟩; have X3 := X2.keep hb3; have k3 := below_call k2 hb3 k2.size); refine hK.out _ _ X3.cell (fun hHeld2 => ?_); clear hK K hHeld; have hHeld := hHeld2; clear hHeld2; (try simp only [Act.put, List.setIfInBounds_toArray, List.set_cons_zero, List.set_cons_succ]))
  (refine take_op (i := 9) (v := ?_) rfl (by kernel_rfl) (by kernel_rfl) (by kernel_rfl) (fun _ _ _ h => h) (by rfl) ?_ hHeld ?_; rotate_left; (· (intro wS hSw; (try dsimp only at hSw); go_simp; first | done | with_reducible rfl)); simp only [Act.put, List.setIfInBounds_toArray, List.set_cons_zero, List.set_cons_succ]); (refine take_op (i := 10) (v := ?_) rfl (by kernel_rfl) (by kernel_rfl) (by kernel_rfl) (fun _ _ _ h => h) (by rfl) ?_ hHeld ?_; rotate_left; (· (intro wS hSw; (try dsimp only at hSw); go_simp; first | done | with_reducible rfl)); simp only [Act.put, List.setIfInBounds_toArray, List.set_cons_zero, List.set_cons_succ])
  (refine wpAnyH_done (by kernel_rfl) ?_ _)
  have K3 := Lib.hid k3
  clear hHeld X0 X2 X3 k0 k2 k3
  go_wp2_with fail
  refine bodyPost_ret (v := .tuple #[.int .i64 (IntKind.i64.wrap (min (n : Int) 4611686018427387904)), .bool R]) (by simp [results, Try.results42, go_sem, *] <;> rfl) rfl ?_
  exact ⟨by rw [HW.out], K3.out⟩

/-- A place of two items. -/
abbrev ChJ (h : Nat) : Type := { j : Nat // j < h }
/-- What two items are handed over as. -/
def chE (A : Option Addr) (j : Nat) : Array Value := #[.slice (A.map (·.add (2 * j * 4))) 2 2]
/-- What a round keeps: what lay below n₀, and the boxes. -/
def KpC (n₀ Bs Bn : Nat) (W W' : World) : Prop := Below n₀ W W' ∧ (∀ v, W.cell? ⟨Bs, 0, none⟩ = some v → W'.cell? ⟨Bs, 0, none⟩ = some v) ∧ (∀ v, W.cell? ⟨Bn, 0, none⟩ = some v → W'.cell? ⟨Bn, 0, none⟩ = some v)
theorem kpC_t {n₀ Bs Bn : Nat} {A B C : World} (h : KpC n₀ Bs Bn A B) (k : KpC n₀ Bs Bn B C) : KpC n₀ Bs Bn A C := ⟨h.1.trans k.1, fun v hv => k.2.1 v (h.2.1 v hv), fun v hv => k.2.2 v (h.2.2 v hv)⟩
theorem kpC_b {n₀ Bs Bn : Nat} {w : World} (hn : n₀ ≤ w.heap.size) (hB : Bs < w.heap.size) (hB2 : Bn < w.heap.size) (W : World) (l : Nat) (o o' : Obj) (hl : w.heap.size ≤ l) (h : W.heap[l]? = some o) (h1 : o.isCells = false) (h2 : o.isWalk = false) : KpC n₀ Bs Bn W (W.putObj l o') :=
  ⟨belowK_b hn W l o o' hl h h1 h2, fun v hv => by
    have := (belowK_b (n₀ := w.heap.size) (Nat.le_refl _) W l o o' hl h h1 h2).cell (p := ⟨Bs, 0, none⟩) hB
    rw [this]; exact hv, fun v hv => by
    have := (belowK_b (n₀ := w.heap.size) (Nat.le_refl _) W l o o' hl h h1 h2).cell (p := ⟨Bn, 0, none⟩) hB2
    rw [this]; exact hv⟩
section
attribute [local go_sem] Oper.semAt_some
set_option maxHeartbeats 1000000 in
theorem chunk1_in (l0 Bs Bn n₀ : Nat) (A : Option Addr) (h c : Nat) (W : World) (hm : 2 * h ≤ 1073741824) (hc : 2 * h ≤ c) (J Jx : List (ChJ h) → World → Prop) (hJ : AbidesFrom W.heap.size J)
    (hY : ∀ pre x W, J pre W → pre.length < h → YieldAt Fence.wide 20 Try.prog l0 (chE A x.1) W fun e W' =>
      (e = .returned (.bool true) ∧ J (pre ++ [x]) W' ∧ KpC n₀ Bs Bn W W') ∨ (e = .returned (.bool false) ∧ Jx (pre ++ [x]) W'))
    (hBs : W.cell? ⟨Bs, 0, none⟩ = some (.slice A (2 * h) c)) (hBn : W.cell? ⟨Bn, 0, none⟩ = some (.int .i64 2)) (h0 : J [] W) (hnW : n₀ ≤ W.heap.size) :
    CallsIn Fence.wide 21 Try.prog 49 #[.func (.yield l0) #[] #[], .pointer (some ⟨Bs, 0, none⟩), .pointer (some ⟨Bn, 0, none⟩)] W fun e W' => (∃ v, e = .returned v) ∧
      ((∃ ys : List (ChJ h), ys.map (·.1) = List.range h ∧ J ys W') ∨ (∃ pre : List (ChJ h), True ∧ Jx pre W')) := by
  refine callsIn_of_wp Try.func49 rfl trivial ?_ rfl
  simp only [Try.ntmps49, List.size_toArray, List.length_cons, List.length_nil, Nat.reduceAdd, Nat.reduceSub, Array.replicate_succ, Array.replicate_zero, List.push_toArray, List.append_toArray, List.nil_append, List.cons_append]
  gi_wp2
  obtain ⟨m, hmE⟩ : ∃ m, m = 2 * h := ⟨_, rfl⟩
  rw [← hmE] at hm hc hBs
  have HM := Lib.hid hmE
  clear hmE
  gi_loopw [4] (fun p wr => ∃ (i : Nat) (pre : List (ChJ h)), p = .int .i64 (i : Int) ∧ i ≤ m ∧ i = 2 * pre.length ∧ pre.map (·.1) = List.range pre.length ∧ J pre wr ∧ Below n₀ W wr ∧ wr.cell? ⟨Bs, 0, none⟩ = some (.slice A m c) ∧ wr.cell? ⟨Bn, 0, none⟩ = some (.int .i64 2))
    (fun p _ => m - (intOf p).toNat)
  case atStart => exact ⟨0, [], rfl, by omega, rfl, rfl, h0, Below.refl _ _, hBs, hBn⟩
  case round =>
    obtain ⟨i, pre, rfl, hi, hpi, hx, hJs, hnx, hbs, hbn⟩ := hrel
    have HX := Lib.hid hx
    have HJ := Lib.hid hJs
    have HI := Lib.hid hpi
    clear hx hJs hpi
    by_cases hlt : i < m
    · have hlt' : (i : Int) < (m : Int) := by omega
      have i0 : (0 : Int) ≤ (i : Int) := by omega
      have hi2 : i + 2 ≤ m := by have := HI.out; have := HM.out; omega
      have r1 : min (2 : Int) ((m - i : Nat) : Int) = 2 := by omega
      have r2 : IntKind.i64.wrap ((i : Int) + 2) = ((i + 2 : Nat) : Int) := by rw [show (i : Int) + 2 = ((i + 2 : Nat) : Int) by omega]; exact IntWalk.i64_in _ (by omega)
      have q1 : i + 2 ≤ c := by omega
      have q2 : ¬ c = i := by omega
      gi_wp2
      refine wpIn_wide.2 ?_
      (refine wp_region_held_drew (S := (S2 ⟨Bs, 0, none⟩ ⟨Bn, 0, none⟩ (.slice A m c) (.int .i64 2))) (by kernel_rfl) ?_ (fun hHeld => ?_); (· exact ⟨cell_keep (Below.refl _ _).drew hbs, cell_keep (Below.refl _ _).drew hbn⟩))
      (refine take_op (i := 0) (v := ?_) rfl (by kernel_rfl) (by kernel_rfl) (by kernel_rfl) (fun _ _ _ h => h) (by rfl) ?_ hHeld ?_; rotate_left; (· (intro wS hSw; (try dsimp only at hSw); go_simp; first | done | with_reducible rfl)); simp only [Act.put, List.setIfInBounds_toArray, List.set_cons_zero, List.set_cons_succ]); (refine take_op (i := 1) (v := ?_) rfl (by kernel_rfl) (by kernel_rfl) (by kernel_rfl) (fun _ _ _ h => h) (by rfl) ?_ hHeld ?_; rotate_left; (· (intro wS hSw; (try dsimp only at hSw); go_simp; first | done | with_reducible rfl)); simp only [Act.put, List.setIfInBounds_toArray, List.set_cons_zero, List.set_cons_succ]); (refine take_op (i := 2) (v := ?_) rfl (by kernel_rfl) (by kernel_rfl) (by kernel_rfl) (fun _ _ _ h => h) (by rfl) ?_ hHeld ?_; rotate_left; (· (intro wS hSw; (try dsimp only at hSw); go_simp; first | done | with_reducible rfl)); simp only [Act.put, List.setIfInBounds_toArray, List.set_cons_zero, List.set_cons_succ]); (refine take_op (i := 3) (v := ?_) rfl (by kernel_rfl) (by kernel_rfl) (by kernel_rfl) (fun _ _ _ h => h) (by rfl) ?_ hHeld ?_; rotate_left; (· (intro wS hSw; (try dsimp only at hSw); go_simp; first | done | with_reducible rfl)); simp only [Act.put, List.setIfInBounds_toArray, List.set_cons_zero, List.set_cons_succ]); (refine take_op (i := 4) (v := ?_) rfl (by kernel_rfl) (by kernel_rfl) (by kernel_rfl) (fun _ _ _ h => h) (by rfl) ?_ hHeld ?_; rotate_left; (· (intro wS hSw; (try dsimp only at hSw); go_simp; first | done | with_reducible rfl)); simp only [Act.put, List.setIfInBounds_toArray, List.set_cons_zero, List.set_cons_succ]); (refine take_op (i := 5) (v := ?_) rfl (by kernel_rfl) (by kernel_rfl) (by kernel_rfl) (fun _ _ _ h => h) (by rfl) ?_ hHeld ?_; rotate_left; (· (intro wS hSw; (try dsimp only at hSw); go_simp; first | done | with_reducible rfl)); simp only [Act.put, List.setIfInBounds_toArray, List.set_cons_zero, List.set_cons_succ]); (refine take_op (i := 6) (v := ?_) rfl (by kernel_rfl) (by kernel_rfl) (by kernel_rfl) (fun _ _ _ h => h) (by rfl) ?_ hHeld ?_; rotate_left; (· (intro wS hSw; (try dsimp only at hSw); go_simp; first | done | with_reducible rfl)); simp only [Act.put, List.setIfInBounds_toArray, List.set_cons_zero, List.set_cons_succ])
      have hbd : Below wr.heap.size wr wr.drew := (Below.refl _ _).drew
      revert hHeld hbd
      generalize World.drew _ = wd
      intro hHeld hbd
      (refine wpAnyH_done (by kernel_rfl) ?_ _)
      have hbs2 := hHeld.1
      have hbn2 := hHeld.2
      have hJ2 := hJ _ _ _ none HJ.out (grown_of_below hbd none) (by simp)
      have hB2 := Lib.hid (hnx.trans (hbd.mono (by have := hnx.size; omega)))
      have C2 := Lib.hid (And.intro hbs2 hbn2)
      obtain ⟨fn, tmps, assign, body, hy, hRd⟩ := hY pre ⟨pre.length, by have := HI.out; have := HM.out; omega⟩ wd hJ2 (by have := HI.out; have := HM.out; omega)
      dsimp only [chE] at hy
      rw [← HI.out] at hy
      clear hHeld hbd hbs hbn hbn2 hJ2
      gi_wp2
      refine hRd.mono ?_
      rintro e W3 (⟨rfl, hJ3, hk3⟩ | ⟨rfl, hJx3⟩)
      · have hbn3 := hk3.2.2 _ C2.out.2
        have hbs3 := hk3.2.1 _ C2.out.1
        gi_wp2
        go_roundw
        case rel => exact ⟨i + 2, pre ++ [⟨pre.length, by have := HI.out; have := HM.out; omega⟩], rfl, hi2, by have := HI.out; simp; omega, by rw [List.map_append, HX.out]; simp [List.range_succ], hJ3, hB2.out.trans hk3.1, hbs3, hbn3⟩
        case measure => simp [intOf]; omega
      · gi_wp2
        refine bodyPost_ret (results_none rfl _ _ _) rfl ?_
        exact ⟨⟨_, rfl⟩, .inr ⟨_, trivial, hJx3⟩⟩
    · have hlt' : ¬ (i : Int) < (m : Int) := by omega
      have hph : pre.length = h := by have := HI.out; have := HM.out; omega
      have Hfin := Lib.hid (show pre.map (·.1) = List.range h from HX.out.trans (congrArg List.range hph))
      clear hph
      gi_wp2
      go_end0
      exact ⟨⟨_, rfl⟩, .inl ⟨pre, by have := Hfin.out; first | exact this | simpa using this, HJ.out⟩⟩
end
theorem chunk_any (A : Option Addr) (n c : Nat) (w : World) :
    Calls Try.prog 41 #[.slice A n c, .int .i64 2] w fun e w' => e = .returned (.func (.func 49) #[] #[.pointer (some ⟨w.heap.size, 0, none⟩), .pointer (some ⟨w.heap.size + 1, 0, none⟩)]) ∧ w' = (w.alloc (.cells #[.slice A n c] 26)).alloc (.cells #[.int .i64 2] 3) := by
  go_enter Try.func41, Try.ntmps41
  go_wp2_with fail
  go_ret
  exact ⟨by simp, rfl⟩
theorem chunk_stops (Bs Bn n₀ : Nat) (A : Option Addr) (h c : Nat) (w : World) (hm : 2 * h ≤ 1073741824) (hc : 2 * h ≤ c) (hBs : w.cell? ⟨Bs, 0, none⟩ = some (.slice A (2 * h) c)) (hBn : w.cell? ⟨Bn, 0, none⟩ = some (.int .i64 2)) (hnW : n₀ ≤ w.heap.size) :
    SeqStopsK Fence.wide 21 Try.prog 49 #[.pointer (some ⟨Bs, 0, none⟩), .pointer (some ⟨Bn, 0, none⟩)] (fun x : ChJ h => chE A x.1) (KpC n₀ Bs Bn) (fun ys => ys.map (·.1) = List.range h) (fun _ => True) h w := fun l0 J Jx W hW hJ _ hY h0 =>
  chunk1_in l0 Bs Bn n₀ A h c W hm hc J Jx hJ hY (cell_keep hW hBs) (cell_keep hW hBn) h0 (Nat.le_trans hnW hW.size)
end Go.Proofs.Ytfdfcceleaodaaa
