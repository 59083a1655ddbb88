/- The walks of stonecropref03.Num, Text, List and of stonecropref06.Item. ids.number; slices.Chunk of items in twos; ids.Take at any item. The walk of the reader's method item at a text. The walk of the reader's method item at a list; and at any bytes. The reader's method item, at any bytes. From the listed variables of a row to the table of kinds. A message that came in, opened. -/
import Derived.Test.YtlolnakeancenaaDoorMsgFramesQ11
import Derived.Test.YtlolnakeancenaaDoorMsgFramesQ14
import Derived.Test.YtlolnakeancenaaDoorMsgFramesQ0
import Derived.Test.YtlolnakeancenaaDoorMsgFramesQ15
import Derived.Test.YtlolnakeancenaaDoorMsgFramesQ10
import Derived.Test.YtlolnakeancenaaDoorMsgFramesQ17
import Derived.Test.YtlolnakeancenaaDoorMsgFramesQ13
import Derived.WalkKit
import Derived.WalkSpells
import Derived.WalkLawsBesides
import Derived.Deep.RegionHeld3
import Derived.Deep.DrawnRows
import Derived.Deep.DeepCutAuto
import Derived.Deep.DeepFit
import Derived.Lib.Hide
import Derived.BigQuiet
import Derived.Deep.QuietTactic
import Derived.RangeFuncNested
import Derived.RangeFuncBound
import Derived.RangeFuncCalls
import Derived.RangeFuncLeaves
import Derived.RangeFuncBox
import Derived.Shelf.Abstract
import Derived.Shelf.RegionOpen
import Derived.OwnWalkIn
import Derived.TacticsInMore
import Derived.LoopNIn
import Derived.LoopIn
import Derived.Test.YtlolnakeancenaaDoorRows
import Derived.Lib.LaidU8
import Derived.PinnedBridge
namespace Go.Proofs.YtlolnakeancenaaDoor
open Go.RowKit
set_option linter.unusedVariables false
set_option linter.unusedSimpArgs false
set_option maxRecDepth 20000
attribute [local go_sem ↓] Go.wp_at_zero Go.wp_at_succ
attribute [local go_sem] World.cell?_alloc_some frozen_alloc_some
attribute [local go_sem] lt2 lt3 lt4 lt5
attribute [local simp] lt2 lt3 lt4 lt5

theorem add_blk (a : Addr) (i : Nat) : (a.add i).block = a.block := by unfold Addr.add; split <;> rfl
theorem Items.set_leaf {w : World} {g cc : Nat} {k c q r : Nat} {y x : ByteArray} {p : Addr} (h : Items w (some ⟨g, 0, none⟩) 6 cc [.mk 0 k ByteArray.empty [], .mk 0 c ByteArray.empty [], .mk 0 q ByteArray.empty [], .mk 1 0 y [], .mk 1 0 x [], .mk 0 r ByteArray.empty []]) (hp : p.block ≠ g) (u : Value) : Items (w.setCell p u) (some ⟨g, 0, none⟩) 6 cc [.mk 0 k ByteArray.empty [], .mk 0 c ByteArray.empty [], .mk 0 q ByteArray.empty [], .mk 1 0 y [], .mk 1 0 x [], .mk 0 r ByteArray.empty []] := by
 obtain ⟨h1, h2, h3, vs, h4, h5⟩ := h
 refine ⟨h1, h2, h3, vs, fun i hi => ?_, fun i t hi => ?_⟩
 ·obtain ⟨ad, e, hc⟩ := h4 i hi
  injection e with e
  subst e
  exact ⟨_, rfl, fun j v hv => cell_far (hc j v hv) (by rw [add_blk]; exact hp)⟩
 ·match i with
  | 0 => simp at hi; subst hi; exact (h5 0 _ rfl).leaf
  | 1 => simp at hi; subst hi; exact (h5 1 _ rfl).leaf
  | 2 => simp at hi; subst hi; exact (h5 2 _ rfl).leaf
  | 3 => simp at hi; subst hi; exact (h5 3 _ rfl).leaf
  | 4 => simp at hi; subst hi; exact (h5 4 _ rfl).leaf
  | 5 => simp at hi; subst hi; exact (h5 5 _ rfl).leaf
  | i + 6 => simp at hi
end Go.Proofs.YtlolnakeancenaaDoor

namespace Go.Proofs.YtlolnakeancenaaDoor
open Go.RowKit
set_option linter.unusedVariables false
set_option linter.unusedSimpArgs false
set_option maxRecDepth 20000
attribute [local go_sem ↓] Go.wp_at_zero Go.wp_at_succ
attribute [local go_sem] World.cell?_alloc_some frozen_alloc_some
attribute [local go_sem] lt2 lt3 lt4 lt5
attribute [local simp] lt2 lt3 lt4 lt5

/-- Is it a number, and no more? -/
noncomputable def isN (t : Tree) : Bool := tsame t (.mk 0 (tN t) ByteArray.empty [])
set_option maxHeartbeats 2000000 in
theorem idnum_any (t : Tree) (v : Value) (w : World) (hv : Holds w t v) : Calls Tryd.prog 100 #[v] w (Gives w (.tuple #[.int .i64 (clamp (tN t) : Int), .bool (isN t)])) := by
 obtain ⟨k, n, s, l⟩ := t
 have hsm : ∀ W, Below w.heap.size w W → Calls Tryd.prog 15 #[v, numV n] W (Gives W (.bool (isN (.mk k n s l)))) := fun W h =>
  codecsame_any _ (.mk 0 n ByteArray.empty []) v _ W (hv.keep h) (hin_num W (fun _ => True) (by obtain ⟨_, _, _, _, _, hn, _⟩ := hv.open_; exact hn)).holds
 have hnum := fun W => num_any n W
 obtain ⟨A, m, c, rfl, -, hn, -⟩ := hv.open_
 have Hsm := Lib.hid hsm
 show Calls _ _ _ _ (Gives w (.tuple #[.int .i64 (clamp n : Int), _]))
 generalize isN (.mk k n s l) = R at *
 have hw : IntKind.i64.wrap (min (n : Int) 4611686018427387904) = (clamp n : Int) := by rw [clamp_int, clamp_wrap]
 have HW := Lib.hid hw
 unfold numV at hnum Hsm
 clear hsm hv hw
 go_enter Tryd.func100, Tryd.ntmps100
 go_upto_region 1 with fail
 have X0 : Blk (w.alloc (.cells #[.int .i64 k, .int .u64 (n : Int), .string s, .slice A m c] 25)).drew w.heap.size 25 #[.int .i64 k, .int .u64 (n : Int), .string s, .slice A m c] := (Blk.new w _ _).drew
 have k0 : Below w.heap.size w (w.alloc (.cells #[.int .i64 k, .int .u64 (n : Int), .string s, .slice A m c] 25)).drew := blw
 (refine wp_region_held_drew (S := (S1 w.heap.size #[.int .i64 k, .int .u64 (n : Int), .string s, .slice A m c])) (by kernel_rfl) ?_ (fun hHeld => ?_); (· exact X0.cell))
 (refine take_op (i := 0) (v := ?_) rfl (by kernel_rfl) (by kernel_rfl) (by kernel_rfl) (fun _ _ _ h => h) (by rfl) ?_ hHeld ?_; rotate_left; (· (intro wS hSw; (try dsimp only at hSw); go_simp; first | done | with_reducible rfl)); simp only [Act.put, sta_, scz_, scs_]); (refine take_op (i := 1) (v := ?_) rfl (by kernel_rfl) (by kernel_rfl) (by kernel_rfl) (fun _ _ _ h => h) (by rfl) ?_ hHeld ?_; rotate_left; (· (intro wS hSw; (try dsimp only at hSw); go_simp; first | done | with_reducible rfl)); simp only [Act.put, sta_, scz_, scs_]); (refine take_op (i := 2) (v := ?_) rfl (by kernel_rfl) (by kernel_rfl) (by kernel_rfl) (fun _ _ _ h => h) (by rfl) ?_ hHeld ?_; rotate_left; (· (intro wS hSw; (try dsimp only at hSw); go_simp; first | done | with_reducible rfl)); simp only [Act.put, sta_, scz_, scs_]); (refine take_op (i := 3) (v := ?_) rfl (by kernel_rfl) (by kernel_rfl) (by kernel_rfl) (fun _ _ _ h => h) (by rfl) ?_ hHeld ?_; rotate_left; (· (intro wS hSw; (try dsimp only at hSw); go_simp; first | done | with_reducible rfl)); simp only [Act.put, sta_, scz_, scs_]); (refine take_op (i := 4) (v := ?_) rfl (by kernel_rfl) (by kernel_rfl) (by kernel_rfl) (fun _ _ _ h => h) (by rfl) ?_ hHeld ?_; rotate_left; (· (intro wS hSw; (try dsimp only at hSw); go_simp; first | done | with_reducible rfl)); simp only [Act.put, sta_, scz_, scs_]); (refine take_op (i := 5) (v := ?_) rfl (by kernel_rfl) (by kernel_rfl) (by kernel_rfl) (fun _ _ _ h => h) (by rfl) ?_ hHeld ?_; rotate_left; (· (intro wS hSw; (try dsimp only at hSw); go_simp; first | done | with_reducible rfl)); simp only [Act.put, sta_, scz_, scs_]); (refine take_op (i := 6) (v := ?_) rfl (by kernel_rfl) (by kernel_rfl) (by kernel_rfl) (fun _ _ _ h => h) (by rfl) ?_ hHeld ?_; rotate_left; (· (intro wS hSw; (try dsimp only at hSw); go_simp; first | done | with_reducible rfl)); simp only [Act.put, sta_, scz_, scs_])
 revert X0 k0
 generalize World.drew _ = w0
 intro X0 k0
 (refine call_op (i := 7) rfl (by kernel_rfl) (by rfl) (fun K hK => ?_); go_simp; (go_at_call 53; (with_reducible refine (hnum _).mono ?_); rintro e w2 ⟨rfl, hb2⟩; have X2 := X0.keep hb2; have k2 := below_call k0 hb2 k0.size); refine hK.out _ _ X2.cell (fun hHeld2 => ?_); clear hK K hHeld; have hHeld := hHeld2; clear hHeld2; (try simp only [Act.put, sta_, scz_, scs_]))
 (refine call_op (i := 8) rfl (by kernel_rfl) (by rfl) (fun K hK => ?_); go_simp; (go_at_call 15; (with_reducible refine (Hsm.out _ k2).mono ?_); rintro e w3 ⟨rfl, hb3⟩; have X3 := X2.keep hb3; have k3 := below_call k2 hb3 k2.size); refine hK.out _ _ X3.cell (fun hHeld2 => ?_); clear hK K hHeld; have hHeld := hHeld2; clear hHeld2; (try simp only [Act.put, sta_, scz_, scs_]))
 (refine take_op (i := 9) (v := ?_) rfl (by kernel_rfl) (by kernel_rfl) (by kernel_rfl) (fun _ _ _ h => h) (by rfl) ?_ hHeld ?_; rotate_left; (· (intro wS hSw; (try dsimp only at hSw); go_simp; first | done | with_reducible rfl)); simp only [Act.put, sta_, scz_, scs_]); (refine take_op (i := 10) (v := ?_) rfl (by kernel_rfl) (by kernel_rfl) (by kernel_rfl) (fun _ _ _ h => h) (by rfl) ?_ hHeld ?_; rotate_left; (· (intro wS hSw; (try dsimp only at hSw); go_simp; first | done | with_reducible rfl)); simp only [Act.put, sta_, scz_, scs_])
 (refine wpAnyH_done (by kernel_rfl) ?_ _)
 have K3 := Lib.hid k3
 clear hHeld X0 X2 X3 k0 k2 k3
 go_wp2_with fail
 refine bodyPost_ret (v := .tuple #[.int .i64 (IntKind.i64.wrap (min (n : Int) 4611686018427387904)), .bool R]) (by simp [results, Tryd.results100, go_sem, *] <;> rfl) rfl ?_
 exact ⟨by rw [HW.out], K3.out⟩

/-- A place of two items. -/
abbrev ChJ (h : Nat) : Type := { j : Nat // j < h }
/-- What two items are handed over as. -/
def chE (A : Option Addr) (j : Nat) : Array Value := #[.slice (A.map (·.add (2 * j * 4))) 2 2]
/-- What a round keeps: what lay below n₀, and the boxes. -/
def KpC (n₀ Bs Bn : Nat) (W W' : World) : Prop := Below n₀ W W' ∧ (∀ v, W.cell? ⟨Bs, 0, none⟩ = some v → W'.cell? ⟨Bs, 0, none⟩ = some v) ∧ (∀ v, W.cell? ⟨Bn, 0, none⟩ = some v → W'.cell? ⟨Bn, 0, none⟩ = some v)
theorem kpC_t {n₀ Bs Bn : Nat} {A B C : World} (h : KpC n₀ Bs Bn A B) (k : KpC n₀ Bs Bn B C) : KpC n₀ Bs Bn A C := ⟨h.1.trans k.1, fun v hv => k.2.1 v (h.2.1 v hv), fun v hv => k.2.2 v (h.2.2 v hv)⟩
theorem kpC_b {n₀ Bs Bn : Nat} {w : World} (hn : n₀ ≤ w.heap.size) (hB : Bs < w.heap.size) (hB2 : Bn < w.heap.size) (W : World) (l : Nat) (o o' : Obj) (hl : w.heap.size ≤ l) (h : W.heap[l]? = some o) (h1 : o.isCells = false) (h2 : o.isWalk = false) : KpC n₀ Bs Bn W (W.putObj l o') :=
 ⟨belowK_b hn W l o o' hl h h1 h2, fun v hv => by
  have := (belowK_b (n₀ := w.heap.size) (Nat.le_refl _) W l o o' hl h h1 h2).cell (p := ⟨Bs, 0, none⟩) hB
  rw [this]; exact hv, fun v hv => by
  have := (belowK_b (n₀ := w.heap.size) (Nat.le_refl _) W l o o' hl h h1 h2).cell (p := ⟨Bn, 0, none⟩) hB2
  rw [this]; exact hv⟩
section
attribute [local go_sem] Oper.semAt_some
set_option maxHeartbeats 1000000 in
theorem chunk1_in (l0 Bs Bn n₀ : Nat) (A : Option Addr) (h c : Nat) (W : World) (hm : 2 * h ≤ 1073741824) (hc : 2 * h ≤ c) (J Jx : List (ChJ h) → World → Prop) (hJ : AbidesFrom W.heap.size J)
  (hY : ∀ pre x W, J pre W → pre.length < h → YieldAt Fence.wide 20 Tryd.prog l0 (chE A x.1) W fun e W' =>
   (e = .returned (.bool true) ∧ J (pre ++ [x]) W' ∧ KpC n₀ Bs Bn W W') ∨ (e = .returned (.bool false) ∧ Jx (pre ++ [x]) W'))
  (hBs : W.cell? ⟨Bs, 0, none⟩ = some (.slice A (2 * h) c)) (hBn : W.cell? ⟨Bn, 0, none⟩ = some (.int .i64 2)) (h0 : J [] W) (hnW : n₀ ≤ W.heap.size) :
  CallsIn Fence.wide 21 Tryd.prog 108 #[.func (.yield l0) #[] #[], .pointer (some ⟨Bs, 0, none⟩), .pointer (some ⟨Bn, 0, none⟩)] W fun e W' => (∃ v, e = .returned v) ∧
   ((∃ ys : List (ChJ h), ys.map (·.1) = List.range h ∧ J ys W') ∨ (∃ pre : List (ChJ h), True ∧ Jx pre W')) := by
 refine callsIn_of_wp Tryd.func108 rfl trivial ?_ rfl
 simp only [Tryd.ntmps108, List.size_toArray, List.length_cons, List.length_nil, Nat.reduceAdd, Nat.reduceSub, Array.replicate_succ, Array.replicate_zero, List.push_toArray, List.append_toArray, List.nil_append, List.cons_append]
 gi_wp2
 obtain ⟨m, hmE⟩ : ∃ m, m = 2 * h := ⟨_, rfl⟩
 rw [← hmE] at hm hc hBs
 have HM := Lib.hid hmE
 clear hmE
 gi_loopw [4] (fun p wr => ∃ (i : Nat) (pre : List (ChJ h)), p = .int .i64 (i : Int) ∧ i ≤ m ∧ i = 2 * pre.length ∧ pre.map (·.1) = List.range pre.length ∧ J pre wr ∧ Below n₀ W wr ∧ wr.cell? ⟨Bs, 0, none⟩ = some (.slice A m c) ∧ wr.cell? ⟨Bn, 0, none⟩ = some (.int .i64 2))
  (fun p _ => m - (intOf p).toNat)
 case atStart => exact ⟨0, [], rfl, by omega, rfl, rfl, h0, Below.refl _ _, hBs, hBn⟩
 case round =>
  obtain ⟨i, pre, rfl, hi, hpi, hx, hJs, hnx, hbs, hbn⟩ := hrel
  have HX := Lib.hid hx
  have HJ := Lib.hid hJs
  have HI := Lib.hid hpi
  clear hx hJs hpi
  by_cases hlt : i < m
  ·have hlt' : (i : Int) < (m : Int) := by omega
   have i0 : (0 : Int) ≤ (i : Int) := by omega
   have hi2 : i + 2 ≤ m := by have := HI.out; have := HM.out; omega
   have r1 : min (2 : Int) ((m - i : Nat) : Int) = 2 := by omega
   have r2 : IntKind.i64.wrap ((i : Int) + 2) = ((i + 2 : Nat) : Int) := by rw [show (i : Int) + 2 = ((i + 2 : Nat) : Int) by omega]; exact IntWalk.i64_in _ (by omega)
   have q1 : i + 2 ≤ c := by omega
   have q2 : ¬ c = i := by omega
   gi_wp2
   refine wpIn_wide.2 ?_
   (refine wp_region_held_drew (S := (S2 ⟨Bs, 0, none⟩ ⟨Bn, 0, none⟩ (.slice A m c) (.int .i64 2))) (by kernel_rfl) ?_ (fun hHeld => ?_); (· exact ⟨cell_keep (Below.refl _ _).drew hbs, cell_keep (Below.refl _ _).drew hbn⟩))
   (refine take_op (i := 0) (v := ?_) rfl (by kernel_rfl) (by kernel_rfl) (by kernel_rfl) (fun _ _ _ h => h) (by rfl) ?_ hHeld ?_; rotate_left; (· (intro wS hSw; (try dsimp only at hSw); go_simp; first | done | with_reducible rfl)); simp only [Act.put, sta_, scz_, scs_]); (refine take_op (i := 1) (v := ?_) rfl (by kernel_rfl) (by kernel_rfl) (by kernel_rfl) (fun _ _ _ h => h) (by rfl) ?_ hHeld ?_; rotate_left; (· (intro wS hSw; (try dsimp only at hSw); go_simp; first | done | with_reducible rfl)); simp only [Act.put, sta_, scz_, scs_]); (refine take_op (i := 2) (v := ?_) rfl (by kernel_rfl) (by kernel_rfl) (by kernel_rfl) (fun _ _ _ h => h) (by rfl) ?_ hHeld ?_; rotate_left; (· (intro wS hSw; (try dsimp only at hSw); go_simp; first | done | with_reducible rfl)); simp only [Act.put, sta_, scz_, scs_]); (refine take_op (i := 3) (v := ?_) rfl (by kernel_rfl) (by kernel_rfl) (by kernel_rfl) (fun _ _ _ h => h) (by rfl) ?_ hHeld ?_; rotate_left; (· (intro wS hSw; (try dsimp only at hSw); go_simp; first | done | with_reducible rfl)); simp only [Act.put, sta_, scz_, scs_]); (refine take_op (i := 4) (v := ?_) rfl (by kernel_rfl) (by kernel_rfl) (by kernel_rfl) (fun _ _ _ h => h) (by rfl) ?_ hHeld ?_; rotate_left; (· (intro wS hSw; (try dsimp only at hSw); go_simp; first | done | with_reducible rfl)); simp only [Act.put, sta_, scz_, scs_]); (refine take_op (i := 5) (v := ?_) rfl (by kernel_rfl) (by kernel_rfl) (by kernel_rfl) (fun _ _ _ h => h) (by rfl) ?_ hHeld ?_; rotate_left; (· (intro wS hSw; (try dsimp only at hSw); go_simp; first | done | with_reducible rfl)); simp only [Act.put, sta_, scz_, scs_]); (refine take_op (i := 6) (v := ?_) rfl (by kernel_rfl) (by kernel_rfl) (by kernel_rfl) (fun _ _ _ h => h) (by rfl) ?_ hHeld ?_; rotate_left; (· (intro wS hSw; (try dsimp only at hSw); go_simp; first | done | with_reducible rfl)); simp only [Act.put, sta_, scz_, scs_])
   have hbd : Below wr.heap.size wr wr.drew := (Below.refl _ _).drew
   revert hHeld hbd
   generalize World.drew _ = wd
   intro hHeld hbd
   (refine wpAnyH_done (by kernel_rfl) ?_ _)
   have hbs2 := hHeld.1
   have hbn2 := hHeld.2
   have hJ2 := hJ _ _ _ none HJ.out (grown_of_below hbd none) (by simp)
   have hB2 := Lib.hid (hnx.trans (hbd.mono (by have := hnx.size; omega)))
   have C2 := Lib.hid (And.intro hbs2 hbn2)
   obtain ⟨fn, tmps, assign, body, hy, hRd⟩ := hY pre ⟨pre.length, by have := HI.out; have := HM.out; omega⟩ wd hJ2 (by have := HI.out; have := HM.out; omega)
   dsimp only [chE] at hy
   rw [← HI.out] at hy
   clear hHeld hbd hbs hbn hbn2 hJ2
   gi_wp2
   refine hRd.mono ?_
   rintro e W3 (⟨rfl, hJ3, hk3⟩ | ⟨rfl, hJx3⟩)
   ·have hbn3 := hk3.2.2 _ C2.out.2
    have hbs3 := hk3.2.1 _ C2.out.1
    gi_wp2
    go_roundw
    case rel => exact ⟨i + 2, pre ++ [⟨pre.length, by have := HI.out; have := HM.out; omega⟩], rfl, hi2, by have := HI.out; simp; omega, by rw [List.map_append, HX.out]; simp [List.range_succ], hJ3, hB2.out.trans hk3.1, hbs3, hbn3⟩
    case measure => simp [intOf]; omega
   ·gi_wp2
    refine bodyPost_ret (results_none rfl _ _ _) rfl ?_
    exact ⟨⟨_, rfl⟩, .inr ⟨_, trivial, hJx3⟩⟩
  ·have hlt' : ¬ (i : Int) < (m : Int) := by omega
   have hph : pre.length = h := by have := HI.out; have := HM.out; omega
   have Hfin := Lib.hid (show pre.map (·.1) = List.range h from HX.out.trans (congrArg List.range hph))
   clear hph
   gi_wp2
   go_end0
   exact ⟨⟨_, rfl⟩, .inl ⟨pre, by have := Hfin.out; first | exact this | simpa using this, HJ.out⟩⟩
end
theorem chunk_any (A : Option Addr) (n c : Nat) (w : World) :
  Calls Tryd.prog 99 #[.slice A n c, .int .i64 2] w fun e w' => e = .returned (.func (.func 108) #[] #[.pointer (some ⟨w.heap.size, 0, none⟩), .pointer (some ⟨w.heap.size + 1, 0, none⟩)]) ∧ w' = (w.alloc (.cells #[.slice A n c] 23)).alloc (.cells #[.int .i64 2] 3) := by
 go_enter Tryd.func99, Tryd.ntmps99
 go_wp2_with fail
 go_ret
 exact ⟨by simp, rfl⟩
theorem chunk_stops (Bs Bn n₀ : Nat) (A : Option Addr) (h c : Nat) (w : World) (hm : 2 * h ≤ 1073741824) (hc : 2 * h ≤ c) (hBs : w.cell? ⟨Bs, 0, none⟩ = some (.slice A (2 * h) c)) (hBn : w.cell? ⟨Bn, 0, none⟩ = some (.int .i64 2)) (hnW : n₀ ≤ w.heap.size) :
  SeqStopsK Fence.wide 21 Tryd.prog 108 #[.pointer (some ⟨Bs, 0, none⟩), .pointer (some ⟨Bn, 0, none⟩)] (fun x : ChJ h => chE A x.1) (KpC n₀ Bs Bn) (fun ys => ys.map (·.1) = List.range h) (fun _ => True) h w := fun l0 J Jx W hW hJ _ hY h0 =>
 chunk1_in l0 Bs Bn n₀ A h c W hm hc J Jx hJ hY (cell_keep hW hBs) (cell_keep hW hBn) h0 (Nat.le_trans hnW hW.size)
end Go.Proofs.YtlolnakeancenaaDoor

namespace Go.Proofs.YtlolnakeancenaaDoor
open Go.RowKit
set_option linter.unusedVariables false
set_option linter.unusedSimpArgs false
set_option maxRecDepth 20000
attribute [local go_sem ↓] Go.wp_at_zero Go.wp_at_succ
attribute [local go_sem] World.cell?_alloc_some frozen_alloc_some
attribute [local go_sem] lt2 lt3 lt4 lt5
attribute [local simp] lt2 lt3 lt4 lt5

set_option maxHeartbeats 8000000 in
theorem item_text (g : Nat) (A : Option Addr) (n cap : Nat) (L : List Nat) (a d : Nat) (w : World) (h : RD w g A n cap L a) (ha : a < n) (hd : d < 16) (hk : L[a]? = some 1) (x : Got)
  (hx : x = if (ntake (L.drop (a + 1))).2.2 ≠ 0 then .error ((ntake (L.drop (a + 1))).2.2, a + 1) else if ((L.drop (a + 1)).drop (ntake (L.drop (a + 1))).2.1).length < (ntake (L.drop (a + 1))).1 then .error (2, a + 1 + (ntake (L.drop (a + 1))).2.1)
   else .ok (.mk 1 0 (ofBytes (((L.drop (a + 1)).drop (ntake (L.drop (a + 1))).2.1).take (ntake (L.drop (a + 1))).1)) [], ((L.drop (a + 1)).drop (ntake (L.drop (a + 1))).2.1).drop (ntake (L.drop (a + 1))).1, a + 1 + (ntake (L.drop (a + 1))).2.1 + (ntake (L.drop (a + 1))).1)) :
  Calls Tryd.prog 50 #[.pointer (some ⟨g, 0, none⟩), .int .i64 (d : Int)] w (ItemRead w g A n cap x) := by
 have Hrd := Lib.hid h
 have c0 : w.cell? ⟨g, 0, none⟩ = some (.slice A n cap) := by rw [h.blk.cell]; rfl
 have c1 : w.cell? ⟨g, 1, none⟩ = some (.int .i64 (a : Int)) := by rw [h.blk.cell]; rfl
 have f1 : w.frozen? ⟨g, 1, none⟩ = false := h.blk.frozen 1
 have hcm := h.max
 have hnc := h.le
 obtain ⟨ad, k', rfl, hk', hk2, hkc⟩ := h.bytes.at_ ha
 obtain rfl : 1 = k' := by rw [hk] at hk'; injection hk'
 have hne : ((a : Int) == (n : Int)) = false := by simp; omega
 have hd16 : ((d : Int) == 16) = false := by simp; omega
 have j0 : (0 : Int) ≤ (a : Int) := by omega
 have j1 : (a : Int) < (n : Int) := by omega
 unfold maxLen at hcm
 have Hx := Lib.hid hx
 clear h hk hk' hx
 go_enter Tryd.func50, Tryd.ntmps50
 go_wp2_with fail
 go_region_held3 (fun w' => Below w.heap.size w w' ∧ w'.cell? ⟨g, 0, none⟩ = some (.slice (some ad) n cap) ∧ w'.cell? ⟨g, 1, none⟩ = some (.int .i64 (a : Int)) ∧ w'.cell? (ad.add a) = some (.int .u8 ((1 : Nat) : Int))) ((go_split_ands; (repeat' apply And.intro) <;> (try simp only [World.cell?_drew, World.frozen?_drew]) <;> (first | with_reducible assumption | (exact cell_keep (by with_reducible assumption) (by with_reducible assumption)) | (exact frozen_keep (by with_reducible assumption) (by with_reducible assumption) (by with_reducible assumption)) | exact blw))) (fail)
 all_goals
  go_split_ands
  go_wp2_with fail
  go_region_held3 (fun w' => Below w.heap.size w w' ∧ w'.cell? ⟨g, 0, none⟩ = some (.slice (some ad) n cap) ∧ w'.cell? ⟨g, 1, none⟩ = some (.int .i64 (a : Int)) ∧ w'.cell? (ad.add a) = some (.int .u8 ((1 : Nat) : Int))) ((go_split_ands; (repeat' apply And.intro) <;> (try simp only [World.cell?_drew, World.frozen?_drew]) <;> (first | with_reducible assumption | (exact cell_keep (by with_reducible assumption) (by with_reducible assumption)) | (exact frozen_keep (by with_reducible assumption) (by with_reducible assumption) (by with_reducible assumption)) | exact blw))) (fail)
  all_goals
   go_split_ands
   go_wp2_with fail
   have hmv : Moved w g (some ad) n cap (w.setCell ⟨g, 1, none⟩ (.int .i64 ((a : Int) + 1))).drew.drew (a + 1) := (Hrd.out.store (a' := a + 1) (Below.refl _ _) (by omega)).drew.drew
   have hlt : (ntake (L.drop (a + 1))).2.2 = 0 → (ntake (L.drop (a + 1))).1 < 2 ^ 64 := fun he => (ntake_back (fun c hc => Hrd.out.bytes.lt c (List.mem_of_mem_drop hc)) he).2.2.2
   have hln := Hrd.out.bytes.1
   have hroom := room_any g (some ad) n cap L (a + 1) _ (Hrd.out.moved hmv)
   have Hmv := Lib.hid hmv
   rw [List.drop_drop] at Hx
   generalize ntake (L.drop (a + 1)) = y at *
   obtain ⟨v, m, er⟩ := y
   simp only at Hx
   rw [List.length_drop, ← hln] at Hx
   clear hlt hmv
   refine hroom.mono ?_
   rintro r w1 (⟨he, hfit, rfl, hm1⟩ | ⟨he, hfit, rfl, hgr⟩ | ⟨he, rfl, hgr⟩)
   ·simp only at he hfit hm1
    subst he
    have hxx := Hx.out
    rw [if_neg (by simp), if_neg (by omega)] at hxx
    subst hxx
    have h1 := hm1.le
    have hrd1 := (Hrd.out.moved Hmv.out).moved hm1
    have Hm1 := Lib.hid hm1
    have q0 : w1.cell? ⟨g, 0, none⟩ = some (.slice (some ad) n cap) := by rw [hm1.blk.cell]; rfl
    have q1 : w1.cell? ⟨g, 1, none⟩ = some (.int .i64 ((a + 1 + m : Nat) : Int)) := by rw [hm1.blk.cell]; rfl
    have qf : w1.frozen? ⟨g, 1, none⟩ = false := hm1.blk.frozen 1
    obtain ⟨b, hb⟩ : ∃ b, b = a + 1 + m := ⟨_, rfl⟩
    obtain ⟨c, hc⟩ : ∃ c, c = b + v := ⟨_, rfl⟩
    have hcb : c - b = v := by omega
    have hst := hrd1.store (w1 := w1) (a' := c) (Below.refl _ _) (by omega)
    have hrd2 := hrd1.moved hst
    have hB := (hrd2.bytes.cutFrom (k := b) (cap := cap) (by omega) (by omega)).cutTo (k := c - b) (by omega)
    have hb9 := hB.keep ((Below.refl _ _).drew)
    have hcv := conv_bytes hb9 (cap - b)
    have Hb := Lib.hid hb
    rw [← hb] at q1 h1 hfit
    have Hst := Lib.hid hst
    obtain ⟨B2, hB2⟩ : ∃ B2, (if cap = b then some ad else some (ad.add b)) = B2 := ⟨_, rfl⟩
    rw [Option.map_some, hB2] at hcv
    have w1' : IntKind.i64.wrap ((b : Int) + (v : Int)) = (c : Int) := by rw [IntWalk.i64_in _ (by omega)]; omega
    have w2' : IntKind.i64.wrap ((c : Int) - (v : Int)) = (b : Int) := by rw [IntWalk.i64_in _ (by omega)]; omega
    have hbc : b ≤ c := by omega
    have hcn : c ≤ n := by omega
    have hst2 : Moved w1 g (some ad) n cap (w1.setCell ⟨g, 1, none⟩ (.int .i64 (c : Int))) c := Hst.out
    have p0 : (w1.setCell ⟨g, 1, none⟩ (.int .i64 (c : Int))).cell? ⟨g, 0, none⟩ = some (.slice (some ad) n cap) := by rw [hst2.blk.cell]; rfl
    have p1 : (w1.setCell ⟨g, 1, none⟩ (.int .i64 (c : Int))).cell? ⟨g, 1, none⟩ = some (.int .i64 (c : Int)) := by rw [hst2.blk.cell]; simp
    have Hst2 := Lib.hid hst2
    have Hc := Lib.hid hc
    have Hcb := Lib.hid hcb
    have i1 : ((c : Int) - (b : Int)).toNat = c - b := by omega
    have i2 : (0 : Int) ≤ (b : Int) := by omega
    have i3 : (b : Int) ≤ (c : Int) := by omega
    have i4 : (c : Int) ≤ (cap : Int) := by omega
    clear hb hst hrd2 hB hb9 hrd1 hm1 hroom hln hst2 hc hcb
    go_wp2_with fail
    go_region_held3 (fun w' => Below (w1.setCell ⟨g, 1, none⟩ (.int .i64 (c : Int))).heap.size (w1.setCell ⟨g, 1, none⟩ (.int .i64 (c : Int))) w' ∧ w'.cell? ⟨g, 0, none⟩ = some (.slice (some ad) n cap) ∧ w'.cell? ⟨g, 1, none⟩ = some (.int .i64 (c : Int)) ∧ Sem.run Tryd.prog (convert 28 9 (.slice B2 (c - b) (cap - b))) w' = .ok (.string (ofBytes (List.take (c - b) (List.drop b L)))) w') ((go_split_ands; (repeat' apply And.intro) <;> (try simp only [World.cell?_drew, World.frozen?_drew]) <;> (first | with_reducible assumption | (exact cell_keep (by with_reducible assumption) (by with_reducible assumption)) | (exact frozen_keep (by with_reducible assumption) (by with_reducible assumption) (by with_reducible assumption)) | exact blw))) (fail)
    all_goals
     go_split_ands
     go_wp2_with fail
     go_ret
     have e1 : ofBytes (List.take v (List.drop (a + 1 + m) L)) = ofBytes (List.take (c - b) (List.drop b L)) := by rw [Hcb.out, Hb.out]
     have e2 : a + 1 + m + v = c := by rw [Hc.out, Hb.out]
     rw [e1, e2]
     exact ⟨_, rfl, .text _ (by rw [ofBytes_size, List.length_take]; unfold maxLen; omega), (Hmv.out.trans (Hm1.out.trans Hst2.out)).drew⟩
   ·simp only at he hfit
    subst he
    have hxx := Hx.out
    rw [if_neg (by simp), if_pos (by omega)] at hxx
    subst hxx
    exact ⟨rfl, rfl, grown_same Hmv.out.grown hgr⟩
   ·simp only at he
    have hxx := Hx.out
    rw [if_pos he] at hxx
    subst hxx
    exact ⟨rfl, rfl, grown_same Hmv.out.grown hgr⟩
end Go.Proofs.YtlolnakeancenaaDoor

namespace Go.Proofs.YtlolnakeancenaaDoor
open Go.RowKit
set_option linter.unusedVariables false
set_option linter.unusedSimpArgs false
set_option maxRecDepth 20000
attribute [local go_sem ↓] Go.wp_at_zero Go.wp_at_succ
attribute [local go_sem] World.cell?_alloc_some frozen_alloc_some
attribute [local go_sem] lt2 lt3 lt4 lt5
attribute [local simp] lt2 lt3 lt4 lt5

def gnode : Gots → Got
 | .error e => .error e
 | .ok (l, r, a) => .ok (.mk 2 0 ByteArray.empty l, r, a)
set_option maxHeartbeats 16000000 in
theorem item_list (g : Nat) (A : Option Addr) (n cap : Nat) (L : List Nat) (a d fuel : Nat) (w : World) (h : RD w g A n cap L a) (ha : a < n) (hd : fuel + 1 + d = 16) (hn : n ≤ 1000000000) (hk : L[a]? = some 2)
  (ih : ∀ (a : Nat) (w : World), RD w g A n cap L a → Calls Tryd.prog 50 #[.pointer (some ⟨g, 0, none⟩), .int .i64 ((d + 1 : Nat) : Int)] w (ItemRead w g A n cap (gtake fuel (L.drop a) a))) (x : Got)
  (hx : x = if (ntake (L.drop (a + 1))).2.2 ≠ 0 then .error ((ntake (L.drop (a + 1))).2.2, a + 1) else if ((L.drop (a + 1)).drop (ntake (L.drop (a + 1))).2.1).length < (ntake (L.drop (a + 1))).1 then .error (2, a + 1 + (ntake (L.drop (a + 1))).2.1)
   else gnode (gmany (gtake fuel) (ntake (L.drop (a + 1))).1 ((L.drop (a + 1)).drop (ntake (L.drop (a + 1))).2.1) (a + 1 + (ntake (L.drop (a + 1))).2.1))) :
  Calls Tryd.prog 50 #[.pointer (some ⟨g, 0, none⟩), .int .i64 (d : Int)] w (ItemRead w g A n cap x) := by
 have hgl := h.blk.lt
 have hd' : d < 16 := by omega
 obtain ⟨i1, hi, hz0, hz1, hz2⟩ := any_parts
 have Ih := Lib.hid ih
 clear ih
 have Hrd := Lib.hid h
 have c0 : w.cell? ⟨g, 0, none⟩ = some (.slice A n cap) := by rw [h.blk.cell]; rfl
 have c1 : w.cell? ⟨g, 1, none⟩ = some (.int .i64 (a : Int)) := by rw [h.blk.cell]; rfl
 have f1 : w.frozen? ⟨g, 1, none⟩ = false := h.blk.frozen 1
 have hcm := h.max
 have hnc := h.le
 obtain ⟨ad, k', rfl, hk', hk2, hkc⟩ := h.bytes.at_ ha
 obtain rfl : 2 = k' := by rw [hk] at hk'; injection hk'
 have hne : ((a : Int) == (n : Int)) = false := by simp; omega
 have hd16 : ((d : Int) == 16) = false := by simp; omega
 have j0 : (0 : Int) ≤ (a : Int) := by omega
 have j1 : (a : Int) < (n : Int) := by omega
 unfold maxLen at hcm
 have Hx := Lib.hid hx
 clear h hk hk' hx
 have w22 : IntKind.i64.wrap 2 = 2 := by decide
 go_enter Tryd.func50, Tryd.ntmps50
 go_wp2_with fail
 go_region_held3 (fun w' => Below w.heap.size w w' ∧ w'.cell? ⟨g, 0, none⟩ = some (.slice (some ad) n cap) ∧ w'.cell? ⟨g, 1, none⟩ = some (.int .i64 (a : Int)) ∧ w'.cell? (ad.add a) = some (.int .u8 ((2 : Nat) : Int))) ((go_split_ands; (repeat' apply And.intro) <;> (try simp only [World.cell?_drew, World.frozen?_drew]) <;> (first | with_reducible assumption | (exact cell_keep (by with_reducible assumption) (by with_reducible assumption)) | (exact frozen_keep (by with_reducible assumption) (by with_reducible assumption) (by with_reducible assumption)) | exact blw))) (fail)
 all_goals
  go_split_ands
  go_wp2_with fail
  go_region_held3 (fun w' => Below w.heap.size w w' ∧ w'.cell? ⟨g, 0, none⟩ = some (.slice (some ad) n cap) ∧ w'.cell? ⟨g, 1, none⟩ = some (.int .i64 (a : Int)) ∧ w'.cell? (ad.add a) = some (.int .u8 ((2 : Nat) : Int))) ((go_split_ands; (repeat' apply And.intro) <;> (try simp only [World.cell?_drew, World.frozen?_drew]) <;> (first | with_reducible assumption | (exact cell_keep (by with_reducible assumption) (by with_reducible assumption)) | (exact frozen_keep (by with_reducible assumption) (by with_reducible assumption) (by with_reducible assumption)) | exact blw))) (fail)
  all_goals
   go_split_ands
   go_wp2_with fail
   have hmv : Moved w g (some ad) n cap (w.setCell ⟨g, 1, none⟩ (.int .i64 ((a : Int) + 1))).drew.drew (a + 1) := (Hrd.out.store (a' := a + 1) (Below.refl _ _) (by omega)).drew.drew
   have hlt : (ntake (L.drop (a + 1))).2.2 = 0 → (ntake (L.drop (a + 1))).1 < 2 ^ 64 := fun he => (ntake_back (fun c hc => Hrd.out.bytes.lt c (List.mem_of_mem_drop hc)) he).2.2.2
   have hln := Hrd.out.bytes.1
   have Hmv := Lib.hid hmv
   have hma : Moved w g (some ad) n cap ((w.setCell ⟨g, 1, none⟩ (.int .i64 ((a : Int) + 1))).alloc (.cells #[] 20)).drew.drew (a + 1) := ((Hrd.out.store (a' := a + 1) (Below.refl _ _) (by omega)).below ((Below.refl _ _).alloc (Nat.le_refl _) _)).drew.drew
   have Hma := Lib.hid hma
   have hroom := room_any g (some ad) n cap L (a + 1) _ (Hrd.out.moved hma)
   rw [List.drop_drop] at Hx
   generalize ntake (L.drop (a + 1)) = y at *
   obtain ⟨v, m, er⟩ := y
   simp only at Hx
   rw [List.length_drop, ← hln] at Hx
   clear hlt hmv hma
   refine hroom.mono ?_
   rintro r w1 (⟨he, hfit, rfl, hm1⟩ | ⟨he, hfit, rfl, hgr⟩ | ⟨he, rfl, hgr⟩)
   ·simp only at he hfit hm1
    subst he
    have hxx := Hx.out
    rw [if_neg (by simp), if_neg (by omega)] at hxx
    have Hxx := Lib.hid hxx
    have h1 := hm1.le
    obtain ⟨b, hb⟩ : ∃ b, b = a + 1 + m := ⟨_, rfl⟩
    have hm : Moved w g (some ad) n cap w1 b := by rw [hb]; exact Hma.out.trans hm1
    have hrow0 : Row w1 w.heap.size (.slice (some ⟨w.heap.size, 0, none⟩) 0 0) [] [] := by
     have e0 : Row ((w.setCell ⟨g, 1, none⟩ (.int .i64 ((a : Int) + 1))).alloc (.cells #[] 20)).drew.drew w.heap.size (.slice (some ⟨w.heap.size, 0, none⟩) 0 0) [] [] := by
      refine ⟨?_, Nat.le_refl _, fun i t u _ hu => by simp at hu⟩
      have e1 : World.ownsRow ((w.setCell ⟨g, 1, none⟩ (.int .i64 ((a : Int) + 1))).alloc (.cells #[] 20)) w.heap.size 20 1 (.slice (some ⟨w.heap.size, 0, none⟩) 0 0) 0 [] := by
       have := World.ownsRow_made (e := 20) (size := 1) (base := w.heap.size) (w.setCell ⟨g, 1, none⟩ (.int .i64 ((a : Int) + 1))) #[] 0 (by simp) (Nat.zero_le _) (by simp)
       simpa using this
      exact e1
     exact e0.grown hm1.grown hgl
    have hx2 : x = gnode (gapp [] (gmany (gtake fuel) v (L.drop b) b)) := by
     rw [hb, Hxx.out]
     cases gmany (gtake fuel) v (L.drop (a + 1 + m)) (a + 1 + m) with
     | error e => rfl
     | ok y => rfl
    have Hx2 := Lib.hid hx2
    have hb1 := hm.le
    have Hln := Lib.hid hln
    clear hroom hm1 Hxx hxx hx2 hb hln
    go_wp2_with fail
    go_loopw [7, 98] (fun s7 s98 wr => ∃ (pre : List Tree) (us : List Value) (aj : Nat), s98 = .int .i64 us.length ∧ us.length = pre.length ∧ us.length ≤ v ∧ Row wr w.heap.size s7 pre us ∧ Moved w g (some ad) n cap wr aj ∧ x = gnode (gapp pre (gmany (gtake fuel) (v - us.length) (L.drop aj) aj))) (fun _ s98 _ => v - (intOf s98).toNat)
    case atStart => exact ⟨[], [], b, rfl, rfl, by simp, hrow0, hm, by simpa using Hx2.out⟩
    case round =>
     obtain ⟨pre, us, aj, rfl, hul, huv, hrow, hmj, hxj⟩ := hrel
     have hgr := hmj.grown.size
     have hajn := hmj.le
     have Hxj := Lib.hid hxj
     have Hmj := Lib.hid hmj
     have Hul := Lib.hid hul
     clear hrow0 hm hxj hmj hul
     by_cases hlt : us.length < v
     ·have hcall := Ih.out aj wr (Hrd.out.moved Hmj.out)
      have hds : ((d + 1 : Nat) : Int) = (d : Int) + 1 := by omega
      rw [hds] at hcall
      have hj1 : (us.length : Int) < (v : Int) := by omega
      have hnx := Hxj.out
      rw [show v - us.length = (v - (us.length + 1)) + 1 by omega] at hnx
      obtain ⟨A3, c3, rfl, hl3, hc3⟩ := hrow.form
      have Hrow := Lib.hid hrow
      have Hnx := Lib.hid hnx
      clear hrow hnx
      go_wp2_with fail
      refine hcall.mono ?_
      rintro r w4 hr
      cases hg : gtake fuel (L.drop aj) aj with
      | error e =>
       obtain ⟨e, p⟩ := e
       rw [hg] at hr
       obtain ⟨rfl, hgr4⟩ := hr
       have hxe := Hnx.out
       rw [gmany_succ_error hg] at hxe
       simp only [gapp, gnode] at hxe
       subst hxe
       exact ⟨rfl, rfl, grown_same Hmj.out.grown hgr4⟩
      | ok y =>
       obtain ⟨t, r1, a1⟩ := y
       rw [hg] at hr
       obtain ⟨u, rfl, htall, hmv4⟩ := hr
       obtain ⟨ue, ux, rfl⟩ := htall.form
       have hgood := gtake_good fuel (d + 1) t (L.drop aj) r1 aj a1 (by omega) (by rw [List.length_drop, ← Hln.out]; omega) (fun c hc => Hrd.out.bytes.lt c (List.mem_of_mem_drop hc)) hg
       have hr1 : r1 = L.drop a1 := by
        have h3 := hgood.2.2.1
        have h4 := congrArg (List.drop (tform t).length) h3
        rw [List.drop_left, List.drop_drop, ← hgood.2.2.2] at h4
        exact h4.symm
       subst hr1
       have hxe := Hnx.out
       rw [gapp_step hg] at hxe
       have Hxe := Lib.hid hxe
       have hgl4 : g < w.heap.size := hgl
       have hrow4 := (Hrow.out.grown hmv4.grown hgl).below ((Below.refl _ _).alloc (Nat.le_refl _) (.cells #[.iface ue ux] 20))
       have htall4 := htall.under (w' := w4.alloc (.cells #[.iface ue ux] 20)) ((Below.refl _ _).alloc (Nat.le_refl _) _)
       have hsrc := src_one (w := w4) (e := 20) htall.one
       have hm4 := (Hmj.out.trans hmv4).below ((Below.refl _ _).alloc (Nat.le_refl _) (.cells #[.iface ue ux] 20))
       have hz4 := hmv4.grown.size
       have Htall4 := Lib.hid htall4
       have Hm4 := Lib.hid hm4
       clear hxe hgood hg htall htall4 hm4
       go_wp2_with ((at_builtin; go_loud (refine wpList_app _ rfl (.tmp 100) (.tmp 105) 128 rfl _ 20 i1 _ 1 16 Tryd.underlying128 hi hz0 hz1 hz2 rfl (by omega) _ _ _ rfl hrow4.own _ _ _ _ rfl hsrc ?h63 ?hby ?hbase ?_); (case h63 => (unfold maxLen; first | omega | (simp; done) | (simp; omega))); (case hby => first | omega | (simp; done) | (simp; omega)); (case hbase => first | omega | (simp; done) | (simp; omega)); intro v5 w5 hownw5 hgroww5 hatw5 holdw5))
       go_roundw
       case rel =>
        have hlow : ∀ k, (Value.slice A3 us.length c3).ownBlock = some k → k < wr.heap.size := fun k hk => (Hrow.out.own.lt k hk).2
        have hst := (hrow4.more Hul.out t).step (t := t) (u := .iface ue ux) (g := wr.heap.size) (by rw [Hul.out, List.getElem?_concat_length]) Htall4.out hgr hlow hownw5 hgroww5 hatw5
        refine ⟨pre ++ [t], us ++ [.iface ue ux], a1, (by first | rfl | (simp; done) | go_num), by simp [Hul.out], (by first | omega | (simp; done) | (simp; omega)), hst, Hm4.out.append hgl hrow4.own (Nat.le_refl _) hgroww5, ?_⟩
        rw [Hxe.out, List.length_append, List.length_singleton]
       case measure => simp [intOf]; omega
     ·have hv0 : v - us.length = 0 := by omega
      obtain ⟨A3, c3, rfl, hl3, hc3⟩ := hrow.form
      have htl := hrow.tall Hul.out
      have Htl := Lib.hid htl
      have hxe := Hxj.out
      rw [hv0] at hxe
      simp only [gmany, gapp, gnode, List.append_nil] at hxe
      subst hxe
      clear hrow htl hv0
      go_wp2_with fail
      go_ret
      exact ⟨_, rfl, Htl.out, Hmj.out⟩
   ·simp only at he hfit
    subst he
    have hxx := Hx.out
    rw [if_neg (by simp), if_pos (by omega)] at hxx
    subst hxx
    exact ⟨rfl, rfl, grown_same Hma.out.grown hgr⟩
   ·simp only at he
    have hxx := Hx.out
    rw [if_pos he] at hxx
    subst hxx
    exact ⟨rfl, rfl, grown_same Hma.out.grown hgr⟩
end Go.Proofs.YtlolnakeancenaaDoor

namespace Go.Proofs.YtlolnakeancenaaDoor
open Go.RowKit
set_option linter.unusedVariables false
set_option linter.unusedSimpArgs false
set_option maxRecDepth 20000
attribute [local go_sem ↓] Go.wp_at_zero Go.wp_at_succ
attribute [local go_sem] World.cell?_alloc_some frozen_alloc_some

theorem item_any (g : Nat) (A : Option Addr) (n cap : Nat) (L : List Nat) (hn : n ≤ 1000000000) : ∀ (fuel d a : Nat) (w : World), fuel + d = 16 → RD w g A n cap L a →
  Calls Tryd.prog 50 #[.pointer (some ⟨g, 0, none⟩), .int .i64 (d : Int)] w (ItemRead w g A n cap (gtake fuel (L.drop a) a)) := by
 intro fuel
 induction fuel with
 | zero =>
  intro d a w hd h
  have hln := h.bytes.1
  by_cases ha : a = n
  ·subst ha
   have e : gtake 0 (L.drop a) a = .error (2, a) := by rw [List.drop_of_length_le (by omega)]; rfl
   rw [e]; exact item_end g A a cap L d w h
  ·have hlt : a < n := by have := h.at_; omega
   have e : gtake 0 (L.drop a) a = .error (12, a) := by rw [List.drop_eq_getElem_cons (by omega)]; rfl
   obtain rfl : d = 16 := by omega
   rw [e]; exact item_deep g A n cap L a w h hlt
 | succ fuel ih =>
  intro d a w hd h
  have hln := h.bytes.1
  by_cases ha : a = n
  ·subst ha
   have e : gtake (fuel + 1) (L.drop a) a = .error (2, a) := by rw [List.drop_of_length_le (by omega)]; rfl
   rw [e]; exact item_end g A a cap L d w h
  ·have hlt : a < n := by have := h.at_; omega
   have hal : a < L.length := by omega
   have hk : L[a]? = some L[a] := List.getElem?_eq_getElem hal
   rw [List.drop_eq_getElem_cons hal]
   generalize L[a] = k at *
   by_cases h2 : 2 < k
   ·have e : gtake (fuel + 1) (k :: L.drop (a + 1)) a = .error (4, a) := by simp only [gtake]; rw [if_pos h2]
    rw [e]; exact item_kind g A n cap L a d k w h hlt (by omega) hk h2
   ·have hkk : k = 0 ∨ k = 1 ∨ k = 2 := by omega
    rcases hkk with rfl | rfl | rfl
    ·refine item_num g A n cap L a d w h hlt (by omega) hk _ ?_
     simp only [gtake]
     rw [if_neg h2]
     simp
    ·refine item_text g A n cap L a d w h hlt (by omega) hk _ ?_
     simp only [gtake]
     rw [if_neg h2]
     simp
    ·refine item_list g A n cap L a d fuel w h hlt (by omega) hn hk (fun a w h => ih (d + 1) a w (by omega) h) _ ?_
     simp only [gtake]
     rw [if_neg h2]
     simp only [show ¬ (2 : Nat) = 0 by decide, show ¬ (2 : Nat) = 1 by decide, if_false]
     by_cases e1 : (ntake (L.drop (a + 1))).2.2 ≠ 0
     ·rw [if_pos e1, if_pos e1]
     ·rw [if_neg e1, if_neg e1]
      split
      ·rfl
      ·cases gmany (gtake fuel) (ntake (L.drop (a + 1))).1 ((L.drop (a + 1)).drop (ntake (L.drop (a + 1))).2.1) (a + 1 + (ntake (L.drop (a + 1))).2.1) <;> rfl
end Go.Proofs.YtlolnakeancenaaDoor

namespace Go.Proofs.YtlolnakeancenaaDoor
open Go.RowKit
set_option linter.unusedVariables false
set_option linter.unusedSimpArgs false
set_option maxRecDepth 20000
attribute [local go_sem ↓] Go.wp_at_zero Go.wp_at_succ
attribute [local go_sem] World.cell?_alloc_some frozen_alloc_some

theorem bools6 {fuel : Nat} {W : World} {cs : List Value} {b0 b1 b2 b3 b4 b5 : Bool} {sp : Nat → Bool} {held : Bool} {q : List MemPlace}
  (h : DataW.trod (fun _ => ()) Tryd.prog W 0 sp held fuel 99 cs = some (.agg [.lit (.bool b0), .lit (.bool b1), .lit (.bool b2), .lit (.bool b3), .lit (.bool b4), .lit (.bool b5)], q)) :
  cs = [.bool b0, .bool b1, .bool b2, .bool b3, .bool b4, .bool b5] := by
 obtain ⟨xs, n, hn, hx, hl, hlen, hf⟩ := DataW.trod_struct Tryd.underlying99 h
 have hb : Tryd.prog.cellsOf 4 = 1 := by kernel_rfl
 have hC : Tryd.prog.cellsOf 99 = 6 := by kernel_rfl
 rw [hC] at hl
 match xs, hlen with
 | [y0, y1, y2, y3, y4, y5], _ =>
  match cs, hl with
  | [c0, c1, c2, c3, c4, c5], _ =>
   have g0 := hf 0 _ rfl
   have g1 := hf 1 _ rfl
   have g2 := hf 2 _ rfl
   have g3 := hf 3 _ rfl
   have g4 := hf 4 _ rfl
   have g5 := hf 5 _ rfl
   simp only [List.getElem_toArray, List.getElem_cons_zero, List.getElem_cons_succ, hb] at g0 g1 g2 g3 g4 g5
   obtain ⟨a0, e0, z0⟩ := DataW.trod_bool Tryd.underlying4 (x := y0) (by simpa using g0)
   obtain ⟨a1, e1, z1⟩ := DataW.trod_bool Tryd.underlying4 (x := y1) (by simpa using g1)
   obtain ⟨a2, e2, z2⟩ := DataW.trod_bool Tryd.underlying4 (x := y2) (by simpa using g2)
   obtain ⟨a3, e3, z3⟩ := DataW.trod_bool Tryd.underlying4 (x := y3) (by simpa using g3)
   obtain ⟨a4, e4, z4⟩ := DataW.trod_bool Tryd.underlying4 (x := y4) (by simpa using g4)
   obtain ⟨a5, e5, z5⟩ := DataW.trod_bool Tryd.underlying4 (x := y5) (by simpa using g5)
   simp at e0 e1 e2 e3 e4 e5
   subst e0 e1 e2 e3 e4 e5 z0 z1 z2 z3 z4 z5
   have hx1 := congrArg Prod.fst hx
   simp at hx1
   obtain ⟨rfl, rfl, rfl, rfl, rfl, rfl⟩ := hx1
   rfl
theorem kinds_reads {W : World} (h : Lib.VarReads Tryd.prog W "stonecrop/msg.kinds" Rows.laid_stonecrop_msg_kinds) : KindsAt W := by
 obtain ⟨g, t, cs, fuel, p, hg, hty, hvar, hd⟩ := h
 obtain rfl := Option.some.inj ((show Tryd.prog.globalNamed "stonecrop/msg.kinds" = some 0 by kernel_rfl).symm.trans hg)
 obtain rfl := Option.some.inj ((show (Tryd.prog.globals[0]?).map (·.type) = some 107 by kernel_rfl).symm.trans hty)
 have hC : Tryd.prog.cellsOf 99 = 6 := by kernel_rfl
 intro k j b hk hj
 obtain ⟨fuel', d, q, hdi, he⟩ := Lib.array_elem Tryd.underlying107 hd k hk
 rw [hC] at he
 rw [World.var?_cell hg hvar (k * 6 + j), ← Array.getElem?_toList]
 have fin : ∀ {b0 b1 b2 b3 b4 b5 : Bool}, (cs.toList.drop (k * 6)).take 6 = [.bool b0, .bool b1, .bool b2, .bool b3, .bool b4, .bool b5] → #[Value.bool b0, .bool b1, .bool b2, .bool b3, .bool b4, .bool b5][j]? = some b → cs.toList[k * 6 + j]? = some b := fun e h => by
  have hj6 : j < 6 := by
   rcases Nat.lt_or_ge j 6 with h1 | h1
   ·exact h1
   ·rw [Array.getElem?_eq_none (by simpa using h1)] at h; cases h
  have e1 := congrArg (·[j]?) e
  simp only [List.getElem?_take, List.getElem?_drop, if_pos hj6] at e1
  rw [e1]
  simpa using h
 have hk' : k = 0 ∨ k = 1 ∨ k = 2 ∨ k = 3 ∨ k = 4 ∨ k = 5 ∨ k = 6 ∨ k = 7 ∨ k = 8 ∨ k = 9 := by omega
 rcases hk' with rfl | rfl | rfl | rfl | rfl | rfl | rfl | rfl | rfl | rfl
 all_goals
  obtain rfl := Option.some.inj hdi
  exact fin (bools6 he) hj
/-- The row's variables: the decoder's tables and the kinds. -/
theorem mlaid {W : World} (hL : laidMet Tryd.prog [("unicode/utf8.acceptRanges", Rows.laid_unicode_utf8_acceptRanges), ("stonecrop/msg.kinds", Rows.laid_stonecrop_msg_kinds), ("unicode/utf8.first", Rows.laid_unicode_utf8_first)] W) : Tabs W ∧ KindsAt W := by
 refine ⟨?_, kinds_reads (Lib.laidMet.reads hL (.tail _ (.head _)))⟩
 have h1 : Lib.VarReads Tryd.prog W "unicode/utf8.first" Lib.firstData := by
  rw [← Pinned.utf8First_eq]
  exact Lib.laidMet.reads hL (.tail _ (.tail _ (.head _)))
 have e2 : (Rows.laid_unicode_utf8_acceptRanges : DataW Unit) = Lib.acceptData := by kernel_rfl
 have h2 : Lib.VarReads Tryd.prog W "unicode/utf8.acceptRanges" Lib.acceptData := by
  rw [← e2]
  exact Lib.laidMet.reads hL (.head _)
 exact utf8Tabs_of_reads Tryd.lays260 ⟨by kernel_rfl, by kernel_rfl, by kernel_rfl, by kernel_rfl, by kernel_rfl, by kernel_rfl, by kernel_rfl⟩ h1 h2
end Go.Proofs.YtlolnakeancenaaDoor

namespace Go.Proofs.YtlolnakeancenaaDoor
open Go.RowKit
set_option linter.unusedVariables false
set_option linter.unusedSimpArgs false
set_option maxRecDepth 20000
attribute [local go_sem ↓] Go.wp_at_zero Go.wp_at_succ
attribute [local go_sem] World.cell?_alloc_some frozen_alloc_some
open Go.ChangeShapes Go.WideShapes Go.ChangeAt Go.Deep Go.Joins
section
variable {H : Type} {enc : TypeId × Value → H} {w : World} {base : Nat} {spare : Nat → Bool} {held : Bool}
theorem list18 {α : Type} {cs : List α} (h : cs.length = 18) : ∃ c0 c1 c2 c3 c4 c5 c6 c7 c8 c9 c10 c11 c12 c13 c14 c15 c16 c17, cs = [c0, c1, c2, c3, c4, c5, c6, c7, c8, c9, c10, c11, c12, c13, c14, c15, c16, c17] := by
 match cs, h with
 | [c0, c1, c2, c3, c4, c5, c6, c7, c8, c9, c10, c11, c12, c13, c14, c15, c16, c17], _ => exact ⟨c0, c1, c2, c3, c4, c5, c6, c7, c8, c9, c10, c11, c12, c13, c14, c15, c16, c17, rfl⟩
theorem open_msg {r : Reach} {b0 : Nat} {v : Value} {d : DataW H} {p : List MemPlace} (hv : Value.okWide Tryd.prog w r b0 50 v) (h : DataW.Trod enc Tryd.prog w base spare held 50 v d p) :
  ∃ R : MsgT, v = R.v ∧ R.Ok w := by
 obtain ⟨cs, rfl, hsz⟩ := okWide_struct Tryd.underlying50 hv
 obtain ⟨fuel, hf⟩ := h
 have hC : Tryd.prog.cellsOf 50 = 18 := by kernel_rfl
 obtain ⟨cs⟩ := cs
 obtain ⟨c0, c1, c2, c3, c4, c5, c6, c7, c8, c9, c10, c11, c12, c13, c14, c15, c16, c17, rfl⟩ := list18 (cs := cs) (by simpa [hC] using hsz)
 simp only [Value.cells] at hf
 obtain ⟨xs, n, _, _, hl, hlen, hf⟩ := DataW.trod_struct Tryd.underlying50 hf
 have hi : Tryd.prog.cellsOf 3 = 1 := by kernel_rfl
 have h1 : Tryd.prog.cellsOf 41 = 2 := by kernel_rfl
 have h2 : Tryd.prog.cellsOf 43 = 2 := by kernel_rfl
 have h3 : Tryd.prog.cellsOf 45 = 6 := by kernel_rfl
 have h4 : Tryd.prog.cellsOf 48 = 3 := by kernel_rfl
 match xs, hlen with
 | [y0, y1, y2, y3, y4, y5, y6, y7], _ =>
  have g0 := hf 0 _ rfl
  have g1 := hf 1 _ rfl
  have g2 := hf 2 _ rfl
  have g3 := hf 3 _ rfl
  have g4 := hf 4 _ rfl
  have g5 := hf 5 _ rfl
  have g6 := hf 6 _ rfl
  have g7 := hf 7 _ rfl
  simp only [List.getElem_toArray, List.getElem_cons_zero, List.getElem_cons_succ, hi, h1, h2, h3, h4] at g0 g1 g2 g3 g4 g5 g6 g7
  obtain ⟨mk, ek, _, wmk⟩ := DataW.trod_int Tryd.underlying3 (x := y0) (by simpa using g0)
  obtain ⟨i, n', rfl, rfl, wi, wn⟩ := open_two Tryd.underlying41 rfl rfl rfl rfl (x := y1) (by simpa using g1)
  obtain ⟨br, bb, rfl, rfl, wbr, wbb⟩ := open_two Tryd.underlying43 rfl rfl rfl rfl (x := y2) (by simpa using g2)
  obtain ⟨tr, tb, rfl, rfl, wtr, wtb⟩ := open_two Tryd.underlying43 rfl rfl rfl rfl (x := y3) (by simpa using g3)
  obtain ⟨st, es, _, ws⟩ := DataW.trod_int Tryd.underlying3 (x := y4) (by simpa using g4)
  obtain ⟨k, c, q, ke, va, rv, rfl, rfl, rfl, rfl, rfl, rfl, wk, wc, wq, wke, wva, wrv⟩ := open_cmd_cells (x := y5) (by simpa using g5)
  obtain ⟨A, m, cap, sq, tg, l, ea, hm, hcap, hI, wsq, wtg⟩ := open_attr_cells (x := y6) (by simpa using g6)
  obtain ⟨ver, ev, _, wver⟩ := DataW.trod_int Tryd.underlying3 (x := y7) (by simpa using g7)
  simp at es ea ek ev
  obtain ⟨rfl, rfl, rfl⟩ := ea
  subst es ek ev
  exact ⟨⟨mk, i, n', br, bb, tr, tb, st, k, c, q, ke, va, rv, A, m, cap, sq, tg, ver, l⟩, rfl, ⟨wmk, wi, wn, wbr, wbb, wtr, wtb, ws, wk, wc, wq, wke, wva, wrv, hm, hm, hI, wsq, wtg, wver⟩⟩
end
end Go.Proofs.YtlolnakeancenaaDoor
