/- The walk of codec.Get. The walks of msg.Frame, sum, Open. -/
import Derived.Test.YtlolnakeancenaaDoorMsgFramesQ18
import Derived.Test.YtlolnakeancenaaDoorMsgFramesQ12
import Derived.Test.YtlolnakeancenaaDoorMsgFramesQ11
import Derived.Test.YtlolnakeancenaaDoorMsgFramesQ7
import Derived.Test.YtlolnakeancenaaDoorMsgFramesQ0
import Derived.WalkKit
import Derived.WalkSpells
import Derived.WalkLawsBesides
import Derived.Deep.RegionHeld3
import Derived.Deep.DrawnRows
import Derived.Deep.DeepCutAuto
import Derived.Deep.DeepFit
import Derived.Lib.Hide
import Derived.BigQuiet
import Derived.Deep.QuietTactic
namespace Go.Proofs.YtlolnakeancenaaDoor
open Go.RowKit
set_option linter.unusedVariables false
set_option linter.unusedSimpArgs false
set_option maxRecDepth 20000
attribute [local go_sem ↓] Go.wp_at_zero Go.wp_at_succ
attribute [local go_sem] World.cell?_alloc_some frozen_alloc_some
attribute [local go_sem] lt2 lt3 lt4 lt5
attribute [local simp] lt2 lt3 lt4 lt5

def tNone : Tree := .mk 0 0 ByteArray.empty []
/-- What is read of bytes as a whole: the tree, the error's number, its place. -/
def cget (L : List Nat) : Tree × Nat × Nat :=
 if 1048576 < L.length then (tNone, 12, 0)
 else match gtake 16 L 0 with
  | .error (e, p) => (tNone, e, p)
  | .ok (t, _, a1) => if a1 < L.length then (tNone, 3, a1) else (t, 0, 0)
def Gets (w : World) (x : Tree × Nat × Nat) (r : Ending) (w' : World) : Prop :=
 ∃ v, r = .returned (.tuple #[v, .int .i64 (x.2.1 : Int), .int .i64 (x.2.2 : Int)]) ∧ HoldsIn w' (fun b => w.heap.size ≤ b) x.1 v ∧ Below w.heap.size w w'
def noneV : Value := .agg #[.int .i64 0, .int .u64 0, .string ByteArray.empty, .slice none 0 0]
theorem hin_none (w : World) (S : Nat → Prop) : HoldsIn w S tNone noneV := hin_num w S (n := 0) (by decide)

theorem grown_cell_ne {w w' : World} {g : Nat} (hg : w.grownBy w' (some g)) {a : Addr} {v : Value} (h : w.cell? a = some v) (ha : a.block ≠ g) : w'.cell? a = some v := by
 rw [← h]
 exact World.cell?_of_block (w := w) (hg.block _ (World.block_lt_of_cell? _ _ h) fun e => by injection e with e; exact ha e)
theorem grown_frozen_ne {w w' : World} {g : Nat} (hg : w.grownBy w' (some g)) {a : Addr} {v : Value} (h : w.cell? a = some v) (ha : a.block ≠ g) {b : Bool} (hf : w.frozen? a = b) : w'.frozen? a = b := by
 rw [← hf]
 exact World.frozen?_of_block (w := w) (hg.block _ (World.block_lt_of_cell? _ _ h) fun e => by injection e with e; exact ha e)
theorem below_of_grown {a b : World} {g B : Nat} (hg : a.grownBy b (some g)) (h : B ≤ g) (hB : B ≤ a.heap.size) : Below B a b :=
 ⟨hg.os, hg.tape, hg.output, hg.size, fun k hk => hg.block k (by omega) fun e => by injection e with e; omega⟩
/-- The world in which the reader begins. -/
def getW (w : World) (A : Option Addr) (n cap : Nat) : World :=
 (((w.alloc (.cells #[.int .i64 0, .int .u64 0, .string ByteArray.empty, .slice none 0 0] 25)).alloc (.cells #[.int .i64 0] 29)).alloc (.cells #[.int .i64 0] 3)).alloc (.cells #[.slice A n cap, .int .i64 0] 93)
theorem getW_size (w : World) (A : Option Addr) (n cap : Nat) : (getW w A n cap).heap.size = w.heap.size + 4 := by simp [getW]
theorem getW_below (w : World) (A : Option Addr) (n cap : Nat) : Below w.heap.size w (getW w A n cap) := by unfold getW; exact blw
theorem getW_rd {w : World} {A : Option Addr} {n cap : Nat} {L : List Nat} (hb : Bytes w A n L) (hnc : n ≤ cap) (hcm : cap ≤ maxLen) : RD (getW w A n cap) (w.heap.size + 1 + 1 + 1) A n cap L 0 := by
 refine ⟨?_, hb.keep (getW_below w A n cap), fun hn ad e => ?_, hnc, hcm, Nat.zero_le _⟩
 ·have h := Blk.new (((w.alloc (.cells #[.int .i64 0, .int .u64 0, .string ByteArray.empty, .slice none 0 0] 25)).alloc (.cells #[.int .i64 0] 29)).alloc (.cells #[.int .i64 0] 3)) 93 #[.slice A n cap, .int .i64 0]
  simp only [World.size_alloc] at h
  exact h
 ·obtain ⟨ad', c, e', _, _, hc⟩ := hb.at_ hn
  rw [e] at e'
  cases e'
  have := World.block_lt_of_cell? _ _ hc
  rw [add_block] at this
  omega
/-- What the result's variables hold when the reader begins. -/
theorem getW_cells (w : World) (A : Option Addr) (n cap : Nat) :
  (getW w A n cap).cell? ⟨w.heap.size, 0, none⟩ = some (.int .i64 0) ∧ (getW w A n cap).cell? ⟨w.heap.size, 1, none⟩ = some (.int .u64 0) ∧ (getW w A n cap).cell? ⟨w.heap.size, 2, none⟩ = some (.string ByteArray.empty) ∧ (getW w A n cap).cell? ⟨w.heap.size, 3, none⟩ = some (.slice none 0 0) ∧
  (getW w A n cap).cell? ⟨w.heap.size + 1, 0, none⟩ = some (.int .i64 0) ∧ (getW w A n cap).cell? ⟨w.heap.size + 1 + 1, 0, none⟩ = some (.int .i64 0) := by
 unfold getW
 refine ⟨?_, ?_, ?_, ?_, ?_, ?_⟩ <;> simp [go_sem]
theorem getW_frozen (w : World) (A : Option Addr) (n cap : Nat) :
  (∀ i, (getW w A n cap).frozen? ⟨w.heap.size, i, none⟩ = false) ∧ (getW w A n cap).frozen? ⟨w.heap.size + 1, 0, none⟩ = false ∧ (getW w A n cap).frozen? ⟨w.heap.size + 1 + 1, 0, none⟩ = false := by
 unfold getW
 refine ⟨fun i => ?_, ?_, ?_⟩ <;> simp [go_sem]
/-- Behind the reader. -/
structure GotW (w : World) (g : Nat) (w1 : World) : Prop where
 c0 : w1.cell? ⟨w.heap.size, 0, none⟩ = some (.int .i64 0)
 c1 : w1.cell? ⟨w.heap.size, 1, none⟩ = some (.int .u64 0)
 c2 : w1.cell? ⟨w.heap.size, 2, none⟩ = some (.string ByteArray.empty)
 c3 : w1.cell? ⟨w.heap.size, 3, none⟩ = some (.slice none 0 0)
 e : w1.cell? ⟨w.heap.size + 1, 0, none⟩ = some (.int .i64 0)
 p : w1.cell? ⟨w.heap.size + 1 + 1, 0, none⟩ = some (.int .i64 0)
 f0 : w1.frozen? ⟨w.heap.size, 0, none⟩ = false
 f1 : w1.frozen? ⟨w.heap.size, 1, none⟩ = false
 f2 : w1.frozen? ⟨w.heap.size, 2, none⟩ = false
 f3 : w1.frozen? ⟨w.heap.size, 3, none⟩ = false
 fe : w1.frozen? ⟨w.heap.size + 1, 0, none⟩ = false
 fp : w1.frozen? ⟨w.heap.size + 1 + 1, 0, none⟩ = false
 below : Below w.heap.size w w1
 size : w.heap.size + 4 ≤ w1.heap.size
theorem gotW {w : World} {A : Option Addr} {n cap : Nat} {w1 : World} (h : (getW w A n cap).grownBy w1 (some (w.heap.size + 1 + 1 + 1))) : GotW w (w.heap.size + 1 + 1 + 1) w1 := by
 obtain ⟨h0, h1, h2, h3, he, hp⟩ := getW_cells w A n cap
 obtain ⟨hf, hfe, hfp⟩ := getW_frozen w A n cap
 have hs := h.size
 rw [getW_size] at hs
 exact ⟨grown_cell_ne h h0 (by first | (simp; done) | (simp; omega) | omega), grown_cell_ne h h1 (by first | (simp; done) | (simp; omega) | omega), grown_cell_ne h h2 (by first | (simp; done) | (simp; omega) | omega), grown_cell_ne h h3 (by first | (simp; done) | (simp; omega) | omega), grown_cell_ne h he (by first | (simp; done) | (simp; omega) | omega), grown_cell_ne h hp (by first | (simp; done) | (simp; omega) | omega),
  grown_frozen_ne h h0 (by first | (simp; done) | (simp; omega) | omega) (hf 0), grown_frozen_ne h h1 (by first | (simp; done) | (simp; omega) | omega) (hf 1), grown_frozen_ne h h2 (by first | (simp; done) | (simp; omega) | omega) (hf 2), grown_frozen_ne h h3 (by first | (simp; done) | (simp; omega) | omega) (hf 3), grown_frozen_ne h he (by first | (simp; done) | (simp; omega) | omega) hfe, grown_frozen_ne h hp (by first | (simp; done) | (simp; omega) | omega) hfp,
  (getW_below w A n cap).trans (below_of_grown h (by omega) (by rw [getW_size]; omega)), hs⟩

set_option maxHeartbeats 4000000 in
theorem get_long (A : Option Addr) (n cap : Nat) (w : World) (hn : 1048576 < n) :
  Calls Tryd.prog 31 #[.slice A n cap] w (Gets w (tNone, 12, 0)) := by
 have hn' : (1048576 : Int) < (n : Int) := by omega
 go_enter_defers Tryd.func31, Tryd.ntmps31
 go_wp2_with fail
 simp [bodyPostD, Leaves, settle, results, Tryd.results31, go_sem]
 exact ⟨noneV, rfl, hin_none _ _, blw⟩
set_option maxHeartbeats 8000000 in
theorem get_err (A : Option Addr) (n cap : Nat) (L : List Nat) (w : World) (hb : Bytes w A n L) (hnc : n ≤ cap) (hcm : cap ≤ maxLen) (hn : n ≤ 1048576) (e p : Nat) (hg : gtake 16 L 0 = .error (e, p)) :
  Calls Tryd.prog 31 #[.slice A n cap] w (Gets w (tNone, e, p)) := by
 have hn' : ¬ (1048576 : Int) < (n : Int) := by omega
 have hit : ∀ g W, RD W g A n cap L 0 → Calls Tryd.prog 50 #[.pointer (some ⟨g, 0, none⟩), .int .i64 0] W (ItemRead W g A n cap (gtake 16 L 0)) := fun g W h => by
  have := item_any g A n cap L (by omega) 16 0 0 W rfl h
  simpa using this
 rw [hg] at hit
 have hrd := getW_rd hb hnc hcm
 go_enter_defers Tryd.func31, Tryd.ntmps31
 go_wp2_with fail
 refine (hit _ (getW w A n cap) hrd).mono ?_
 rintro r w1 ⟨rfl, hgr⟩
 have G := gotW hgr
 have hzz := G.size
 refine leaves_cons (f := 45) (args := #[.pointer (some ⟨w.heap.size + 1, 0, none⟩), .pointer (some ⟨w.heap.size + 1 + 1, 0, none⟩)]) (by simp) (by simp [go_sem]) ?_
 refine (caught_fault (w.heap.size + 1) (w.heap.size + 1 + 1) 0 0 e p w1 G.e G.p G.fe G.fp (by omega)).mono ?_
 rintro r u' w2 ⟨rfl, rfl, k1, k2, k3⟩
 have hb2 := G.below.trans (k3 w.heap.size (by omega) (by omega))
 have hb3 := k3 (w.heap.size + 1) (Nat.le_refl _) (by omega)
 have m0 := (hb3.cell (p := ⟨w.heap.size, 0, none⟩) (Nat.lt_succ_self _)).trans G.c0
 have m1 := (hb3.cell (p := ⟨w.heap.size, 1, none⟩) (Nat.lt_succ_self _)).trans G.c1
 have m2 := (hb3.cell (p := ⟨w.heap.size, 2, none⟩) (Nat.lt_succ_self _)).trans G.c2
 have m3 := (hb3.cell (p := ⟨w.heap.size, 3, none⟩) (Nat.lt_succ_self _)).trans G.c3
 simp [Leaves, settle, results, Tryd.results31, go_sem, k1, k2, m0, m1, m2, m3]
 exact ⟨noneV, rfl, hin_none _ _, hb2⟩
set_option maxHeartbeats 8000000 in
theorem get_more (A : Option Addr) (n cap : Nat) (L : List Nat) (w : World) (hb : Bytes w A n L) (hnc : n ≤ cap) (hcm : cap ≤ maxLen) (hn : n ≤ 1048576) (t : Tree) (r1 : List Nat) (a1 : Nat) (hg : gtake 16 L 0 = .ok (t, r1, a1)) (hlt : a1 < n) :
  Calls Tryd.prog 31 #[.slice A n cap] w (Gets w (tNone, 3, a1)) := by
 have hn' : ¬ (1048576 : Int) < (n : Int) := by omega
 have hlt' : (a1 : Int) < (n : Int) := by omega
 have hit : ∀ g W, RD W g A n cap L 0 → Calls Tryd.prog 50 #[.pointer (some ⟨g, 0, none⟩), .int .i64 0] W (ItemRead W g A n cap (gtake 16 L 0)) := fun g W h => by
  have := item_any g A n cap L (by omega) 16 0 0 W rfl h
  simpa using this
 rw [hg] at hit
 have hrd := getW_rd hb hnc hcm
 go_enter_defers Tryd.func31, Tryd.ntmps31
 go_wp2_with fail
 refine (hit _ (getW w A n cap) hrd).mono ?_
 rintro r w1 ⟨u, rfl, htl, hmv⟩
 have G := gotW hmv.grown
 obtain ⟨c0, c1, c2, c3, ce, cp, f0, f1, f2, f3, fe, fp, hbl, hzz⟩ := G
 have x1 : w1.cell? ⟨w.heap.size + 1 + 1 + 1, 1, none⟩ = some (.int .i64 (a1 : Int)) := by rw [hmv.blk.cell]; rfl
 clear htl hmv hit hrd
 go_wp2_with fail
 go_region
 all_goals go_wp2_with fail
 all_goals
  refine leaves_cons (f := 45) (args := #[.pointer (some ⟨w.heap.size + 1, 0, none⟩), .pointer (some ⟨w.heap.size + 1 + 1, 0, none⟩)]) (by simp) (by simp [go_sem]) ?_
  refine (caught_idle _ _ _).mono ?_
  rintro r u' w3 ⟨rfl, rfl, rfl⟩
  simp [Leaves, settle, results, Tryd.results31, go_sem, c0, c1, c2, c3, ce, cp]
  exact ⟨noneV, rfl, hin_none _ _, blw⟩
set_option maxHeartbeats 8000000 in
theorem get_ok (A : Option Addr) (n cap : Nat) (L : List Nat) (w : World) (hb : Bytes w A n L) (hnc : n ≤ cap) (hcm : cap ≤ maxLen) (hn : n ≤ 1048576) (t : Tree) (r1 : List Nat) (hg : gtake 16 L 0 = .ok (t, r1, n)) :
  Calls Tryd.prog 31 #[.slice A n cap] w (Gets w (t, 0, 0)) := by
 have hn' : ¬ (1048576 : Int) < (n : Int) := by omega
 have hit : ∀ g W, RD W g A n cap L 0 → Calls Tryd.prog 50 #[.pointer (some ⟨g, 0, none⟩), .int .i64 0] W (ItemRead W g A n cap (gtake 16 L 0)) := fun g W h => by
  have := item_any g A n cap L (by omega) 16 0 0 W rfl h
  simpa using this
 have hsz : tsize t ≤ 10000000 := by
  have hl := hb.1
  obtain ⟨h1, h2, h3, h4⟩ := gtake_good 16 0 t L r1 0 n rfl (by omega) hb.lt hg
  have := tsize_form t 0 h1
  omega
 rw [hg] at hit
 have hrd := getW_rd hb hnc hcm
 go_enter_defers Tryd.func31, Tryd.ntmps31
 go_wp2_with fail
 refine (hit _ (getW w A n cap) hrd).mono ?_
 rintro r w1 ⟨u, rfl, htl, hmv⟩
 have G := gotW hmv.grown
 obtain ⟨c0, c1, c2, c3, ce, cp, f0, f1, f2, f3, fe, fp, hbl, hzz⟩ := G
 have x1 : w1.cell? ⟨w.heap.size + 1 + 1 + 1, 1, none⟩ = some (.int .i64 (n : Int)) := by rw [hmv.blk.cell]; rfl
 have hpl := plain_any t u _ w1 hsz htl
 clear htl hmv hit hrd
 go_wp2_with fail
 refine hpl.mono ?_
 rintro r w2 ⟨v, rfl, hin, hb2⟩
 obtain ⟨kv, nv, sv, Av, mv, cv, rfl⟩ := hin.form
 have d0 := cell_keep hb2 c0
 have d1 := cell_keep hb2 c1
 have d2 := cell_keep hb2 c2
 have d3 := cell_keep hb2 c3
 have de := cell_keep hb2 ce
 have dp := cell_keep hb2 cp
 have e0 := frozen_keep hb2 c0 f0
 have e1 := frozen_keep hb2 c1 f1
 have e2 := frozen_keep hb2 c2 f2
 have e3 := frozen_keep hb2 c3 f3
 have ee := frozen_keep hb2 ce fe
 have ep := frozen_keep hb2 cp fp
 have hz2 := hb2.size
 have Hin := Lib.hid hin
 have hbw : Below w.heap.size w w2 := blw
 clear c0 c1 c2 c3 ce cp f0 f1 f2 f3 fe fp x1 hin hpl
 go_wp2_with fail
 refine leaves_cons (f := 45) (args := #[.pointer (some ⟨w.heap.size + 1, 0, none⟩), .pointer (some ⟨w.heap.size + 1 + 1, 0, none⟩)]) (by simp) (by simp [go_sem]) ?_
 refine (caught_idle _ _ _).mono ?_
 rintro r u' w3 ⟨rfl, rfl, rfl⟩
 have h6 := (((((Hin.out.set (p := ⟨w.heap.size, 0, none⟩) (by simp; omega) (.int .i64 kv)).set (p := ⟨w.heap.size, 1, none⟩) (by simp; omega) (.int .u64 nv)).set (p := ⟨w.heap.size, 2, none⟩) (by simp; omega) (.string sv)).set (p := ⟨w.heap.size, 3, none⟩) (by simp; omega) (.slice Av mv cv)).set (p := ⟨w.heap.size + 1, 0, none⟩) (by simp; omega) (.int .i64 0)).set (p := ⟨w.heap.size + 1 + 1, 0, none⟩) (by simp; omega) (.int .i64 0)
 simp [Leaves, settle, results, Tryd.results31, go_sem, d0, d1, d2, d3, de, dp]
 exact ⟨_, rfl, h6.mono fun b hb => by omega, blw⟩
theorem get3_any (A : Option Addr) (n cap : Nat) (L : List Nat) (w : World) (hb : Bytes w A n L) (hnc : n ≤ cap) (hcm : cap ≤ maxLen) :
  Calls Tryd.prog 31 #[.slice A n cap] w (Gets w (cget L)) := by
 have hl := hb.1
 unfold cget
 by_cases hn : 1048576 < n
 ·rw [if_pos (by omega)]; exact get_long A n cap w hn
 ·rw [if_neg (by omega)]
  cases hg : gtake 16 L 0 with
  | error x => obtain ⟨e, p⟩ := x; exact get_err A n cap L w hb hnc hcm (by omega) e p hg
  | ok x =>
   obtain ⟨t, r1, a1⟩ := x
   simp only
   obtain ⟨h1, h2, h3, h4⟩ := gtake_good 16 0 t L r1 0 a1 rfl (by omega) hb.lt hg
   have h5 := congrArg List.length h3
   simp at h5
   by_cases ha : a1 < L.length
   ·rw [if_pos ha]; exact get_more A n cap L w hb hnc hcm (by omega) t r1 a1 hg (by omega)
   ·rw [if_neg ha]
    obtain rfl : a1 = n := by omega
    exact get_ok A a1 cap L w hb hnc hcm (by omega) t r1 hg
end Go.Proofs.YtlolnakeancenaaDoor

namespace Go.Proofs.YtlolnakeancenaaDoor
open Go.RowKit
set_option linter.unusedVariables false
set_option linter.unusedSimpArgs false
set_option maxRecDepth 20000
attribute [local go_sem ↓] Go.wp_at_zero Go.wp_at_succ
attribute [local go_sem] World.cell?_alloc_some frozen_alloc_some
attribute [local go_sem] lt2 lt3 lt4 lt5
attribute [local simp] lt2 lt3 lt4 lt5

/-- A number's four bytes, the greatest ahead. -/
def be4 (s : Nat) : List Nat := [s / 16777216 % 256, s / 65536 % 256, s / 256 % 256, s % 256]
/-- A version, a sum, and bytes. -/
def mframe (ver : Nat) (p : List Nat) : List Nat := ver :: be4 (crc p) ++ p
theorem made5 (w : World) (ver s : Nat) (hv : ver < 256) (hs : s < 4294967296) : (w.alloc (.cells #[.int .u8 (ver : Int), .int .u8 ((s : Int) / 16777216), .int .u8 ((s : Int) / 65536 % 256), .int .u8 ((s : Int) / 256 % 256), .int .u8 ((s : Int) % 256)] 5)).ownsRow w.heap.size 5 1 (.slice (some ⟨w.heap.size, 0, none⟩) 5 5) 5 (u8s (ver :: be4 s)) := by
 have h1 : ((s / 16777216 % 256 : Nat) : Int) = (s : Int) / 16777216 := by omega
 have h2 : ((s / 65536 % 256 : Nat) : Int) = (s : Int) / 65536 % 256 := by omega
 have h3 : ((s / 256 % 256 : Nat) : Int) = (s : Int) / 256 % 256 := by omega
 have h4 : ((s % 256 : Nat) : Int) = (s : Int) % 256 := by omega
 refine ⟨rfl, .inr ⟨w.heap.size, 5, _, rfl, Nat.le_refl _, heap_alloc_new _ _, Nat.le_refl _, by decide, by simp, ?_⟩⟩
 simp only [u8s, be4, List.map_cons, List.map_nil, h1, h2, h3, h4]
 rfl
theorem own_lowr {w : World} {base base' : Nat} {e : TypeId} {size : Nat} {v : Value} {n : Nat} {xs : List Value} (h : w.ownsRow base e size v n xs) (hb : base' ≤ base) : w.ownsRow base' e size v n xs :=
 ⟨h.1, h.2.imp id fun ⟨g, cap, cur, hv, hg, hr⟩ => ⟨g, cap, cur, hv, by omega, hr⟩⟩
theorem crc_lt (l : List Nat) : crc l < 4294967296 := Nat.lt_of_le_of_lt (Nat.sub_le _ _) (by decide)
theorem pform_len (t : Tree) : (pform t).length ≤ 1048576 := by
 unfold pform
 split
 ·next h =>
  unfold perr at h
  split at h
  ·next h2 => exact absurd h h2
  ·split at h
   ·cases h
   ·omega
 ·simp
set_option maxHeartbeats 4000000 in
theorem frame_any (ver : Nat) (hver : ver < 256) (t : Tree) (v : Value) (w : World) (hsz : tsize t ≤ 10000000) (ht : Holds w t v) :
  Calls Tryd.prog 10 #[.int .u8 (ver : Int), v] w (Puts w .i64 5 (if perr t = 0 then mframe ver (pform t) else []) (perr t)) := by
 have hput := fun W (h : Below w.heap.size w W) => put3_any t v W hsz (ht.keep h)
 have hpl := pform_len t
 obtain ⟨k, n, s, l⟩ := t
 obtain ⟨A, m, c, rfl, -, -, -, -, -, -, -⟩ := ht.open_
 generalize pform (.mk k n s l) = P at *
 generalize perr (.mk k n s l) = E at *
 obtain ⟨S, hS⟩ : ∃ S, crc P = S := ⟨_, rfl⟩
 have hs := crc_lt P
 rw [hS] at hs
 obtain ⟨i0, hi, hz0, hz1, hz2⟩ := info_parts info_u8
 have hsum := fun W g A' m' c' (h : W.cell? ⟨g, 0, none⟩ = some (.slice A' m' c')) (hb : Bytes W A' m' P) => sum_any (some ⟨g, 0, none⟩) 1 1 [P] W (texts1 h hb)
 simp only [List.flatten_cons, List.flatten_nil, List.append_nil, hS] at hsum
 have X : Blk (w.alloc (.cells #[.int .i64 k, .int .u64 (n : Int), .string s, .slice A m c] 25)) w.heap.size 25 #[.int .i64 k, .int .u64 (n : Int), .string s, .slice A m c] := Blk.new w _ _
 have kk : Below w.heap.size w (w.alloc (.cells #[.int .i64 k, .int .u64 (n : Int), .string s, .slice A m c] 25)) := below_one _
 have Hput := Lib.hid hput
 have Hsum := Lib.hid hsum
 have HS := Lib.hid hS
 clear hput hsum hS ht hsz
 by_cases hE : E = 0
 case neg =>
  rw [if_neg hE]
  have hE' : ((E : Int) != 0) = true := by simp; omega
  go_enter Tryd.func10, Tryd.ntmps10
  go_wp2_with (go_at_call 26; (with_reducible refine (Hput.out _ kk).mono ?_); clear Hput; rintro e w1 ⟨v1, rfl, hown1, hb1⟩; replace kk := below_call kk hb1 kk.size; clear hown1)
  refine bodyPost_ret (v := .tuple #[.slice none 0 0, .int .i64 (E : Int)]) (by simp [results, Tryd.results10, go_sem, *] <;> rfl) rfl ?_
  exact ⟨_, rfl, OwnB.nil_ _ _ _, kk⟩
 rw [if_pos hE]
 subst hE
 have hv0 : (0 : Int) ≤ (ver : Int) := by omega
 have hv1 : (ver : Int) < 256 := by omega
 go_enter Tryd.func10, Tryd.ntmps10
 go_upto_region 5 with (first
  | (go_at_call 26; (with_reducible refine (Hput.out _ kk).mono ?_); clear Hput; rintro e w1 ⟨v1, rfl, hown1, hb1⟩; replace kk := below_call kk hb1 kk.size; obtain ⟨A1, c1, rfl, _, _⟩ := hown1.form; have by1 := hown1.bytes.2.2; have ba := by1.keep (below_one (.cells #[.slice A1 P.length c1] 28)); have ca := (Blk.new w1 28 #[.slice A1 P.length c1]).cell 0)
  | (go_at_call 27; (with_reducible refine (Hsum.out _ _ _ _ _ ca ba).mono ?_); clear Hsum; rintro e w2 ⟨rfl, hb2⟩; have kb := below_call (kk.alloc kk.size (.cells #[.slice A1 P.length c1] 28)) hb2 (kk.alloc kk.size _).size; have by2 := ba.keep hb2; have own2 := (hown1.keep (below_one (.cells #[.slice A1 P.length c1] 28))).keep hb2))
 have src2 := Src.of_bytes (by2.keep (below_one (.cells #[.int .u8 (ver : Int), .int .u8 ((S : Int) / 16777216), .int .u8 ((S : Int) / 65536 % 256), .int .u8 ((S : Int) / 256 % 256), .int .u8 ((S : Int) % 256)] 5)))
 have own5 := made5 w2 ver S hver hs
 have hzb := kb.size
 have HB := Lib.hid own2.2
 clear own2 by2 by1 ba ca hown1
 go_wp2_with ((at_builtin; go_loud (refine wpList_app _ rfl (.tmp 32) (.tmp 33) 28 rfl _ 5 i0 _ 1 1 Tryd.underlying28 hi hz0 hz1 hz2 rfl (by omega) _ _ _ rfl own5 _ _ _ _ rfl src2 ?h63 ?hby ?hbase ?_); (case h63 => (unfold maxLen; first | omega | (simp; done) | (simp; omega))); (case hby => first | omega | (simp; done) | (simp; omega)); (case hbase => first | omega | (simp; done) | (simp; omega)); intro v5 w5 hownw5 hgroww5 hatw5 holdw5))
 have hb5 := below_app (B := w.heap.size) (kb.alloc kb.size _) own5 hgroww5 (by omega) (by simp; omega)
 have hall : ∀ x ∈ (ver :: be4 S), x < 256 := fun x hx => by simp [be4] at hx; omega
 have own6 : OwnB w5 w.heap.size 5 v5 ((ver :: be4 S) ++ P) := OwnB.join (show w5.ownsRow w.heap.size 5 1 v5 ((ver :: be4 S).length + P.length) (u8s (ver :: be4 S) ++ u8s P) from own_lowr hownw5 (by omega)) hall HB.out
 refine bodyPost_ret (v := .tuple #[v5, .int .i64 0]) (by simp [results, Tryd.results10, go_sem, *] <;> rfl) rfl ?_
 exact ⟨_, rfl, by unfold mframe; rw [HS.out]; exact own6, hb5⟩
end Go.Proofs.YtlolnakeancenaaDoor
