/- The walks of rec.read and rec.Take at the item of a record that has nothing but a promise. -/
import Derived.Test.YtmgiholmhhjpaaaDoorRecChecksQ32
import Derived.Test.YtmgiholmhhjpaaaDoorRecChecksQ40
import Derived.Test.YtmgiholmhhjpaaaDoorRecChecksQ37
import Derived.Test.YtmgiholmhhjpaaaDoorRecChecksQ41
import Derived.WalkKit
import Derived.WalkSpells
import Derived.WalkLawsBesides
import Derived.Deep.RegionHeld3
import Derived.Deep.DrawnRows
import Derived.Deep.DeepCutAuto
import Derived.Deep.DeepFit
import Derived.Lib.Hide
import Derived.BigQuiet
import Derived.Deep.QuietTactic
namespace Go.Proofs.YtmgiholmhhjpaaaDoor
open Go.RowKit
set_option linter.unusedVariables false
set_option linter.unusedSimpArgs false
set_option maxRecDepth 20000
attribute [local go_sem ↓] Go.wp_at_zero Go.wp_at_succ
attribute [local go_sem] World.cell?_alloc_some frozen_alloc_some
attribute [local go_sem] lt2 lt3 lt4 lt5
attribute [local simp] lt2 lt3 lt4 lt5

def rec0 (i n br bb tr tb : Int) : RecT := ⟨i, n, 0, br, bb, tr, tb, 0, 0, 0, ⟨#[]⟩, ⟨#[]⟩, 0, none, 0, 0, 0, 0, []⟩
theorem pt_nil {B : Nat} {gd : Bool} {w : World} (h : PT B gd [] w) : ∃ A c, Blk w B 103 #[.slice A 0 c, .bool gd] := by
  obtain ⟨A, m, c, h1, h2⟩ := h
  unfold ltree listV at h2
  cases h2 with
  | mk k n s l A m c vs hk hn hs hm hmc hc hcell hsub => obtain rfl : m = 0 := hm; exact ⟨_, _, h1⟩
attribute [local go_sem ↓ high] loadVar_rec storeVar_rec
attribute [local go_sem] rec_store_new
set_option maxHeartbeats 8000000 in
theorem read0_any (i n br bb tr tb : Int) (hi0 : 0 ≤ i) (hi1 : i ≤ 4611686018427387904) (hn0 : 0 ≤ n) (hn1 : n ≤ 4611686018427387904) (hrb : rightB br bb = true) (hrt : rightB tr tb = true) (hok : recOk (rec0 i n br bb tr tb) = true)
    (w : World) (hT : Tabs w) (S : Nat → Prop) (v : Value) (f : Value) (hv : HoldsIn w S (rtree0 i n 0 br bb tr tb) v) :
    Calls Tryd.prog 60 #[v, f] w (fun e w' => e = .returned (.tuple #[(rec0 i n br bb tr tb).v, .bool true]) ∧ Below w.heap.size w w') := by
  obtain ⟨A, m, c, rfl⟩ := hin_list hv
  have hck : ∀ W, Below w.heap.size w W → Calls Tryd.prog 10 #[(rec0 i n br bb tr tb).v] W (Gives W (.int .i64 0)) := fun W hb => by
    obtain ⟨ha0, ha1, hb0, hb1⟩ := rightB_iff.1 hrb
    obtain ⟨hc0, hc1, hd0, hd1⟩ := rightB_iff.1 hrt
    have hw : ∀ x : Int, 0 ≤ x → x ≤ 4611686018427387904 → (Lit.int .i64 x).wf = true := fun x h0 h1 => by simp [Lit.wf, IntKind.min, IntKind.max, IntKind.bits, IntKind.signed]; omega
    have := reccheck_any (rec0 i n br bb tr tb) W ⟨hw _ hi0 hi1, hw _ hn0 hn1, hw 0 (by omega) (by omega), hw _ ha0 (by simp [rec0]; omega), hw _ hb0 (by simp [rec0]; omega), hw _ hc0 (by simp [rec0]; omega), hw _ hd0 (by simp [rec0]; omega), hw 0 (by omega) (by omega), hw 0 (by omega) (by omega), hw 0 (by omega) (by omega), (by show (0 : Nat) ≤ maxLen; decide), (by show (0 : Nat) ≤ maxLen; decide), hw 0 (by omega) (by omega), Nat.le_refl _, Nat.zero_le _, IdsAt.nil, hw 0 (by omega) (by omega), hw 0 (by omega) (by omega)⟩ (hT.keep hb)
    rw [hok] at this; exact this
  have hnum := fun B a l W h0 h1 h => number_cons B a l W h0 h1 h
  have htk := fun B a b l W hr h => takebal_cons B a b l W hr h
  have Hck := Lib.hid hck
  have Hv := Lib.hid hv
  clear hck hv hok hT
  unfold listV rec0 RecT.v at *
  have hb0 : Below w.heap.size w (((w.alloc (.cells #[.int .i64 2, .int .u64 0, .string ByteArray.empty, .slice A m c] 56)).alloc (.cells #[.int .i64 0, .int .i64 0, .int .i64 0, .int .i64 0, .int .i64 0, .int .i64 0, .int .i64 0, .int .i64 0, .int .i64 0, .int .i64 0, .string ⟨#[]⟩, .string ⟨#[]⟩, .int .i64 0, .slice none 0 0, .int .i64 0, .int .i64 0] 33)).alloc (.cells #[.slice A m c, .bool true] 103)) := by ((repeat' first | with_reducible exact Below.refl _ _ | with_reducible assumption | with_reducible refine Below.alloc ?_ ?_ _ | with_reducible refine Below.setCell ?_ ?_ _ | with_reducible apply Below.drew | with_reducible apply below_drewN | with_reducible refine below_call ?_ (by with_reducible assumption) ?_) <;> (first | omega | (simp; done) | (simp; omega) | (simp at *; omega)))
  have hp0 : PT (w.heap.size + 1 + 1) true [ntree i, ntree n, ntree 0, btree br bb, btree tr tb] (((w.alloc (.cells #[.int .i64 2, .int .u64 0, .string ByteArray.empty, .slice A m c] 56)).alloc (.cells #[.int .i64 0, .int .i64 0, .int .i64 0, .int .i64 0, .int .i64 0, .int .i64 0, .int .i64 0, .int .i64 0, .int .i64 0, .int .i64 0, .string ⟨#[]⟩, .string ⟨#[]⟩, .int .i64 0, .slice none 0 0, .int .i64 0, .int .i64 0] 33)).alloc (.cells #[.slice A m c, .bool true] 103)) :=
    ⟨A, m, c, Blk.newAt (by simp), (Hv.out.there.under hb0).mono fun b hb => by omega⟩
  have R0 : Blk (((w.alloc (.cells #[.int .i64 2, .int .u64 0, .string ByteArray.empty, .slice A m c] 56)).alloc (.cells #[.int .i64 0, .int .i64 0, .int .i64 0, .int .i64 0, .int .i64 0, .int .i64 0, .int .i64 0, .int .i64 0, .int .i64 0, .int .i64 0, .string ⟨#[]⟩, .string ⟨#[]⟩, .int .i64 0, .slice none 0 0, .int .i64 0, .int .i64 0] 33)).alloc (.cells #[.slice A m c, .bool true] 103)) (w.heap.size + 1) 33 #[.int .i64 0, .int .i64 0, .int .i64 0, .int .i64 0, .int .i64 0, .int .i64 0, .int .i64 0, .int .i64 0, .int .i64 0, .int .i64 0, .string ⟨#[]⟩, .string ⟨#[]⟩, .int .i64 0, .slice none 0 0, .int .i64 0, .int .i64 0] := (Blk.newAt (by simp)).alloc _
  have z0 : w.heap.size + 3 ≤ (((w.alloc (.cells #[.int .i64 2, .int .u64 0, .string ByteArray.empty, .slice A m c] 56)).alloc (.cells #[.int .i64 0, .int .i64 0, .int .i64 0, .int .i64 0, .int .i64 0, .int .i64 0, .int .i64 0, .int .i64 0, .int .i64 0, .int .i64 0, .string ⟨#[]⟩, .string ⟨#[]⟩, .int .i64 0, .slice none 0 0, .int .i64 0, .int .i64 0] 33)).alloc (.cells #[.slice A m c, .bool true] 103)).heap.size := by simp
  have HW := Lib.hid (⟨hb0, hp0, R0, z0⟩ : _ ∧ _ ∧ _ ∧ _)
  clear hb0 hp0 R0 z0
  go_enter Tryd.func60, Tryd.ntmps60
  go_wp2_with fail
  revert HW
  generalize World.alloc _ _ = W0
  intro HW
  obtain ⟨hb0, hp0, R0, z0⟩ := HW.out
  clear HW
  refine (hnum _ i _ _ hi0 hi1 hp0).mono ?_
  rintro e w1 ⟨rfl, hp1, u1⟩
  have y1 := u1
  go_wp2_with fail
  refine (hnum _ n _ _ hn0 hn1 hp1).mono ?_
  rintro e w2 ⟨rfl, hp2, u2⟩
  have y2 := y1.trans u2
  clear y1 u2 hp1
  go_wp2_with fail
  refine (hnum _ 0 _ _ (by omega) (by omega) hp2).mono ?_
  rintro e w3 ⟨rfl, hp3, u3⟩
  have y3 := y2.trans u3
  clear y2 u3 hp2
  have R3 : Blk w3 (w.heap.size + 1) 33 #[.int .i64 0, .int .i64 0, .int .i64 0, .int .i64 0, .int .i64 0, .int .i64 0, .int .i64 0, .int .i64 0, .int .i64 0, .int .i64 0, .string ⟨#[]⟩, .string ⟨#[]⟩, .int .i64 0, .slice none 0 0, .int .i64 0, .int .i64 0] := y3.blk R0 (by omega)
  have z3 := y3.below.size
  clear R0 hp0
  go_wp2_with fail
  refine (htk _ br bb _ _ hrb (hp3.under (below_one _))).mono ?_
  rintro e w4 ⟨rfl, hp4, u4⟩
  have z4 := u4.below.size
  simp only [World.size_alloc] at z4
  have G4 : Blk w4 w3.heap.size 33 #[.int .i64 i, .int .i64 n, .int .i64 0, .int .i64 0, .int .i64 0, .int .i64 0, .int .i64 0, .int .i64 0, .int .i64 0, .int .i64 0, .string ⟨#[]⟩, .string ⟨#[]⟩, .int .i64 0, .slice none 0 0, .int .i64 0, .int .i64 0] := u4.blk (Blk.new _ _ _) (by omega)
  have R4 := u4.blk (R3.alloc _) (by omega)
  have y4 := (y3.trans (But.of (below_one _) (by omega))).trans u4
  clear hp3 u4 R3 y3
  go_wp2_with fail
  refine (htk _ tr tb _ _ hrt hp4).mono ?_
  rintro e w5 ⟨rfl, hp5, u5⟩
  have z5 := u5.below.size
  have G5 := u5.blk G4 (by omega)
  have R5 := u5.blk R4 (by omega)
  have y5 := y4.trans u5
  obtain ⟨A5, c5, B5⟩ := pt_nil hp5
  have n1 : w3.heap.size ≠ w.heap.size + 1 + 1 := by omega
  have n2 : w3.heap.size ≠ w.heap.size + 1 := by omega
  have n3 : w.heap.size + 1 + 1 ≠ w3.heap.size := by omega
  have n4 : w.heap.size + 1 ≠ w3.heap.size := by omega
  clear hp4 hp5 u5 G4 R4 y4 hnum htk
  have B5c := B5.cell
  have G5c := G5.cell
  have G5f := G5.frozen
  have hwz : Below w.heap.size w w5 := hb0.trans (y5.below.mono (by omega))
  have hE : Below w.heap.size w ((((w5.setCell ⟨w3.heap.size, 3, none⟩ (.int .i64 br)).setCell ⟨w3.heap.size, 4, none⟩ (.int .i64 bb)).setCell ⟨w3.heap.size, 5, none⟩ (.int .i64 tr)).setCell ⟨w3.heap.size, 6, none⟩ (.int .i64 tb)) := by ((repeat' first | with_reducible exact Below.refl _ _ | with_reducible assumption | with_reducible refine Below.alloc ?_ ?_ _ | with_reducible refine Below.setCell ?_ ?_ _ | with_reducible apply Below.drew | with_reducible apply below_drewN | with_reducible refine below_call ?_ (by with_reducible assumption) ?_) <;> (first | omega | (simp; done) | (simp; omega) | (simp at *; omega)))
  have GE : Blk ((((w5.setCell ⟨w3.heap.size, 3, none⟩ (.int .i64 br)).setCell ⟨w3.heap.size, 4, none⟩ (.int .i64 bb)).setCell ⟨w3.heap.size, 5, none⟩ (.int .i64 tr)).setCell ⟨w3.heap.size, 6, none⟩ (.int .i64 tb)) w3.heap.size 33 #[.int .i64 i, .int .i64 n, .int .i64 0, .int .i64 br, .int .i64 bb, .int .i64 tr, .int .i64 tb, .int .i64 0, .int .i64 0, .int .i64 0, .string ⟨#[]⟩, .string ⟨#[]⟩, .int .i64 0, .slice none 0 0, .int .i64 0, .int .i64 0] := by
    have := (((G5.set_ 3 (.int .i64 br)).set_ 4 (.int .i64 bb)).set_ 5 (.int .i64 tr)).set_ 6 (.int .i64 tb)
    simpa using this
  have RE : Blk ((((w5.setCell ⟨w3.heap.size, 3, none⟩ (.int .i64 br)).setCell ⟨w3.heap.size, 4, none⟩ (.int .i64 bb)).setCell ⟨w3.heap.size, 5, none⟩ (.int .i64 tr)).setCell ⟨w3.heap.size, 6, none⟩ (.int .i64 tb)) (w.heap.size + 1) 33 #[.int .i64 0, .int .i64 0, .int .i64 0, .int .i64 0, .int .i64 0, .int .i64 0, .int .i64 0, .int .i64 0, .int .i64 0, .int .i64 0, .string ⟨#[]⟩, .string ⟨#[]⟩, .int .i64 0, .slice none 0 0, .int .i64 0, .int .i64 0] := (((R5.far (p := ⟨w3.heap.size, 3, none⟩) n4 _).far (p := ⟨w3.heap.size, 4, none⟩) n4 _).far (p := ⟨w3.heap.size, 5, none⟩) n4 _).far (p := ⟨w3.heap.size, 6, none⟩) n4 _
  have BE : Blk ((((w5.setCell ⟨w3.heap.size, 3, none⟩ (.int .i64 br)).setCell ⟨w3.heap.size, 4, none⟩ (.int .i64 bb)).setCell ⟨w3.heap.size, 5, none⟩ (.int .i64 tr)).setCell ⟨w3.heap.size, 6, none⟩ (.int .i64 tb)) (w.heap.size + 1 + 1) 103 #[.slice A5 0 c5, .bool true] := (((B5.far (p := ⟨w3.heap.size, 3, none⟩) n3 _).far (p := ⟨w3.heap.size, 4, none⟩) n3 _).far (p := ⟨w3.heap.size, 5, none⟩) n3 _).far (p := ⟨w3.heap.size, 6, none⟩) n3 _
  clear B5 G5 R5 y5 hwz
  go_upto_region 5 with fail
  revert hE GE RE BE
  generalize World.setCell (World.setCell (World.setCell (World.setCell w5 _ _) _ _) _ _) _ _ = wE
  intro hE GE RE BE
  clear B5c G5c G5f n1 n2 n3 n4
  have GEl := rec_load GE
  have GEc := GE.cell
  have BEc := BE.cell
  go_wp2_with fail
  refine (Hck.out _ hE).mono ?_
  rintro e w6 ⟨rfl, hb6⟩
  have z6 := hb6.size
  (try simp at z6)
  have k6 := below_call hE hb6 hE.size
  have G6 := GE.keep hb6
  have R6 := RE.keep hb6
  have G6l := rec_load G6
  have R6s := rec_store R6 rfl i n 0 br bb tr tb 0 0 0 ⟨#[]⟩ ⟨#[]⟩ 0 none 0 0 0 0
  clear GEc BEc BE hE GE RE hb6 Hck
  go_wp2_with fail
  refine bodyPost_ret (results_rec (g := w.heap.size + 1) rfl rfl rfl (R6.recSet rfl)) rfl ?_
  exact ⟨rfl, below_recSet k6 (by omega) _⟩
end Go.Proofs.YtmgiholmhhjpaaaDoor
