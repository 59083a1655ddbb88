/- The walk of stonecroplaw09.awake. -/
import Derived.Test.YtmgiholmhhjpaaaDoorRecItem0
import Derived.Test.YtmgiholmhhjpaaaDoorRecGo
import Derived.Test.YtmgiholmhhjpaaaDoorRecLS
import Derived.WalkKit
import Derived.WalkSpells
import Derived.WalkLawsBesides
import Derived.Deep.RegionHeld3
import Derived.Deep.DrawnRows
import Derived.Deep.DeepCutAuto
import Derived.Deep.DeepFit
import Derived.Lib.Hide
import Derived.BigQuiet
import Derived.Deep.QuietTactic
namespace Go.Proofs.YtmgiholmhhjpaaaDoor
open Go.RowKit
set_option linter.unusedVariables false
set_option linter.unusedSimpArgs false
set_option maxRecDepth 20000
attribute [local go_sem ↓] Go.wp_at_zero Go.wp_at_succ
attribute [local go_sem] World.cell?_alloc_some frozen_alloc_some
attribute [local go_sem] lt2 lt3 lt4 lt5
attribute [local simp] lt2 lt3 lt4 lt5

def aw9 : RecT := rec0 2 1 3 1 0 0
theorem aw9_ok : recOk aw9 = true := by kernel_rfl
def bad9 : RecT := ⟨0, 0, 9, 0, 0, 0, 0, 0, 0, 0, ⟨#[]⟩, ⟨#[]⟩, 0, none, 0, 0, 0, 0, []⟩
theorem bad9_no : recOk bad9 = false := by kernel_rfl
theorem wf0 (x : Int) (h0 : 0 ≤ x) (h1 : x ≤ 1000) : (Lit.int .i64 x).wf = true := by simp [Lit.wf, IntKind.min, IntKind.max, IntKind.bits, IntKind.signed]; omega
attribute [local go_sem ↓ high] loadVar_rec storeVar_rec
attribute [local go_sem] rec_store_new
set_option maxHeartbeats 8000000 in
theorem awake09 (w : World) (hT : Tabs w) : Calls Tryd.prog 17 #[] w (Gives w (.bool true)) := by
  have hit := fun W => recitem0_any 2 1 3 1 0 0 W
  have htk := fun W (hb : Below w.heap.size w W) S v hv => rectake0_any 2 1 3 1 0 0 (by omega) (by omega) (by omega) (by omega) (by decide) (by decide) aw9_ok W (hT.keep hb) S v hv
  have hck : ∀ W, Below w.heap.size w W → Calls Tryd.prog 10 #[aw9.v] W (Gives W (.int .i64 0)) := fun W hb => by
    have := reccheck_any aw9 W ⟨wf0 2 (by omega) (by omega), wf0 1 (by omega) (by omega), wf0 0 (by omega) (by omega), wf0 3 (by omega) (by omega), wf0 1 (by omega) (by omega), wf0 0 (by omega) (by omega), wf0 0 (by omega) (by omega), wf0 0 (by omega) (by omega), wf0 0 (by omega) (by omega), wf0 0 (by omega) (by omega), (by show (0 : Nat) ≤ maxLen; decide), (by show (0 : Nat) ≤ maxLen; decide), wf0 0 (by omega) (by omega), Nat.le_refl _, Nat.zero_le _, IdsAt.nil, wf0 0 (by omega) (by omega), wf0 0 (by omega) (by omega)⟩ (hT.keep hb)
    rw [aw9_ok] at this; exact this
  have hbd : ∀ W, Below w.heap.size w W → Calls Tryd.prog 10 #[bad9.v] W (Gives W (.int .i64 4)) := fun W hb => by
    have := reccheck_any bad9 W ⟨wf0 0 (by omega) (by omega), wf0 0 (by omega) (by omega), wf0 9 (by omega) (by omega), wf0 0 (by omega) (by omega), wf0 0 (by omega) (by omega), wf0 0 (by omega) (by omega), wf0 0 (by omega) (by omega), wf0 0 (by omega) (by omega), wf0 0 (by omega) (by omega), wf0 0 (by omega) (by omega), (by show (0 : Nat) ≤ maxLen; decide), (by show (0 : Nat) ≤ maxLen; decide), wf0 0 (by omega) (by omega), Nat.le_refl _, Nat.zero_le _, IdsAt.nil, wf0 0 (by omega) (by omega), wf0 0 (by omega) (by omega)⟩ (hT.keep hb)
    rw [bad9_no] at this; exact this
  have hsm : ∀ W, Calls Tryd.prog 19 #[aw9.v, aw9.v] W (Gives W (.bool true)) := fun W => by
    have := recsame_any aw9 aw9 W IdsAt.nil IdsAt.nil
    rw [(recsame_iff.2 ⟨⟨rfl, rfl⟩, rfl, ⟨rfl, rfl⟩, ⟨rfl, rfl⟩, ⟨rfl, rfl, rfl, rfl, rfl, rfl⟩, rfl⟩ : recsame aw9 aw9 = true)] at this; exact this
  clear hT
  unfold aw9 bad9 rec0 RecT.v listV at *
  have Hit := Lib.hid hit
  have Htk := Lib.hid htk
  have Hck := Lib.hid hck
  have Hbd := Lib.hid hbd
  have Hsm := Lib.hid hsm
  clear hit htk hck hbd hsm
  have B0 : Blk (w.alloc (.cells #[.int .i64 2, .int .i64 1, .int .i64 0, .int .i64 3, .int .i64 1, .int .i64 0, .int .i64 0, .int .i64 0, .int .i64 0, .int .i64 0, .string ⟨#[]⟩, .string ⟨#[]⟩, .int .i64 0, .slice none 0 0, .int .i64 0, .int .i64 0] 33)) w.heap.size 33 #[.int .i64 2, .int .i64 1, .int .i64 0, .int .i64 3, .int .i64 1, .int .i64 0, .int .i64 0, .int .i64 0, .int .i64 0, .int .i64 0, .string ⟨#[]⟩, .string ⟨#[]⟩, .int .i64 0, .slice none 0 0, .int .i64 0, .int .i64 0] := Blk.new _ _ _
  have B0l := rec_load B0
  go_enter Tryd.func17, Tryd.ntmps17
  go_wp2_with fail
  refine (Hit.out _).mono ?_
  rintro e w1 ⟨A1, c1, rfl, hin, hb1⟩
  have B1 := B0.keep hb1
  have k1 : Below w.heap.size w w1 := by ((repeat' first | with_reducible exact Below.refl _ _ | with_reducible assumption | with_reducible refine Below.alloc ?_ ?_ _ | with_reducible refine Below.setCell ?_ ?_ _ | with_reducible apply Below.drew | with_reducible apply below_drewN | with_reducible refine below_call ?_ (by with_reducible assumption) ?_) <;> (first | omega | (simp; done) | (simp; omega) | (simp at *; omega)))
  have z1 := hb1.size
  simp at z1
  clear B0 B0l hb1
  go_wp2_with fail
  refine (Htk.out _ k1 _ _ hin).mono ?_
  rintro e w2 ⟨rfl, hb2⟩
  have B2 := B1.keep hb2
  have k2 := below_call k1 hb2 k1.size
  have z2 := hb2.size
  have nb : w2.heap.size ≠ w.heap.size := by omega
  have nb' : w.heap.size ≠ w2.heap.size := by omega
  have C0 : Blk (w2.alloc (.cells #[.int .i64 2, .int .i64 1, .int .i64 0, .int .i64 3, .int .i64 1, .int .i64 0, .int .i64 0, .int .i64 0, .int .i64 0, .int .i64 0, .string ⟨#[]⟩, .string ⟨#[]⟩, .int .i64 0, .slice none 0 0, .int .i64 0, .int .i64 0] 33)) w2.heap.size 33 #[.int .i64 2, .int .i64 1, .int .i64 0, .int .i64 3, .int .i64 1, .int .i64 0, .int .i64 0, .int .i64 0, .int .i64 0, .int .i64 0, .string ⟨#[]⟩, .string ⟨#[]⟩, .int .i64 0, .slice none 0 0, .int .i64 0, .int .i64 0] := Blk.new _ _ _
  have B3 := B2.alloc (.cells #[.int .i64 2, .int .i64 1, .int .i64 0, .int .i64 3, .int .i64 1, .int .i64 0, .int .i64 0, .int .i64 0, .int .i64 0, .int .i64 0, .string ⟨#[]⟩, .string ⟨#[]⟩, .int .i64 0, .slice none 0 0, .int .i64 0, .int .i64 0] 33)
  have k3 : Below w.heap.size w (w2.alloc (.cells #[.int .i64 2, .int .i64 1, .int .i64 0, .int .i64 3, .int .i64 1, .int .i64 0, .int .i64 0, .int .i64 0, .int .i64 0, .int .i64 0, .string ⟨#[]⟩, .string ⟨#[]⟩, .int .i64 0, .slice none 0 0, .int .i64 0, .int .i64 0] 33)) := by ((repeat' first | with_reducible exact Below.refl _ _ | with_reducible assumption | with_reducible refine Below.alloc ?_ ?_ _ | with_reducible refine Below.setCell ?_ ?_ _ | with_reducible apply Below.drew | with_reducible apply below_drewN | with_reducible refine below_call ?_ (by with_reducible assumption) ?_) <;> (first | omega | (simp; done) | (simp; omega) | (simp at *; omega)))
  have B3l := rec_load B3
  clear hin B1 hb2
  go_wp2_with fail
  refine (Hck.out _ k3).mono ?_
  rintro e w4 ⟨rfl, hb4⟩
  have B4 := B3.keep hb4
  have C4 := C0.keep hb4
  have k4 := below_call k3 hb4 k3.size
  have B4l := rec_load B4
  have C4l := rec_load C4
  clear B3l B3 C0 hb4
  go_wp2_with fail
  refine (Hsm.out _).mono ?_
  rintro e w5 ⟨rfl, hb5⟩
  have k5 := below_call k4 hb5 k4.size
  clear B4l C4l B4 C4 hb5
  go_wp2_with fail
  refine (Hbd.out _ k5).mono ?_
  rintro e w6 ⟨rfl, hb6⟩
  have k6 := below_call k5 hb6 k5.size
  clear hb6
  go_wp2_with fail
  go_ret
  exact ⟨rfl, k6⟩
end Go.Proofs.YtmgiholmhhjpaaaDoor
