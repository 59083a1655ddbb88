/- The document's example of disks: awake. -/
import Derived.Test.YtpdfbkkhmfnnjaaDkLS
import Derived.WalkKit
import Derived.WalkSpells
import Derived.WalkLawsBesides
import Derived.Deep.RegionHeld3
import Derived.Deep.DrawnRows
import Derived.Deep.DeepCutAuto
import Derived.Deep.DeepFit
import Derived.Lib.Hide
import Derived.BigQuiet
import Derived.Deep.QuietTactic
import Derived.Deep.RegionHeld3
import Derived.Lib.SliceRun
import Derived.Lib.SlBytesConst
import Derived.Lib.SlBytesRow
namespace Go.Proofs.Ytpdfbkkhmfnnjaa
open Go.RowKit
set_option linter.unusedVariables false
set_option linter.unusedSimpArgs false
set_option maxRecDepth 20000
attribute [local go_sem ↓] Go.wp_at_zero Go.wp_at_succ
attribute [local go_sem] World.cell?_alloc_some frozen_alloc_some
open Go.Maps

def aw0 : DkT := newD 9
def aw1 : DkT := ⟨[([97], [97, 98], 0)], 9, -1, false⟩
def aw2 : DkT := ⟨[([97], [97, 98], 2)], 9, -1, false⟩
def aw3 : DkT := ⟨[([97], [97, 98, 99, 100], 2)], 9, -1, false⟩
def aw4 : DkT := ⟨[([97], [97, 98, 99], 3)], 9, -1, false⟩
theorem aw_1 : deedD aw0 (fun l => appC 9 l [97] [97, 98]) = (0, aw1) := by rfl
theorem aw_2 : deedD aw1 (fun l => syncC l [97]) = (0, aw2) := by rfl
theorem aw_3 : deedD aw2 (fun l => appC 9 l [97] [99, 100]) = (0, aw3) := by rfl
theorem aw_4 : bootD aw3 [1] = aw4 := by rfl
theorem aw_5 : readD aw4 [97] = (some [97, 98, 99], 0) := by rfl
theorem bytes_made2 {w : World} {a b : Nat} (ha : a < 256) (hb : b < 256) : Bytes (w.alloc (.cells #[.int .u8 (a : Int), .int .u8 (b : Int)] 5 (2, 3))) (some ⟨w.heap.size, 0, none⟩) 2 [a, b] :=
  Bytes.of_block (l := [a, b]) (heap_alloc_new w _) (by simp; exact ⟨ha, hb⟩) (show 2 ≤ maxLen by decide)
theorem conv_abc {W : World} {base : Nat} {v : Value} (h : OwnB W base 5 v [97, 98, 99]) : ∃ g c, v = .slice (some ⟨g, 0, none⟩) 3 c ∧ (convert 60 9 (.slice (some ⟨g, 0, none⟩) 3 c)).run Try.prog W = .ok (.string ⟨#[97, 98, 99]⟩) W := by
  rcases h.1.2 with ⟨_, hl⟩ | ⟨g, cap, cur, e, _⟩
  · cases hl
  · refine ⟨g, cap, e, ?_⟩
    have hc := World.ownsRow.cells h.1 (g := g) (by rw [e]; rfl)
    have hb : Lib.Bytes W g 0 ⟨#[97, 98, 99]⟩ := fun i hi => by
      have hadd : (⟨g, 0, none⟩ : Addr).add i = ⟨g, 0 + i, none⟩ := by unfold Addr.add; split <;> simp_all
      have h3 : i < 3 := hi
      match i, h3 with
      | 0, _ => have := hc 0 (.int .u8 97) rfl; rw [hadd] at this; exact this
      | 1, _ => have := hc 1 (.int .u8 98) rfl; rw [hadd] at this; exact this
      | 2, _ => have := hc 2 (.int .u8 99) rfl; rw [hadd] at this; exact this
    exact Lib.run_convert_whole (P := Try.prog) W 60 5 9 Try.underlying60 Try.underlying5 Try.underlying9 g 0 ⟨#[97, 98, 99]⟩ hb cap
set_option maxHeartbeats 4000000 in
theorem awake12_any (w : World) : Calls Try.prog 25 #[] w (Gives w (.bool true)) := by
  have kc := fun (w : World) (C : Array Value) (n c : Nat) => Lib.run_convert_bytes_const (P := Try.prog) w 60 5 C n c Try.underlying60 Try.underlying5
  go_enter Try.func25, Try.ntmps25
  go_upto_region 2 with (go_at_call 26; (with_reducible refine (dknew_any 9 _ rfl (by decide)).mono ?_); rintro e w1 ⟨rfl, D1, hb1⟩)
  obtain ⟨F, L⟩ := LS.new D1 hb1
  clear D1 hb1
  have L1 := L.keep (below_one (.cells #[.int .u8 97, .int .u8 98] 5 (2, 3)))
  have a1 := L1.append [97] _ 2 2 [97, 98] (by unfold wfN maxLen; decide) (bytes_made2 (by decide) (by decide)) (L.made (Nat.le_refl _)) (by decide) aw_1
  clear L1
  go_upto_region 3 with (go_at_call 46; (with_reducible refine a1.mono ?_); rintro e w2 ⟨rfl, F2, L2, -, -⟩)
  clear L a1
  have a2 := L2.sync [97] (by unfold wfN maxLen; decide) aw_2
  go_upto_region 4 with (go_at_call 47; (with_reducible refine a2.mono ?_); rintro e w3 ⟨rfl, F3, L3, -, -⟩)
  clear L2 a2
  have L4 := L3.keep (below_one (.cells #[.int .u8 99, .int .u8 100] 5 (2, 3)))
  have a3 := L4.append [97] _ 2 2 [99, 100] (by unfold wfN maxLen; decide) (bytes_made2 (by decide) (by decide)) (L3.made (Nat.le_refl _)) (by decide) aw_3
  clear L4
  go_upto_region 5 with (go_at_call 46; (with_reducible refine a3.mono ?_); rintro e w5 ⟨rfl, F5, L5, -, -⟩)
  clear L3 a3
  have L6 := L5.keep (below_one (.cells #[.int .i64 1] 3))
  have a4 := L6.boot _ 1 1 [1] (keeps_made 1 rfl) (Nat.le_refl _) (L5.made (Nat.le_refl _)) aw_4
  clear L6
  go_upto_region 6 with (go_at_call 48; (with_reducible refine a4.mono ?_); rintro e w6 ⟨rfl, F6, L6, -, -⟩)
  clear L5 a4
  have a5 := L6.read [97] (by unfold wfN maxLen; decide) aw_5
  go_upto_region 7 with (go_at_call 49; (with_reducible refine a5.mono ?_); rintro e w7 ⟨v, rfl, hown, hb7⟩)
  have hb := below_call L6.hb hb7 L6.hb.size
  obtain ⟨gv, cv, rfl, hcv⟩ := conv_abc hown
  clear L6 a5 hown hb7
  go_wp2_with fail
  go_ret
  exact ⟨rfl, hb⟩
end Go.Proofs.Ytpdfbkkhmfnnjaa
