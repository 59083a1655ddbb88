/- The walk of the law DiskMoves. -/
import Derived.Test.YtpdlhcfepafjeaaDkCutsW
import Derived.WalkKit
import Derived.WalkSpells
import Derived.WalkLawsBesides
import Derived.Deep.RegionHeld3
import Derived.Deep.DrawnRows
import Derived.Deep.DeepCutAuto
import Derived.Deep.DeepFit
import Derived.Lib.Hide
import Derived.BigQuiet
import Derived.Deep.QuietTactic
import Derived.Deep.RegionHeld3
namespace Go.Proofs.Ytpdlhcfepafjeaa
open Go.RowKit
set_option linter.unusedVariables false
set_option linter.unusedSimpArgs false
set_option maxRecDepth 20000
attribute [local go_sem ↓] Go.wp_at_zero Go.wp_at_succ
attribute [local go_sem] World.cell?_alloc_some frozen_alloc_some
open Go.Maps

abbrev nOld : NmT := [111, 108, 100]
abbrev nNew : NmT := [110, 101, 119]
theorem mv_2 {a b : List Nat} (h : a.length + b.length ≤ 1000) : deedD (one nOld a 0) (fun l => appC (one nOld a 0).room l nNew b) = (0, ⟨[(nNew, b, 0), (nOld, a, 0)], 1000, -1, false⟩) :=
  one_deed nOld a 0 _ (by
    have h1 : ¬ ((1000 : Int) - (totD [(nOld, a, 0)] : Nat) < (b.length : Int)) := by simp [totD]; omega
    show appC 1000 _ nNew b = _
    unfold appC
    rw [if_neg (by decide), if_neg h1]
    rfl)
theorem mv_3 (a b : List Nat) : deedD ⟨[(nNew, b, 0), (nOld, a, 0)], 1000, -1, false⟩ (fun l => moveC l nNew nOld) = (0, one nOld b b.length) := by rfl
theorem mv_4 (b : List Nat) : readD (one nOld b b.length) nNew = (none, 8) := by rfl
theorem wf_old : wfN nOld := by unfold wfN maxLen; decide
theorem wf_new : wfN nNew := by unfold wfN maxLen; decide
set_option maxHeartbeats 8000000 in
theorem moves_walk (A B : Option Addr) (m c mb cb : Nat) (a b : List Nat) (keep : Int) (w : World) (ha : Bytes w A m a) (hb : Bytes w B mb b) (hk : (Lit.int .i64 keep).wf = true) :
    Calls Try.prog 9 #[.slice A m c, .slice B mb cb, .int .i64 keep] w (Gives w (.bool true)) := by
  have haw := fun W => awake12_any W
  obtain rfl : m = a.length := ha.1
  obtain rfl : mb = b.length := hb.1
  by_cases h1 : 100 < a.length
  · have h1' : (100 : Int) < (a.length : Int) := by omega
    clear ha hb
    go_enter Try.func9, Try.ntmps9
    go_wp2_with (go_at_call 29; (with_reducible refine (haw _).mono ?_); rintro e w1 ⟨rfl, hb1⟩)
    go_ret
    exact ⟨rfl, hb1⟩
  have h1' : ¬ (100 : Int) < (a.length : Int) := by omega
  by_cases h2 : 100 < b.length
  · have h2' : (100 : Int) < (b.length : Int) := by omega
    clear ha hb
    go_enter Try.func9, Try.ntmps9
    go_wp2_with (go_at_call 29; (with_reducible refine (haw _).mono ?_); rintro e w1 ⟨rfl, hb1⟩)
    go_ret
    exact ⟨rfl, hb1⟩
  have h2' : ¬ (100 : Int) < (b.length : Int) := by omega
  have HA := Lib.hid ha
  have HB := Lib.hid hb
  clear ha hb
  go_enter Try.func9, Try.ntmps9
  go_upto_region 4 with (go_at_call 30; (with_reducible refine (dknew_any 1000 _ rfl (by decide)).mono ?_); rintro e w1 ⟨rfl, D1, hb1⟩)
  obtain ⟨F, L⟩ := LS.new D1 hb1
  clear D1 hb1
  have p1 := L.append nOld A a.length c a wf_old (HA.out.keep L.hb) (L.arg HA.out) (by omega) (one_new (by decide) (by omega))
  have p2 := fun (F3 : Nat → Prop) (W : World) (L3 : LS w W F3 (w.heap.size + 1) w.heap.size (one nOld a 0)) => L3.append nNew B b.length cb b wf_new (HB.out.keep L3.hb) (L3.arg HB.out) (by omega) (mv_2 (by omega))
  have p3 := fun (F3 : Nat → Prop) (W : World) (L3 : LS w W F3 (w.heap.size + 1) w.heap.size ⟨[(nNew, b, 0), (nOld, a, 0)], 1000, -1, false⟩) => L3.move nNew nOld wf_new wf_old (mv_3 a b)
  go_upto_region 6 with (first
    | (go_at_call 31; (with_reducible refine p1.mono ?_); rintro e w2 ⟨rfl, F2, L2, -, -⟩; clear L p1)
    | (go_at_call 31; (with_reducible refine (p2 _ _ L2).mono ?_); rintro e w4 ⟨rfl, F4, L4, -, -⟩; clear L2)
    | (go_at_call 40; (with_reducible refine (p3 _ _ L4).mono ?_); rintro e w9 ⟨rfl, F9, L9, -, -⟩; clear L4))
  clear p2 p3
  have L10 := L9.keep (below_one (.cells #[.int .i64 keep] 3))
  have p5 := L10.boot _ 1 1 [keep] (keeps_made keep hk) (Nat.le_refl _) (L9.made (Nat.le_refl _)) (one_boot [keep])
  clear L10
  go_upto_region 7 with (go_at_call 34; (with_reducible refine p5.mono ?_); rintro e w11 ⟨rfl, F11, L11, -, -⟩)
  have p6 := L11.read nOld wf_old (one_read nOld b b.length)
  have hu := fun (W : World) (L9 : LS w W F11 (w.heap.size + 1) w.heap.size (one nOld b b.length)) => dkused_any F11 _ _ _ W L9.D
  rw [one_used] at hu
  clear p5 L9
  go_upto_region 8 with (go_at_call 35; (with_reducible refine p6.mono ?_); rintro e w12 ⟨v, rfl, hown, hb12⟩)
  simp only [Option.getD_some] at hown
  obtain ⟨A12, c12, hv12, _, _⟩ := hown.form
  subst hv12
  have L12 := L11.keep hb12
  have p7 := L12.read nNew wf_new (mv_4 b)
  clear p6 L11
  go_upto_region 9 with (go_at_call 35; (with_reducible refine p7.mono ?_); rintro e w13 ⟨v, rfl, hown13, hb13⟩)
  have hsm := same_any A12 B b.length b.length c12 cb b b w13 (hown.bytes.2.2.keep hb13) (HB.out.keep (L12.keep hb13).hb)
  rw [decide_eq_true rfl] at hsm
  replace L12 := L12.keep hb13
  clear p7 hown hb12 hown13 hb13
  go_wp2_with (first
        | (go_at_call 37; (with_reducible refine hsm.mono ?_); rintro e w13 ⟨rfl, hb13⟩; replace L12 := L12.keep hb13)
        | (go_at_call 39; (with_reducible refine (hu _ L12).mono ?_); rintro e w14 ⟨rfl, hb14⟩; have hb := below_call L12.hb hb14 L12.hb.size; clear L12 hu)
        | (go_at_call 29; (with_reducible refine (haw _).mono ?_); rintro e w15 ⟨rfl, hb15⟩; replace hb := below_call hb hb15 hb.size))
  go_ret
  exact ⟨rfl, hb⟩
end Go.Proofs.Ytpdlhcfepafjeaa
