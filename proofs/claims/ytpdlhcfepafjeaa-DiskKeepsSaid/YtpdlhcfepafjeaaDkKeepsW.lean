/- The walk of the law DiskKeeps. -/
import Derived.Test.YtpdlhcfepafjeaaDkMovesW
import Derived.WalkKit
import Derived.WalkSpells
import Derived.WalkLawsBesides
import Derived.Deep.RegionHeld3
import Derived.Deep.DrawnRows
import Derived.Deep.DeepCutAuto
import Derived.Deep.DeepFit
import Derived.Lib.Hide
import Derived.BigQuiet
import Derived.Deep.QuietTactic
import Derived.Deep.RegionHeld3
namespace Go.Proofs.Ytpdlhcfepafjeaa
open Go.RowKit
set_option linter.unusedVariables false
set_option linter.unusedSimpArgs false
set_option maxRecDepth 20000
attribute [local go_sem ↓] Go.wp_at_zero Go.wp_at_succ
attribute [local go_sem] World.cell?_alloc_some frozen_alloc_some
open Go.Maps

abbrev nX : NmT := [120]
abbrev nY : NmT := [121]
def keepsD (a b : List Nat) (f : Nat) (keep : Int) : DkT :=
  bootD (deedD (deedD (deedD (fuseD (one nX a a.length) (f : Int)) (fun l => appC 1000 l nX b)).2 (fun l => appC 1000 l nY b)).2 (fun l => syncC l nY)).2 [keep, keep]
theorem keeps_boot (a b : List Nat) (keep : Int) : ∃ k, a.length ≤ k ∧ k ≤ a.length + b.length ∧ ∀ ks, bootF (nX, a ++ b, a.length) (keep :: ks) = ((nX, (a ++ b).take k, k), if 0 < b.length then ks else keep :: ks) := by
  by_cases hb : 0 < b.length
  · refine ⟨a.length + (min (max keep 0) ((b.length : Nat) : Int)).toNat, by omega, by omega, fun ks => ?_⟩
    unfold bootF
    simp only [List.length_append]
    rw [if_pos (by omega), if_pos hb]
    simp
  · have hb0 : b = [] := List.eq_nil_of_length_eq_zero (by omega)
    subst hb0
    refine ⟨a.length, by omega, by simp, fun ks => ?_⟩
    unfold bootF
    simp
theorem keeps_one {s : NmT} {x : List Nat} {k : Nat} (r : List DF) (rm : Int) (fu : Int) : readD ⟨(s, x, k) :: r, rm, fu, false⟩ s = (some x, 0) := by
  unfold readD
  rw [if_neg (by simp)]
  simp [findBy]
theorem keeps_plain (a b : List Nat) (f : Nat) (keep : Int) (hf : f < 3) (ha : a.length ≤ 100) (hb : b.length ≤ 100) :
    ∃ k, a.length ≤ k ∧ k ≤ a.length + b.length ∧ readD (keepsD a b f keep) nX = (some ((a ++ b).take k), 0) ∧ (keepsD a b f keep).down = false := by
  have ea : (a ++ b).take a.length = a := List.take_left
  have h1 : appC 1000 [(nX, a, a.length)] nX b = (0, [(nX, a ++ b, a.length)]) := by
    have h1 : ¬ ((1000 : Int) - (totD [(nX, a, a.length)] : Nat) < (b.length : Int)) := by simp [totD]; omega
    unfold appC
    rw [if_neg (by decide), if_neg h1, one_find]
    simp only [one_upd]
  have h2 : appC 1000 [(nX, a ++ b, a.length)] nY b = (0, [(nX, a ++ b, a.length), (nY, b, 0)]) := by
    have h1 : ¬ ((1000 : Int) - (totD [(nX, a ++ b, a.length)] : Nat) < (b.length : Int)) := by simp [totD]; omega
    unfold appC
    rw [if_neg (by decide), if_neg h1]
    rfl
  obtain ⟨k, k1, k2, k3⟩ := keeps_boot a b keep
  match f, hf with
  | 0, _ =>
    refine ⟨a.length, Nat.le_refl _, by omega, ?_, rfl⟩
    rw [ea]
    have e : keepsD a b 0 keep = ⟨[(bootF (nX, a, a.length) [keep, keep]).1], 1000, -1, false⟩ := rfl
    rw [e]
    have hb : (bootF (nX, a, a.length) [keep, keep]).1 = (nX, a, a.length) := by unfold bootF; simp
    rw [hb]
    exact keeps_one [] _ _
  | 1, _ =>
    refine ⟨k, k1, k2, ?_, rfl⟩
    have e : keepsD a b 1 keep = bootD (deedD (deedD ⟨(appC 1000 [(nX, a, a.length)] nX b).2, 1000, 0, false⟩ (fun l => appC 1000 l nY b)).2 (fun l => syncC l nY)).2 [keep, keep] := rfl
    rw [e, h1]
    have e2 : bootD (deedD (deedD ⟨((0 : Int), [((nX, a ++ b, a.length) : DF)]).2, 1000, 0, false⟩ (fun l => appC 1000 l nY b)).2 (fun l => syncC l nY)).2 [keep, keep] = ⟨[(bootF (nX, a ++ b, a.length) [keep, keep]).1], 1000, -1, false⟩ := rfl
    rw [e2, k3]
    exact keeps_one [] _ _
  | 2, _ =>
    refine ⟨k, k1, k2, ?_, rfl⟩
    have e : keepsD a b 2 keep = bootD (deedD (deedD ⟨(appC 1000 [(nX, a, a.length)] nX b).2, 1000, 1, false⟩ (fun l => appC 1000 l nY b)).2 (fun l => syncC l nY)).2 [keep, keep] := rfl
    rw [e, h1]
    have e2 : bootD (deedD (deedD ⟨((0 : Int), [((nX, a ++ b, a.length) : DF)]).2, 1000, 1, false⟩ (fun l => appC 1000 l nY b)).2 (fun l => syncC l nY)).2 [keep, keep] = bootD (deedD ⟨(appC 1000 [(nX, a ++ b, a.length)] nY b).2, 1000, 0, false⟩ (fun l => syncC l nY)).2 [keep, keep] := rfl
    rw [e2, h2]
    have e3 : bootD (deedD ⟨((0 : Int), [((nX, a ++ b, a.length) : DF), (nY, b, 0)]).2, 1000, 0, false⟩ (fun l => syncC l nY)).2 [keep, keep] = ⟨(bootF (nX, a ++ b, a.length) [keep, keep]).1 :: [(bootF (nY, b, 0) (bootF (nX, a ++ b, a.length) [keep, keep]).2).1], 1000, -1, false⟩ := rfl
    rw [e3, k3]
    exact keeps_one _ _ _
theorem deedD_room (d : DkT) (act : List DF → Int × List DF) : (deedD d act).2.room = d.room := by
  unfold deedD
  split <;> rfl
set_option maxHeartbeats 8000000 in
theorem keeps_walk (A B : Option Addr) (m c mb cb : Nat) (a b : List Nat) (keep s : Int) (w : World) (ha : Bytes w A m a) (hb : Bytes w B mb b) (hcb : mb ≤ cb) (hk : (Lit.int .i64 keep).wf = true) (hs : (Lit.int .u8 s).wf = true) :
    Calls Try.prog 7 #[.slice A m c, .slice B mb cb, .int .i64 keep, .int .u8 s] w (Gives w (.bool true)) := by
  have haw := fun W => awake12_any W
  obtain rfl : m = a.length := ha.1
  obtain rfl : mb = b.length := hb.1
  by_cases h1 : 100 < a.length
  · have h1' : (100 : Int) < (a.length : Int) := by omega
    clear ha hb
    go_enter Try.func7, Try.ntmps7
    go_wp2_with (go_at_call 29; (with_reducible refine (haw _).mono ?_); rintro e w1 ⟨rfl, hb1⟩)
    go_ret
    exact ⟨rfl, hb1⟩
  have h1' : ¬ (100 : Int) < (a.length : Int) := by omega
  by_cases h2 : 100 < b.length
  · have h2' : (100 : Int) < (b.length : Int) := by omega
    clear ha hb
    go_enter Try.func7, Try.ntmps7
    go_wp2_with (go_at_call 29; (with_reducible refine (haw _).mono ?_); rintro e w1 ⟨rfl, hb1⟩)
    go_ret
    exact ⟨rfl, hb1⟩
  have h2' : ¬ (100 : Int) < (b.length : Int) := by omega
  obtain ⟨s0, s1⟩ := wf_u8 hs
  obtain ⟨sn, rfl⟩ : ∃ sn : Nat, s = (sn : Int) := ⟨s.toNat, by omega⟩
  have hs3 : ((sn : Int)).tmod 3 = ((sn % 3 : Nat) : Int) := by rw [Int.tmod_eq_emod_of_nonneg (by omega)]; omega
  obtain ⟨f, hf⟩ : ∃ f : Nat, f = sn % 3 := ⟨_, rfl⟩
  rw [← hf] at hs3
  have hf3 : f < 3 := by omega
  have hwf : (Lit.int .i64 (f : Int)).wf = true := by simp [Lit.wf, IntKind.min, IntKind.max, IntKind.signed, IntKind.bits]; omega
  clear hf
  obtain ⟨k, k1, k2, hrd, hdn⟩ := keeps_plain a b f keep hf3 (by omega) (by omega)
  unfold keepsD at hrd hdn
  obtain ⟨c4, d4, h4⟩ : ∃ c d, deedD (fuseD (one nX a a.length) (f : Int)) (fun l => appC 1000 l nX b) = (c, d) := ⟨_, _, rfl⟩
  have r4 : d4.room = 1000 := by have := deedD_room (fuseD (one nX a a.length) (f : Int)) (fun l => appC 1000 l nX b); rw [h4] at this; exact this
  rw [h4] at hrd hdn
  obtain ⟨c5, d5, h5⟩ : ∃ c d, deedD d4 (fun l => appC 1000 l nY b) = (c, d) := ⟨_, _, rfl⟩
  rw [h5] at hrd hdn
  obtain ⟨c6, d6, h6⟩ : ∃ c d, deedD d5 (fun l => syncC l nY) = (c, d) := ⟨_, _, rfl⟩
  rw [h6] at hrd hdn
  obtain ⟨d7, h7⟩ : ∃ d, bootD d6 [keep, keep] = d := ⟨_, rfl⟩
  rw [h7] at hrd hdn
  have H4 := Lib.hid h4
  have H5 := Lib.hid (show deedD d4 (fun l => appC d4.room l nY b) = (c5, d5) by rw [r4]; exact h5)
  have H6 := Lib.hid h6
  have H7 := Lib.hid h7
  have HR := Lib.hid hrd
  have HD := Lib.hid hdn
  have HA := Lib.hid ha
  have HB := Lib.hid hb
  clear ha hb h4 h5 h6 h7 hrd hdn r4
  go_enter Try.func7, Try.ntmps7
  go_upto_region 4 with (go_at_call 30; (with_reducible refine (dknew_any 1000 _ rfl (by decide)).mono ?_); rintro e w1 ⟨rfl, D1, hb1⟩)
  obtain ⟨F, L⟩ := LS.new D1 hb1
  clear D1 hb1
  have p1 := L.append nX A a.length c a wf_x (HA.out.keep L.hb) (L.arg HA.out) (by omega) (one_new nm_x (by omega))
  have p2 := fun (F2 : Nat → Prop) (W : World) (L2 : LS w W F2 (w.heap.size + 1) w.heap.size (one nX a 0)) => L2.sync nX wf_x (one_sync nX a 0)
  go_upto_region 6 with (first
    | (go_at_call 31; (with_reducible refine p1.mono ?_); rintro e w2 ⟨rfl, F2, L2, -, -⟩; clear L p1)
    | (go_at_call 32; (with_reducible refine (p2 _ _ L2).mono ?_); rintro e w3 ⟨rfl, F3, L3, -, -⟩; clear L2))
  clear p2
  have p3 := L3.fuse (f : Int) hwf
  go_upto_region 7 with (go_at_call 33; (with_reducible refine p3.mono ?_); rintro e w4 ⟨rfl, F4, L4, -, -⟩; clear L3)
  have p4 := L4.append nX B b.length cb b wf_x (HB.out.keep L4.hb) (L4.arg HB.out) (by omega) H4.out
  clear p3
  go_upto_region 8 with (go_at_call 31; (with_reducible refine p4.mono ?_); rintro e w5 ⟨rfl, F5, L5, -, -⟩; clear L4)
  have p5 := L5.append nY B b.length cb b (by unfold wfN maxLen; decide) (HB.out.keep L5.hb) (L5.arg HB.out) (by omega) H5.out
  clear p4
  go_upto_region 9 with (go_at_call 31; (with_reducible refine p5.mono ?_); rintro e w6 ⟨rfl, F6, L6, -, -⟩; clear L5)
  have p6 := L6.sync nY (by unfold wfN maxLen; decide) H6.out
  clear p5
  go_upto_region 10 with (go_at_call 32; (with_reducible refine p6.mono ?_); rintro e w7 ⟨rfl, F7, L7, -, -⟩; clear L6)
  have L8 := L7.keep (below_one (.cells #[.int .i64 keep, .int .i64 keep] 3))
  have p7 := L8.boot _ 2 2 [keep, keep] (keeps_made2 keep keep hk hk) (Nat.le_refl _) (L7.made (Nat.le_refl _)) H7.out
  clear p6 L8
  go_upto_region 11 with (go_at_call 34; (with_reducible refine p7.mono ?_); rintro e w9 ⟨rfl, F9, L9, -, -⟩; clear L7)
  have p8 := L9.read nX wf_x HR.out
  clear p7
  go_upto_region 12 with (go_at_call 35; (with_reducible refine p8.mono ?_); rintro e w12 ⟨v, rfl, hown, hb12⟩)
  simp only [Option.getD_some] at hown
  have hxl : ((a ++ b).take k).length = k := by rw [List.length_take, List.length_append]; omega
  obtain ⟨A12, c12, hv12, hc12, _⟩ := hown.form
  subst hv12
  rw [hxl] at hc12
  have hby := hown.bytes.2.2
  rw [hxl] at hby ⊢
  have L12 := L9.keep hb12
  have hdown := fun W (h : LS w W F9 (w.heap.size + 1) w.heap.size d7) => dkdown_any F9 _ _ _ W h.D
  rw [HD.out] at hdown
  have q1 : ¬ (k : Int) < (a.length : Int) := by omega
  have q2 : ¬ ((a.length : Int) + (b.length : Int)) < (k : Int) := by omega
  clear p8 hb12 hown L9
  go_upto_region 14 with (go_at_call 36; (with_reducible refine (hdown _ L12).mono ?_); rintro e w13 ⟨rfl, hb13⟩; replace L12 := L12.keep hb13; replace hby := hby.keep hb13)
  obtain ⟨kd, hkd⟩ : ∃ kd, k = a.length + kd := ⟨k - a.length, by omega⟩
  have hw : IntKind.i64.wrap ((k : Int) - (a.length : Int)) = (kd : Int) := by rw [wrap_in (by omega) (by omega)]; omega
  have e1 : ((a ++ b).take k).take a.length = a := by rw [List.take_take, Nat.min_eq_left k1]; exact List.take_left
  have e2 : ((a ++ b).take k).drop a.length = b.take kd := by rw [hkd, List.drop_take, List.drop_left]; congr 1; omega
  have g1 := hby.cutTo k1
  have g2 := hby.cutFrom (cap := c12) k1 hc12
  rw [e1] at g1
  rw [e2] at g2
  obtain ⟨A2, hA2⟩ : ∃ A2, (if c12 = a.length then A12 else A12.map (·.add a.length)) = A2 := ⟨_, rfl⟩
  rw [hA2] at g2
  have hkb : kd ≤ b.length := by omega
  have g3 := (HB.out.keep L12.hb).cutTo hkb
  have s1' := fun W (h : Below w13.heap.size w13 W) => same_any A12 A a.length a.length c12 c a a W (Bytes.keep g1 h) ((HA.out.keep L12.hb).keep h)
  have s2' := fun W (h : Below w13.heap.size w13 W) => same_any A2 B (k - a.length) kd (c12 - a.length) cb _ _ W (Bytes.keep g2 h) (Bytes.keep g3 h)
  simp only [decide_true] at s1' s2'
  have b1 : (a.length : Int) ≤ (k : Int) := by omega
  have b2 : kd ≤ cb := by omega
  have b3 : a.length ≤ c12 := by omega
  have b4 : a.length ≤ k := by omega
  clear e1 e2 g1 g2 g3 hkd hby hdown q1 q2 k1 hs3 hxl
  have hb0 := L12.hb
  clear L12
  have kk : Below w13.heap.size w13 w13.drew := (Below.refl _ _).drew
  have hbd := below_call hb0 kk hb0.size
  (refine wp_region_held_drew (S := (fun _ => True)) (by kernel_rfl) ?_ (fun hHeld => ?_); (· trivial))
  (refine take_op (i := 0) (v := ?_) rfl (by kernel_rfl) (by kernel_rfl) (by kernel_rfl) (fun _ _ _ h => h) (by rfl) ?_ hHeld ?_; rotate_left; (· (intro wS hSw; (try dsimp only at hSw); go_simp; first | done | with_reducible rfl)); simp only [Act.put, List.setIfInBounds_toArray, List.set_cons_zero, List.set_cons_succ]); (refine take_op (i := 1) (v := ?_) rfl (by kernel_rfl) (by kernel_rfl) (by kernel_rfl) (fun _ _ _ h => h) (by rfl) ?_ hHeld ?_; rotate_left; (· (intro wS hSw; (try dsimp only at hSw); go_simp; first | done | with_reducible rfl)); simp only [Act.put, List.setIfInBounds_toArray, List.set_cons_zero, List.set_cons_succ]); (refine take_op (i := 2) (v := ?_) rfl (by kernel_rfl) (by kernel_rfl) (by kernel_rfl) (fun _ _ _ h => h) (by rfl) ?_ hHeld ?_; rotate_left; (· (intro wS hSw; (try dsimp only at hSw); go_simp; first | done | with_reducible rfl)); simp only [Act.put, List.setIfInBounds_toArray, List.set_cons_zero, List.set_cons_succ]); (refine take_op (i := 3) (v := ?_) rfl (by kernel_rfl) (by kernel_rfl) (by kernel_rfl) (fun _ _ _ h => h) (by rfl) ?_ hHeld ?_; rotate_left; (· (intro wS hSw; (try dsimp only at hSw); go_simp; first | done | with_reducible rfl)); simp only [Act.put, List.setIfInBounds_toArray, List.set_cons_zero, List.set_cons_succ]); (refine take_op (i := 4) (v := ?_) rfl (by kernel_rfl) (by kernel_rfl) (by kernel_rfl) (fun _ _ _ h => h) (by rfl) ?_ hHeld ?_; rotate_left; (· (intro wS hSw; (try dsimp only at hSw); go_simp; first | done | with_reducible rfl)); simp only [Act.put, List.setIfInBounds_toArray, List.set_cons_zero, List.set_cons_succ])
  (refine call_op (i := 5) rfl (by kernel_rfl) (by rfl) (fun K hK => ?_); go_simp; (go_at_call 37; (with_reducible refine (s1' _ kk).mono ?_); rintro e w14 ⟨rfl, hb14⟩; replace kk := below_call kk hb14 kk.size; replace hbd := below_call hbd hb14 hbd.size; clear hb14); refine hK.out _ _ trivial (fun hHeld2 => ?_); clear hK K hHeld; have hHeld := hHeld2; clear hHeld2; (try simp only [Act.put, List.setIfInBounds_toArray, List.set_cons_zero, List.set_cons_succ]))
  (refine take_op (i := 6) (v := ?_) rfl (by kernel_rfl) (by kernel_rfl) (by kernel_rfl) (fun _ _ _ h => h) (by rfl) ?_ hHeld ?_; rotate_left; (· (intro wS hSw; (try dsimp only at hSw); go_simp; first | done | with_reducible rfl)); simp only [Act.put, List.setIfInBounds_toArray, List.set_cons_zero, List.set_cons_succ]); (refine take_op (i := 7) (v := ?_) rfl (by kernel_rfl) (by kernel_rfl) (by kernel_rfl) (fun _ _ _ h => h) (by rfl) ?_ hHeld ?_; rotate_left; (· (intro wS hSw; (try dsimp only at hSw); go_simp; first | done | with_reducible rfl)); simp only [Act.put, List.setIfInBounds_toArray, List.set_cons_zero, List.set_cons_succ]); (refine take_op (i := 8) (v := ?_) rfl (by kernel_rfl) (by kernel_rfl) (by kernel_rfl) (fun _ _ _ h => h) (by rfl) ?_ hHeld ?_; rotate_left; (· (intro wS hSw; (try dsimp only at hSw); go_simp; first | done | with_reducible rfl)); simp only [Act.put, List.setIfInBounds_toArray, List.set_cons_zero, List.set_cons_succ]); (refine take_op (i := 9) (v := ?_) rfl (by kernel_rfl) (by kernel_rfl) (by kernel_rfl) (fun _ _ _ h => h) (by rfl) ?_ hHeld ?_; rotate_left; (· (intro wS hSw; (try dsimp only at hSw); go_simp; first | done | with_reducible rfl)); simp only [Act.put, List.setIfInBounds_toArray, List.set_cons_zero, List.set_cons_succ]); (refine take_op (i := 10) (v := ?_) rfl (by kernel_rfl) (by kernel_rfl) (by kernel_rfl) (fun _ _ _ h => h) (by rfl) ?_ hHeld ?_; rotate_left; (· (intro wS hSw; (try dsimp only at hSw); go_simp; first | done | with_reducible rfl)); simp only [Act.put, List.setIfInBounds_toArray, List.set_cons_zero, List.set_cons_succ]); (refine take_op (i := 11) (v := ?_) rfl (by kernel_rfl) (by kernel_rfl) (by kernel_rfl) (fun _ _ _ h => h) (by rfl) ?_ hHeld ?_; rotate_left; (· (intro wS hSw; (try dsimp only at hSw); go_simp; first | done | with_reducible rfl)); simp only [Act.put, List.setIfInBounds_toArray, List.set_cons_zero, List.set_cons_succ]); (refine take_op (i := 12) (v := ?_) rfl (by kernel_rfl) (by kernel_rfl) (by kernel_rfl) (fun _ _ _ h => h) (by rfl) ?_ hHeld ?_; rotate_left; (· (intro wS hSw; (try dsimp only at hSw); go_simp; first | done | with_reducible rfl)); simp only [Act.put, List.setIfInBounds_toArray, List.set_cons_zero, List.set_cons_succ]); (refine take_op (i := 13) (v := ?_) rfl (by kernel_rfl) (by kernel_rfl) (by kernel_rfl) (fun _ _ _ h => h) (by rfl) ?_ hHeld ?_; rotate_left; (· (intro wS hSw; (try dsimp only at hSw); go_simp; first | done | with_reducible rfl)); simp only [Act.put, List.setIfInBounds_toArray, List.set_cons_zero, List.set_cons_succ]); (refine take_op (i := 14) (v := ?_) rfl (by kernel_rfl) (by kernel_rfl) (by kernel_rfl) (fun _ _ _ h => h) (by rfl) ?_ hHeld ?_; rotate_left; (· (intro wS hSw; (try dsimp only at hSw); go_simp; first | done | with_reducible rfl)); simp only [Act.put, List.setIfInBounds_toArray, List.set_cons_zero, List.set_cons_succ]); (refine take_op (i := 15) (v := ?_) rfl (by kernel_rfl) (by kernel_rfl) (by kernel_rfl) (fun _ _ _ h => h) (by rfl) ?_ hHeld ?_; rotate_left; (· (intro wS hSw; (try dsimp only at hSw); go_simp; first | done | with_reducible rfl)); simp only [Act.put, List.setIfInBounds_toArray, List.set_cons_zero, List.set_cons_succ]); (refine take_op (i := 16) (v := ?_) rfl (by kernel_rfl) (by kernel_rfl) (by kernel_rfl) (fun _ _ _ h => h) (by rfl) ?_ hHeld ?_; rotate_left; (· (intro wS hSw; (try dsimp only at hSw); go_simp; first | done | with_reducible rfl)); simp only [Act.put, List.setIfInBounds_toArray, List.set_cons_zero, List.set_cons_succ]); (refine take_op (i := 17) (v := ?_) rfl (by kernel_rfl) (by kernel_rfl) (by kernel_rfl) (fun _ _ _ h => h) (by rfl) ?_ hHeld ?_; rotate_left; (· (intro wS hSw; (try dsimp only at hSw); go_simp; first | done | with_reducible rfl)); simp only [Act.put, List.setIfInBounds_toArray, List.set_cons_zero, List.set_cons_succ])
  (refine call_op (i := 18) rfl (by kernel_rfl) (by rfl) (fun K hK => ?_); go_simp; (go_at_call 37; (with_reducible refine (s2' _ kk).mono ?_); rintro e w15 ⟨rfl, hb15⟩; replace hbd := below_call hbd hb15 hbd.size; clear hb15); refine hK.out _ _ trivial (fun hHeld2 => ?_); clear hK K hHeld; have hHeld := hHeld2; clear hHeld2; (try simp only [Act.put, List.setIfInBounds_toArray, List.set_cons_zero, List.set_cons_succ]))
  (refine take_op (i := 19) (v := ?_) rfl (by kernel_rfl) (by kernel_rfl) (by kernel_rfl) (fun _ _ _ h => h) (by rfl) ?_ hHeld ?_; rotate_left; (· (intro wS hSw; (try dsimp only at hSw); go_simp; first | done | with_reducible rfl)); simp only [Act.put, List.setIfInBounds_toArray, List.set_cons_zero, List.set_cons_succ]); (refine take_op (i := 20) (v := ?_) rfl (by kernel_rfl) (by kernel_rfl) (by kernel_rfl) (fun _ _ _ h => h) (by rfl) ?_ hHeld ?_; rotate_left; (· (intro wS hSw; (try dsimp only at hSw); go_simp; first | done | with_reducible rfl)); simp only [Act.put, List.setIfInBounds_toArray, List.set_cons_zero, List.set_cons_succ])
  (refine call_op (i := 21) rfl (by kernel_rfl) (by rfl) (fun K hK => ?_); go_simp; (go_at_call 29; (with_reducible refine (haw _).mono ?_); rintro e w16 ⟨rfl, hb16⟩; replace hbd := below_call hbd hb16 hbd.size; clear hb16); refine hK.out _ _ trivial (fun hHeld2 => ?_); clear hK K hHeld; have hHeld := hHeld2; clear hHeld2; (try simp only [Act.put, List.setIfInBounds_toArray, List.set_cons_zero, List.set_cons_succ]))
  (refine take_op (i := 22) (v := ?_) rfl (by kernel_rfl) (by kernel_rfl) (by kernel_rfl) (fun _ _ _ h => h) (by rfl) ?_ hHeld ?_; rotate_left; (· (intro wS hSw; (try dsimp only at hSw); go_simp; first | done | with_reducible rfl)); simp only [Act.put, List.setIfInBounds_toArray, List.set_cons_zero, List.set_cons_succ]); (refine take_op (i := 23) (v := ?_) rfl (by kernel_rfl) (by kernel_rfl) (by kernel_rfl) (fun _ _ _ h => h) (by rfl) ?_ hHeld ?_; rotate_left; (· (intro wS hSw; (try dsimp only at hSw); go_simp; first | done | with_reducible rfl)); simp only [Act.put, List.setIfInBounds_toArray, List.set_cons_zero, List.set_cons_succ])
  (refine wpAnyH_done (by kernel_rfl) ?_ _)
  go_wp2_with fail
  go_ret
  exact ⟨rfl, hbd⟩
end Go.Proofs.Ytpdlhcfepafjeaa
