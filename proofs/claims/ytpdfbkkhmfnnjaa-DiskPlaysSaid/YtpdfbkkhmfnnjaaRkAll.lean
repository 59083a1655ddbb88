/- The document's disk: a file's bytes. -/
import Derived.Test.YtpdfbkkhmfnnjaaRkOps
import Derived.Test.YtpdfbkkhmfnnjaaOwnW
import Derived.WalkKit
import Derived.WalkSpells
import Derived.WalkLawsBesides
import Derived.Deep.RegionHeld3
import Derived.Deep.DrawnRows
import Derived.Deep.DeepCutAuto
import Derived.Deep.DeepFit
import Derived.Lib.Hide
import Derived.BigQuiet
import Derived.Deep.QuietTactic
import Derived.Deep.RegionHeld3
namespace Go.Proofs.Ytpdfbkkhmfnnjaa
open Go.RowKit
set_option linter.unusedVariables false
set_option linter.unusedSimpArgs false
set_option maxRecDepth 20000
attribute [local go_sem ↓] Go.wp_at_zero Go.wp_at_succ
attribute [local go_sem] World.cell?_alloc_some frozen_alloc_some
attribute [local go_sem] lt2 lt3 lt4 lt5
attribute [local simp] lt2 lt3 lt4 lt5

theorem own_lowR {w : World} {base base' : Nat} {e : TypeId} {size : Nat} {v : Value} {n : Nat} {xs : List Value} (h : w.ownsRow base e size v n xs) (hb : base' ≤ base) : w.ownsRow base' e size v n xs :=
  ⟨h.1, h.2.imp id fun ⟨g, cap, cur, e1, h1, h2⟩ => ⟨g, cap, cur, e1, Nat.le_trans hb h1, h2⟩⟩
def All12 (w : World) (l : List Nat) (e : Ending) (w' : World) : Prop := ∃ A c, e = .returned (.slice A l.length c) ∧ OwnB w' w.heap.size 5 (.slice A l.length c) l ∧ Below w.heap.size w w'
set_option maxHeartbeats 2000000 in
/-- A file's bytes, made anew. -/
theorem all12_any (s : NmT) (S T : List Nat) (sA tA : Option Addr) (sc tc : Nat) (w : World) (hS : Bytes w sA S.length S) (hT : Bytes w tA T.length T) (hl : S.length + T.length ≤ 1073741824) :
    Calls Try.prog 90 #[.agg #[sK s, .slice sA S.length sc, .slice tA T.length tc]] w (All12 w (S ++ T)) := by
  obtain ⟨i0, hi, hz0, hz1, hz2⟩ := u8infoK
  have HS := Lib.hid hS
  have HT := Lib.hid hT
  have hb := below_one (w := w) (.cells #[sK s, .slice sA S.length sc, .slice tA T.length tc] 110)
  have B0 := Blk.new w 110 #[sK s, .slice sA S.length sc, .slice tA T.length tc]
  clear hS hT
  go_enter Try.func90, Try.ntmps90
  go_upto_region 1 with fail
  replace hb := hb.drew
  replace B0 := Blk.keep B0 (Below.refl _ _).drew
  (refine wp_region_held_drew (S := (S1k w.heap.size #[sK s, .slice sA S.length sc, .slice tA T.length tc])) (by kernel_rfl) ?_ (fun hHeld => ?_); (· exact B0.cell))
  revert hHeld hb B0
  generalize World.drew _ = wd
  intro hb B0 hHeld
  have hzw := hb.size
  have h256 : Hid ((∀ c ∈ S, c < 256) ∧ ∀ c ∈ T, c < 256) := Lib.hid ⟨HS.out.lt, HT.out.lt⟩
  have ka := below_one (w := wd) (.cells #[] 5)
  have hmade : OwnB (wd.alloc (.cells #[] 5)) wd.heap.size 5 (.slice (some ⟨wd.heap.size, 0, none⟩) 0 0) [] := OwnB.made (Nat.le_refl _)
  have srcS := Src.of_bytes (HS.out.keep (hb.trans (ka.mono hzw)))
  (refine take_op (i := 1) (v := ?_) rfl (by kernel_rfl) (by kernel_rfl) (by kernel_rfl) (fun _ _ _ h => h) (by rfl) ?_ hHeld ?_; rotate_left; (· (intro wS hSw; (try dsimp only at hSw); go_simp; first | done | with_reducible rfl)); simp only [Act.put, List.setIfInBounds_toArray, List.set_cons_zero, List.set_cons_succ]); (refine take_op (i := 2) (v := ?_) rfl (by kernel_rfl) (by kernel_rfl) (by kernel_rfl) (fun _ _ _ h => h) (by rfl) ?_ hHeld ?_; rotate_left; (· (intro wS hSw; (try dsimp only at hSw); go_simp; first | done | with_reducible rfl)); simp only [Act.put, List.setIfInBounds_toArray, List.set_cons_zero, List.set_cons_succ]); (refine take_op (i := 4) (v := ?_) rfl (by kernel_rfl) (by kernel_rfl) (by kernel_rfl) (fun _ _ _ h => h) (by rfl) ?_ hHeld ?_; rotate_left; (· (intro wS hSw; (try dsimp only at hSw); go_simp; first | done | with_reducible rfl)); simp only [Act.put, List.setIfInBounds_toArray, List.set_cons_zero, List.set_cons_succ]); (refine take_op (i := 5) (v := ?_) rfl (by kernel_rfl) (by kernel_rfl) (by kernel_rfl) (fun _ _ _ h => h) (by rfl) ?_ hHeld ?_; rotate_left; (· (intro wS hSw; (try dsimp only at hSw); go_simp; first | done | with_reducible rfl)); simp only [Act.put, List.setIfInBounds_toArray, List.set_cons_zero, List.set_cons_succ])
  (refine call_op (i := 0) rfl (by kernel_rfl) (by rfl) (fun K hK => ?_); go_simp; skip; refine hK.out _ _ (B0.keep ka).cell (fun hHeld2 => ?_); clear hK K hHeld; have hHeld := hHeld2; clear hHeld2; (try simp only [Act.put, List.setIfInBounds_toArray, List.set_cons_zero, List.set_cons_succ]))
  (refine call_op (i := 3) rfl (by kernel_rfl) (by rfl) (fun K hK => ?_); (refine wp_app _ (.tmp 3) (.tmp 5) 60 rfl wd.heap.size 5 i0 _ 1 1 Try.underlying60 hi hz0 hz1 hz2 rfl (by omega) _ 0 [] rfl hmade.1 sA S.length sc _ rfl srcS (by unfold maxLen; omega) (by omega) (by simp) ?_; intro v11 w11 hown11 hgrow11 hat11 hold11; have o11 : OwnB w11 wd.heap.size 5 v11 S := OwnB.join (l := []) hown11 (by simp) h256.out.1; have hb11 : Below wd.heap.size wd w11 := below_app ka hmade.1 hgrow11 (Nat.le_refl _) (by simp)); refine hK.out _ _ (B0.keep hb11).cell (fun hHeld2 => ?_); clear hK K hHeld; have hHeld := hHeld2; clear hHeld2; (try simp only [Act.put, List.setIfInBounds_toArray, List.set_cons_zero, List.set_cons_succ]))
  have hz11 := hb11.size
  have srcT := Src.of_bytes (HT.out.keep (hb.trans (hb11.mono hzw)))
  clear hown11 hgrow11 hat11 hold11 srcS
  (refine call_op (i := 6) rfl (by kernel_rfl) (by rfl) (fun K hK => ?_); (refine wp_app _ (.tmp 6) (.tmp 8) 60 rfl wd.heap.size 5 i0 _ 1 1 Try.underlying60 hi hz0 hz1 hz2 rfl (by omega) v11 S.length _ rfl o11.1 tA T.length tc _ rfl srcT (by unfold maxLen; omega) (by omega) hz11 ?_; intro v12 w12 hown12 hgrow12 hat12 hold12; have o12 : OwnB w12 wd.heap.size 5 v12 (S ++ T) := OwnB.join (l := S) hown12 h256.out.1 h256.out.2; have hb12 : Below wd.heap.size wd w12 := below_app hb11 o11.1 hgrow12 (Nat.le_refl _) hz11); refine hK.out _ _ (B0.keep hb12).cell (fun hHeld2 => ?_); clear hK K hHeld; have hHeld := hHeld2; clear hHeld2; (try simp only [Act.put, List.setIfInBounds_toArray, List.set_cons_zero, List.set_cons_succ]))
  (refine take_op (i := 7) (v := ?_) rfl (by kernel_rfl) (by kernel_rfl) (by kernel_rfl) (fun _ _ _ h => h) (by rfl) ?_ hHeld ?_; rotate_left; (· (intro wS hSw; (try dsimp only at hSw); go_simp; first | done | with_reducible rfl)); simp only [Act.put, List.setIfInBounds_toArray, List.set_cons_zero, List.set_cons_succ])
  (refine wpAnyH_done (by kernel_rfl) ?_ _)
  obtain ⟨A12, c12, rfl, hl12, hc12⟩ := o12.form
  have FIN := Lib.hid (show All12 w (S ++ T) (.returned (.slice A12 (S ++ T).length c12)) w12 from ⟨A12, c12, rfl, ⟨own_lowR o12.1 hzw, o12.2⟩, hb.trans (hb12.mono hzw)⟩)
  clear o12 hown12 hgrow12 hat12 hold12 hb12 hb11 o11 hHeld
  go_wp2_with fail
  go_ret
  exact FIN.out
end Go.Proofs.Ytpdfbkkhmfnnjaa
