/- The law's shows: a disk shows what the document's does. -/
import Derived.Test.YtpdfbkkhmfnnjaaRkDo
import Derived.WalkKit
import Derived.WalkSpells
import Derived.WalkLawsBesides
import Derived.Deep.RegionHeld3
import Derived.Deep.DrawnRows
import Derived.Deep.DeepCutAuto
import Derived.Deep.DeepFit
import Derived.Lib.Hide
import Derived.BigQuiet
import Derived.Deep.QuietTactic
import Derived.Deep.RegionHeld3
namespace Go.Proofs.Ytpdfbkkhmfnnjaa
open Go.RowKit
set_option linter.unusedVariables false
set_option linter.unusedSimpArgs false
set_option maxRecDepth 20000
attribute [local go_sem ↓] Go.wp_at_zero Go.wp_at_succ
attribute [local go_sem] World.cell?_alloc_some frozen_alloc_some
open Go.Maps
attribute [local go_sem] lt2 lt3 lt4 lt5
attribute [local simp] lt2 lt3 lt4 lt5

def NamesP (W : World) (n : Nat) (nms : List NmT) (e : Ending) (w' : World) : Prop := ∃ A c, e = .returned (.slice A n c) ∧ w'.ownsRow W.heap.size 9 1 (.slice A n c) n (nms.map sV) ∧ Below W.heap.size W w'
theorem names12_any {F : Nat → Prop} {g b : Nat} {d : DkT} {W : World} (h : DiskAt W F g b d) {nms : List NmT} (hn : namesD d = nms) {n : Nat} (hl : nms.length = n) : Calls Try.prog 62 #[.pointer (some ⟨g, 0, none⟩)] W (NamesP W n nms) := by
  subst hn
  subst hl
  refine (dknames_any F g b d W h).mono ?_
  rintro e w' ⟨v, rfl, h1, h2⟩
  obtain ⟨A, c, rfl, _, _⟩ := ownR_form h1
  exact ⟨A, c, rfl, h1, h2⟩
abbrev SShow (x : Nat) (cs : Array Value) (g1 i : Nat) (u : Value) (g2 o : Nat) (v : Value) (wx : World) : Prop := (∀ i, wx.cell? ⟨x, i, none⟩ = cs[i]?) ∧ wx.cell? ⟨g1, i, none⟩ = some u ∧ wx.cell? ⟨g2, o, none⟩ = some v
set_option maxHeartbeats 8000000 in
theorem shows_any {F F2 : Nat → Prop} {g b x : Nat} {d : DkT} (W : World) (D : DiskAt W F g b d) (R : RkAt W F2 x d) : Calls Try.prog 31 #[.pointer (some ⟨g, 0, none⟩), .pointer (some ⟨x, 0, none⟩)] W (Gives W (.bool true)) := by
  obtain ⟨⟨fs, A, c, h1, h2⟩, ok⟩ := R
  have htot : totD (fs.map KF.d) ≤ 1073741824 := by have h3 := ok.tot; have h4 := ok.room1; rw [h2]; omega
  have h16 := rk_len ok h2
  obtain ⟨l, room, fuse, down⟩ := d
  simp only at h1 h2
  have hN : usedD ⟨l, room, fuse, false⟩ = totD (fs.map KF.d) := by simp [usedD, h2]
  have hnn : namesD ⟨l, room, fuse, false⟩ = fs.map KF.nm := by simp [namesD, ← h2]
  clear ok
  cases down
  · have hdn := fun W' (D' : DiskAt W' F g b ⟨l, room, fuse, false⟩) => dkdown_any F g b _ W' D'
    have hnm := fun W' (D' : DiskAt W' F g b ⟨l, room, fuse, false⟩) => names12_any D' hnn (n := fs.length) (by simp)
    have hus := fun W' (D' : DiskAt W' F g b ⟨l, room, fuse, false⟩) => dkused_any F g b _ W' D'
    have hur := fun W' R' => used12_any F2 x fs A c room fuse false W' R' htot
    rw [hN] at hus
    generalize totD (fs.map KF.d) = N at hus hur
    clear hN hnn htot h2
    go_enter Try.func31, Try.ntmps31
    go_upto_region 1 with fail
    (refine wp_region_held_drew (S := (S1k x (hdK A fs.length c room fuse false))) (by kernel_rfl) ?_ (fun hHeld => ?_); (· exact h1.hd.cell))
    have D1 := D.keep (Below.refl W.heap.size W).drew
    have R1 := h1.keep (Below.refl W.heap.size W).drew
    have hb := (Below.refl W.heap.size W).drew
    clear h1 D
    revert hHeld D1 R1 hb
    generalize World.drew _ = wd
    intro hHeld D1 R1 hb
    (refine take_op (i := 0) (v := ?_) rfl (by kernel_rfl) (by kernel_rfl) (by kernel_rfl) (fun _ _ _ h => h) (by rfl) ?_ hHeld ?_; rotate_left; (· (intro wS hSw; (try dsimp only at hSw); go_simp; first | done | with_reducible rfl)); simp only [Act.put, List.setIfInBounds_toArray, List.set_cons_zero, List.set_cons_succ]); (refine take_op (i := 2) (v := ?_) rfl (by kernel_rfl) (by kernel_rfl) (by kernel_rfl) (fun _ _ _ h => h) (by rfl) ?_ hHeld ?_; rotate_left; (· (intro wS hSw; (try dsimp only at hSw); go_simp; first | done | with_reducible rfl)); simp only [Act.put, List.setIfInBounds_toArray, List.set_cons_zero, List.set_cons_succ]); (refine take_op (i := 3) (v := ?_) rfl (by kernel_rfl) (by kernel_rfl) (by kernel_rfl) (fun _ _ _ h => h) (by rfl) ?_ hHeld ?_; rotate_left; (· (intro wS hSw; (try dsimp only at hSw); go_simp; first | done | with_reducible rfl)); simp only [Act.put, List.setIfInBounds_toArray, List.set_cons_zero, List.set_cons_succ]); (refine take_op (i := 4) (v := ?_) rfl (by kernel_rfl) (by kernel_rfl) (by kernel_rfl) (fun _ _ _ h => h) (by rfl) ?_ hHeld ?_; rotate_left; (· (intro wS hSw; (try dsimp only at hSw); go_simp; first | done | with_reducible rfl)); simp only [Act.put, List.setIfInBounds_toArray, List.set_cons_zero, List.set_cons_succ]); (refine take_op (i := 5) (v := ?_) rfl (by kernel_rfl) (by kernel_rfl) (by kernel_rfl) (fun _ _ _ h => h) (by rfl) ?_ hHeld ?_; rotate_left; (· (intro wS hSw; (try dsimp only at hSw); go_simp; first | done | with_reducible rfl)); simp only [Act.put, List.setIfInBounds_toArray, List.set_cons_zero, List.set_cons_succ])
    (refine call_op (i := 1) rfl (by kernel_rfl) (by rfl) (fun K hK => ?_); go_simp; (go_at_call 61; (with_reducible refine (hdn _ D1).mono ?_); rintro e w1 ⟨rfl, hb1⟩); refine hK.out _ _ (R1.keep hb1).hd.cell (fun hHeld2 => ?_); clear hK K hHeld; have hHeld := hHeld2; clear hHeld2; (try simp only [Act.put, List.setIfInBounds_toArray, List.set_cons_zero, List.set_cons_succ]))
    (refine take_op (i := 6) (v := ?_) rfl (by kernel_rfl) (by kernel_rfl) (by kernel_rfl) (fun _ _ _ h => h) (by rfl) ?_ hHeld ?_; rotate_left; (· (intro wS hSw; (try dsimp only at hSw); go_simp; first | done | with_reducible rfl)); simp only [Act.put, List.setIfInBounds_toArray, List.set_cons_zero, List.set_cons_succ])
    (refine wpAnyH_done (by kernel_rfl) ?_ _)
    replace hb := below_call hb hb1 hb.size
    replace D1 := D1.keep hb1
    replace R1 := R1.keep hb1
    have pc := R1.hd.cell
    clear hHeld hb1
    go_upto_region 6 with (go_at_call 62; (with_reducible refine (hnm _ D1).mono ?_); rintro e w2 ⟨A2, c2, rfl, hown, hb2⟩)
    have D2 := D1.keep hb2
    have R2 := R1.keep hb2
    have hB2 := below_call hb hb2 hb.size
    clear pc
    have pc := R2.hd.cell
    clear D1 R1 hb hb2
    go_upto_region 8 with (first
      | (go_at_call 63; (with_reducible refine (hus _ D2).mono ?_); rintro e w3 ⟨rfl, hb3⟩; have R3 := R2.keep hb3; have hB3 := below_call hB2 hb3 hB2.size; have own3 := ownR_keep hown hb3; clear D2 R2 hown)
      | (go_at_call 64; (with_reducible refine (hur _ R3).mono ?_); rintro e w4 ⟨rfl, hb4⟩; have R4 := R3.keep hb4; have hB4 := below_call hB3 hb4 hB3.size; have own4 := ownR_keep own3 hb4; clear R3 own3))
    clear hb3 hb4 hB2 hB3 hus hur hnm hdn pc
    have H4 := Lib.hid R4
    have HO := Lib.hid own4
    clear R4 own4
    go_wp2_with fail
    go_loopw [6] (fun s6 wr => ∃ i : Nat, i ≤ fs.length ∧ s6 = .int .i64 i ∧ Below w4.heap.size w4 wr) (fun s6 _ => fs.length - (intOf s6).toNat)
    case atStart => exact ⟨0, by omega, rfl, Below.refl _ _⟩
    case round =>
      obtain ⟨i, hi, rfl, hbr⟩ := hrel
      have R5 := H4.out.keep hbr
      have own5 := ownR_keep HO.out hbr
      have hB5 := below_call hB4 hbr hB4.size
      by_cases hlt : i < fs.length
      · have hfi := List.getElem?_eq_getElem hlt
        have i0 : (0 : Int) ≤ (i : Int) := by omega
        have i1 : (i : Int) < (fs.length : Int) := by omega
        obtain ⟨g5, hA, c0, _, _, _, _⟩ := R5.at_ hfi
        obtain ⟨g6, hA6, cN⟩ : ∃ g6, A2 = some ⟨g6, 0, none⟩ ∧ wr.cell? ⟨g6, i, none⟩ = some (sK fs[i].nm) := by
          rcases own5.2 with ⟨e, h0⟩ | ⟨g6, cap, cur, e, _⟩
          · omega
          · injection e with e1 e2 e3
            subst e1
            refine ⟨g6, rfl, ?_⟩
            have hc := World.ownsRow.cells own5 (g := g6) rfl i (sK fs[i].nm) (by simp [hlt])
            have hadd : (⟨g6, 0, none⟩ : Addr).add i = ⟨g6, i, none⟩ := by unfold Addr.add; split <;> simp_all
            rw [hadd] at hc
            exact hc
        generalize fs[i] = f at c0 cN hfi
        generalize f.nm = s at c0 cN
        have pc := R5.hd.cell
        subst hA
        subst hA6
        clear own5 hfi R5
        go_upto_region 11 with fail
        (refine wp_region_held_drew (S := (SShow x (hdK (some ⟨g5, 0, none⟩) fs.length c room fuse false) g6 i (sK s) g5 (i * 3) (sK s))) (by kernel_rfl) ?_ (fun hHeld => ?_); (· exact ⟨pc, cN, c0⟩))
        (refine take_op (i := 0) (v := ?_) rfl (by kernel_rfl) (by kernel_rfl) (by kernel_rfl) (fun _ _ _ h => h) (by rfl) ?_ hHeld ?_; rotate_left; (· (intro wS hSw; (try dsimp only at hSw); go_simp; first | done | with_reducible rfl)); simp only [Act.put, List.setIfInBounds_toArray, List.set_cons_zero, List.set_cons_succ]); (refine take_op (i := 1) (v := ?_) rfl (by kernel_rfl) (by kernel_rfl) (by kernel_rfl) (fun _ _ _ h => h) (by rfl) ?_ hHeld ?_; rotate_left; (· (intro wS hSw; (try dsimp only at hSw); go_simp; first | done | with_reducible rfl)); simp only [Act.put, List.setIfInBounds_toArray, List.set_cons_zero, List.set_cons_succ]); (refine take_op (i := 2) (v := ?_) rfl (by kernel_rfl) (by kernel_rfl) (by kernel_rfl) (fun _ _ _ h => h) (by rfl) ?_ hHeld ?_; rotate_left; (· (intro wS hSw; (try dsimp only at hSw); go_simp; first | done | with_reducible rfl)); simp only [Act.put, List.setIfInBounds_toArray, List.set_cons_zero, List.set_cons_succ]); (refine take_op (i := 3) (v := ?_) rfl (by kernel_rfl) (by kernel_rfl) (by kernel_rfl) (fun _ _ _ h => h) (by rfl) ?_ hHeld ?_; rotate_left; (· (intro wS hSw; (try dsimp only at hSw); go_simp; first | done | with_reducible rfl)); simp only [Act.put, List.setIfInBounds_toArray, List.set_cons_zero, List.set_cons_succ]); (refine take_op (i := 4) (v := ?_) rfl (by kernel_rfl) (by kernel_rfl) (by kernel_rfl) (fun _ _ _ h => h) (by rfl) ?_ hHeld ?_; rotate_left; (· (intro wS hSw; (try dsimp only at hSw); go_simp; first | done | with_reducible rfl)); simp only [Act.put, List.setIfInBounds_toArray, List.set_cons_zero, List.set_cons_succ]); (refine take_op (i := 5) (v := ?_) rfl (by kernel_rfl) (by kernel_rfl) (by kernel_rfl) (fun _ _ _ h => h) (by rfl) ?_ hHeld ?_; rotate_left; (· (intro wS hSw; (try dsimp only at hSw); go_simp; first | done | with_reducible rfl)); simp only [Act.put, List.setIfInBounds_toArray, List.set_cons_zero, List.set_cons_succ]); (refine take_op (i := 6) (v := ?_) rfl (by kernel_rfl) (by kernel_rfl) (by kernel_rfl) (fun _ _ _ h => h) (by rfl) ?_ hHeld ?_; rotate_left; (· (intro wS hSw; (try dsimp only at hSw); go_simp; first | done | with_reducible rfl)); simp only [Act.put, List.setIfInBounds_toArray, List.set_cons_zero, List.set_cons_succ]); (refine take_op (i := 7) (v := ?_) rfl (by kernel_rfl) (by kernel_rfl) (by kernel_rfl) (fun _ _ _ h => h) (by rfl) ?_ hHeld ?_; rotate_left; (· (intro wS hSw; (try dsimp only at hSw); go_simp; first | done | with_reducible rfl)); simp only [Act.put, List.setIfInBounds_toArray, List.set_cons_zero, List.set_cons_succ]); (refine take_op (i := 8) (v := ?_) rfl (by kernel_rfl) (by kernel_rfl) (by kernel_rfl) (fun _ _ _ h => h) (by rfl) ?_ hHeld ?_; rotate_left; (· (intro wS hSw; (try dsimp only at hSw); go_simp; first | done | with_reducible rfl)); simp only [Act.put, List.setIfInBounds_toArray, List.set_cons_zero, List.set_cons_succ]); (refine take_op (i := 9) (v := ?_) rfl (by kernel_rfl) (by kernel_rfl) (by kernel_rfl) (fun _ _ _ h => h) (by rfl) ?_ hHeld ?_; rotate_left; (· (intro wS hSw; (try dsimp only at hSw); go_simp; first | done | with_reducible rfl)); simp only [Act.put, List.setIfInBounds_toArray, List.set_cons_zero, List.set_cons_succ]); (refine take_op (i := 10) (v := ?_) rfl (by kernel_rfl) (by kernel_rfl) (by kernel_rfl) (fun _ _ _ h => h) (by rfl) ?_ hHeld ?_; rotate_left; (· (intro wS hSw; (try dsimp only at hSw); go_simp; first | done | with_reducible rfl)); simp only [Act.put, List.setIfInBounds_toArray, List.set_cons_zero, List.set_cons_succ]); (refine take_op (i := 11) (v := ?_) rfl (by kernel_rfl) (by kernel_rfl) (by kernel_rfl) (fun _ _ _ h => h) (by rfl) ?_ hHeld ?_; rotate_left; (· (intro wS hSw; (try dsimp only at hSw); go_simp; first | done | with_reducible rfl)); simp only [Act.put, List.setIfInBounds_toArray, List.set_cons_zero, List.set_cons_succ]); (refine take_op (i := 12) (v := ?_) rfl (by kernel_rfl) (by kernel_rfl) (by kernel_rfl) (fun _ _ _ h => h) (by rfl) ?_ hHeld ?_; rotate_left; (· (intro wS hSw; (try dsimp only at hSw); go_simp; first | done | with_reducible rfl)); simp only [Act.put, List.setIfInBounds_toArray, List.set_cons_zero, List.set_cons_succ])
        (refine wpAnyH_done (by kernel_rfl) ?_ _)
        have hbd := hbr.drew
        clear hHeld hbr pc c0 cN hB5
        generalize wr.drew = wd at hbd ⊢
        go_wp2_with fail
        go_roundw
        case rel => exact ⟨i + 1, by omega, by go_num, hbd⟩
        case measure => simp [intOf]; omega
      · have nk : ¬ (i : Int) < (fs.length : Int) := by omega
        clear R5 own5
        go_wp2_with fail
        go_ret
        exact ⟨rfl, hB5⟩
  · have hdn := fun W' (D' : DiskAt W' F g b ⟨l, room, fuse, true⟩) => dkdown_any F g b _ W' D'
    have hnm := fun W' (D' : DiskAt W' F g b ⟨l, room, fuse, true⟩) => names12_any D' (show namesD ⟨l, room, fuse, true⟩ = [] from rfl) (n := 0) rfl
    have hus : ∀ W', DiskAt W' F g b ⟨l, room, fuse, true⟩ → Calls Try.prog 63 #[.pointer (some ⟨g, 0, none⟩)] W' (Gives W' (.int .i64 0)) := fun W' D' => dkused_any F g b _ W' D'
    clear hN hnn htot h2
    go_enter Try.func31, Try.ntmps31
    go_upto_region 1 with fail
    (refine wp_region_held_drew (S := (S1k x (hdK A fs.length c room fuse true))) (by kernel_rfl) ?_ (fun hHeld => ?_); (· exact h1.hd.cell))
    have D1 := D.keep (Below.refl W.heap.size W).drew
    have R1 := h1.keep (Below.refl W.heap.size W).drew
    have hb := (Below.refl W.heap.size W).drew
    clear h1 D
    revert hHeld D1 R1 hb
    generalize World.drew _ = wd
    intro hHeld D1 R1 hb
    (refine take_op (i := 0) (v := ?_) rfl (by kernel_rfl) (by kernel_rfl) (by kernel_rfl) (fun _ _ _ h => h) (by rfl) ?_ hHeld ?_; rotate_left; (· (intro wS hSw; (try dsimp only at hSw); go_simp; first | done | with_reducible rfl)); simp only [Act.put, List.setIfInBounds_toArray, List.set_cons_zero, List.set_cons_succ]); (refine take_op (i := 2) (v := ?_) rfl (by kernel_rfl) (by kernel_rfl) (by kernel_rfl) (fun _ _ _ h => h) (by rfl) ?_ hHeld ?_; rotate_left; (· (intro wS hSw; (try dsimp only at hSw); go_simp; first | done | with_reducible rfl)); simp only [Act.put, List.setIfInBounds_toArray, List.set_cons_zero, List.set_cons_succ]); (refine take_op (i := 3) (v := ?_) rfl (by kernel_rfl) (by kernel_rfl) (by kernel_rfl) (fun _ _ _ h => h) (by rfl) ?_ hHeld ?_; rotate_left; (· (intro wS hSw; (try dsimp only at hSw); go_simp; first | done | with_reducible rfl)); simp only [Act.put, List.setIfInBounds_toArray, List.set_cons_zero, List.set_cons_succ]); (refine take_op (i := 4) (v := ?_) rfl (by kernel_rfl) (by kernel_rfl) (by kernel_rfl) (fun _ _ _ h => h) (by rfl) ?_ hHeld ?_; rotate_left; (· (intro wS hSw; (try dsimp only at hSw); go_simp; first | done | with_reducible rfl)); simp only [Act.put, List.setIfInBounds_toArray, List.set_cons_zero, List.set_cons_succ]); (refine take_op (i := 5) (v := ?_) rfl (by kernel_rfl) (by kernel_rfl) (by kernel_rfl) (fun _ _ _ h => h) (by rfl) ?_ hHeld ?_; rotate_left; (· (intro wS hSw; (try dsimp only at hSw); go_simp; first | done | with_reducible rfl)); simp only [Act.put, List.setIfInBounds_toArray, List.set_cons_zero, List.set_cons_succ])
    (refine call_op (i := 1) rfl (by kernel_rfl) (by rfl) (fun K hK => ?_); go_simp; (go_at_call 61; (with_reducible refine (hdn _ D1).mono ?_); rintro e w1 ⟨rfl, hb1⟩); refine hK.out _ _ (R1.keep hb1).hd.cell (fun hHeld2 => ?_); clear hK K hHeld; have hHeld := hHeld2; clear hHeld2; (try simp only [Act.put, List.setIfInBounds_toArray, List.set_cons_zero, List.set_cons_succ]))
    (refine take_op (i := 6) (v := ?_) rfl (by kernel_rfl) (by kernel_rfl) (by kernel_rfl) (fun _ _ _ h => h) (by rfl) ?_ hHeld ?_; rotate_left; (· (intro wS hSw; (try dsimp only at hSw); go_simp; first | done | with_reducible rfl)); simp only [Act.put, List.setIfInBounds_toArray, List.set_cons_zero, List.set_cons_succ])
    (refine wpAnyH_done (by kernel_rfl) ?_ _)
    replace hb := below_call hb hb1 hb.size
    replace D1 := D1.keep hb1
    replace R1 := R1.keep hb1
    have pc := R1.hd.cell
    clear hHeld hb1
    go_wp2_with (first
      | (go_at_call 62; (with_reducible refine (hnm _ D1).mono ?_); rintro e w2 ⟨A2, c2, rfl, -, hb2⟩; have D2 := D1.keep hb2; have hB2 := below_call hb hb2 hb.size)
      | (go_at_call 63; (with_reducible refine (hus _ D2).mono ?_); rintro e w3 ⟨rfl, hb3⟩; have hB3 := below_call hB2 hb3 hB2.size))
    go_ret
    exact ⟨rfl, hB3⟩
end Go.Proofs.Ytpdfbkkhmfnnjaa
