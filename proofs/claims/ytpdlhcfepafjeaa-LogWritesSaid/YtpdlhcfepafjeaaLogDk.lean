/- log.Add, Flush on a law's disk under way. -/
import Derived.Test.YtpdlhcfepafjeaaLogScan
import Derived.Test.YtpdlhcfepafjeaaDkLS
import Derived.WalkKit
import Derived.WalkSpells
import Derived.WalkLawsBesides
import Derived.Deep.RegionHeld3
import Derived.Deep.DrawnRows
import Derived.Deep.DeepCutAuto
import Derived.Deep.DeepFit
import Derived.Lib.Hide
import Derived.BigQuiet
import Derived.Deep.QuietTactic
import Derived.Deep.RegionHeld3
namespace Go.Proofs.Ytpdlhcfepafjeaa
open Go.RowKit
set_option linter.unusedVariables false
set_option linter.unusedSimpArgs false
set_option maxRecDepth 20000
attribute [local go_sem ↓] Go.wp_at_zero Go.wp_at_succ
attribute [local go_sem] World.cell?_alloc_some frozen_alloc_some
open Go.Sort Go.Lib Go.Shelf Go.Maps

/-- A log: the disk's place and the file's name, in a block of the call's own. -/
structure LogB (W : World) (F : Nat → Prop) (gl g : Nat) (nm : NmT) : Prop where
  bk : Blk W gl 128 #[.pointer (some ⟨g, 0, none⟩), .string ⟨⟨nm⟩⟩]
  out : ¬ F gl
theorem LogB.keep {W W' : World} {F : Nat → Prop} {gl g : Nat} {nm : NmT} (h : LogB W F gl g nm) (hb : Below W.heap.size W W') : LogB W' F gl g nm := ⟨h.bk.keep hb, h.out⟩
theorem LogB.turn {W W' : World} {F F' : Nat → Prop} {gl g : Nat} {nm : NmT} (h : LogB W F gl g nm) (hT : Turn F W W') (hF : ∀ k, F' k → F k ∨ W.heap.size ≤ k) : LogB W' F' gl g nm :=
  ⟨hT.blk h.bk h.out, fun hk => by
    rcases hF _ hk with h1 | h1
    · exact h.out h1
    · have := h.bk.lt; omega⟩
/-- How a deed on the disk ends. -/
abbrev LDone (w W : World) (F : Nat → Prop) (g b : Nat) (v : Value) (d' : DkT) (e : Ending) (w' : World) : Prop := e = .returned v ∧ ∃ F', LS w w' F' g b d' ∧ (∀ k, F' k → F k ∨ W.heap.size ≤ k) ∧ Turn F W w'
theorem LDone.after {w W W1 w' : World} {F : Nat → Prop} {g b : Nat} {v : Value} {d' : DkT} {e : Ending} (h : LDone w W1 F g b v d' e w') (hb : Below W.heap.size W W1) : LDone w W F g b v d' e w' := by
  obtain ⟨h1, F', h2, h3, h4⟩ := h
  exact ⟨h1, F', h2, fun k hk => (h3 k hk).imp id fun h => Nat.le_trans hb.size h, (Turn.of_below (F := F) hb).trans h4 fun i hi => .inl hi⟩

set_option maxHeartbeats 2000000 in
theorem logadd_any {w W : World} {F : Nat → Prop} {g b gl : Nat} {d d' : DkT} {nm : NmT} (L : LS w W F g b d) (hl : LogB W F gl g nm) (hs : wfN nm) (A : Option Addr) (m c : Nat) (p : List Nat) (hp : Safe W F A m p) (hm : m ≤ 1048576) {v : Int} (he : deedD d (fun l => appC d.room l nm (frm p)) = (v, d')) :
    Calls Try.prog 49 #[.pointer (some ⟨gl, 0, none⟩), .slice A m c] W (LDone w W F g b (.int .i64 v) d') := by
  have hfl : (frm p).length ≤ 1073741824 := by
    rw [← show (frm p).length = (frm p).length from rfl, frm]
    have := form_le p.length (by rw [← hp.by_.1]; omega)
    simp only [List.length_append, fourB_length]
    have := hp.by_.1
    omega
  have hf := form_any A m c p W hp.by_ hm
  have Happ := Lib.hid (fun (W1 W2 : World) (A1 : Option Addr) (c1 : Nat) (hb : Below W.heap.size W W1) (ho : OwnB W1 W.heap.size 5 (.slice A1 (frm p).length c1) (frm p)) (hb2 : Below W1.heap.size W1 W2) =>
    ((L.keep hb).keep hb2).append nm A1 (frm p).length c1 (frm p) hs (ho.bytes.2.2.keep hb2) (fun ad e hk => ((L.own ho (Nat.le_refl _)).out ad e hk)) hfl he)
  have Hl := Lib.hid hl
  have Hz := Lib.hid L.hb.size
  clear hl hp L hs he hfl
  generalize frm p = fp at *
  go_enter Try.func49, Try.ntmps49
  go_wp2_with (go_at_call 52; refine hf.mono ?_; rintro e w1 ⟨v1, rfl, hown1, hb1⟩; obtain ⟨A1, c1, rfl, _, _⟩ := hown1.form; have O1 := Lib.hid hown1; clear hown1; have hz1 := hb1.size)
  have hl1 := Hl.out.keep hb1
  have hl2 := hl1.keep (Below.refl _ _).drew
  (refine wp_region_held_drew (S := (S1 gl #[.pointer (some ⟨g, 0, none⟩), .string ⟨⟨nm⟩⟩])) (by kernel_rfl) ?_ (fun hHeld => ?_); (· exact hl2.bk.cell))
  have kd : Below w1.heap.size w1 w1.drew := (Below.refl _ _).drew
  revert hl2 hHeld kd
  generalize World.drew _ = wd
  intro hl2 hHeld kd
  have c0 := hl2.bk.cell 0
  have c1' := hl2.bk.cell 1
  (refine take_op (i := 0) (v := ?_) rfl (by kernel_rfl) (by kernel_rfl) (by kernel_rfl) (fun _ _ _ h => h) (by rfl) ?_ hHeld ?_; rotate_left; (· (intro wS hSw; (try dsimp only at hSw); go_simp; first | done | with_reducible rfl)); simp only [Act.put, List.setIfInBounds_toArray, List.set_cons_zero, List.set_cons_succ]); (refine take_op (i := 1) (v := ?_) rfl (by kernel_rfl) (by kernel_rfl) (by kernel_rfl) (fun _ _ _ h => h) (by rfl) ?_ hHeld ?_; rotate_left; (· (intro wS hSw; (try dsimp only at hSw); go_simp; first | done | with_reducible rfl)); simp only [Act.put, List.setIfInBounds_toArray, List.set_cons_zero, List.set_cons_succ]); (refine take_op (i := 2) (v := ?_) rfl (by kernel_rfl) (by kernel_rfl) (by kernel_rfl) (fun _ _ _ h => h) (by rfl) ?_ hHeld ?_; rotate_left; (· (intro wS hSw; (try dsimp only at hSw); go_simp; first | done | with_reducible rfl)); simp only [Act.put, List.setIfInBounds_toArray, List.set_cons_zero, List.set_cons_succ]); (refine take_op (i := 3) (v := ?_) rfl (by kernel_rfl) (by kernel_rfl) (by kernel_rfl) (fun _ _ _ h => h) (by rfl) ?_ hHeld ?_; rotate_left; (· (intro wS hSw; (try dsimp only at hSw); go_simp; first | done | with_reducible rfl)); simp only [Act.put, List.setIfInBounds_toArray, List.set_cons_zero, List.set_cons_succ]); (refine take_op (i := 4) (v := ?_) rfl (by kernel_rfl) (by kernel_rfl) (by kernel_rfl) (fun _ _ _ h => h) (by rfl) ?_ hHeld ?_; rotate_left; (· (intro wS hSw; (try dsimp only at hSw); go_simp; first | done | with_reducible rfl)); simp only [Act.put, List.setIfInBounds_toArray, List.set_cons_zero, List.set_cons_succ]); (refine take_op (i := 5) (v := ?_) rfl (by kernel_rfl) (by kernel_rfl) (by kernel_rfl) (fun _ _ _ h => h) (by rfl) ?_ hHeld ?_; rotate_left; (· (intro wS hSw; (try dsimp only at hSw); go_simp; first | done | with_reducible rfl)); simp only [Act.put, List.setIfInBounds_toArray, List.set_cons_zero, List.set_cons_succ]); (refine take_op (i := 6) (v := ?_) rfl (by kernel_rfl) (by kernel_rfl) (by kernel_rfl) (fun _ _ _ h => h) (by rfl) ?_ hHeld ?_; rotate_left; (· (intro wS hSw; (try dsimp only at hSw); go_simp; first | done | with_reducible rfl)); simp only [Act.put, List.setIfInBounds_toArray, List.set_cons_zero, List.set_cons_succ]); (refine take_op (i := 7) (v := ?_) rfl (by kernel_rfl) (by kernel_rfl) (by kernel_rfl) (fun _ _ _ h => h) (by rfl) ?_ hHeld ?_; rotate_left; (· (intro wS hSw; (try dsimp only at hSw); go_simp; first | done | with_reducible rfl)); simp only [Act.put, List.setIfInBounds_toArray, List.set_cons_zero, List.set_cons_succ]); (refine take_op (i := 8) (v := ?_) rfl (by kernel_rfl) (by kernel_rfl) (by kernel_rfl) (fun _ _ _ h => h) (by rfl) ?_ hHeld ?_; rotate_left; (· (intro wS hSw; (try dsimp only at hSw); go_simp; first | done | with_reducible rfl)); simp only [Act.put, List.setIfInBounds_toArray, List.set_cons_zero, List.set_cons_succ])
  (refine call_op (i := 9) rfl (by kernel_rfl) (by rfl) (fun K hK => ?_); go_simp; (go_at_call 31; refine (Happ.out _ _ _ _ hb1 O1.out kd).mono ?_; rintro e w3 ⟨rfl, F3, L3, h3, T3⟩); refine hK.out _ _ ((hl2.turn T3 h3).bk.cell) (fun hHeld2 => ?_); clear hK K hHeld; have hHeld := hHeld2; clear hHeld2; (try simp only [Act.put, List.setIfInBounds_toArray, List.set_cons_zero, List.set_cons_succ]))
  (refine take_op (i := 10) (v := ?_) rfl (by kernel_rfl) (by kernel_rfl) (by kernel_rfl) (fun _ _ _ h => h) (by rfl) ?_ hHeld ?_; rotate_left; (· (intro wS hSw; (try dsimp only at hSw); go_simp; first | done | with_reducible rfl)); simp only [Act.put, List.setIfInBounds_toArray, List.set_cons_zero, List.set_cons_succ])
  (refine wpAnyH_done (by kernel_rfl) ?_ _)
  have hw : Below W.heap.size W wd := hb1.trans (kd.mono hz1)
  have Hfin := Lib.hid (LDone.after (v := .int .i64 v) ⟨rfl, F3, L3, h3, T3⟩ hw)
  clear hHeld L3 h3 T3
  go_wp2_with fail
  go_ret
  exact Hfin.out

set_option maxHeartbeats 2000000 in
theorem logflush_any {w W : World} {F : Nat → Prop} {g b gl : Nat} {d d' : DkT} {nm : NmT} (L : LS w W F g b d) (hl : LogB W F gl g nm) (hs : wfN nm) {v : Int} (he : deedD d (fun l => syncC l nm) = (v, d')) :
    Calls Try.prog 50 #[.pointer (some ⟨gl, 0, none⟩)] W (LDone w W F g b (.int .i64 (if v = 8 then 0 else v)) d') := by
  have Happ := Lib.hid (fun (W2 : World) (hb2 : Below W.heap.size W W2) => (L.keep hb2).sync nm hs he)
  have Hl := Lib.hid hl
  clear hl L hs he
  obtain ⟨R, hR⟩ : ∃ R : Int, (if v = 8 then 0 else v) = R := ⟨_, rfl⟩
  rw [hR]
  have HR := Lib.hid hR
  clear hR
  go_enter Try.func50, Try.ntmps50
  go_upto_region 1 with fail
  have hl2 := Hl.out.keep (Below.refl _ _).drew
  (refine wp_region_held_drew (S := (S1 gl #[.pointer (some ⟨g, 0, none⟩), .string ⟨⟨nm⟩⟩])) (by kernel_rfl) ?_ (fun hHeld => ?_); (· exact hl2.bk.cell))
  have kd : Below W.heap.size W W.drew := (Below.refl _ _).drew
  revert hl2 hHeld kd
  generalize World.drew _ = wd
  intro hl2 hHeld kd
  have c0 := hl2.bk.cell 0
  have c1' := hl2.bk.cell 1
  (refine take_op (i := 0) (v := ?_) rfl (by kernel_rfl) (by kernel_rfl) (by kernel_rfl) (fun _ _ _ h => h) (by rfl) ?_ hHeld ?_; rotate_left; (· (intro wS hSw; (try dsimp only at hSw); go_simp; first | done | with_reducible rfl)); simp only [Act.put, List.setIfInBounds_toArray, List.set_cons_zero, List.set_cons_succ]); (refine take_op (i := 1) (v := ?_) rfl (by kernel_rfl) (by kernel_rfl) (by kernel_rfl) (fun _ _ _ h => h) (by rfl) ?_ hHeld ?_; rotate_left; (· (intro wS hSw; (try dsimp only at hSw); go_simp; first | done | with_reducible rfl)); simp only [Act.put, List.setIfInBounds_toArray, List.set_cons_zero, List.set_cons_succ]); (refine take_op (i := 2) (v := ?_) rfl (by kernel_rfl) (by kernel_rfl) (by kernel_rfl) (fun _ _ _ h => h) (by rfl) ?_ hHeld ?_; rotate_left; (· (intro wS hSw; (try dsimp only at hSw); go_simp; first | done | with_reducible rfl)); simp only [Act.put, List.setIfInBounds_toArray, List.set_cons_zero, List.set_cons_succ]); (refine take_op (i := 3) (v := ?_) rfl (by kernel_rfl) (by kernel_rfl) (by kernel_rfl) (fun _ _ _ h => h) (by rfl) ?_ hHeld ?_; rotate_left; (· (intro wS hSw; (try dsimp only at hSw); go_simp; first | done | with_reducible rfl)); simp only [Act.put, List.setIfInBounds_toArray, List.set_cons_zero, List.set_cons_succ]); (refine take_op (i := 4) (v := ?_) rfl (by kernel_rfl) (by kernel_rfl) (by kernel_rfl) (fun _ _ _ h => h) (by rfl) ?_ hHeld ?_; rotate_left; (· (intro wS hSw; (try dsimp only at hSw); go_simp; first | done | with_reducible rfl)); simp only [Act.put, List.setIfInBounds_toArray, List.set_cons_zero, List.set_cons_succ]); (refine take_op (i := 5) (v := ?_) rfl (by kernel_rfl) (by kernel_rfl) (by kernel_rfl) (fun _ _ _ h => h) (by rfl) ?_ hHeld ?_; rotate_left; (· (intro wS hSw; (try dsimp only at hSw); go_simp; first | done | with_reducible rfl)); simp only [Act.put, List.setIfInBounds_toArray, List.set_cons_zero, List.set_cons_succ]); (refine take_op (i := 6) (v := ?_) rfl (by kernel_rfl) (by kernel_rfl) (by kernel_rfl) (fun _ _ _ h => h) (by rfl) ?_ hHeld ?_; rotate_left; (· (intro wS hSw; (try dsimp only at hSw); go_simp; first | done | with_reducible rfl)); simp only [Act.put, List.setIfInBounds_toArray, List.set_cons_zero, List.set_cons_succ]); (refine take_op (i := 7) (v := ?_) rfl (by kernel_rfl) (by kernel_rfl) (by kernel_rfl) (fun _ _ _ h => h) (by rfl) ?_ hHeld ?_; rotate_left; (· (intro wS hSw; (try dsimp only at hSw); go_simp; first | done | with_reducible rfl)); simp only [Act.put, List.setIfInBounds_toArray, List.set_cons_zero, List.set_cons_succ])
  (refine call_op (i := 8) rfl (by kernel_rfl) (by rfl) (fun K hK => ?_); go_simp; (go_at_call 32; refine (Happ.out _ kd).mono ?_; rintro e w3 ⟨rfl, F3, L3, h3, T3⟩); refine hK.out _ _ ((hl2.turn T3 h3).bk.cell) (fun hHeld2 => ?_); clear hK K hHeld; have hHeld := hHeld2; clear hHeld2; (try simp only [Act.put, List.setIfInBounds_toArray, List.set_cons_zero, List.set_cons_succ]))
  (refine take_op (i := 9) (v := ?_) rfl (by kernel_rfl) (by kernel_rfl) (by kernel_rfl) (fun _ _ _ h => h) (by rfl) ?_ hHeld ?_; rotate_left; (· (intro wS hSw; (try dsimp only at hSw); go_simp; first | done | with_reducible rfl)); simp only [Act.put, List.setIfInBounds_toArray, List.set_cons_zero, List.set_cons_succ])
  (refine wpAnyH_done (by kernel_rfl) ?_ _)
  have Hfin := Lib.hid (fun v' => LDone.after (v := .int .i64 v') ⟨rfl, F3, L3, h3, T3⟩ kd)
  clear hHeld L3 h3 T3
  by_cases h8 : v = 8
  · have hv8 : (v != 8) = false := by simp [h8]
    obtain rfl : R = 0 := by rw [← HR.out, if_pos h8]
    subst h8
    go_wp2_with fail
    go_ret
    exact Hfin.out 0
  · have hv8 : (v != 8) = true := by simp [h8]
    obtain rfl : R = v := by rw [← HR.out, if_neg h8]
    go_wp2_with fail
    go_ret
    exact Hfin.out _
end Go.Proofs.Ytpdlhcfepafjeaa
