/- package disk: New, Down, Fuse, total, Used. -/
import Derived.Test.YtpdfbkkhmfnnjaaFlRange
import Derived.Test.YtpdfbkkhmfnnjaaAppC
import Derived.WalkKit
import Derived.WalkSpells
import Derived.WalkLawsBesides
import Derived.Deep.RegionHeld3
import Derived.Deep.DrawnRows
import Derived.Deep.DeepCutAuto
import Derived.Deep.DeepFit
import Derived.Lib.Hide
import Derived.BigQuiet
import Derived.Deep.QuietTactic
import Derived.Deep.RegionHeld3
namespace Go.Proofs.Ytpdfbkkhmfnnjaa
open Go.RowKit
set_option linter.unusedVariables false
set_option linter.unusedSimpArgs false
set_option maxRecDepth 20000
attribute [local go_sem ↓] Go.wp_at_zero Go.wp_at_succ
attribute [local go_sem] World.cell?_alloc_some frozen_alloc_some
open Go.Maps

theorem totD_le {gs : List GF} {d : DkT} (ok : DkOk d) (e : gs.map GF.d = d.l) : totD (gs.map GF.d) ≤ 1073741824 := by
  have h1 := ok.tot
  have h2 := ok.room1
  rw [e]
  omega

set_option maxHeartbeats 1000000 in
theorem dknew_any (room : Int) (w : World) (hr : (Lit.int .i64 room).wf = true) (hr2 : room ≤ 1073741824) : Calls Try.prog 26 #[.int .i64 room] w
    (fun e w' => e = .returned (.pointer (some ⟨w.heap.size + 1, 0, none⟩)) ∧ DiskAt w' (fun k => w.heap.size ≤ k ∧ k < w.heap.size + 2) (w.heap.size + 1) w.heap.size (newD room) ∧ Below w.heap.size w w') := by
  have hmm := @run_makeMap Try.prog
  have ok : DkOk (newD room) := ⟨by simp [newD, totD]; omega, by simp [newD]; omega, by simp [newD]; omega, by simp [newD], by simp [newD], by simp [newD], by simp [newD], by simp [newD], by simp [newD]⟩
  have Ok := Lib.hid ok
  clear ok
  by_cases h0 : 0 ≤ room
  all_goals
    obtain ⟨rm, hrm⟩ : ∃ rm, rm = max room 0 := ⟨_, rfl⟩
    have HR := Lib.hid hrm
    clear hrm
    go_enter Try.func26, Try.ntmps26
    go_wp2_with fail
    go_ret
    have hm := FmAt.made w
    refine ⟨by simp, ⟨⟨[], ⟨?_, hm.keep (below_one _), (fun f hf => by cases hf), List.Pairwise.nil, List.Pairwise.nil, by simp, by simp, fun k hk => by simp; omega, List.Pairwise.nil⟩, rfl⟩, Ok.out⟩, by ((repeat' first | with_reducible exact Below.refl _ _ | with_reducible assumption | with_reducible refine Below.alloc ?_ ?_ _ | with_reducible refine Below.setCell ?_ ?_ _ | with_reducible apply Below.drew | with_reducible apply below_drewN | with_reducible refine below_call ?_ (by with_reducible assumption) ?_) <;> (first | omega | (simp; done) | (simp; omega) | (simp at *; omega)))⟩
  · have e : (newD room).room = room := by simp [newD]; omega
    rw [e]
    exact blk_newAt (by simp)
  · have e : (newD room).room = 0 := by simp [newD]; omega
    rw [e]
    exact blk_newAt (by simp)
set_option maxHeartbeats 1000000 in
theorem dkdown_any (F : Nat → Prop) (g b : Nat) (d : DkT) (w : World) (h : DiskAt w F g b d) : Calls Try.prog 61 #[.pointer (some ⟨g, 0, none⟩)] w (Gives w (.bool d.down)) := by
  obtain ⟨⟨gs, h1, h2⟩, h3⟩ := h
  have pc := h1.hd.cell 3
  clear h1 h2 h3
  go_enter Try.func61, Try.ntmps61
  go_wp2_with fail
  go_ret
  exact ⟨rfl, by ((repeat' first | with_reducible exact Below.refl _ _ | with_reducible assumption | with_reducible refine Below.alloc ?_ ?_ _ | with_reducible refine Below.setCell ?_ ?_ _ | with_reducible apply Below.drew | with_reducible apply below_drewN | with_reducible refine below_call ?_ (by with_reducible assumption) ?_) <;> (first | omega | (simp; done) | (simp; omega) | (simp at *; omega)))⟩
set_option maxHeartbeats 1000000 in
theorem dkfuse_any (F : Nat → Prop) (g b : Nat) (d : DkT) (n : Int) (w : World) (h : DiskAt w F g b d) (hn : (Lit.int .i64 n).wf = true) : Calls Try.prog 52 #[.pointer (some ⟨g, 0, none⟩), .int .i64 n] w (Deeds w F g b (.tuple #[]) (fuseD d n)) := by
  obtain ⟨⟨gs, h1, h2⟩, h3⟩ := h
  have hb := h1.hd
  have pc := hb.cell
  have pf := hb.frozen
  have hle := (wf_i64 hn).2
  have Ok := Lib.hid h3
  have H1 := Lib.hid h1
  have H2 := Lib.hid h2
  have Hle := Lib.hid hle
  clear h1 h2 h3 hle
  have fin : ∀ m : Int, m = max n (-1) → Deeds w F g b (.tuple #[]) (fuseD d n) (.returned (.tuple #[])) (w.setCell ⟨g, 2, none⟩ (.int .i64 m)) := fun m hm => by
    have hle := Hle.out
    refine ⟨rfl, F, ⟨⟨gs, H1.out.head (Turn.setCell hb 2 _) ?_, H2.out⟩, ⟨Ok.out.tot, Ok.out.room0, Ok.out.room1, Ok.out.len, by simp [fuseD]; omega, by simp [fuseD]; omega, Ok.out.sure, Ok.out.nms, Ok.out.asc⟩⟩, fun k hk => .inl hk, (Turn.setCell hb 2 _).mono fun k _ e => by rw [e]; exact H1.out.Fg⟩
    have := hb.set_ 2 (.int .i64 m)
    simp only [List.setIfInBounds_toArray, List.set_cons_succ, List.set_cons_zero] at this
    subst hm
    exact this
  by_cases hc : (-1 : Int) ≤ n
  all_goals
    go_enter Try.func52, Try.ntmps52
    go_wp2_with fail
    go_end0
    exact fin _ (by omega)
set_option maxHeartbeats 2000000 in
theorem dktotal_any (F : Nat → Prop) (g b : Nat) (gs : List GF) (room fuse : Int) (down : Bool) (w : World) (h : DiskG w F g b gs room fuse down) (hs : totD (gs.map GF.d) ≤ 1073741824) :
    Calls Try.prog 78 #[.pointer (some ⟨g, 0, none⟩)] w (Gives w (.int .i64 (totD (gs.map GF.d) : Nat))) := by
  have pc := h.hd.cell 0
  have hm := h.mp
  have H := Lib.hid h
  clear h
  go_enter Try.func78, Try.ntmps78
  go_wp2_with (at_range; refine wpList_range_fl rfl _ rfl _ rfl b (gs.map GF.fl) w.heap.size rfl rfl hm ?_; intro w0 hr0 hb0 hs0)
  go_frame
  clear hm pc hs0
  go_loopw [3] (fun s3 wr => ∃ (l : List FlT) (cc : Nat), s3 = .int .i64 (sumF gs l : Nat) ∧ RangeF wr b w.heap.size (gs.map GF.fl) l cc ∧ Below w.heap.size w wr) (fun _ wr => wr.rangeLeft b w.heap.size)
  case atStart => exact ⟨[], _, rfl, hr0, hb0⟩
  case round =>
    obtain ⟨l, cc, rfl, hr, hb⟩ := hrel
    go_wp2_with (at_next; refine wpList_next_fl rfl _ rfl _ rfl b w.heap.size cc (gs.map GF.fl) l rfl hr ?_ ?_)
    · intro hall
      have hfin := Lib.hid (sumF_perm H.out.asc hall.out)
      go_wp2_with fail
      go_ret
      exact ⟨congrArg (fun n : Nat => Ending.returned (.int .i64 (n : Int))) hfin.out, hb⟩
    · intro s e w1 c1 hm hr1 hlt hg hen
      have hb1 := below_own hb hg (Nat.le_refl _) hb.size
      have Hm := Lib.hid (show w1.rangeLeft b w.heap.size < wr.rangeLeft b w.heap.size by rw [hr1.left_eq, hr.left_eq]; exact hlt.out.1)
      obtain ⟨f, hf, rfl, rfl⟩ := hm.out
      have hfa := H.out.fl f hf
      obtain ⟨A, c, hv, _, _⟩ := hfa.2.1.form
      have hblk := hfa.1.below hb1 (hfa.1.lt)
      have fc := hblk.cell 0
      rw [hv] at fc
      have hle := sumF_le H.out.asc hr1.sub.1 hr1.sub.2
      have hsn := sumF_snoc gs l (f.nm, f.e)
      have hlf : lenF gs (f.nm, f.e) = f.by_.length := by simp only [lenF]; rw [findBy_mem H.out.asc hf]
      rw [hlf] at hsn
      rw [hsn] at hle
      have Hsn := Lib.hid hsn
      clear hm hlt hg hf hfa hv hsn hlf hblk
      go_wp2_with fail
      go_roundw
      case rel => exact ⟨_, c1, by rw [Hsn.out]; go_num, hr1, hb1⟩
      case measure => exact Hm.out
set_option maxHeartbeats 1000000 in
theorem dkused_any (F : Nat → Prop) (g b : Nat) (d : DkT) (w : World) (h : DiskAt w F g b d) : Calls Try.prog 63 #[.pointer (some ⟨g, 0, none⟩)] w (Gives w (.int .i64 (usedD d : Nat))) := by
  obtain ⟨⟨gs, h1, h2⟩, h3⟩ := h
  have pc := h1.hd.cell 3
  have ht := dktotal_any F g b gs _ _ _ w h1 (totD_le h3 h2)
  rw [h2] at ht
  clear h1 h2 h3
  obtain ⟨l, room, fuse, down⟩ := d
  unfold usedD
  cases down
  · go_enter Try.func63, Try.ntmps63
    go_wp2_with (go_at_call 78; (with_reducible refine ht.mono ?_); rintro e w1 ⟨rfl, hb1⟩)
    go_ret
    exact ⟨rfl, hb1⟩
  · go_enter Try.func63, Try.ntmps63
    go_wp2_with fail
    go_ret
    exact ⟨rfl, by ((repeat' first | with_reducible exact Below.refl _ _ | with_reducible assumption | with_reducible refine Below.alloc ?_ ?_ _ | with_reducible refine Below.setCell ?_ ?_ _ | with_reducible apply Below.drew | with_reducible apply below_drewN | with_reducible refine below_call ?_ (by with_reducible assumption) ?_) <;> (first | omega | (simp; done) | (simp; omega) | (simp at *; omega)))⟩
end Go.Proofs.Ytpdfbkkhmfnnjaa
