/- disk.deed: a deed is done, if the power stays. -/
import Derived.Test.YtpdfbkkhmfnnjaaDiskF
import Derived.WalkKit
import Derived.WalkSpells
import Derived.WalkLawsBesides
import Derived.Deep.RegionHeld3
import Derived.Deep.DrawnRows
import Derived.Deep.DeepCutAuto
import Derived.Deep.DeepFit
import Derived.Lib.Hide
import Derived.BigQuiet
import Derived.Deep.QuietTactic
import Derived.Deep.RegionHeld3
import Derived.Shelf.Abstract
namespace Go.Proofs.Ytpdfbkkhmfnnjaa
open Go.RowKit
set_option linter.unusedVariables false
set_option linter.unusedSimpArgs false
set_option maxRecDepth 20000
attribute [local go_sem ↓] Go.wp_at_zero Go.wp_at_succ
attribute [local go_sem] World.cell?_alloc_some frozen_alloc_some
open Go.Maps

theorem DiskAt.headF {w w' : World} {F : Nat → Prop} {g b : Nat} {d : DkT} (h : DiskAt w F g b d) (k : Turn (fun i => i = g) w w') (d' : DkT) (h1 : d'.l = d.l) (h2 : d'.room = d.room) (hf : -1 ≤ d'.fuse ∧ d'.fuse ≤ 9223372036854775807)
    (hd : ∀ room fuse down b', Blk w g 95 #[.map (some b'), .int .i64 room, .int .i64 fuse, .bool down] → Blk w' g 95 #[.map (some b'), .int .i64 room, .int .i64 d'.fuse, .bool d'.down]) : DiskAt w' F g b d' := by
  obtain ⟨⟨gs, g1, g2⟩, ok⟩ := h
  refine ⟨⟨gs, ?_, g2.trans h1.symm⟩, ⟨by rw [h1, h2]; exact ok.tot, by rw [h2]; exact ok.room0, by rw [h2]; exact ok.room1, by rw [h1]; exact ok.len, hf.1, hf.2, by rw [h1]; exact ok.sure, by rw [h1]; exact ok.nms, by rw [h1]; exact ok.asc⟩⟩
  rw [h2]
  exact g1.head k (hd _ _ _ _ g1.hd)
theorem DiskAt.own {w : World} {F : Nat → Prop} {g b : Nat} {d : DkT} (h : DiskAt w F g b d) : F g ∧ F b := by
  obtain ⟨⟨gs, g1, g2⟩, ok⟩ := h
  exact ⟨g1.Fg, g1.Fb⟩
theorem DiskAt.head {w : World} {F : Nat → Prop} {g b : Nat} {d : DkT} (h : DiskAt w F g b d) : Blk w g 95 #[.map (some b), .int .i64 d.room, .int .i64 d.fuse, .bool d.down] := by
  obtain ⟨⟨gs, g1, g2⟩, ok⟩ := h
  exact g1.hd
theorem Deeds.after {w w' w2 : World} {F : Nat → Prop} {g b : Nat} {v : Value} {d : DkT} {e : Ending} (h : Deeds w' F g b v d e w2) (k : Turn F w w') : Deeds w F g b v d e w2 := by
  obtain ⟨h1, F', h2, h3, h4⟩ := h
  exact ⟨h1, F', h2, fun i hi => (h3 i hi).imp id fun h => Nat.le_trans k.size h, k.trans h4 fun i hi => .inl hi⟩
set_option maxHeartbeats 2000000 in
theorem deed_any (k : Nat) (caps : Array Value) (hent : ∀ args W, (callFunc k args).run Try.prog W = .ok (.enter k args) W) (F : Nat → Prop) (g b : Nat) (d : DkT) (act : List DF → Int × List DF) (w : World) (h : DiskAt w F g b d)
    (hk : ∀ (W : World) (fu : Int), DiskAt W F g b { d with fuse := fu } → Turn F w W → Calls Try.prog k caps W (Deeds W F g b (.int .i64 (act d.l).1) { d with l := (act d.l).2, fuse := fu })) :
    Calls Try.prog 75 #[.pointer (some ⟨g, 0, none⟩), .func (.func k) #[] caps] w (Deeds w F g b (.int .i64 (deedD d act).1) (deedD d act).2) := by
  have hb := h.head
  have pc := hb.cell
  have pf := hb.frozen
  have H := Lib.hid h
  obtain ⟨l, room, fuse, down⟩ := d
  have hf0 : -1 ≤ fuse := h.2.fuse0
  have hf1 : fuse ≤ 9223372036854775807 := h.2.fuse1
  have own := h.own
  clear h
  simp only at hk pc
  have HK := Lib.hid hk
  clear hk
  have fail : deedD ⟨l, room, fuse, down⟩ act = (15, ⟨l, room, fuse, true⟩) → Deeds w F g b (.int .i64 15) ⟨l, room, fuse, true⟩ (.returned (.int .i64 15)) (w.setCell ⟨g, 3, none⟩ (.bool true)) := fun _ => by
    refine ⟨rfl, F, H.out.headF (Turn.setCell hb 3 _) _ rfl rfl ⟨hf0, hf1⟩ fun r f' dn b' hb' => ?_, fun i hi => .inl hi, (Turn.setCell hb 3 _).mono fun i _ e => by rw [e]; exact own.1⟩
    have hh := hb'.set_ 3 (.bool true)
    have e1 := hb'.cell 2
    rw [hb.cell 2] at e1
    simp at e1
    subst e1
    simpa using hh
  cases down
  · by_cases h0 : fuse = 0
    · subst h0
      have e : deedD ⟨l, room, 0, false⟩ act = (15, ⟨l, room, 0, true⟩) := by simp [deedD]
      have hfin := Lib.hid (fail e)
      rw [e]
      clear fail e
      go_enter Try.func75, Try.ntmps75
      go_wp2_with fail
      go_ret
      exact hfin.out
    · by_cases hp : 0 < fuse
      · have e : deedD ⟨l, room, fuse, false⟩ act = ((act l).1, ⟨(act l).2, room, fuse - 1, false⟩) := by simp [deedD, h0, hp]
        rw [e]
        have kt := Turn.setCell hb 2 (.int .i64 (fuse - 1))
        have D2 : DiskAt (w.setCell ⟨g, 2, none⟩ (.int .i64 (fuse - 1))) F g b ⟨l, room, fuse - 1, false⟩ := H.out.headF kt _ rfl rfl ⟨by simp only; omega, by simp only; omega⟩ fun r f' dn b' hb' => by
          have hh := hb'.set_ 2 (.int .i64 (fuse - 1))
          have e1 := hb'.cell 3
          rw [hb.cell 3] at e1
          simp at e1
          subst e1
          simpa using hh
        have kt2 : Turn F w (w.setCell ⟨g, 2, none⟩ (.int .i64 (fuse - 1))) := kt.mono fun i _ e => by rw [e]; exact own.1
        have hcall := HK.out _ (fuse - 1) D2 kt2
        clear fail e kt D2
        generalize hv : (act l).1 = vv at *
        generalize (act l).2 = ll at *
        have KT := Lib.hid kt2
        clear kt2 hv H
        go_enter Try.func75, Try.ntmps75
        go_wp2_with (go_at_fn k; (with_reducible refine hcall.mono ?_); rintro e w1 hde; have Hd := Lib.hid (Deeds.after hde KT.out); obtain rfl := hde.1; clear hde)
        go_ret
        exact Hd.out
      · have e : deedD ⟨l, room, fuse, false⟩ act = ((act l).1, ⟨(act l).2, room, fuse, false⟩) := by simp [deedD, h0, hp]
        rw [e]
        have hcall := HK.out _ fuse H.out (Turn.refl F w)
        clear fail e
        generalize hv : (act l).1 = vv at *
        generalize (act l).2 = ll at *
        clear hv H
        go_enter Try.func75, Try.ntmps75
        go_wp2_with (go_at_fn k; (with_reducible refine hcall.mono ?_); rintro e w1 hde; have Hd := Lib.hid hde; obtain rfl := hde.1; clear hde)
        go_ret
        exact Hd.out
  · have e : deedD ⟨l, room, fuse, true⟩ act = (15, ⟨l, room, fuse, true⟩) := by simp [deedD]
    have hfin := Lib.hid (fail e)
    rw [e]
    clear fail e
    go_enter Try.func75, Try.ntmps75
    go_wp2_with fail
    go_ret
    exact hfin.out
end Go.Proofs.Ytpdfbkkhmfnnjaa
