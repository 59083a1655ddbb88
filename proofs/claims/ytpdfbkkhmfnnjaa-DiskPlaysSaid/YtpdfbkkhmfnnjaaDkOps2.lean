/- disk.Sync, Cut, Remove, Move. -/
import Derived.Test.YtpdfbkkhmfnnjaaDkMove
import Derived.WalkKit
import Derived.WalkSpells
import Derived.WalkLawsBesides
import Derived.Deep.RegionHeld3
import Derived.Deep.DrawnRows
import Derived.Deep.DeepCutAuto
import Derived.Deep.DeepFit
import Derived.Lib.Hide
import Derived.BigQuiet
import Derived.Deep.QuietTactic
import Derived.Deep.RegionHeld3
namespace Go.Proofs.Ytpdfbkkhmfnnjaa
open Go.RowKit
set_option linter.unusedVariables false
set_option linter.unusedSimpArgs false
set_option maxRecDepth 20000
attribute [local go_sem ↓] Go.wp_at_zero Go.wp_at_succ
attribute [local go_sem] World.cell?_alloc_some frozen_alloc_some
open Go.Maps

set_option maxHeartbeats 2000000 in
theorem dksync_any (F : Nat → Prop) (g b : Nat) (d : DkT) (s : NmT) (w : World) (h : DiskAt w F g b d) (hs : wfN s) :
    Calls Try.prog 47 #[.pointer (some ⟨g, 0, none⟩), sV s] w (Deeds w F g b (.int .i64 (deedD d (fun l => syncC l s)).1) (deedD d (fun l => syncC l s)).2) := by
  have hmf : ∀ (fn : Fn) (first cap : Array Value) (w : World), (Instr.makeFunc fn first cap).run Try.prog w = .ok (.func fn first cap) w := fun _ _ _ _ => rfl
  have hb : Below w.heap.size w ((w.alloc (.cells #[.pointer (some ⟨g, 0, none⟩)] 56)).alloc (.cells #[sV s] 9)) := by ((repeat' first | with_reducible exact Below.refl _ _ | with_reducible assumption | with_reducible refine Below.alloc ?_ ?_ _ | with_reducible refine Below.setCell ?_ ?_ _ | with_reducible apply Below.drew | with_reducible apply below_drewN | with_reducible refine below_call ?_ (by with_reducible assumption) ?_) <;> (first | omega | (simp; done) | (simp; omega) | (simp at *; omega)))
  have B1 : Blk ((w.alloc (.cells #[.pointer (some ⟨g, 0, none⟩)] 56)).alloc (.cells #[sV s] 9)) (w.heap.size) 56 #[.pointer (some ⟨g, 0, none⟩)] := (Blk.new _ _ _).alloc _
  have B2 : Blk ((w.alloc (.cells #[.pointer (some ⟨g, 0, none⟩)] 56)).alloc (.cells #[sV s] 9)) (w.heap.size + 1) 9 #[sV s] := blk_newAt (by simp)
  have hcall : Calls Try.prog 75 #[.pointer (some ⟨g, 0, none⟩), .func (.func 79) #[] #[.pointer (some ⟨w.heap.size, 0, none⟩), .pointer (some ⟨w.heap.size + 1, 0, none⟩)]] ((w.alloc (.cells #[.pointer (some ⟨g, 0, none⟩)] 56)).alloc (.cells #[sV s] 9))
      (Deeds w F g b (.int .i64 (deedD d (fun l => syncC l s)).1) (deedD d (fun l => syncC l s)).2) :=
    (deed_any 79 _ (enters_of Try.func79 (by kernel_rfl) rfl) F g b d (fun l => syncC l s) _ (h.keep hb) fun W fu hD kt =>
      sync1_any F g b _ _ { d with fuse := fu } s W hD (kt.blk B1 (h.notF (by omega))) (kt.blk B2 (h.notF (by omega))) hs).mono fun e w' hd => hd.after (Turn.of_below hb)
  have b1 := B1.cell
  obtain ⟨v, hv⟩ : ∃ v, (deedD d (fun l => syncC l s)).1 = v := ⟨_, rfl⟩
  rw [hv] at hcall ⊢
  clear hb B1 B2 h hv hs
  go_enter Try.func47, Try.ntmps47
  go_wp2_with (go_at_call 75; (with_reducible refine hcall.mono ?_); rintro e w1 hde; have Hd := Lib.hid hde; obtain rfl := hde.1; clear hde)
  go_ret
  exact Hd.out
set_option maxHeartbeats 2000000 in
theorem dkremove_any (F : Nat → Prop) (g b : Nat) (d : DkT) (s : NmT) (w : World) (h : DiskAt w F g b d) (hs : wfN s) :
    Calls Try.prog 51 #[.pointer (some ⟨g, 0, none⟩), sV s] w (Deeds w F g b (.int .i64 (deedD d (fun l => remC l s)).1) (deedD d (fun l => remC l s)).2) := by
  have hmf : ∀ (fn : Fn) (first cap : Array Value) (w : World), (Instr.makeFunc fn first cap).run Try.prog w = .ok (.func fn first cap) w := fun _ _ _ _ => rfl
  have hb : Below w.heap.size w ((w.alloc (.cells #[.pointer (some ⟨g, 0, none⟩)] 56)).alloc (.cells #[sV s] 9)) := by ((repeat' first | with_reducible exact Below.refl _ _ | with_reducible assumption | with_reducible refine Below.alloc ?_ ?_ _ | with_reducible refine Below.setCell ?_ ?_ _ | with_reducible apply Below.drew | with_reducible apply below_drewN | with_reducible refine below_call ?_ (by with_reducible assumption) ?_) <;> (first | omega | (simp; done) | (simp; omega) | (simp at *; omega)))
  have B1 : Blk ((w.alloc (.cells #[.pointer (some ⟨g, 0, none⟩)] 56)).alloc (.cells #[sV s] 9)) (w.heap.size) 56 #[.pointer (some ⟨g, 0, none⟩)] := (Blk.new _ _ _).alloc _
  have B2 : Blk ((w.alloc (.cells #[.pointer (some ⟨g, 0, none⟩)] 56)).alloc (.cells #[sV s] 9)) (w.heap.size + 1) 9 #[sV s] := blk_newAt (by simp)
  have hcall : Calls Try.prog 75 #[.pointer (some ⟨g, 0, none⟩), .func (.func 84) #[] #[.pointer (some ⟨w.heap.size, 0, none⟩), .pointer (some ⟨w.heap.size + 1, 0, none⟩)]] ((w.alloc (.cells #[.pointer (some ⟨g, 0, none⟩)] 56)).alloc (.cells #[sV s] 9))
      (Deeds w F g b (.int .i64 (deedD d (fun l => remC l s)).1) (deedD d (fun l => remC l s)).2) :=
    (deed_any 84 _ (enters_of Try.func84 (by kernel_rfl) rfl) F g b d (fun l => remC l s) _ (h.keep hb) fun W fu hD kt =>
      remove1_any F g b _ _ { d with fuse := fu } s W hD (kt.blk B1 (h.notF (by omega))) (kt.blk B2 (h.notF (by omega))) hs).mono fun e w' hd => hd.after (Turn.of_below hb)
  have b1 := B1.cell
  obtain ⟨v, hv⟩ : ∃ v, (deedD d (fun l => remC l s)).1 = v := ⟨_, rfl⟩
  rw [hv] at hcall ⊢
  clear hb B1 B2 h hv hs
  go_enter Try.func51, Try.ntmps51
  go_wp2_with (go_at_call 75; (with_reducible refine hcall.mono ?_); rintro e w1 hde; have Hd := Lib.hid hde; obtain rfl := hde.1; clear hde)
  go_ret
  exact Hd.out
set_option maxHeartbeats 2000000 in
theorem dkcut_any (F : Nat → Prop) (g b : Nat) (d : DkT) (s : NmT) (n : Int) (w : World) (h : DiskAt w F g b d) (hs : wfN s) (hwn : (Lit.int .i64 n).wf = true) :
    Calls Try.prog 53 #[.pointer (some ⟨g, 0, none⟩), sV s, .int .i64 n] w (Deeds w F g b (.int .i64 (deedD d (fun l => cutC l s n)).1) (deedD d (fun l => cutC l s n)).2) := by
  have hmf : ∀ (fn : Fn) (first cap : Array Value) (w : World), (Instr.makeFunc fn first cap).run Try.prog w = .ok (.func fn first cap) w := fun _ _ _ _ => rfl
  have hb : Below w.heap.size w (((w.alloc (.cells #[.pointer (some ⟨g, 0, none⟩)] 56)).alloc (.cells #[sV s] 9)).alloc (.cells #[.int .i64 n] 3)) := by ((repeat' first | with_reducible exact Below.refl _ _ | with_reducible assumption | with_reducible refine Below.alloc ?_ ?_ _ | with_reducible refine Below.setCell ?_ ?_ _ | with_reducible apply Below.drew | with_reducible apply below_drewN | with_reducible refine below_call ?_ (by with_reducible assumption) ?_) <;> (first | omega | (simp; done) | (simp; omega) | (simp at *; omega)))
  have B1 : Blk (((w.alloc (.cells #[.pointer (some ⟨g, 0, none⟩)] 56)).alloc (.cells #[sV s] 9)).alloc (.cells #[.int .i64 n] 3)) (w.heap.size) 56 #[.pointer (some ⟨g, 0, none⟩)] := ((Blk.new _ _ _).alloc _).alloc _
  have B2 : Blk (((w.alloc (.cells #[.pointer (some ⟨g, 0, none⟩)] 56)).alloc (.cells #[sV s] 9)).alloc (.cells #[.int .i64 n] 3)) (w.heap.size + 1) 9 #[sV s] := (blk_newAt (by simp)).alloc _
  have B3 : Blk (((w.alloc (.cells #[.pointer (some ⟨g, 0, none⟩)] 56)).alloc (.cells #[sV s] 9)).alloc (.cells #[.int .i64 n] 3)) (w.heap.size + 1 + 1) 3 #[.int .i64 n] := blk_newAt (by simp)
  have hcall : Calls Try.prog 75 #[.pointer (some ⟨g, 0, none⟩), .func (.func 85) #[] #[.pointer (some ⟨w.heap.size, 0, none⟩), .pointer (some ⟨w.heap.size + 1, 0, none⟩), .pointer (some ⟨w.heap.size + 1 + 1, 0, none⟩)]] (((w.alloc (.cells #[.pointer (some ⟨g, 0, none⟩)] 56)).alloc (.cells #[sV s] 9)).alloc (.cells #[.int .i64 n] 3))
      (Deeds w F g b (.int .i64 (deedD d (fun l => cutC l s n)).1) (deedD d (fun l => cutC l s n)).2) :=
    (deed_any 85 _ (enters_of Try.func85 (by kernel_rfl) rfl) F g b d (fun l => cutC l s n) _ (h.keep hb) fun W fu hD kt =>
      cut1_any F g b _ _ _ { d with fuse := fu } s n W hD (kt.blk B1 (h.notF (by omega))) (kt.blk B2 (h.notF (by omega))) (kt.blk B3 (h.notF (by omega))) hs hwn).mono fun e w' hd => hd.after (Turn.of_below hb)
  have b1 := B1.cell
  obtain ⟨v, hv⟩ : ∃ v, (deedD d (fun l => cutC l s n)).1 = v := ⟨_, rfl⟩
  rw [hv] at hcall ⊢
  clear hb B1 B2 B3 h hv hs
  go_enter Try.func53, Try.ntmps53
  go_wp2_with (go_at_call 75; (with_reducible refine hcall.mono ?_); rintro e w1 hde; have Hd := Lib.hid hde; obtain rfl := hde.1; clear hde)
  go_ret
  exact Hd.out
set_option maxHeartbeats 2000000 in
theorem dkmove_any (F : Nat → Prop) (g b : Nat) (d : DkT) (s : NmT) (t : NmT) (w : World) (h : DiskAt w F g b d) (hs : wfN s) (ht : wfN t) :
    Calls Try.prog 50 #[.pointer (some ⟨g, 0, none⟩), sV s, sV t] w (Deeds w F g b (.int .i64 (deedD d (fun l => moveC l s t)).1) (deedD d (fun l => moveC l s t)).2) := by
  have hmf : ∀ (fn : Fn) (first cap : Array Value) (w : World), (Instr.makeFunc fn first cap).run Try.prog w = .ok (.func fn first cap) w := fun _ _ _ _ => rfl
  have hb : Below w.heap.size w (((w.alloc (.cells #[.pointer (some ⟨g, 0, none⟩)] 56)).alloc (.cells #[sV s] 9)).alloc (.cells #[sV t] 9)) := by ((repeat' first | with_reducible exact Below.refl _ _ | with_reducible assumption | with_reducible refine Below.alloc ?_ ?_ _ | with_reducible refine Below.setCell ?_ ?_ _ | with_reducible apply Below.drew | with_reducible apply below_drewN | with_reducible refine below_call ?_ (by with_reducible assumption) ?_) <;> (first | omega | (simp; done) | (simp; omega) | (simp at *; omega)))
  have B1 : Blk (((w.alloc (.cells #[.pointer (some ⟨g, 0, none⟩)] 56)).alloc (.cells #[sV s] 9)).alloc (.cells #[sV t] 9)) (w.heap.size) 56 #[.pointer (some ⟨g, 0, none⟩)] := ((Blk.new _ _ _).alloc _).alloc _
  have B2 : Blk (((w.alloc (.cells #[.pointer (some ⟨g, 0, none⟩)] 56)).alloc (.cells #[sV s] 9)).alloc (.cells #[sV t] 9)) (w.heap.size + 1) 9 #[sV s] := (blk_newAt (by simp)).alloc _
  have B3 : Blk (((w.alloc (.cells #[.pointer (some ⟨g, 0, none⟩)] 56)).alloc (.cells #[sV s] 9)).alloc (.cells #[sV t] 9)) (w.heap.size + 1 + 1) 9 #[sV t] := blk_newAt (by simp)
  have hcall : Calls Try.prog 75 #[.pointer (some ⟨g, 0, none⟩), .func (.func 83) #[] #[.pointer (some ⟨w.heap.size, 0, none⟩), .pointer (some ⟨w.heap.size + 1, 0, none⟩), .pointer (some ⟨w.heap.size + 1 + 1, 0, none⟩)]] (((w.alloc (.cells #[.pointer (some ⟨g, 0, none⟩)] 56)).alloc (.cells #[sV s] 9)).alloc (.cells #[sV t] 9))
      (Deeds w F g b (.int .i64 (deedD d (fun l => moveC l s t)).1) (deedD d (fun l => moveC l s t)).2) :=
    (deed_any 83 _ (enters_of Try.func83 (by kernel_rfl) rfl) F g b d (fun l => moveC l s t) _ (h.keep hb) fun W fu hD kt =>
      move1_any F g b _ _ _ { d with fuse := fu } s t W hD (kt.blk B1 (h.notF (by omega))) (kt.blk B2 (h.notF (by omega))) (kt.blk B3 (h.notF (by omega))) hs ht).mono fun e w' hd => hd.after (Turn.of_below hb)
  have b1 := B1.cell
  obtain ⟨v, hv⟩ : ∃ v, (deedD d (fun l => moveC l s t)).1 = v := ⟨_, rfl⟩
  rw [hv] at hcall ⊢
  clear hb B1 B2 B3 h hv hs
  go_enter Try.func50, Try.ntmps50
  go_wp2_with (go_at_call 75; (with_reducible refine hcall.mono ?_); rintro e w1 hde; have Hd := Lib.hid hde; obtain rfl := hde.1; clear hde)
  go_ret
  exact Hd.out
end Go.Proofs.Ytpdfbkkhmfnnjaa
