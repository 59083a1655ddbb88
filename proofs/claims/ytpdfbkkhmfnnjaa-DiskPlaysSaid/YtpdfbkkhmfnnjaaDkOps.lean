/- disk.Append. -/
import Derived.Test.YtpdfbkkhmfnnjaaDkApp
import Derived.WalkKit
import Derived.WalkSpells
import Derived.WalkLawsBesides
import Derived.Deep.RegionHeld3
import Derived.Deep.DrawnRows
import Derived.Deep.DeepCutAuto
import Derived.Deep.DeepFit
import Derived.Lib.Hide
import Derived.BigQuiet
import Derived.Deep.QuietTactic
import Derived.Deep.RegionHeld3
namespace Go.Proofs.Ytpdfbkkhmfnnjaa
open Go.RowKit
set_option linter.unusedVariables false
set_option linter.unusedSimpArgs false
set_option maxRecDepth 20000
attribute [local go_sem ↓] Go.wp_at_zero Go.wp_at_succ
attribute [local go_sem] World.cell?_alloc_some frozen_alloc_some
open Go.Maps

theorem DiskAt.notF {w : World} {F : Nat → Prop} {g b : Nat} {d : DkT} (h : DiskAt w F g b d) {k : Nat} (hk : w.heap.size ≤ k) : ¬ F k := fun e => by have := h.lt k e; omega
set_option maxHeartbeats 2000000 in
theorem dkappend_any (F : Nat → Prop) (g b : Nat) (d : DkT) (s : NmT) (A : Option Addr) (m c : Nat) (p : List Nat) (w : World) (h : DiskAt w F g b d) (hs : wfN s) (hp : Bytes w A m p) (hpF : ∀ ad, A = some ad → 0 < m → ¬ F ad.block) (hpl : p.length ≤ 1073741824) :
    Calls Try.prog 46 #[.pointer (some ⟨g, 0, none⟩), sV s, .slice A m c] w (Deeds w F g b (.int .i64 (deedD d (fun l => appC d.room l s p)).1) (deedD d (fun l => appC d.room l s p)).2) := by
  have hmf : ∀ (fn : Fn) (first cap : Array Value) (w : World), (Instr.makeFunc fn first cap).run Try.prog w = .ok (.func fn first cap) w := fun _ _ _ _ => rfl
  have hb : Below w.heap.size w (((w.alloc (.cells #[.pointer (some ⟨g, 0, none⟩)] 56)).alloc (.cells #[sV s] 9)).alloc (.cells #[.slice A m c] 60)) := by ((repeat' first | with_reducible exact Below.refl _ _ | with_reducible assumption | with_reducible refine Below.alloc ?_ ?_ _ | with_reducible refine Below.setCell ?_ ?_ _ | with_reducible apply Below.drew | with_reducible apply below_drewN | with_reducible refine below_call ?_ (by with_reducible assumption) ?_) <;> (first | omega | (simp; done) | (simp; omega) | (simp at *; omega)))
  have B1 : Blk (((w.alloc (.cells #[.pointer (some ⟨g, 0, none⟩)] 56)).alloc (.cells #[sV s] 9)).alloc (.cells #[.slice A m c] 60)) w.heap.size 56 #[.pointer (some ⟨g, 0, none⟩)] := ((Blk.new _ _ _).alloc _).alloc _
  have B2 : Blk (((w.alloc (.cells #[.pointer (some ⟨g, 0, none⟩)] 56)).alloc (.cells #[sV s] 9)).alloc (.cells #[.slice A m c] 60)) (w.heap.size + 1) 9 #[sV s] := (blk_newAt (by simp)).alloc _
  have B3 : Blk (((w.alloc (.cells #[.pointer (some ⟨g, 0, none⟩)] 56)).alloc (.cells #[sV s] 9)).alloc (.cells #[.slice A m c] 60)) (w.heap.size + 1 + 1) 60 #[.slice A m c] := blk_newAt (by simp)
  have hcall : Calls Try.prog 75 #[.pointer (some ⟨g, 0, none⟩), .func (.func 76) #[] #[.pointer (some ⟨w.heap.size, 0, none⟩), .pointer (some ⟨w.heap.size + 1, 0, none⟩), .pointer (some ⟨w.heap.size + 1 + 1, 0, none⟩)]]
      (((w.alloc (.cells #[.pointer (some ⟨g, 0, none⟩)] 56)).alloc (.cells #[sV s] 9)).alloc (.cells #[.slice A m c] 60))
      (Deeds w F g b (.int .i64 (deedD d (fun l => appC d.room l s p)).1) (deedD d (fun l => appC d.room l s p)).2) :=
    (deed_any 76 _ (enters_of Try.func76 (by kernel_rfl) rfl) F g b d (fun l => appC d.room l s p) _ (h.keep hb) fun W fu hD kt =>
      append1_any F g b _ _ _ { d with fuse := fu } s A m c p W hD (kt.blk B1 (h.notF (by omega))) (kt.blk B2 (h.notF (by omega))) (kt.blk B3 (h.notF (by omega))) (kt.bytes (hp.keep hb) hpF) hs hpl).mono fun e w' hd => hd.after (Turn.of_below hb)
  have b1 := B1.cell
  obtain ⟨v, hv⟩ : ∃ v, (deedD d (fun l => appC d.room l s p)).1 = v := ⟨_, rfl⟩
  rw [hv] at hcall ⊢
  clear hb B1 B2 B3 h hp hpF hpl hv hs
  go_enter Try.func46, Try.ntmps46
  go_wp2_with (go_at_call 75; (with_reducible refine hcall.mono ?_); rintro e w1 hde; have Hd := Lib.hid hde; obtain rfl := hde.1; clear hde)
  go_ret
  exact Hd.out
end Go.Proofs.Ytpdfbkkhmfnnjaa
