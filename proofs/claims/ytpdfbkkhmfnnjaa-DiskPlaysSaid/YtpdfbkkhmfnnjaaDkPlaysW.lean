/- The walk of the law DiskPlays. -/
import Derived.Test.YtpdfbkkhmfnnjaaRkShow
import Derived.WalkKit
import Derived.WalkSpells
import Derived.WalkLawsBesides
import Derived.Deep.RegionHeld3
import Derived.Deep.DrawnRows
import Derived.Deep.DeepCutAuto
import Derived.Deep.DeepFit
import Derived.Lib.Hide
import Derived.BigQuiet
import Derived.Deep.QuietTactic
import Derived.Deep.RegionHeld3
namespace Go.Proofs.Ytpdfbkkhmfnnjaa
open Go.RowKit
set_option linter.unusedVariables false
set_option linter.unusedSimpArgs false
set_option maxRecDepth 20000
attribute [local go_sem ↓] Go.wp_at_zero Go.wp_at_succ
attribute [local go_sem] World.cell?_alloc_some frozen_alloc_some
open Go.Maps

/-- Both disks of the law under way. -/
structure Both (w W : World) (g b x : Nat) (d : DkT) : Prop where
  out : ∃ F F2 : Nat → Prop, LS w W F g b d ∧ LR w W F2 x d ∧ ∀ k, F k → ¬ F2 k
/-- An act is done with the first: the second lies as it lay. -/
structure Half (w W W3 : World) (F F2 F3 : Nat → Prop) (g b x : Nat) (d d' : DkT) : Prop where
  L : LS w W3 F3 g b d'
  R : LR w W3 F2 x d
  n3 : ∀ k, F3 k → F k ∨ W.heap.size ≤ k
  d : ∀ k, F k → ¬ F2 k
  lt2 : ∀ k, F2 k → k < W.heap.size
theorem half_of {w W W3 : World} {F F2 F3 : Nat → Prop} {g b x : Nat} {d d' : DkT} (L : LS w W F g b d) (R : LR w W F2 x d) (hd : ∀ k, F k → ¬ F2 k) (L3 : LS w W3 F3 g b d') (n3 : ∀ k, F3 k → F k ∨ W.heap.size ≤ k) (T : Turn F W W3) : Half w W W3 F F2 F3 g b x d d' :=
  ⟨L3, ⟨L3.hb, R.D.turn T fun i h2 h1 => hd i h1 h2, R.hF⟩, n3, hd, R.D.lt⟩
theorem Half.full {w W W3 W4 : World} {F F2 F3 F4 : Nat → Prop} {g b x : Nat} {d d' : DkT} (h : Half w W W3 F F2 F3 g b x d d') (R : LR w W4 F4 x d') (n4 : ∀ k, F4 k → F2 k ∨ W3.heap.size ≤ k) (T : Turn F2 W3 W4) : LS w W4 F3 g b d' ∧ Both w W4 g b x d' := by
  have hne : ∀ k, F3 k → ¬ F2 k := fun k h3 h2 => by
    rcases h.n3 k h3 with h4 | h4
    · exact h.d k h4 h2
    · have := h.lt2 k h2; omega
  have L : LS w W4 F3 g b d' := ⟨R.hb, h.L.D.turn T hne, h.L.hF⟩
  refine ⟨L, ⟨F3, F4, L, R, fun k h3 h4 => ?_⟩⟩
  rcases n4 k h4 with h5 | h5
  · exact hne k h3 h5
  · exact h.L.D.notF h5 h3
set_option maxHeartbeats 8000000 in
theorem plays12_walk (room : Int) (A : Option Addr) (m c : Nat) (l : List DA) (w : World) (hr : (Lit.int .i64 room).wf = true) (h : DActsAt w A m l) :
    Calls Try.prog 6 #[.int .i64 room, .slice A m c] w (Gives w (.bool true)) := by
  have haw := fun W => awake12_any W
  have hgr := great_any A m c l w h
  by_cases hng : NotGreat l
  · rw [greatB_not hng] at hgr
    by_cases hbig : 1073741824 < room
    · clear h hng
      go_enter Try.func6, Try.ntmps6
      go_wp2_with (first
        | (go_at_call 24; (with_reducible refine hgr.mono ?_); rintro e w1 ⟨rfl, hb1⟩)
        | (go_at_call 25; (with_reducible refine (haw _).mono ?_); rintro e w2 ⟨rfl, hb2⟩; have hb := below_call hb1 hb2 hb1.size))
      go_ret
      exact ⟨rfl, hb⟩
    have H := Lib.hid h
    have hm := h.1
    have hm60 : m ≤ 60 := by rw [hm]; exact hng.1
    have HNG := Lib.hid hng.2
    have hrs : room ≤ 1073741824 := by omega
    clear h hm hng
    go_enter Try.func6, Try.ntmps6
    go_upto_region 3 with (go_at_call 24; (with_reducible refine hgr.mono ?_); rintro e w1 ⟨rfl, hb1⟩)
    have H1 := Lib.hid (H.out.keep hb1)
    have HB1 := Lib.hid hb1
    have hnew := dknew_any room w1 hr hrs
    clear H hgr hb1
    go_upto_region 4 with (first
      | (go_at_call 26; (with_reducible refine hnew.mono ?_); rintro e w2 ⟨rfl, D1, hb2⟩; obtain ⟨F, L⟩ := LS.new D1 hb2; have hnew2 := new12_any room w2 hr hrs)
      | (go_at_call 27; (with_reducible refine hnew2.mono ?_); rintro e w3 ⟨rfl, R1, hb3⟩))
    have hB0 : Both w1 w3 (w1.heap.size + 1) w1.heap.size w2.heap.size (newD room) := ⟨_, _, L.keep hb3, ⟨below_call L.hb hb3 L.hb.size, R1, fun k hk => by rw [hk]; exact L.hb.size⟩, fun k hk e => L.D.notF (by rw [e]; exact Nat.le_refl _) hk⟩
    clear D1 hb2 hnew hnew2 L R1 hb3
    generalize w2.heap.size = x at hB0 ⊢
    go_wp2_with fail
    go_loopw [7] (fun s7 wr => ∃ (i : Nat) (d : DkT), i ≤ m ∧ s7 = .int .i64 i ∧ Both w1 wr (w1.heap.size + 1) w1.heap.size x d) (fun s7 _ => m - (intOf s7).toNat)
    case atStart => exact ⟨0, _, by omega, rfl, hB0⟩
    case round =>
      clear hB0
      obtain ⟨i, d, hi, rfl, ⟨F, F2, L, R, hne⟩⟩ := hrel
      by_cases hlt : i < m
      · obtain ⟨a, b, o, e1, ok, rfl, c0, c1, c2, c3, c4, c5⟩ := H1.out.at_ hlt
        have i0 : (0 : Int) ≤ (i : Int) := by omega
        have i1 : (i : Int) < (m : Int) := by omega
        have hbw := L.hb
        have p0 := cell_keep hbw c0
        have p1 := cell_keep hbw c1
        have p2 := cell_keep hbw c2
        have p3 := cell_keep hbw c3
        have p4 := cell_keep hbw c4
        have p5 := cell_keep hbw c5
        have hpm := (HNG.out a (List.mem_of_getElem? e1)).1
        have hdo := do_any L a ok hpm
        have hwt := fun W F2 (h : LR w1 W F2 x d) => want_any h a ok hpm
        generalize doD d a = dd at hdo hwt
        obtain ⟨rr, rc, d2⟩ := dd
        simp only at hdo hwt
        have HLR := Lib.hid (fun F3 w4 L3 n3 T3 => half_of (W3 := w4) (F3 := F3) (d' := d2) L R hne L3 n3 T3)
        have C0 := Lib.hid c0
        have C1 := Lib.hid c1
        have C2 := Lib.hid c2
        have C3 := Lib.hid c3
        have C4 := Lib.hid c4
        have C5 := Lib.hid c5
        clear L R ok e1 c0 c1 c2 c3 c4 c5
        go_upto_region 8 with (go_at_call 28; (with_reducible refine hdo.mono ?_); rintro e w4 ⟨v, rfl, hv, F3, L3, n3, T3⟩)
        have HH := HLR.out F3 w4 L3 n3 T3
        clear hdo HLR p0 p1 p2 p3 p4 p5
        have hb4 := HH.L.hb
        have p0 := cell_keep hb4 C0.out
        have p1 := cell_keep hb4 C1.out
        have p2 := cell_keep hb4 C2.out
        have p3 := cell_keep hb4 C3.out
        have p4 := cell_keep hb4 C4.out
        have p5 := cell_keep hb4 C5.out
        have hwt4 := hwt w4 F2 HH.R
        clear hwt hb4 L3 n3 T3
        go_upto_region 9 with (go_at_call 29; (with_reducible refine hwt4.mono ?_); rintro e w5 ⟨v2, rfl, hv2, F4, R4, n4, T4⟩)
        obtain ⟨L5, B5⟩ := HH.full R4 n4 T4
        have hv5 : OwnB w5 wr.heap.size 5 v (rr.getD []) := ⟨ownK_turn hv.1 T4 fun k hk h2 => by have h6 := (hv.1.lt k hk).1; have h7 := HH.lt2 k h2; omega, hv.2⟩
        obtain ⟨A6, c6, hv6, _, _⟩ := hv5.form
        subst hv6
        obtain ⟨A7, c7, hv7, _, _⟩ := hv2.form
        subst hv7
        have hsm := same_any A6 A7 _ _ c6 c7 _ _ w5 hv5.bytes.2.2 hv2.bytes.2.2
        rw [decide_eq_true rfl] at hsm
        have HB5 := Lib.hid B5
        have hsh := fun W (hb : Below w5.heap.size w5 W) => shows_any W (L5.D.keep hb) (R4.D.keep hb)
        clear hwt4 hv hv2 hv5 HH L5 B5 R4 n4 T4 p0 p1 p2 p3 p4 p5 hbw
        go_wp2_with (first
          | (go_at_call 30; (with_reducible refine hsm.mono ?_); rintro e w6 ⟨rfl, hb6⟩)
          | (go_at_call 31; (with_reducible refine (hsh _ hb6).mono ?_); rintro e w7 ⟨rfl, hb7⟩; have hb8 := below_call hb6 hb7 hb6.size))
        have HB8 := Lib.hid (show Both w1 w7 (w1.heap.size + 1) w1.heap.size x d2 from by
          obtain ⟨F, F2, L, R, hne⟩ := HB5.out.out
          exact ⟨F, F2, L.keep hb8, R.keep hb8, hne⟩)
        clear hsh hsm
        go_roundw
        case rel => exact ⟨i + 1, d2, by omega, by go_num, HB8.out⟩
        case measure => simp [intOf]; omega
      · have nk : ¬ (i : Int) < (m : Int) := by omega
        have hb := below_call HB1.out L.hb HB1.out.size
        clear L R
        go_wp2_with (go_at_call 25; (with_reducible refine (haw _).mono ?_); rintro e w9 ⟨rfl, hb9⟩)
        go_ret
        exact ⟨rfl, below_call hb hb9 hb.size⟩
  · rw [greatB_yes hng] at hgr
    clear h hng
    go_enter Try.func6, Try.ntmps6
    go_wp2_with (first
      | (go_at_call 24; (with_reducible refine hgr.mono ?_); rintro e w1 ⟨rfl, hb1⟩)
      | (go_at_call 25; (with_reducible refine (haw _).mono ?_); rintro e w2 ⟨rfl, hb2⟩; have hb := below_call hb1 hb2 hb1.size))
    go_ret
    exact ⟨rfl, hb⟩
end Go.Proofs.Ytpdfbkkhmfnnjaa
