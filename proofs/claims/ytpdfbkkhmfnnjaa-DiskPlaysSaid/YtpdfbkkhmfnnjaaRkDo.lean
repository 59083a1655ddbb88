/- The law's want: what is done with the document's disk. -/
import Derived.Test.YtpdfbkkhmfnnjaaRkApp
import Derived.Test.YtpdfbkkhmfnnjaaRkAct3
import Derived.Test.YtpdfbkkhmfnnjaaRkAct4
import Derived.Test.YtpdfbkkhmfnnjaaRkBoot
import Derived.Test.YtpdfbkkhmfnnjaaDkDo
import Derived.WalkKit
import Derived.WalkSpells
import Derived.WalkLawsBesides
import Derived.Deep.RegionHeld3
import Derived.Deep.DrawnRows
import Derived.Deep.DeepCutAuto
import Derived.Deep.DeepFit
import Derived.Lib.Hide
import Derived.BigQuiet
import Derived.Deep.QuietTactic
import Derived.Deep.RegionHeld3
namespace Go.Proofs.Ytpdfbkkhmfnnjaa
open Go.RowKit
set_option linter.unusedVariables false
set_option linter.unusedSimpArgs false
set_option maxRecDepth 20000
attribute [local go_sem ↓] Go.wp_at_zero Go.wp_at_succ
attribute [local go_sem] World.cell?_alloc_some frozen_alloc_some
open Go.Maps
attribute [local go_sem] lt2 lt3 lt4 lt5
attribute [local simp] lt2 lt3 lt4 lt5

/-- The document's disk of a law under way. -/
structure LR (w W : World) (F : Nat → Prop) (x : Nat) (d : DkT) : Prop where
  hb : Below w.heap.size w W
  D : RkAt W F x d
  hF : ∀ k, F k → w.heap.size ≤ k
theorem LR.keep {w W W' : World} {F : Nat → Prop} {x : Nat} {d : DkT} (h : LR w W F x d) (hb : Below W.heap.size W W') : LR w W' F x d := ⟨below_call h.hb hb h.hb.size, h.D.keep hb, h.hF⟩
theorem LR.arg {w W : World} {F : Nat → Prop} {x : Nat} {d : DkT} (L : LR w W F x d) {A : Option Addr} {m : Nat} {p : List Nat} (hp : Bytes w A m p) : ∀ ad, A = some ad → 0 < m → ¬ F ad.block := fun ad e hm hF => by
  have h1 : 0 < p.length := by rw [← hp.1]; exact hm
  obtain ⟨_, ad', e', hc⟩ := hp.2.2 0 p[0] (List.getElem?_eq_getElem h1)
  rw [e] at e'
  injection e' with e'
  subst e'
  have h2 := World.block_lt_of_cell? _ _ hc
  have h3 : (ad.add 0).block = ad.block := by unfold Addr.add; split <;> rfl
  have := L.hF _ hF
  omega
theorem LR.karg {w W : World} {F : Nat → Prop} {x : Nat} {d : DkT} (L : LR w W F x d) {A : Option Addr} {m : Nat} {ks : List Int} (hp : KeepsAt w A m ks) : ∀ ad, A = some ad → 0 < m → ¬ F ad.block := fun ad e hm hF => by
  have h1 : 0 < ks.length := by rw [← hp.1]; exact hm
  obtain ⟨_, b', o, e', hc⟩ := hp.2.2 0 ks[0] (List.getElem?_eq_getElem h1)
  rw [e] at e'
  injection e' with e'
  subst e'
  have h2 := World.block_lt_of_cell? _ _ hc
  have := L.hF _ hF
  simp only at h2 this
  omega
def Wants (w W : World) (F : Nat → Prop) (x : Nat) (r : Option (List Nat)) (c : Int) (d' : DkT) (e : Ending) (w' : World) : Prop :=
  ∃ v, e = .returned (.tuple #[v, .int .i64 c]) ∧ OwnB w' W.heap.size 5 v (r.getD []) ∧ ∃ F', LR w w' F' x d' ∧ (∀ k, F' k → F k ∨ W.heap.size ≤ k) ∧ Turn F W w'
theorem LR.deed {w W W1 w' : World} {F F' : Nat → Prop} {x : Nat} {d d' : DkT} (L : LR w W F x d) (hk : Below W.heap.size W W1) (h1 : RkAt w' F' x d') (h2 : Turn F W1 w') (h3 : ∀ k, F' k → F k ∨ W1.heap.size ≤ k) : ∃ F', LR w w' F' x d' ∧ (∀ k, F' k → F k ∨ W.heap.size ≤ k) ∧ Turn F W w' := by
  have hT : Turn F W w' := (Turn.of_below (F := F) hk).trans h2 fun k hk => .inl hk
  have hn : ∀ k, F' k → F k ∨ W.heap.size ≤ k := fun k hk2 => (h3 k hk2).imp id fun h => Nat.le_trans hk.size h
  exact ⟨F', ⟨Turn.below L.hb hT L.hF L.hb.size, h1, fun k hk => (hn k hk).elim (L.hF k) fun h => Nat.le_trans L.hb.size h⟩, hn, hT⟩
theorem fuse_rk {W : World} {F : Nat → Prop} {x : Nat} {d : DkT} {n : Int} (h : RkAt W F x d) (hn : (Lit.int .i64 n).wf = true) : RkAt (W.setCell ⟨x, 2, none⟩ (.int .i64 (max n (-1)))) F x (fuseD d n) := by
  obtain ⟨⟨fs, A, c, h1, h2⟩, ok⟩ := h
  have s2 := h1.hd.set_ 2 (.int .i64 (max n (-1)))
  simp only [List.setIfInBounds_toArray, List.set_cons_zero, List.set_cons_succ] at s2
  obtain ⟨n0, n1⟩ := wf_i64 hn
  exact ⟨⟨fs, A, c, h1.head (Turn.setCell h1.hd 2 _) s2, h2⟩, ok.fu (max n (-1)) ⟨by omega, by omega⟩ d.down⟩
set_option maxHeartbeats 16000000 in
theorem want_any {w W : World} {F : Nat → Prop} {g : Nat} {d : DkT} (L : LR w W F g d) (x : DA) (ok : DOk w x) (hpm : x.pm ≤ 100) :
    Calls Try.prog 29 #[.pointer (some ⟨g, 0, none⟩), .agg (daV x)] W (Wants w W F g (doD d x).1 (doD d x).2.1 (doD d x).2.2) := by
  have hk := below_one (w := W) (.cells (daV x) 65)
  have L1 := L.keep hk
  have B1 : Blk (W.alloc (.cells (daV x) 65)) W.heap.size 65 (daV x) := Blk.new _ _ _
  have bc := B1.cell
  have fin : ∀ (e : Ending) (w' : World) (d' : DkT) (F' : Nat → Prop), RkAt w' F' g d' → Turn F (W.alloc (.cells (daV x) 65)) w' → (∀ k, F' k → F k ∨ (W.alloc (.cells (daV x) 65)).heap.size ≤ k) →
      ∃ F', LR w w' F' g d' ∧ (∀ k, F' k → F k ∨ W.heap.size ≤ k) ∧ Turn F W w' := fun e w' d' F' h1 h2 h3 => L.deed hk h1 h2 h3
  have Fin := Lib.hid fin
  have hz : W.heap.size ≤ (W.alloc (.cells (daV x) 65)).heap.size := by simp
  have hpl : x.p.length ≤ 1000000 := by rw [← ok.p.1]; omega
  have OK := Lib.hid ok
  obtain ⟨xd, xa, xb, pA, pm, pc, p, n, kA, km, kc, ks⟩ := x
  obtain rfl : pm = p.length := ok.p.1
  simp only at hpl hpm
  have nil : ∀ W', OwnB W' W.heap.size 5 (.slice none 0 0) [] := fun W' => OwnB.nil_ _ _ _
  clear fin B1 ok
  by_cases d0 : xd = 0
  · subst d0
    have hc := append12_any xa pA pc p _ L1.D OK.out.a (OK.out.p.keep L1.hb) (L1.arg OK.out.p) hpl
    obtain ⟨cc, d', he⟩ : ∃ c d', deedD d (fun l => appC d.room l xa p) = (c, d') := ⟨_, _, rfl⟩
    have hdo : doD d ⟨0, xa, xb, pA, p.length, pc, p, n, kA, km, kc, ks⟩ = (none, cc, d') := by simp [doD, he]
    rw [hdo]
    rw [he] at hc
    clear he hdo L L1
    go_enter Try.func29, Try.ntmps29
    go_wp2_with (go_at_call 54; (with_reducible refine hc.mono ?_); rintro e w2 ⟨rfl, F2, h2, t2, n2⟩; have HF := Lib.hid (Fin.out (.returned (.int .i64 cc)) _ _ F2 h2 t2 n2); clear h2 t2 n2)
    go_ret2
    exact ⟨_, rfl, nil _, HF.out⟩
  have e0 : (xd == 0) = false := by simp [d0]
  by_cases d1 : xd = 1
  · subst d1
    have hc := sync12_any xa _ L1.D
    obtain ⟨cc, d', he⟩ : ∃ c d', deedD d (fun l => syncC l xa) = (c, d') := ⟨_, _, rfl⟩
    have hdo : doD d ⟨1, xa, xb, pA, p.length, pc, p, n, kA, km, kc, ks⟩ = (none, cc, d') := by simp [doD, he]
    rw [hdo]
    rw [he] at hc
    clear he hdo L L1
    go_enter Try.func29, Try.ntmps29
    go_wp2_with (go_at_call 55; (with_reducible refine hc.mono ?_); rintro e w2 ⟨rfl, F2, h2, t2, n2⟩; have HF := Lib.hid (Fin.out (.returned (.int .i64 cc)) _ _ F2 h2 t2 n2); clear h2 t2 n2)
    go_ret2
    exact ⟨_, rfl, nil _, HF.out⟩
  have e1 : (xd == 1) = false := by simp [d1]
  by_cases d2 : xd = 2
  · subst d2
    have hc := move12_any xa xb _ L1.D OK.out.b
    obtain ⟨cc, d', he⟩ : ∃ c d', deedD d (fun l => moveC l xa xb) = (c, d') := ⟨_, _, rfl⟩
    have hdo : doD d ⟨2, xa, xb, pA, p.length, pc, p, n, kA, km, kc, ks⟩ = (none, cc, d') := by simp [doD, he]
    rw [hdo]
    rw [he] at hc
    clear he hdo L L1
    go_enter Try.func29, Try.ntmps29
    go_wp2_with (go_at_call 56; (with_reducible refine hc.mono ?_); rintro e w2 ⟨rfl, F2, h2, t2, n2⟩; have HF := Lib.hid (Fin.out (.returned (.int .i64 cc)) _ _ F2 h2 t2 n2); clear h2 t2 n2)
    go_ret2
    exact ⟨_, rfl, nil _, HF.out⟩
  have e2 : (xd == 2) = false := by simp [d2]
  by_cases d3 : xd = 3
  · subst d3
    have hc := remove12_any xa _ L1.D
    obtain ⟨cc, d', he⟩ : ∃ c d', deedD d (fun l => remC l xa) = (c, d') := ⟨_, _, rfl⟩
    have hdo : doD d ⟨3, xa, xb, pA, p.length, pc, p, n, kA, km, kc, ks⟩ = (none, cc, d') := by simp [doD, he]
    rw [hdo]
    rw [he] at hc
    clear he hdo L L1
    go_enter Try.func29, Try.ntmps29
    go_wp2_with (go_at_call 57; (with_reducible refine hc.mono ?_); rintro e w2 ⟨rfl, F2, h2, t2, n2⟩; have HF := Lib.hid (Fin.out (.returned (.int .i64 cc)) _ _ F2 h2 t2 n2); clear h2 t2 n2)
    go_ret2
    exact ⟨_, rfl, nil _, HF.out⟩
  have e3 : (xd == 3) = false := by simp [d3]
  by_cases d4 : xd = 4
  · subst d4
    obtain ⟨rr, rc, he⟩ : ∃ rr rc, readD d xa = (rr, rc) := ⟨_, _, rfl⟩
    have hdo : doD d ⟨4, xa, xb, pA, p.length, pc, p, n, kA, km, kc, ks⟩ = (rr, rc, d) := by simp [doD, he]
    rw [hdo]
    have hc := read12_any xa _ L1.D
    rw [he] at hc
    have LL := Lib.hid L1
    clear he hdo L L1
    go_enter Try.func29, Try.ntmps29
    go_wp2_with (go_at_call 58; (with_reducible refine hc.mono ?_); rintro e w2 ⟨v, rfl, hown, hb2⟩; have HO := Lib.hid hown; have HB2 := Lib.hid hb2; clear hown hb2)
    go_ret2
    exact ⟨_, rfl, ownB_base HO.out hz, Fin.out (.returned (.int .i64 rc)) _ _ F (LL.out.D.keep HB2.out) (Turn.of_below HB2.out) fun k hk => .inl hk⟩
  have e4 : (xd == 4) = false := by simp [d4]
  by_cases d5 : xd = 5
  · subst d5
    have hdo : doD d ⟨5, xa, xb, pA, p.length, pc, p, n, kA, km, kc, ks⟩ = (none, 0, fuseD d n) := by simp [doD]
    rw [hdo]
    have hc := fuse_rk L1.D OK.out.n
    have HF := Lib.hid (Fin.out (.returned (.tuple #[])) _ _ F hc ((turn_set _ g 2 _).mono fun k _ e => by rw [e]; obtain ⟨⟨fs, A, c, h1, h2⟩, ok⟩ := L1.D; exact h1.Fx) fun k hk => .inl hk)
    obtain ⟨⟨fs, A, c, h1, h2⟩, okd⟩ := L1.D
    have pc1 := h1.hd.cell
    have pf1 := h1.hd.frozen
    clear hdo L L1 h1 h2 okd hc
    go_enter Try.func29, Try.ntmps29
    go_wp2_with fail
    go_ret2
    exact ⟨_, rfl, nil _, HF.out⟩
  have e5 : (xd == 5) = false := by simp [d5]
  by_cases d6 : xd = 6
  · subst d6
    have hdo : doD d ⟨6, xa, xb, pA, p.length, pc, p, n, kA, km, kc, ks⟩ = (none, 0, bootD d ks) := by simp [doD]
    rw [hdo]
    have hc := boot12_any kA km kc ks _ L1.D (OK.out.k.keep L1.hb) (L1.karg OK.out.k)
    clear hdo L L1
    go_enter Try.func29, Try.ntmps29
    go_wp2_with (go_at_call 59; (with_reducible refine hc.mono ?_); rintro e w2 ⟨rfl, F2, h2, t2, n2⟩; have HF := Lib.hid (Fin.out (.returned (.tuple #[])) _ _ F2 h2 t2 n2); clear h2 t2 n2)
    go_ret2
    exact ⟨_, rfl, nil _, HF.out⟩
  have e6 : (xd == 6) = false := by simp [d6]
  by_cases d7 : xd = 7
  · subst d7
    have hc := cut12_any xa n _ L1.D OK.out.n
    obtain ⟨cc, d', he⟩ : ∃ c d', deedD d (fun l => cutC l xa n) = (c, d') := ⟨_, _, rfl⟩
    have hdo : doD d ⟨7, xa, xb, pA, p.length, pc, p, n, kA, km, kc, ks⟩ = (none, cc, d') := by simp [doD, he]
    rw [hdo]
    rw [he] at hc
    clear he hdo L L1
    go_enter Try.func29, Try.ntmps29
    go_wp2_with (go_at_call 60; (with_reducible refine hc.mono ?_); rintro e w2 ⟨rfl, F2, h2, t2, n2⟩; have HF := Lib.hid (Fin.out (.returned (.int .i64 cc)) _ _ F2 h2 t2 n2); clear h2 t2 n2)
    go_ret2
    exact ⟨_, rfl, nil _, HF.out⟩
  have e7 : (xd == 7) = false := by simp [d7]
  have hdo : doD d ⟨xd, xa, xb, pA, p.length, pc, p, n, kA, km, kc, ks⟩ = (none, 0, d) := by simp [doD, d0, d1, d2, d3, d4, d5, d6, d7]
  rw [hdo]
  have HF := Lib.hid (Fin.out (.returned (.tuple #[])) _ _ F L1.D (Turn.refl _ _) fun k hk => .inl hk)
  clear hdo L L1 d0 d1 d2 d3 d4 d5 d6 d7
  go_enter Try.func29, Try.ntmps29
  go_wp2_with fail
  go_ret2
  exact ⟨_, rfl, nil _, HF.out⟩
end Go.Proofs.Ytpdfbkkhmfnnjaa
