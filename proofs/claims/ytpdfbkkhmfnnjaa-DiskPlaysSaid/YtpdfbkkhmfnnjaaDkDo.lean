/- The laws' great and do: what is done with a disk. -/
import Derived.Test.YtpdfbkkhmfnnjaaDkActs
import Derived.Test.YtpdfbkkhmfnnjaaAwake12
import Derived.WalkKit
import Derived.WalkSpells
import Derived.WalkLawsBesides
import Derived.Deep.RegionHeld3
import Derived.Deep.DrawnRows
import Derived.Deep.DeepCutAuto
import Derived.Deep.DeepFit
import Derived.Lib.Hide
import Derived.BigQuiet
import Derived.Deep.QuietTactic
import Derived.Deep.RegionHeld3
namespace Go.Proofs.Ytpdfbkkhmfnnjaa
open Go.RowKit
set_option linter.unusedVariables false
set_option linter.unusedSimpArgs false
set_option maxRecDepth 20000
attribute [local go_sem ↓] Go.wp_at_zero Go.wp_at_succ
attribute [local go_sem] World.cell?_alloc_some frozen_alloc_some
open Go.Maps

/-- None of the acts is great. -/
def NotGreat (l : List DA) : Prop := l.length ≤ 60 ∧ ∀ x ∈ l, x.pm ≤ 100 ∧ x.km ≤ 50
open Classical in
/-- Is one of the acts great? -/
noncomputable def greatB (l : List DA) : Bool := !decide (NotGreat l)
theorem greatB_not {l : List DA} (h : NotGreat l) : greatB l = false := by simp [greatB, h]
theorem greatB_yes {l : List DA} (h : ¬ NotGreat l) : greatB l = true := by simp [greatB, h]
set_option maxHeartbeats 4000000 in
theorem great_any (A : Option Addr) (m c : Nat) (l : List DA) (w : World) (h : DActsAt w A m l) : Calls Try.prog 24 #[.slice A m c] w (Gives w (.bool (greatB l))) := by
  have H := Lib.hid h
  have hm := h.2.1
  have hmm : m ≤ 9223372036854775807 := by unfold maxLen at hm; omega
  obtain ⟨R, hR⟩ : ∃ R, greatB l = R := ⟨_, rfl⟩
  rw [hR]
  have HR := Lib.hid hR
  clear h hm hR
  go_enter Try.func24, Try.ntmps24
  go_wp2_with fail
  go_loopw [3] (fun s3 wr => ∃ i : Nat, i ≤ m ∧ s3 = .int .i64 i ∧ i ≤ 60 ∧ Hid (∀ j x, j < i → l[j]? = some x → x.pm ≤ 100 ∧ x.km ≤ 50) ∧ Below w.heap.size w wr) (fun s3 _ => m - (intOf s3).toNat)
  case atStart => exact ⟨0, by omega, rfl, by omega, Lib.hid (fun j x h => by omega), Below.refl _ _⟩
  case round =>
    obtain ⟨i, hi, rfl, h60, HI, hb⟩ := hrel
    by_cases hlt : i < m
    · have i0 : (0 : Int) ≤ (i : Int) := by omega
      have i1 : (i : Int) < (m : Int) := by omega
      by_cases h59 : i < 60
      · have j1 : (i : Int) < 60 := by omega
        obtain ⟨x, b, o, e1, ok, rfl, _, _, _, c3, _, c5⟩ := (H.out.keep hb).at_ hlt
        have E1 := Lib.hid e1
        have hpm : x.pm ≤ 9223372036854775807 := by have := ok.p.2.1; unfold maxLen at this; omega
        have hkm : x.km ≤ 9223372036854775807 := by have := ok.k.2.1; unfold maxLen at this; omega
        clear ok e1
        by_cases q1 : 100 < x.pm
        · have q1' : (100 : Int) < (x.pm : Int) := by omega
          obtain rfl : R = true := by rw [← HR.out]; exact greatB_yes fun h => by have := (h.2 x (List.mem_of_getElem? E1.out)).1; omega
          go_wp2_with fail
          go_ret
          exact ⟨rfl, hb⟩
        · have q1' : ¬ (100 : Int) < (x.pm : Int) := by omega
          by_cases q2 : 50 < x.km
          · have q2' : (50 : Int) < (x.km : Int) := by omega
            obtain rfl : R = true := by rw [← HR.out]; exact greatB_yes fun h => by have := (h.2 x (List.mem_of_getElem? E1.out)).2; omega
            go_wp2_with fail
            go_ret
            exact ⟨rfl, hb⟩
          · have q2' : ¬ (50 : Int) < (x.km : Int) := by omega
            go_wp2_with fail
            go_roundw
            case rel => exact ⟨i + 1, by omega, by go_num, by omega, Lib.hid (fun j y hj hy => by
              by_cases e : j = i
              · subst e; rw [E1.out] at hy; injection hy with hy; subst hy; omega
              · exact HI.out j y (by omega) hy), hb⟩
            case measure => simp [intOf]; omega
      · have j1 : ¬ (i : Int) < 60 := by omega
        have q : (60 : Int) < (m : Int) := by omega
        obtain rfl : R = true := by rw [← HR.out]; exact greatB_yes fun h => by have := h.1; rw [← H.out.1] at this; omega
        go_wp2_with fail
        go_ret
        exact ⟨rfl, hb⟩
    · obtain rfl : i = m := by omega
      have ni : ¬ (i : Int) < (i : Int) := by omega
      have q : ¬ (60 : Int) < (i : Int) := by omega
      obtain rfl : R = false := by
        rw [← HR.out]
        refine greatB_not ⟨by rw [← H.out.1]; exact h60, fun x hx => ?_⟩
        obtain ⟨j, hj⟩ := List.getElem?_of_mem hx
        exact HI.out j x (by have := (List.getElem?_eq_some_iff.1 hj).1; rw [H.out.1]; exact this) hj
      go_wp2_with fail
      go_ret
      exact ⟨rfl, hb⟩
/-- What an act answers, and the disk behind it. -/
def doD (d : DkT) (x : DA) : Option (List Nat) × Int × DkT :=
  if x.d = 0 then (none, deedD d (fun l => appC d.room l x.a x.p)) else
  if x.d = 1 then (none, deedD d (fun l => syncC l x.a)) else
  if x.d = 2 then (none, deedD d (fun l => moveC l x.a x.b)) else
  if x.d = 3 then (none, deedD d (fun l => remC l x.a)) else
  if x.d = 4 then ((readD d x.a).1, (readD d x.a).2, d) else
  if x.d = 5 then (none, 0, fuseD d x.n) else
  if x.d = 6 then (none, 0, bootD d x.ks) else
  if x.d = 7 then (none, deedD d (fun l => cutC l x.a x.n)) else (none, 0, d)
abbrev daV (x : DA) : Array Value := #[.int .i64 x.d, sV x.a, sV x.b, .slice x.pA x.pm x.pc, .int .i64 x.n, .slice x.kA x.km x.kc]
theorem LS.karg {w W : World} {F : Nat → Prop} {g b : Nat} {d : DkT} (L : LS w W F g b d) {A : Option Addr} {m : Nat} {ks : List Int} (hp : KeepsAt w A m ks) : ∀ ad, A = some ad → 0 < m → ¬ F ad.block := fun ad e hm hF => by
  have h1 : 0 < ks.length := by rw [← hp.1]; exact hm
  obtain ⟨_, b', o, e', hc⟩ := hp.2.2 0 ks[0] (List.getElem?_eq_getElem h1)
  rw [e] at e'
  injection e' with e'
  subst e'
  have h2 := World.block_lt_of_cell? _ _ hc
  have := L.hF _ hF
  simp only at h2 this
  omega
def Does (w W : World) (F : Nat → Prop) (g b : Nat) (r : Option (List Nat)) (c : Int) (d' : DkT) (e : Ending) (w' : World) : Prop :=
  ∃ v, e = .returned (.tuple #[v, .int .i64 c]) ∧ OwnB w' W.heap.size 5 v (r.getD []) ∧ ∃ F', LS w w' F' g b d' ∧ (∀ k, F' k → F k ∨ W.heap.size ≤ k) ∧ Turn F W w'
theorem ownB_base {W : World} {base base' : Nat} {v : Value} {l : List Nat} (h : OwnB W base 5 v l) (hb : base' ≤ base) : OwnB W base' 5 v l := by
  refine ⟨⟨h.1.1, ?_⟩, h.2⟩
  rcases h.1.2 with h0 | ⟨g, cap, cur, e, h1, h2⟩
  · exact .inl h0
  · exact .inr ⟨g, cap, cur, e, Nat.le_trans hb h1, h2⟩
set_option maxHeartbeats 8000000 in
theorem do_any {w W : World} {F : Nat → Prop} {g b : Nat} {d : DkT} (L : LS w W F g b d) (x : DA) (ok : DOk w x) (hpm : x.pm ≤ 100) :
    Calls Try.prog 28 #[.pointer (some ⟨g, 0, none⟩), .agg (daV x)] W (Does w W F g b (doD d x).1 (doD d x).2.1 (doD d x).2.2) := by
  have hk := below_one (w := W) (.cells (daV x) 65)
  have L1 := L.keep hk
  have B1 : Blk (W.alloc (.cells (daV x) 65)) W.heap.size 65 (daV x) := Blk.new _ _ _
  have bc := B1.cell
  have kt : Turn F W (W.alloc (.cells (daV x) 65)) := Turn.of_below hk
  have hz : W.heap.size ≤ (W.alloc (.cells (daV x) 65)).heap.size := by simp
  -- what a deed leaves
  have fin : ∀ (e : Ending) (w' : World) (d' : DkT), (∃ F', LS w w' F' g b d' ∧ (∀ k, F' k → F k ∨ (W.alloc (.cells (daV x) 65)).heap.size ≤ k) ∧ Turn F (W.alloc (.cells (daV x) 65)) w') →
      ∃ F', LS w w' F' g b d' ∧ (∀ k, F' k → F k ∨ W.heap.size ≤ k) ∧ Turn F W w' := fun e w' d' ⟨F', h1, h2, h3⟩ => ⟨F', h1, fun k hk => (h2 k hk).imp id (fun h => by omega), kt.trans h3 (fun i hi => .inl hi)⟩
  have Fin := Lib.hid fin
  have hpl : x.p.length ≤ 1073741824 := by rw [← ok.p.1]; omega
  have OK := Lib.hid ok
  obtain ⟨xd, xa, xb, pA, pm, pc, p, n, kA, km, kc, ks⟩ := x
  simp only at hpl hpm
  have nil : ∀ W', OwnB W' W.heap.size 5 (.slice none 0 0) [] := fun W' => OwnB.nil_ _ _ _
  clear fin B1 ok
  by_cases d0 : xd = 0
  · subst d0
    obtain ⟨cc, d', he⟩ : ∃ c d', deedD d (fun l => appC d.room l xa p) = (c, d') := ⟨_, _, rfl⟩
    have hdo : doD d ⟨0, xa, xb, pA, pm, pc, p, n, kA, km, kc, ks⟩ = (none, cc, d') := by simp [doD, he]
    rw [hdo]
    have hc := L1.append xa pA pm pc p OK.out.a (OK.out.p.keep L1.hb) (L1.arg OK.out.p) hpl he
    clear he hdo L L1
    go_enter Try.func28, Try.ntmps28
    go_wp2_with (go_at_call 46; (with_reducible refine hc.mono ?_); rintro e w2 ⟨rfl, hF⟩; have HF := Lib.hid hF; clear hF)
    go_ret2
    exact ⟨_, rfl, nil _, Fin.out (.returned (.int .i64 cc)) _ _ HF.out⟩
  have e0 : (xd == 0) = false := by simp [d0]
  by_cases d1 : xd = 1
  · subst d1
    obtain ⟨cc, d', he⟩ : ∃ c d', deedD d (fun l => syncC l xa) = (c, d') := ⟨_, _, rfl⟩
    have hdo : doD d ⟨1, xa, xb, pA, pm, pc, p, n, kA, km, kc, ks⟩ = (none, cc, d') := by simp [doD, he]
    rw [hdo]
    have hc := L1.sync xa OK.out.a he
    clear he hdo L L1
    go_enter Try.func28, Try.ntmps28
    go_wp2_with (go_at_call 47; (with_reducible refine hc.mono ?_); rintro e w2 ⟨rfl, hF⟩; have HF := Lib.hid hF; clear hF)
    go_ret2
    exact ⟨_, rfl, nil _, Fin.out (.returned (.int .i64 cc)) _ _ HF.out⟩
  have e1 : (xd == 1) = false := by simp [d1]
  by_cases d2 : xd = 2
  · subst d2
    obtain ⟨cc, d', he⟩ : ∃ c d', deedD d (fun l => moveC l xa xb) = (c, d') := ⟨_, _, rfl⟩
    have hdo : doD d ⟨2, xa, xb, pA, pm, pc, p, n, kA, km, kc, ks⟩ = (none, cc, d') := by simp [doD, he]
    rw [hdo]
    have hc := L1.move xa xb OK.out.a OK.out.b he
    clear he hdo L L1
    go_enter Try.func28, Try.ntmps28
    go_wp2_with (go_at_call 50; (with_reducible refine hc.mono ?_); rintro e w2 ⟨rfl, hF⟩; have HF := Lib.hid hF; clear hF)
    go_ret2
    exact ⟨_, rfl, nil _, Fin.out (.returned (.int .i64 cc)) _ _ HF.out⟩
  have e2 : (xd == 2) = false := by simp [d2]
  by_cases d3 : xd = 3
  · subst d3
    obtain ⟨cc, d', he⟩ : ∃ c d', deedD d (fun l => remC l xa) = (c, d') := ⟨_, _, rfl⟩
    have hdo : doD d ⟨3, xa, xb, pA, pm, pc, p, n, kA, km, kc, ks⟩ = (none, cc, d') := by simp [doD, he]
    rw [hdo]
    have hc := L1.remove xa OK.out.a he
    clear he hdo L L1
    go_enter Try.func28, Try.ntmps28
    go_wp2_with (go_at_call 51; (with_reducible refine hc.mono ?_); rintro e w2 ⟨rfl, hF⟩; have HF := Lib.hid hF; clear hF)
    go_ret2
    exact ⟨_, rfl, nil _, Fin.out (.returned (.int .i64 cc)) _ _ HF.out⟩
  have e3 : (xd == 3) = false := by simp [d3]
  by_cases d4 : xd = 4
  · subst d4
    obtain ⟨rr, rc, he⟩ : ∃ rr rc, readD d xa = (rr, rc) := ⟨_, _, rfl⟩
    have hdo : doD d ⟨4, xa, xb, pA, pm, pc, p, n, kA, km, kc, ks⟩ = (rr, rc, d) := by simp [doD, he]
    rw [hdo]
    have hc := L1.read xa OK.out.a he
    have LL := Lib.hid L1
    clear he hdo L L1
    go_enter Try.func28, Try.ntmps28
    go_wp2_with (go_at_call 49; (with_reducible refine hc.mono ?_); rintro e w2 ⟨v, rfl, hown, hb2⟩; have HO := Lib.hid hown; have HB2 := Lib.hid hb2; clear hown hb2)
    go_ret2
    exact ⟨_, rfl, ownB_base HO.out hz, Fin.out (.returned (.int .i64 rc)) _ _ ⟨F, LL.out.keep HB2.out, fun k hk => .inl hk, Turn.of_below HB2.out⟩⟩
  have e4 : (xd == 4) = false := by simp [d4]
  by_cases d5 : xd = 5
  · subst d5
    have hdo : doD d ⟨5, xa, xb, pA, pm, pc, p, n, kA, km, kc, ks⟩ = (none, 0, fuseD d n) := by simp [doD]
    rw [hdo]
    have hc := L1.fuse n OK.out.n
    clear hdo L L1
    go_enter Try.func28, Try.ntmps28
    go_wp2_with (go_at_call 52; (with_reducible refine hc.mono ?_); rintro e w2 ⟨rfl, hF⟩; have HF := Lib.hid hF; clear hF)
    go_ret2
    exact ⟨_, rfl, nil _, Fin.out (.returned (.tuple #[])) _ _ HF.out⟩
  have e5 : (xd == 5) = false := by simp [d5]
  by_cases d6 : xd = 6
  · subst d6
    have hdo : doD d ⟨6, xa, xb, pA, pm, pc, p, n, kA, km, kc, ks⟩ = (none, 0, bootD d ks) := by simp [doD]
    rw [hdo]
    have hc := L1.boot kA km kc ks (OK.out.k.keep L1.hb) OK.out.kc (L1.karg OK.out.k) rfl
    clear hdo L L1
    go_enter Try.func28, Try.ntmps28
    go_wp2_with (go_at_call 48; (with_reducible refine hc.mono ?_); rintro e w2 ⟨rfl, hF⟩; have HF := Lib.hid hF; clear hF)
    go_ret2
    exact ⟨_, rfl, nil _, Fin.out (.returned (.tuple #[])) _ _ HF.out⟩
  have e6 : (xd == 6) = false := by simp [d6]
  by_cases d7 : xd = 7
  · subst d7
    obtain ⟨cc, d', he⟩ : ∃ c d', deedD d (fun l => cutC l xa n) = (c, d') := ⟨_, _, rfl⟩
    have hdo : doD d ⟨7, xa, xb, pA, pm, pc, p, n, kA, km, kc, ks⟩ = (none, cc, d') := by simp [doD, he]
    rw [hdo]
    have hc := L1.cut xa n OK.out.a OK.out.n he
    clear he hdo L L1
    go_enter Try.func28, Try.ntmps28
    go_wp2_with (go_at_call 53; (with_reducible refine hc.mono ?_); rintro e w2 ⟨rfl, hF⟩; have HF := Lib.hid hF; clear hF)
    go_ret2
    exact ⟨_, rfl, nil _, Fin.out (.returned (.int .i64 cc)) _ _ HF.out⟩
  have e7 : (xd == 7) = false := by simp [d7]
  have hdo : doD d ⟨xd, xa, xb, pA, pm, pc, p, n, kA, km, kc, ks⟩ = (none, 0, d) := by simp [doD, d0, d1, d2, d3, d4, d5, d6, d7]
  rw [hdo]
  have LL := Lib.hid L1
  clear hdo L L1 d0 d1 d2 d3 d4 d5 d6 d7
  go_enter Try.func28, Try.ntmps28
  go_wp2_with fail
  go_ret2
  exact ⟨_, rfl, nil _, Fin.out (.returned (.tuple #[])) _ _ ⟨F, LL.out, fun k hk => .inl hk, Turn.refl _ _⟩⟩
end Go.Proofs.Ytpdfbkkhmfnnjaa
