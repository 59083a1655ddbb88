/- log.Open on a law's disk under way. -/
import Derived.Test.YtpdlhcfepafjeaaLogDk
namespace Go.Proofs.Ytpdlhcfepafjeaa
open Go.RowKit
set_option linter.unusedVariables false
set_option linter.unusedSimpArgs false
set_option maxRecDepth 20000
attribute [local go_sem ↓] Go.wp_at_zero Go.wp_at_succ
attribute [local go_sem] World.cell?_alloc_some frozen_alloc_some
open Go.Sort Go.Lib Go.Shelf Go.Maps

theorem row_turn {W W' : World} {F : Nat → Prop} {base : Nat} {e : TypeId} {size : Nat} {v : Value} {n : Nat} {xs : List Value} (h : W.ownsRow base e size v n xs) (hT : Turn F W W') (hF : ∀ k, base ≤ k → ¬ F k) : W'.ownsRow base e size v n xs :=
  ⟨h.1, h.2.imp id fun ⟨g, cap, cur, e1, e2, e3, r⟩ => ⟨g, cap, cur, e1, e2, (hT.block g (Array.getElem?_eq_some_iff.1 e3).1 (hF g e2)).trans e3, r⟩⟩
theorem OwnRows.turn {W W' : World} {F : Nat → Prop} {base : Nat} {v : Value} {ls : List (List Nat)} (h : OwnRows W base v ls) (hT : Turn F W W') (hF : ∀ k, base ≤ k → ¬ F k) : OwnRows W' base v ls :=
  have ⟨vs, h1, h2⟩ := h
  ⟨vs, row_turn h1 hT hF, h2.1, fun i l hi => have ⟨u, hu, ho⟩ := h2.2 i l hi; ⟨u, hu, row_turn ho.1 hT hF, ho.2⟩⟩
theorem OwnRows.below {W W' : World} {base : Nat} {v : Value} {ls : List (List Nat)} (h : OwnRows W base v ls) (hb : Below W.heap.size W W') : OwnRows W' base v ls :=
  have ⟨vs, h1, h2⟩ := h
  ⟨vs, row_below h1 hb, h2.below hb⟩
/-- How Open ends. -/
def Opens (w W : World) (F : Nat → Prop) (g b : Nat) (nm : NmT) (ls : List (List Nat)) (d' : DkT) (e : Ending) (w' : World) : Prop :=
  ∃ gl v F', e = .returned (.tuple #[.pointer (some ⟨gl, 0, none⟩), v, .int .i64 0]) ∧ LS w w' F' g b d' ∧ OwnRows w' W.heap.size v ls ∧ LogB w' F' gl g nm ∧ W.heap.size ≤ gl ∧ (∀ k, F' k → F k ∨ W.heap.size ≤ k) ∧ Turn F W w'
theorem opens_end {w W w2 w3 : World} {F F3 : Nat → Prop} {g b : Nat} {nm : NmT} {v : Value} {ls : List (List Nat)} {d d' : DkT} (L : LS w W F g b d) (hb2 : Below W.heap.size W w2) (hr : OwnRows w2 W.heap.size v ls) (L3 : LS w w3 F3 g b d') (h3 : ∀ k, F3 k → F k ∨ w2.heap.size ≤ k) (hlt : ∀ k, F3 k → k < w3.heap.size) (T3 : Turn F w2 w3) :
    Opens w W F g b nm ls d' (.returned (.tuple #[.pointer (some ⟨w3.heap.size, 0, none⟩), v, .int .i64 0])) (w3.alloc (.cells #[.pointer (some ⟨g, 0, none⟩), .string ⟨⟨nm⟩⟩] 128)) := by
  have hnF : ∀ k, W.heap.size ≤ k → ¬ F k := fun k hk hF => L.D.notF hk hF
  have hz := hb2.size
  have hz3 := T3.size
  refine ⟨w3.heap.size, v, F3, rfl, L3.keep (below_one _), (hr.turn T3 hnF).below (below_one _), ⟨Blk.new _ _ _, fun hk => by have := hlt _ hk; omega⟩, by omega, fun k hk => (h3 k hk).imp id fun h => by omega, ?_⟩
  exact ((Turn.of_below (F := F) hb2).trans T3 fun i hi => .inl hi).trans (Turn.of_below (F := F) (below_one _)) fun i hi => .inl hi

set_option maxHeartbeats 2000000 in
theorem logopen_any {w W : World} {F : Nat → Prop} {g b : Nat} {d d' : DkT} {nm : NmT} (L : LS w W F g b d) (hs : wfN nm) {r : Option (List Nat)} {e0 : Int} (hr : readD d nm = (r, e0)) (he0 : e0 = 0 ∨ e0 = 8) {l : List Nat} (hl : r.getD [] = l) (hlen : l.length ≤ 1000000000)
    (hcut : if scanW l < l.length then deedD d (fun f => cutC f nm (scanW l)) = (0, d') else d' = d) :
    Calls Try.prog 48 #[.pointer (some ⟨g, 0, none⟩), .string ⟨⟨nm⟩⟩] W (Opens w W F g b nm (scanL l) d') := by
  have hrd := L.read nm hs hr
  unfold Reads at hrd
  simp only [hl] at hrd
  have hsc := Lib.hid (fun W1 A1 c1 (hb : Bytes W1 A1 l.length l) (hc : l.length ≤ c1) => scan_any A1 l.length c1 l W1 hb hlen hc)
  have hE := Lib.hid (fun w2 w3 v F3 => @opens_end w W w2 w3 F F3 g b nm v (scanL l) d d' L)
  have e01 : ((e0 != 0) = true ∧ (e0 != 8) = false) ∨ (e0 != 0) = false := by rcases he0 with rfl | rfl <;> simp
  by_cases hc : scanW l < l.length
  · rw [if_pos hc] at hcut
    have hwf : (Lit.int .i64 (scanW l : Int)).wf = true := by simp [Lit.wf, IntKind.min, IntKind.max, IntKind.signed, IntKind.bits]; omega
    have Hcut := Lib.hid (fun (W2 : World) (hb2 : Below W.heap.size W W2) => (L.keep hb2).cut nm (scanW l : Int) hs hwf hcut)
    have HL := Lib.hid L
    have hc' : (scanW l : Int) < (l.length : Int) := by omega
    clear hcut hwf L hs hr he0 hl hlen
    generalize scanW l = sw at *
    generalize scanL l = sl at *
    rcases e01 with ⟨q1, q2⟩ | q1
    all_goals
      go_enter Try.func48, Try.ntmps48
      go_wp2_with (first
        | (go_at_call 35; refine hrd.mono ?_; rintro e w1 ⟨v1, rfl, hown1, hb1⟩; obtain ⟨A1, c1, rfl, hle1, _⟩ := hown1.form; have y1 := Lib.hid hown1.bytes.2.2; have hz1 := hb1.size; clear hown1)
        | (go_at_call 15; refine (hsc.out _ _ _ y1.out hle1).mono ?_; rintro e w2 ⟨v2, rfl, hrow, hb2⟩; have hb02 := hb1.trans (hb2.mono hz1); have R2 := Lib.hid hrow; clear hrow)
        | (go_at_call 38; refine (Hcut.out _ hb02).mono ?_; rintro e w3 ⟨rfl, F3, L3, h3, T3⟩))
      go_ret3
      exact hE.out w2 w3 v2 F3 hb02 (R2.out.low hz1) L3 h3 (fun k hk => L3.D.lt k hk) T3
  · rw [if_neg hc] at hcut
    subst hcut
    have HL := Lib.hid L
    have hc' : ¬ (scanW l : Int) < (l.length : Int) := by omega
    clear L hs hr he0 hl hlen
    generalize scanW l = sw at *
    generalize scanL l = sl at *
    rcases e01 with ⟨q1, q2⟩ | q1
    all_goals
      go_enter Try.func48, Try.ntmps48
      go_wp2_with (first
        | (go_at_call 35; refine hrd.mono ?_; rintro e w1 ⟨v1, rfl, hown1, hb1⟩; obtain ⟨A1, c1, rfl, hle1, _⟩ := hown1.form; have y1 := Lib.hid hown1.bytes.2.2; have hz1 := hb1.size; clear hown1)
        | (go_at_call 15; refine (hsc.out _ _ _ y1.out hle1).mono ?_; rintro e w2 ⟨v2, rfl, hrow, hb2⟩; have hb02 := hb1.trans (hb2.mono hz1); have R2 := Lib.hid hrow; clear hrow))
      go_ret3
      exact hE.out w2 w2 v2 F hb02 (R2.out.low hz1) (HL.out.keep hb02) (fun k hk => .inl hk) (fun k hk => (HL.out.keep hb02).D.lt k hk) (Turn.refl F w2)
end Go.Proofs.Ytpdlhcfepafjeaa
