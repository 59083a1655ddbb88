/- index.Deps, Seq: what the closures are told. index.Seq. -/
import Derived.Test.YtpdfbkkhmfnnjaaIndexMeetsQ5
import Derived.Test.YtpdfbkkhmfnnjaaIndexMeetsQ0
import Derived.WalkKit
import Derived.WalkSpells
import Derived.WalkLawsBesides
import Derived.Deep.RegionHeld3
import Derived.Deep.DrawnRows
import Derived.Deep.DeepCutAuto
import Derived.Deep.DeepFit
import Derived.Lib.Hide
import Derived.BigQuiet
import Derived.Deep.QuietTactic
import Derived.Shelf.Abstract
namespace Go.Proofs.Ytpdfbkkhmfnnjaa
open Go.RowKit
set_option linter.unusedVariables false
set_option linter.unusedSimpArgs false
set_option maxRecDepth 20000
attribute [local go_sem ↓] Go.wp_at_zero Go.wp_at_succ
attribute [local go_sem] World.cell?_alloc_some frozen_alloc_some
open Go.Maps

theorem ownX_turn {P : Nat → Prop} {w w' : World} {base : Nat} {e : TypeId} {size : Nat} {v : Value} {n : Nat} {xs : List Value} (h : w.ownsRow base e size v n xs) (t : Turn P w w') (hP : ∀ k, v.ownBlock = some k → ¬ P k) : w'.ownsRow base e size v n xs := by
  refine ⟨h.1, ?_⟩
  rcases h.2 with h0 | ⟨g, cap, cur, e1, hbs, hg, rest⟩
  · exact .inl h0
  · exact .inr ⟨g, cap, cur, e1, hbs, (t.block g (Array.getElem?_eq_some_iff.1 hg).1 (hP g (by rw [e1]; rfl))).trans hg, rest⟩
theorem idinfoX : ∃ i, Try.prog.info? 26 = some i ∧ i.zero = some (.agg #[.int .i64 0, .int .i64 0]) ∧ i.size = 2 ∧ i.bytes = 16 := by
  have h : (Try.prog.info? 26).map (fun i => (i.zero, i.size, i.bytes)) = some (some (.agg #[.int .i64 0, .int .i64 0]), 2, 16) := by kernel_rfl
  obtain ⟨i, hi, e⟩ := Option.map_eq_some_iff.1 h
  simp only [Prod.mk.injEq] at e
  exact ⟨i, hi, e.1, e.2.1, e.2.2⟩
/-- The ids told so far: in a box, and in blocks of their own. -/
def SDeps (p : Nat) (O : Nat → Prop) (l : List EntT) (W : World) : Prop :=
  ∃ v, Blk W p 42 #[v] ∧ W.ownsRow (p + 1) 26 2 v l.length (flat2 (l.map EntT.id)) ∧ (∀ k, O k ↔ (k = p ∨ v.ownBlock = some k)) ∧ ∀ e ∈ l, wfI e.i
set_option maxHeartbeats 2000000 in
theorem deps1_any (p : Nat) (O : Nat → Prop) (l : List EntT) (e : EntT) (W : World) (h : SDeps p O l W) (hw : wfI e.i) (hl : l.length ≤ 10000000) :
    Calls Try.prog 36 #[.agg #[.int .i64 e.i.1, .int .i64 e.i.2], .agg #[.int .i64 e.c.kind, .int .i64 e.c.client, .int .i64 e.c.seq, .string e.c.key, .string e.c.val, .int .i64 e.c.rev, .int .i64 e.s], .pointer (some ⟨p, 0, none⟩)] W (EachP (SDeps p) O l e W) := by
  obtain ⟨v, hb, ho, hO, hwf⟩ := h
  obtain ⟨i0, hi, hz0, hz1, hz2⟩ := idinfoX
  obtain ⟨W2, hW2⟩ : ∃ W2, W2 = ((W.alloc (.cells #[.int .i64 e.i.1, .int .i64 e.i.2] 26)).alloc (.cells #[.int .i64 e.c.kind, .int .i64 e.c.client, .int .i64 e.c.seq, .string e.c.key, .string e.c.val, .int .i64 e.c.rev, .int .i64 e.s] 78)).alloc (.cells #[.int .i64 e.i.1, .int .i64 e.i.2] 26) := ⟨_, rfl⟩
  have k1 : Below W.heap.size W W2 := by
    have := hW2
    subst this
    ((repeat' first | with_reducible exact Below.refl _ _ | with_reducible assumption | with_reducible refine Below.alloc ?_ ?_ _ | with_reducible refine Below.setCell ?_ ?_ _ | with_reducible apply Below.drew | with_reducible apply below_drewN | with_reducible refine below_call ?_ (by with_reducible assumption) ?_) <;> (first | omega | (simp; done) | (simp; omega) | (simp at *; omega)))
  have hp := hb.lt
  have b2 := hb.keep k1
  have o2 := ownX_keep ho k1
  have hs2 : p + 1 ≤ W2.heap.size := by have := k1.size; omega
  have pc := hb.cell 0
  have I0 := Blk.new W 26 #[.int .i64 e.i.1, .int .i64 e.i.2]
  have ic := I0.cell
  have hsrc : Src W2 2 (some ⟨((W.alloc (.cells #[.int .i64 e.i.1, .int .i64 e.i.2] 26)).alloc (.cells #[.int .i64 e.c.kind, .int .i64 e.c.client, .int .i64 e.c.seq, .string e.c.key, .string e.c.val, .int .i64 e.c.rev, .int .i64 e.s] 78)).heap.size, 0, none⟩) 1 (flat2 [e.i]) := by
    rw [hW2]; exact src_two (x := e.i)
  simp only [World.size_alloc] at hsrc
  have FIN : ∀ v9 w9, w9.ownsRow (p + 1) 26 2 v9 (l.length + 1) (flat2 (l.map EntT.id) ++ flat2 [e.i]) → W2.grownBy w9 v.ownBlock → (v9.ownBlock = v.ownBlock ∨ v9.ownBlock = some W2.heap.size) → EachP (SDeps p) O l e W (.returned (.tuple #[])) (w9.setCell ⟨p, 0, none⟩ v9) := fun v9 w9 h9 hg hat => by
    have hg2 : Blk w9 p 42 #[v] := (hg.block _ b2.lt (fun e => by have := (o2.lt _ e.symm).1; omega)).trans b2
    have t9 := Turn.setCell hg2 0 v9
    have hset := hg2.set_ 0 v9
    simp only [List.setIfInBounds_toArray, List.set_cons_zero] at hset
    refine ⟨rfl, fun k => k = p ∨ v9.ownBlock = some k, ⟨v9, hset, ?_, fun k => Iff.rfl, fun x hx => ?_⟩, fun k hk => ?_, ?_⟩
    · rw [List.length_append, List.map_append, flat2_append]
      refine ownX_turn h9 t9 fun k hk e => ?_
      have := (h9.lt k hk).1
      omega
    · rcases List.mem_append.1 hx with hx | hx
      · exact hwf x hx
      · simp at hx; subst hx; exact hw
    · rcases hk with hk | hk
      · exact .inl ((hO k).2 (.inl hk))
      · rcases hat with h1 | h1
        · exact .inl ((hO k).2 (.inr (by rw [← h1]; exact hk)))
        · rw [h1] at hk
          injection hk with hk
          have := k1.size
          exact .inr (by omega)
    · refine ((Turn.of_below (F := O) k1).trans (Turn.of_grown (F := O) hg fun k hk => (hO k).2 (.inr hk)) (fun i hi => .inl hi)).trans (t9.mono (F' := O) fun k _ e => (hO k).2 (.inl e)) (fun i hi => .inl hi)
  have PB : ∀ w9, W2.grownBy w9 v.ownBlock → Blk w9 p 42 #[v] := fun w9 hg => ((hg.block _ b2.lt (fun e => by have := (o2.lt _ e.symm).1; omega)).trans b2)
  have HF := Lib.hid FIN
  have HP := Lib.hid PB
  have Ho2 := Lib.hid o2
  have Hsrc := Lib.hid hsrc
  clear FIN PB hb ho hO hwf b2 k1 I0 o2 hsrc
  subst hW2
  have hsz : W.heap.size + 1 + 1 + 1 ≥ p + 1 := by omega
  go_enter Try.func36, Try.ntmps36
  go_wp2_with ((at_builtin; go_loud (refine wpList_app _ rfl (.tmp 5) (.tmp 7) 42 rfl _ 26 i0 _ 2 16 Try.underlying42 hi hz0 hz1 hz2 rfl (by omega) _ _ _ rfl Ho2.out _ _ _ _ rfl Hsrc.out ?h63 ?hby ?hbase ?_); (case h63 => (unfold maxLen; first | omega | (simp; done) | (simp; omega))); (case hby => first | omega | (simp; done) | (simp; omega)); (case hbase => first | omega | (simp; done) | (simp; omega)); intro v9 w9 hownw9 hgroww9 hatw9 holdw9); have pb9 := HP.out w9 hgroww9; have pc9 := pb9.cell; have pf9 := pb9.frozen; clear pb9; obtain ⟨A8, c8, rfl, _, _⟩ := ownX_form hownw9)
  go_end0
  exact HF.out _ _ hownw9 hgroww9 hatw9
theorem wfI_each {y : List EntT} (hok : ∀ e ∈ y, EntOk e) : ∀ e ∈ y, wfI e.i := fun e he => (hok e he).1
theorem each_deps (p N : Nat) (y : List EntT) (hok : ∀ e ∈ y, EntOk e) (hN : N ≤ 10000000) : Each 36 p N y (SDeps p) :=
  ⟨enters_of Try.func36 (by kernel_rfl) rfl,
   fun {O l W} h k hk => by
    obtain ⟨v, hb, ho, hO, _⟩ := h
    rcases (hO k).1 hk with rfl | hk
    · exact hb.lt
    · exact (ho.lt _ hk).2,
   fun {O l W W' P} h t hP => by
    obtain ⟨v, hb, ho, hO, hwf⟩ := h
    exact ⟨v, t.blk hb (hP p ((hO p).2 (.inl rfl))), ownX_turn ho t fun k hk => hP k ((hO k).2 (.inr hk)), hO, hwf⟩,
   fun O l e W h he hl => deps1_any p O l e W h (hok e he).1 (by omega)⟩
end Go.Proofs.Ytpdfbkkhmfnnjaa

namespace Go.Proofs.Ytpdfbkkhmfnnjaa
open Go.RowKit
set_option linter.unusedVariables false
set_option linter.unusedSimpArgs false
set_option maxRecDepth 20000
attribute [local go_sem ↓] Go.wp_at_zero Go.wp_at_succ
attribute [local go_sem] World.cell?_alloc_some frozen_alloc_some
open Go.Maps

/-- The greatest number told so far, in a box. -/
def SSeq (p : Nat) (O : Nat → Prop) (l : List EntT) (W : World) : Prop := Blk W p 3 #[.int .i64 (maxE 0 l)] ∧ (∀ k, O k ↔ k = p) ∧ 0 ≤ maxE 0 l ∧ maxE 0 l ≤ 1152921504606846976
set_option maxHeartbeats 2000000 in
theorem seq1_any (p : Nat) (O : Nat → Prop) (l : List EntT) (e : EntT) (W : World) (h : SSeq p O l W) (hs : e.s ≤ 1152921504606846976) :
    Calls Try.prog 39 #[.agg #[.int .i64 e.i.1, .int .i64 e.i.2], .agg #[.int .i64 e.c.kind, .int .i64 e.c.client, .int .i64 e.c.seq, .string e.c.key, .string e.c.val, .int .i64 e.c.rev, .int .i64 e.s], .pointer (some ⟨p, 0, none⟩)] W (EachP (SSeq p) O l e W) := by
  obtain ⟨hb, hO, h0, h1⟩ := h
  have hsn := maxE_snoc 0 l e
  have t1 := Turn.setCell hb 0 (.int .i64 (maxE 0 (l ++ [e])))
  have hset := hb.set_ 0 (.int .i64 (maxE 0 (l ++ [e])))
  simp only [List.setIfInBounds_toArray, List.set_cons_zero] at hset
  have FIN : ∀ W2, Below (W.setCell ⟨p, 0, none⟩ (.int .i64 (maxE 0 (l ++ [e])))).heap.size (W.setCell ⟨p, 0, none⟩ (.int .i64 (maxE 0 (l ++ [e])))) W2 → EachP (SSeq p) O l e W (.returned (.tuple #[])) W2 := fun W2 k2 =>
    ⟨rfl, O, ⟨hset.keep k2, hO, by rw [hsn]; omega, by rw [hsn]; omega⟩, fun k hk => .inl hk, (t1.mono (F' := O) fun k _ e => (hO k).2 e).trans (Turn.of_below (F := O) k2) (fun i hi => .inl hi)⟩
  rw [hsn] at FIN
  have hp := hb.lt
  have pc := hb.cell
  have pf := hb.frozen
  generalize maxE 0 l = mx at *
  have HF := Lib.hid FIN
  clear FIN hset hb hO hsn t1
  by_cases hm : mx ≤ e.s
  all_goals
    go_enter Try.func39, Try.ntmps39
    go_wp2_with fail
    go_end0
    exact HF.out _ (by ((repeat' first | with_reducible exact Below.refl _ _ | with_reducible assumption | with_reducible refine Below.alloc ?_ ?_ _ | with_reducible refine Below.setCell ?_ ?_ _ | with_reducible apply Below.drew | with_reducible apply below_drewN | with_reducible refine below_call ?_ (by with_reducible assumption) ?_) <;> (first | omega | (simp; done) | (simp; omega) | (simp at *; omega))))
theorem each_seq (p N : Nat) (y : List EntT) (hs : ∀ e ∈ y, e.s ≤ 1152921504606846976) : Each 39 p N y (SSeq p) :=
  ⟨enters_of Try.func39 (by kernel_rfl) rfl,
   fun {O l W} h k hk => by rw [(h.2.1 k).1 hk]; exact h.1.lt,
   fun {O l W W' P} h t hP => ⟨t.blk h.1 (hP p ((h.2.1 p).2 rfl)), h.2⟩,
   fun O l e W h he _ => seq1_any p O l e W h (hs e he)⟩
set_option maxHeartbeats 4000000 in
theorem ixseq_any (F : Nat → Prop) (g n : Nat) (y : List EntT) (c : CmdT) (b1 b2 : Int) (w : World) (h : IxAt w F g y n) (hc : c.Ok) (hn : n ≤ 1000) (hs : ∀ e ∈ y, e.s ≤ 1152921504606846976) :
    Calls Try.prog 18 #[.pointer (some ⟨g, 0, none⟩), c.v, .agg #[.int .i64 b1, .int .i64 b2]] w (Gives w (.int .i64 (seqE y c (b1, b2)))) := by
  obtain ⟨ba, bk, bc, bw, ks, cs, co, hG, hV, hok, hy, hk, hcs⟩ := h
  obtain ⟨W3, hW3⟩ : ∃ W3, W3 = ((w.alloc (.cells #[.int .i64 c.kind, .int .i64 c.client, .int .i64 c.seq, .string c.key, .string c.val, .int .i64 c.rev] 24)).alloc (.cells #[.int .i64 b1, .int .i64 b2] 26)).alloc (.cells #[.int .i64 0] 3) := ⟨_, rfl⟩
  have k3 : Below w.heap.size w W3 := by
    have := hW3
    subst this
    ((repeat' first | with_reducible exact Below.refl _ _ | with_reducible assumption | with_reducible refine Below.alloc ?_ ?_ _ | with_reducible refine Below.setCell ?_ ?_ _ | with_reducible apply Below.drew | with_reducible apply below_drewN | with_reducible refine below_call ?_ (by with_reducible assumption) ?_) <;> (first | omega | (simp; done) | (simp; omega) | (simp at *; omega)))
  have hp : Blk W3 (w.heap.size + 1 + 1) 3 #[.int .i64 0] := by rw [hW3]; exact blk_newAt (by simp)
  have hlt := hG.lt
  have hcall := meets_any 39 (w.heap.size + 1 + 1) 1003000 F (fun k => k = w.heap.size + 1 + 1) g ba bk bc bw y ks cs co c b1 b2 (SSeq (w.heap.size + 1 + 1)) W3 (hG.keep k3) hV hok hc (each_seq _ _ y hs) ⟨hp, fun k => Iff.rfl, by simp [maxE], by simp [maxE]⟩ (fun i hi e => by have := hlt i hi; omega)
    (Nat.mul_le_mul (by omega : ks.length + 3 ≤ 1003) (by omega : y.length ≤ 1000)) (by omega)
  have FIN : ∀ w9, (∃ O l, SSeq (w.heap.size + 1 + 1) O l w9 ∧ (∀ k, O k → k = w.heap.size + 1 + 1 ∨ W3.heap.size ≤ k) ∧ (∀ x, x ∈ l ↔ x ∈ y ∧ meetE c (b1, b2) x = true) ∧ l.length ≤ 1003000 ∧ Turn (fun k => k = w.heap.size + 1 + 1) W3 w9) →
      ∃ m : Int, m + 1 = seqE y c (b1, b2) ∧ 0 ≤ m ∧ m ≤ 1152921504606846976 ∧ (∀ i, w9.cell? ⟨w.heap.size + 1 + 1, i, none⟩ = (#[.int .i64 m] : Array Value)[i]?) ∧ Below w.heap.size w w9 := fun w9 ⟨O, l, hS, _, hl, hlen, t⟩ =>
    ⟨maxE 0 l, seqE_of hl, hS.2.2.1, hS.2.2.2, hS.1.cell, Turn.below k3 t (fun i e => by omega) k3.size⟩
  have HF := Lib.hid FIN
  clear FIN hG hV hok hy hk hcs hs hc hlt hp k3
  subst hW3
  have hmf : ∀ (fn : Fn) (first cap : Array Value) (w : World), (Instr.makeFunc fn first cap).run Try.prog w = .ok (.func fn first cap) w := fun _ _ _ _ => rfl
  unfold CmdT.v at hcall ⊢
  go_enter Try.func18, Try.ntmps18
  go_wp2_with (go_at_call 35; (with_reducible refine hcall.mono ?_); rintro e w9 ⟨rfl, hp9⟩; obtain ⟨m, hm1, hm2, hm3, hm4, hb9⟩ := HF.out w9 hp9; clear hp9)
  go_ret
  exact ⟨by rw [← hm1]; rfl, hb9⟩
end Go.Proofs.Ytpdfbkkhmfnnjaa
