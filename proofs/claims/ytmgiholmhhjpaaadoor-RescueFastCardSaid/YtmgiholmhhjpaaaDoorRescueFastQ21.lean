/- rescue.Decide: what it answers where all that was said counts; where too few said something. The document's example of rescue. The law RescueAccepted: what is found (no program in sight), and its walk. -/
import Derived.Test.YtmgiholmhhjpaaaDoorRescueFastQ20
import Derived.Test.YtmgiholmhhjpaaaDoorRescueFastQ6
import Derived.WalkKit
import Derived.WalkSpells
import Derived.WalkLawsBesides
import Derived.Deep.RegionHeld3
import Derived.Deep.DrawnRows
import Derived.Deep.DeepCutAuto
import Derived.Deep.DeepFit
import Derived.Lib.Hide
import Derived.BigQuiet
import Derived.Deep.QuietTactic
namespace Go.Proofs.YtmgiholmhhjpaaaDoor
open Go.RowKit
set_option linter.unusedVariables false
set_option linter.unusedSimpArgs false
set_option maxRecDepth 20000
attribute [local go_sem ↓] Go.wp_at_zero Go.wp_at_succ
attribute [local go_sem] World.cell?_alloc_some frozen_alloc_some
attribute [local go_sem ↓ high] loadVar_rec storeVar_rec loadVar_seen storeVar_seen loadVar_dec storeVar_dec
attribute [local go_sem] rec_store_new seen_store_new dec_store_new

def noop : RecT := { zeroRec with sq := 1, tg := 1 }
/-- What becomes of an instance: the number, and the record whose command and Attr it is. -/
def decD (ir : Int) (ss : List SeenT) (f : RecT) : Int × RecT :=
  match fnd 3 ss with
  | some s => (1, s.r)
  | none => match acc ss with
    | some s => (2, s.r)
    | none => if ss.all (fastOk ir f) then (2, f) else match fnd 1 ss with
      | some s => (3, s.r)
      | none => (2, noop)
theorem decide_any (n ir inn : Int) (A : Option Addr) (m c : Nat) (ss : List SeenT) (f : SeenT) (w : World) (h : SeensAt w A m ss) (h0 : ss[0]? = some f) (hg : Good n ir inn ss) (hT : Tabs w) (hm : m ≤ 1000) (h1 : 1 ≤ n) (hn : n ≤ 1000) (hq : ¬ (m : Int) < quo n) :
    Calls Tryd.prog 13 #[.int .i64 n, .agg #[.int .i64 ir, .int .i64 inn], .slice A m c] w (Gives w (decF (decD ir ss f.r).1 (decD ir ss f.r).2)) := by
  have a1 := fun (A' : Option Addr) (c' : Nat) (W : World) (hS : SeensAt W A' m ss) => committed_any A' m c' ss W hS
  have a2 := fun (A' : Option Addr) (c' : Nat) (W : World) (hS : SeensAt W A' m ss) => accepted_any A' m c' ss W hS
  have a4 := fun (A' : Option Addr) (c' : Nat) (W : World) (hS : SeensAt W A' m ss) => offered_any A' m c' ss W hS
  have a3 : ∀ (A' : Option Addr) (c' : Nat) (g : Nat), AskC (fun W => SeensAt W A' m ss ∧ Blk W g 28 #[.int .i64 ir, .int .i64 inn]) 32 #[.slice A' m c', .pointer (some ⟨g, 0, none⟩)] (if ss.all (fastOk ir f.r) then 2 else 0) (if ss.all (fastOk ir f.r) then f.r else zeroRec) (ss.all (fastOk ir f.r)) := fun A' c' g W hS =>
    couldbe_any ir inn A' m c' ss f g W hS.1 h0 hS.2 _ _ _ rfl (by cases ss.all (fastOk ir f.r) <;> rfl)
  unfold decD
  unfold askR at a1 a4
  cases e1 : fnd 3 ss with
  | some s =>
    rw [e1] at a1
    cases e4 : fnd 1 ss with
    | some s4 => rw [e4] at a4; exact decide_core n ir inn A m c ss w h hg hT hm h1 hn hq 1 2 _ 3 s.r _ _ s4.r true _ _ true a1 a2 a3 a4 1 s.r rfl
    | none => rw [e4] at a4; exact decide_core n ir inn A m c ss w h hg hT hm h1 hn hq 1 2 _ 0 s.r _ _ zeroRec true _ _ false a1 a2 a3 a4 1 s.r rfl
  | none =>
    rw [e1] at a1
    cases e2 : acc ss with
    | some s =>
      rw [e2] at a2
      cases e4 : fnd 1 ss with
      | some s4 => rw [e4] at a4; exact decide_core n ir inn A m c ss w h hg hT hm h1 hn hq 0 2 _ 3 zeroRec s.r _ s4.r false true _ true a1 a2 a3 a4 2 s.r rfl
      | none => rw [e4] at a4; exact decide_core n ir inn A m c ss w h hg hT hm h1 hn hq 0 2 _ 0 zeroRec s.r _ zeroRec false true _ false a1 a2 a3 a4 2 s.r rfl
    | none =>
      rw [e2] at a2
      cases e3 : ss.all (fastOk ir f.r) with
      | true =>
        simp only [e3] at a3
        cases e4 : fnd 1 ss with
        | some s4 => rw [e4] at a4; exact decide_core n ir inn A m c ss w h hg hT hm h1 hn hq 0 2 2 3 zeroRec zeroRec f.r s4.r false false true true a1 a2 a3 a4 2 f.r rfl
        | none => rw [e4] at a4; exact decide_core n ir inn A m c ss w h hg hT hm h1 hn hq 0 2 2 0 zeroRec zeroRec f.r zeroRec false false true false a1 a2 a3 a4 2 f.r rfl
      | false =>
        simp only [e3] at a3
        cases e4 : fnd 1 ss with
        | some s4 => rw [e4] at a4; exact decide_core n ir inn A m c ss w h hg hT hm h1 hn hq 0 2 0 3 zeroRec zeroRec zeroRec s4.r false false false true a1 a2 a3 a4 3 s4.r rfl
        | none => rw [e4] at a4; exact decide_core n ir inn A m c ss w h hg hT hm h1 hn hq 0 2 0 0 zeroRec zeroRec zeroRec zeroRec false false false false a1 a2 a3 a4 2 noop rfl
set_option maxHeartbeats 4000000 in
theorem decide_wait (n ir inn : Int) (A : Option Addr) (m c : Nat) (ss : List SeenT) (w : World) (h : SeensAt w A m ss) (hg : Good n ir inn ss) (hT : Tabs w) (hm : m ≤ 1000) (h1 : 1 ≤ n) (hn : n ≤ 1000) (hq : (m : Int) < quo n) :
    Calls Tryd.prog 13 #[.int .i64 n, .agg #[.int .i64 ir, .int .i64 inn], .slice A m c] w (Gives w decZ) := by
  have hlt1 : ¬ n < 1 := by omega
  have hqu := fun W => quorum_any n W h1 hn
  have hcn := fun W (hb : Below w.heap.size w W) => counted_any n ir inn A m c ss W (h.keep hb) hg (hT.keep hb) hm hn
  have Hcn := Lib.hid hcn
  generalize quo n = Q at *
  clear hcn h hg hT
  have B0 : Blk ((w.alloc (.cells #[.int .i64 ir, .int .i64 inn] 28)).alloc (.cells #[.int .i64 0, .int .i64 0, .int .i64 0, .int .i64 0, .string ⟨#[]⟩, .string ⟨#[]⟩, .int .i64 0, .slice none 0 0, .int .i64 0, .int .i64 0] 42)) w.heap.size 28 #[.int .i64 ir, .int .i64 inn] := (Blk.new w _ _).alloc _
  have B1 : Blk ((w.alloc (.cells #[.int .i64 ir, .int .i64 inn] 28)).alloc (.cells #[.int .i64 0, .int .i64 0, .int .i64 0, .int .i64 0, .string ⟨#[]⟩, .string ⟨#[]⟩, .int .i64 0, .slice none 0 0, .int .i64 0, .int .i64 0] 42)) (w.heap.size + 1) 42 #[.int .i64 0, .int .i64 0, .int .i64 0, .int .i64 0, .string ⟨#[]⟩, .string ⟨#[]⟩, .int .i64 0, .slice none 0 0, .int .i64 0, .int .i64 0] := Blk.newAt (by simp)
  have k0 : Below w.heap.size w ((w.alloc (.cells #[.int .i64 ir, .int .i64 inn] 28)).alloc (.cells #[.int .i64 0, .int .i64 0, .int .i64 0, .int .i64 0, .string ⟨#[]⟩, .string ⟨#[]⟩, .int .i64 0, .slice none 0 0, .int .i64 0, .int .i64 0] 42)) := by ((repeat' first | with_reducible exact Below.refl _ _ | with_reducible assumption | with_reducible refine Below.alloc ?_ ?_ _ | with_reducible refine Below.setCell ?_ ?_ _ | with_reducible apply Below.drew | with_reducible apply below_drewN | with_reducible refine below_call ?_ (by with_reducible assumption) ?_) <;> (first | omega | (simp; done) | (simp; omega) | (simp at *; omega)))
  go_enter Tryd.func13, Tryd.ntmps13
  go_wp2_with (first | (go_at_call 31; (with_reducible refine (Hcn.out _ k0).mono ?_); rintro e w1 ⟨A', c', rfl, hS, hb1⟩; have P : DS w ir inn A' m ss w1 := ⟨below_call k0 hb1 k0.size, B0.keep hb1, B1.keep hb1, hS⟩; clear hS hb1 B0 B1 k0; have sd1 := dec_store P.d rfl 0 0 0 0 ByteArray.empty ByteArray.empty 0 none 0 0 0 0; have sd2 := dec_store P.d rfl 0 0 0 0 ⟨#[]⟩ ⟨#[]⟩ 0 none 0 0 0 0) | (go_at_call 12; refine (hqu _).mono ?_; rintro e w2 ⟨rfl, rfl⟩))
  refine bodyPost_ret (v := decZ) (results_dec rfl rfl (P.d.decSet (cs' := #[.int .i64 0, .int .i64 0, .int .i64 0, .int .i64 0, .string ByteArray.empty, .string ByteArray.empty, .int .i64 0, .slice none 0 0, .int .i64 0, .int .i64 0]) rfl)) rfl ?_
  exact ⟨rfl, below_decSet P.hb (by omega) _⟩
end Go.Proofs.YtmgiholmhhjpaaaDoor

namespace Go.Proofs.YtmgiholmhhjpaaaDoor
open Go.RowKit
set_option linter.unusedVariables false
set_option linter.unusedSimpArgs false
set_option maxRecDepth 20000
attribute [local go_sem ↓] Go.wp_at_zero Go.wp_at_succ
attribute [local go_sem] World.cell?_alloc_some frozen_alloc_some
attribute [local go_sem ↓ high] loadVar_rec storeVar_rec loadVar_seen storeVar_seen loadVar_dec storeVar_dec cmd_eql_run
attribute [local go_sem] rec_store_new seen_store_new dec_store_new

theorem seens_block {w : World} {g : Nat} {t : TypeId} {cs : Array Value} {ss : List SeenT} (h : Blk w g t cs) (hc : cs.toList = flatS ss) (hok : ∀ s ∈ ss, s.r.Ok w) (hl : ss.length ≤ maxLen) : SeensAt w (some ⟨g, 0, none⟩) ss.length ss := by
  refine ⟨rfl, hl, fun i s hi => ⟨hok s (List.mem_of_getElem? hi), g, 0, rfl, fun j v hj => ?_⟩⟩
  have hf := flatS_get ss i s hi j v (by rw [List.getElem?_toArray] at hj; exact hj)
  rw [h.cell, Nat.zero_add, ← Array.getElem?_toList, hc]
  exact hf
/-- A record that knows nothing. -/
def bareRec (i n br bb : Int) : RecT := { zeroRec with i := i, n := n, br := br, bb := bb }
theorem bare_okw (w : World) {i n br bb : Int} (h1 : (Lit.int .i64 i).wf = true) (h2 : (Lit.int .i64 n).wf = true) (h3 : (Lit.int .i64 br).wf = true) (h4 : (Lit.int .i64 bb).wf = true) : (bareRec i n br bb).Ok w :=
  have z : (Lit.int .i64 0).wf = true := by decide
  { i := h1, n := h2, st := z, br := h3, bb := h4, tr := z, tb := z, k := z, c := z, q := z, y := Nat.zero_le _, x := Nat.zero_le _, r := z, m := Nat.le_refl _, cap := Nat.zero_le _, l := IdsAt.nil, sq := z, tg := z }
def ss2 : List SeenT := [⟨1, bareRec 0 1 0 0⟩, ⟨2, bareRec 0 1 0 0⟩]
theorem bare_ok {i n br bb : Int} (h1 : idRight (i, n) = true) (h2 : rightB br bb = true) : recOk (bareRec i n br bb) = true := by
  obtain ⟨a0, a1, a2, a3⟩ := rightB_iff.1 h2
  have e3 : lessB br bb 0 0 = false := by rw [← Bool.not_eq_true, lessB_iff]; omega
  unfold recOk
  rw [if_neg, if_neg, if_pos]
  · unfold recbare ceq bareRec zeroRec; simp; exact asame_iff.2 rfl
  · rfl
  · show ¬ (rightB br bb = false ∨ rightB 0 0 = false ∨ lessB br bb 0 0 = true)
    rw [h2, e3, show rightB 0 0 = true by decide]; simp
  · show ¬ (idRight (i, n) = false ∨ (0 : Int) < 0 ∨ (3 : Int) < 0)
    rw [h1]; simp
theorem ss2_ok : recOk (bareRec 0 1 0 0) = true := bare_ok (by decide) (by decide)
theorem ss2_good : Good 3 0 1 ss2 := ⟨by decide, by decide, by intro s hs; simp [ss2] at hs; rcases hs with rfl | rfl <;> rfl, by intro s hs; simp [ss2] at hs; rcases hs with rfl | rfl <;> exact ss2_ok, by decide⟩
theorem nil_good {n ir inn : Int} : Good n ir inn [] := ⟨by simp, by simp, by simp, by simp, by simp⟩
theorem dec_fld0 (d : Int) (d1 d2 d3 d4 d5 d6 d7 d8 d9 : Value) (w : World) : (Instr.field 42 (.agg #[.int .i64 d, d1, d2, d3, d4, d5, d6, d7, d8, d9]) 0).run Tryd.prog w = .ok (.int .i64 d) w := by kernel_rfl
attribute [local go_sem ↓ high] dec_fld0
set_option maxHeartbeats 4000000 in
theorem awake25 (w : World) (hT : Tabs w) : Calls Tryd.prog 11 #[] w (Gives w (.bool true)) := by
  have hc : (#[.int .i64 1, .int .i64 0, .int .i64 1, .int .i64 0, .int .i64 0, .int .i64 0, .int .i64 0, .int .i64 0, .int .i64 0, .int .i64 0, .int .i64 0, .string ⟨#[]⟩, .string ⟨#[]⟩, .int .i64 0, .slice none 0 0, .int .i64 0, .int .i64 0, .int .i64 2, .int .i64 0, .int .i64 1, .int .i64 0, .int .i64 0, .int .i64 0, .int .i64 0, .int .i64 0, .int .i64 0, .int .i64 0, .int .i64 0, .string ⟨#[]⟩, .string ⟨#[]⟩, .int .i64 0, .slice none 0 0, .int .i64 0, .int .i64 0] : Array Value).toList = flatS ss2 := rfl
  have hd1 := fun (W : World) (g : Nat) (hb : Below w.heap.size w W) (hB : Blk W g 40 #[.int .i64 1, .int .i64 0, .int .i64 1, .int .i64 0, .int .i64 0, .int .i64 0, .int .i64 0, .int .i64 0, .int .i64 0, .int .i64 0, .int .i64 0, .string ⟨#[]⟩, .string ⟨#[]⟩, .int .i64 0, .slice none 0 0, .int .i64 0, .int .i64 0, .int .i64 2, .int .i64 0, .int .i64 1, .int .i64 0, .int .i64 0, .int .i64 0, .int .i64 0, .int .i64 0, .int .i64 0, .int .i64 0, .int .i64 0, .string ⟨#[]⟩, .string ⟨#[]⟩, .int .i64 0, .slice none 0 0, .int .i64 0, .int .i64 0]) => decide_any 3 0 1 (some ⟨g, 0, none⟩) 2 2 ss2 ⟨1, bareRec 0 1 0 0⟩ W
    (seens_block (ss := ss2) hB hc (by intro s hs; simp [ss2] at hs; rcases hs with rfl | rfl <;> exact bare_okw W (by decide) (by decide) (by decide) (by decide)) (by decide)) rfl ss2_good (hT.keep hb) (by decide) (by decide) (by decide) (by decide)
  rw [show decD 0 ss2 (bareRec 0 1 0 0) = (2, noop) from rfl] at hd1
  have hd2 := fun (W : World) (hb : Below w.heap.size w W) => decide_wait 3 0 1 none 0 0 [] W SeensAt.nil nil_good (hT.keep hb) (by decide) (by decide) (by decide) (by decide)
  simp only at hd1
  unfold decF noop zeroRec at hd1
  unfold decZ at hd2
  have hce : ceq 0 0 0 ⟨#[]⟩ ⟨#[]⟩ 0 0 0 0 ⟨#[]⟩ ⟨#[]⟩ 0 = true := by simp [ceq]
  have hce2 : ceq 0 0 0 ⟨#[]⟩ ⟨#[]⟩ 0 0 0 0 ByteArray.empty ByteArray.empty 0 = true := hce
  have Hd1 := Lib.hid hd1
  have Hd2 := Lib.hid hd2
  clear hd1 hd2 hT hc
  go_enter Tryd.func11, Tryd.ntmps11
  go_wp2_with (first | (go_at_call 13; (with_reducible refine (Hd1.out _ (w.heap.size + 1) (by ((repeat' first | with_reducible exact Below.refl _ _ | with_reducible assumption | with_reducible refine Below.alloc ?_ ?_ _ | with_reducible refine Below.setCell ?_ ?_ _ | with_reducible apply Below.drew | with_reducible apply below_drewN | with_reducible refine below_call ?_ (by with_reducible assumption) ?_) <;> (first | omega | (simp; done) | (simp; omega) | (simp at *; omega)))) (Blk.newAt (by simp))).mono ?_); rintro e w1 ⟨rfl, hb1⟩; have hz1 := hb1.size; (try simp at hz1); have I1 := (Blk.keep ((Blk.new w 28 #[.int .i64 0, .int .i64 1]).alloc _) hb1); have I1c := I1.cell; have k1 : Below w.heap.size w w1 := (by ((repeat' first | with_reducible exact Below.refl _ _ | with_reducible assumption | with_reducible refine Below.alloc ?_ ?_ _ | with_reducible refine Below.setCell ?_ ?_ _ | with_reducible apply Below.drew | with_reducible apply below_drewN | with_reducible refine below_call ?_ (by with_reducible assumption) ?_) <;> (first | omega | (simp; done) | (simp; omega) | (simp at *; omega))))) | (go_at_call 13; (with_reducible refine (Hd2.out _ (by ((repeat' first | with_reducible exact Below.refl _ _ | with_reducible assumption | with_reducible refine Below.alloc ?_ ?_ _ | with_reducible refine Below.setCell ?_ ?_ _ | with_reducible apply Below.drew | with_reducible apply below_drewN | with_reducible refine below_call ?_ (by with_reducible assumption) ?_) <;> (first | omega | (simp; done) | (simp; omega) | (simp at *; omega))))).mono ?_); rintro e w2 ⟨rfl, hb2⟩; have hz2 := hb2.size; (try simp at hz2)))
  go_ret
  exact ⟨rfl, by ((repeat' first | with_reducible exact Below.refl _ _ | with_reducible assumption | with_reducible refine Below.alloc ?_ ?_ _ | with_reducible refine Below.setCell ?_ ?_ _ | with_reducible apply Below.drew | with_reducible apply below_drewN | with_reducible refine below_call ?_ (by with_reducible assumption) ?_) <;> (first | omega | (simp; done) | (simp; omega) | (simp at *; omega)))⟩
end Go.Proofs.YtmgiholmhhjpaaaDoor

namespace Go.Proofs.YtmgiholmhhjpaaaDoor
open Go.RowKit
set_option linter.unusedVariables false
set_option linter.unusedSimpArgs false
set_option maxRecDepth 20000
attribute [local go_sem ↓] Go.wp_at_zero Go.wp_at_succ
attribute [local go_sem] World.cell?_alloc_some frozen_alloc_some
attribute [local go_sem ↓ high] loadVar_rec storeVar_rec loadVar_seen storeVar_seen loadVar_dec storeVar_dec cmd_eql_run
attribute [local go_sem] rec_store_new seen_store_new dec_store_new

theorem acc_snoc (ss : List SeenT) (s : SeenT) : acc (ss ++ [s]) = accStep (acc ss) s := by unfold acc; rw [List.foldl_append]; rfl
/-- The highest that one accepted is found. -/
theorem acc_has {r u : RecT} (hr : r.st = 2) (h1 : lessB u.tr u.tb r.tr r.tb = true) (h2 : lessB r.tr r.tb u.tr u.tb = false) (h3 : lessB r.tr r.tb r.tr r.tb = false) :
    ∀ ss : List SeenT, (∀ s ∈ ss, s.r = r ∨ s.r = u) → (acc ss = none ∨ (∃ s, acc ss = some s ∧ (s.r = r ∨ s.r = u))) ∧ ((∃ s ∈ ss, s.r = r) → ∃ s, acc ss = some s ∧ s.r = r) := by
  intro ss
  generalize hn : ss.length = n
  induction n generalizing ss with
  | zero =>
    obtain rfl := List.eq_nil_of_length_eq_zero hn
    exact fun _ => ⟨.inl rfl, fun ⟨s, hs, _⟩ => by cases hs⟩
  | succ n ih =>
    intro hall
    have hne : ss ≠ [] := by intro h; rw [h] at hn; cases hn
    obtain ⟨l, s, rfl⟩ : ∃ l s, ss = l ++ [s] := ⟨ss.dropLast, ss.getLast hne, (List.dropLast_concat_getLast hne).symm⟩
    have hl : l.length = n := by simpa using hn
    obtain ⟨i1, i2⟩ := ih l hl (fun x hx => hall x (List.mem_append_left _ hx))
    have hs := hall s (by simp)
    rw [acc_snoc]
    have step : accStep (acc l) s = some s ∨ accStep (acc l) s = acc l := by unfold accStep; split <;> simp
    constructor
    · rcases step with h | h
      · rw [h]; exact .inr ⟨s, rfl, hs⟩
      · rw [h]; exact i1
    · rintro ⟨x, hx, hxr⟩
      rcases List.mem_append.1 hx with hx | hx
      · obtain ⟨y, hy, hyr⟩ := i2 ⟨x, hx, hxr⟩
        rcases step with h | h
        · refine ⟨s, h, ?_⟩
          rcases hs with hs | hs
          · exact hs
          · exfalso
            unfold accStep at h
            rw [hy] at h
            split at h
            · rename_i hc
              rcases hc.2 with hc | hc
              · cases hc
              · rw [recO, hyr, hs, h2] at hc; cases hc
            · injection h with h
              rw [h, hs] at hyr
              have := congrArg RecT.tr hyr
              have := congrArg RecT.tb hyr
              rw [hyr] at h1
              rw [h3] at h1; cases h1
        · exact ⟨y, h.trans hy, hyr⟩
      · simp at hx
        subst hx
        rcases i1 with h | ⟨y, hy, hyr⟩
        · exact ⟨x, by unfold accStep; rw [h, if_pos ⟨by rw [hxr, hr], .inl rfl⟩], hxr⟩
        · rcases hyr with hyr | hyr
          · rcases step with h | h
            · exact ⟨x, h, hxr⟩
            · exact ⟨y, h.trans hy, hyr⟩
          · exact ⟨x, by unfold accStep; rw [hy, if_pos ⟨by rw [hxr, hr], .inr (by rw [recO, hyr, hxr]; exact h1)⟩], hxr⟩
theorem fnd_none {st : Int} {ss : List SeenT} (h : ∀ s ∈ ss, s.r.st ≠ st) : fnd st ss = none := by
  unfold fnd
  rw [List.find?_eq_none]
  intro s hs
  simp [h s hs]
/-- A list of k, one by one. -/
def lst (ent : Nat → SeenT) : Nat → List SeenT
  | 0 => []
  | k + 1 => lst ent k ++ [ent k]
theorem lst_length (ent : Nat → SeenT) (k : Nat) : (lst ent k).length = k := by
  induction k with
  | zero => rfl
  | succ k ih => simp [lst, ih]
theorem mem_lst {ent : Nat → SeenT} {k : Nat} {s : SeenT} : s ∈ lst ent k ↔ ∃ j, j < k ∧ s = ent j := by
  induction k with
  | zero => simp [lst]
  | succ k ih =>
    rw [lst, List.mem_append, ih, List.mem_singleton]
    constructor
    · rintro (⟨j, h1, h2⟩ | h)
      · exact ⟨j, by omega, h2⟩
      · exact ⟨k, by omega, h⟩
    · rintro ⟨j, h1, h2⟩
      rcases Nat.lt_or_ge j k with h | h
      · exact .inl ⟨j, h, h2⟩
      · obtain rfl : j = k := by omega
        exact .inr h2
theorem lst_zero {ent : Nat → SeenT} {k : Nat} (h : 0 < k) : (lst ent k)[0]? = some (ent 0) := by
  induction k with
  | zero => omega
  | succ k ih =>
    rw [lst]
    rcases Nat.eq_zero_or_pos k with rfl | hk
    · rfl
    · rw [List.getElem?_append_left (by rw [lst_length]; exact hk)]; exact ih hk
theorem nodup_lst {ent : Nat → SeenT} {k : Nat} (h : ∀ i j, i < k → j < k → (ent i).f = (ent j).f → i = j) : ((lst ent k).map (·.f)).Nodup := by
  induction k with
  | zero => exact List.nodup_nil
  | succ k ih =>
    rw [lst, List.map_append, List.nodup_append]
    refine ⟨ih fun i j hi hj => h i j (by omega) (by omega), by simp, ?_⟩
    intro a ha b hb e
    simp at hb
    obtain ⟨s, hs, rfl⟩ := List.mem_map.1 ha
    obtain ⟨j, hj, rfl⟩ := mem_lst.1 hs
    have := h j k (by omega) (by omega) (e.trans hb)
    omega
theorem found {r u : RecT} {ent : Nat → SeenT} {Q : Nat} (hent : ∀ k, k < Q → (ent k).r = r ∨ (ent k).r = u) (hex : ∃ k, k < Q ∧ (ent k).r = r) (hr : r.st = 2) (hu : u.st = 1 ∨ u.st = 2)
    (h1 : lessB u.tr u.tb r.tr r.tb = true) (h2 : lessB r.tr r.tb u.tr u.tb = false) (h3 : lessB r.tr r.tb r.tr r.tb = false) (ir : Int) (f : RecT) : decD ir (lst ent Q) f = (2, r) := by
  have hall : ∀ s ∈ lst ent Q, s.r = r ∨ s.r = u := fun s hs => by obtain ⟨j, hj, rfl⟩ := mem_lst.1 hs; exact hent j hj
  obtain ⟨k, hk, hkr⟩ := hex
  obtain ⟨s, hs, hsr⟩ := (acc_has hr h1 h2 h3 _ hall).2 ⟨ent k, mem_lst.2 ⟨k, hk, rfl⟩, hkr⟩
  unfold decD
  rw [fnd_none (fun s hs => by rcases hall s hs with h | h <;> rw [h] <;> omega)]
  simp only [hs, hsr]
end Go.Proofs.YtmgiholmhhjpaaaDoor
