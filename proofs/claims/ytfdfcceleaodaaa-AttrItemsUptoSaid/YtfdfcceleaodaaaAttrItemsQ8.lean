/- A number as it is taken: no more than 2^62. A region that draws its order, within a round of a range over a function: walked as everywhere. -/
import Derived.Test.YtfdfcceleaodaaaAttrItemsQ3
import Derived.Test.YtfdfcceleaodaaaAttrItemsQ0
import Derived.WalkKit
import Derived.WalkSpells
import Derived.WalkLawsBesides
import Derived.Deep.RegionHeld3
import Derived.Deep.DrawnRows
import Derived.Deep.DeepCutAuto
import Derived.Deep.DeepFit
import Derived.Lib.Hide
import Derived.BigQuiet
import Derived.Deep.QuietTactic
import Derived.RangeFuncNested
import Derived.RangeFuncBound
import Derived.RangeFuncCalls
import Derived.RangeFuncLeaves
import Derived.RangeFuncBox
import Derived.Shelf.Abstract
import Derived.Shelf.RegionOpen
import Derived.OwnWalkIn
import Derived.TacticsInMore
import Derived.LoopNIn
import Derived.LoopIn
namespace Go.Proofs.Ytfdfcceleaodaaa
open Go.RowKit
set_option linter.unusedVariables false
set_option linter.unusedSimpArgs false
set_option maxRecDepth 20000
attribute [local go_sem ↓] Go.wp_at_zero Go.wp_at_succ
attribute [local go_sem] World.cell?_alloc_some frozen_alloc_some
def clamp (n : Nat) : Nat := min n 4611686018427387904
theorem clamp_wrap (n : Nat) : IntKind.i64.wrap (clamp n : Int) = (clamp n : Int) := by
  have : clamp n ≤ 4611686018427387904 := Nat.min_le_right _ _
  rw [IntWalk.i64_in _ (by omega)]
theorem clamp_int (n : Nat) : min (n : Int) 4611686018427387904 = (clamp n : Int) := by unfold clamp; omega
theorem clamp_lt (n : Nat) : clamp n < 2 ^ 63 := by have : clamp n ≤ 4611686018427387904 := Nat.min_le_right _ _; omega
def ctxt : Tree → ByteArray | .mk _ _ s _ => s
def tN : Tree → Nat | .mk _ n _ _ => n
def cnum : Tree → Nat | .mk _ n _ _ => clamp n
end Go.Proofs.Ytfdfcceleaodaaa

namespace Go.Proofs.Ytfdfcceleaodaaa
open Go.RowKit
set_option linter.unusedVariables false

/-- Q, but that nothing runs out of room. -/
def noOut (Q : Exit → Act → World → Prop) : Exit → Act → World → Prop
  | .outgrown, _, _ => False
  | e, a, w => Q e a w
theorem noOut_not {Q : Exit → Act → World → Prop} : ¬ LetsOut (noOut Q) := fun ⟨_, _, h⟩ => h
def noDefer (ops : Array Oper) : Bool := ops.all fun o => match o.op with | .defer .. => false | _ => true
theorem noDefer_spec {ops : Array Oper} (h : noDefer ops = true) {i : Nat} {o : Oper} (ho : ops[i]? = some o) : ∀ c, o.op ≠ .defer c := fun c e => by
  unfold noDefer at h
  rw [Array.all_eq_true] at h
  obtain ⟨hi, hv⟩ := Array.getElem?_eq_some_iff.1 ho
  have := h i hi
  rw [hv, e] at this
  cases this
variable {P : Program} {Q : Exit → Act → World → Prop}
theorem rows_in {l n : Nat} {row : String} {args : Array Value} {w : World} {R : Value → World → Prop} (h : Rows P row args w R) : RowsIn (Fence.wide.inRound l) n P row args w R :=
  fun c cs _ => let ⟨v, w', r, s⟩ := h c cs; ⟨v, w', r, stepsIn_wide.2 s⟩
theorem oper_in {l n : Nat} {o : Oper} {a : Act} {w : World} {K K' : Act → World → Prop} (hd : ∀ c, o.op ≠ .defer c) (h : o.wp P a w K (noOut Q)) (hK : ∀ a w, K a w → K' a w) : o.wpIn (Fence.wide.inRound l) n P a w K' Q := by
  refine ⟨fun _ _ => trivial, ?_⟩
  rw [Fence.inRound_round, Oper.semAt_some l _ _ hd]
  unfold Oper.wp at h
  generalize (execOp a.eval o).run P w = r at h
  unfold Oper.upon at h
  unfold Oper.uponIn
  split at h
  · exact hK _ _ h
  · exact hK _ _ h
  · exact hK _ _ h
  · refine ⟨(fun hh => by cases hh), CallsIn.inRound l (callsIn_wide.2 (h.mono fun e w2 he => ?_))⟩
    cases e
    · exact hK _ _ he
    · exact he
    · exact absurd he noOut_not
  · exact ⟨(fun hh => by cases hh), rows_in (h.mono fun v w2 he => hK _ _ he)⟩
  · exact h
  · exact h.elim
theorem any_in {l n : Nat} {ops : Array Oper} {md : Region.Mode} (hd : noDefer ops = true) : ∀ (fuel : Nat) (listed : Array Bool) (a : Act) (w : World), wpAny P md ops (noOut Q) fuel listed a w → wpAnyIn (Fence.wide.inRound l) n P md ops Q fuel listed a w
  | 0, _, _, _, h => h
  | fuel + 1, listed, a, w, h => by
    refine ⟨h.1, fun i hi => ?_⟩
    have h1 := h.2 i hi
    unfold wpOp at h1
    unfold wpOpIn
    cases ho : ops[i]? with
    | none =>
      rw [ho] at h1
      exact any_in hd fuel _ _ _ h1
    | some o =>
      rw [ho] at h1
      simp only at h1 ⊢
      split
      · next hw =>
        rw [if_pos hw] at h1
        rcases h1 with h1 | h1
        · exact oper_in (noDefer_spec hd ho) h1 fun a w hk => any_in hd fuel _ a w hk
        · exact absurd h1.2 noOut_not
      · next hw =>
        rw [if_neg hw] at h1
        exact ⟨fun _ _ => trivial, any_in hd fuel _ _ _ h1⟩
/-- The beginning, within a round. -/
theorem wpIn_region_held {l n id : Nat} {ops : Array Oper} {S : World → Prop} {a : Act} {w : World} (hd : noDefer ops = true) (hm : P.follows .mixedOrders = true) (hS : S w.drew)
    (h : S w.drew → wpAnyH P .any ops (noOut Q) S ops.size (Array.replicate ops.size false) a w.drew) : (Code.region id ops true).wpIn (Fence.wide.inRound l) n P Q a w :=
  wpIn_region_any hm (any_in hd _ _ _ _ (wpAny_of_held _ _ _ _ (h hS)))
end Go.Proofs.Ytfdfcceleaodaaa
