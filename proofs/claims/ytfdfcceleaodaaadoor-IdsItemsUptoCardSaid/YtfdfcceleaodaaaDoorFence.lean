/- A region that draws its order, within a round of a range over a function: walked as everywhere. -/
import Derived.Test.YtfdfcceleaodaaaDoorBase
import Derived.WalkKit
import Derived.WalkSpells
import Derived.WalkLawsBesides
import Derived.Deep.RegionHeld3
import Derived.Deep.DrawnRows
import Derived.Deep.DeepCutAuto
import Derived.Deep.DeepFit
import Derived.Lib.Hide
import Derived.BigQuiet
import Derived.Deep.QuietTactic
import Derived.Deep.RegionHeld3
import Derived.RangeFuncNested
import Derived.RangeFuncBound
import Derived.RangeFuncCalls
import Derived.RangeFuncLeaves
import Derived.RangeFuncBox
import Derived.Shelf.Abstract
import Derived.Shelf.RegionOpen
import Derived.OwnWalkIn
import Derived.TacticsInMore
import Derived.LoopNIn
import Derived.LoopIn
namespace Go.Proofs.YtfdfcceleaodaaaDoor
open Go.RowKit
set_option linter.unusedVariables false

/-- Q, but that nothing runs out of room. -/
def noOut (Q : Exit → Act → World → Prop) : Exit → Act → World → Prop
  | .outgrown, _, _ => False
  | e, a, w => Q e a w
theorem noOut_not {Q : Exit → Act → World → Prop} : ¬ LetsOut (noOut Q) := fun ⟨_, _, h⟩ => h
def noDefer (ops : Array Oper) : Bool := ops.all fun o => match o.op with | .defer .. => false | _ => true
theorem noDefer_spec {ops : Array Oper} (h : noDefer ops = true) {i : Nat} {o : Oper} (ho : ops[i]? = some o) : ∀ c, o.op ≠ .defer c := fun c e => by
  unfold noDefer at h
  rw [Array.all_eq_true] at h
  obtain ⟨hi, hv⟩ := Array.getElem?_eq_some_iff.1 ho
  have := h i hi
  rw [hv, e] at this
  cases this
variable {P : Program} {Q : Exit → Act → World → Prop}
theorem rows_in {l n : Nat} {row : String} {args : Array Value} {w : World} {R : Value → World → Prop} (h : Rows P row args w R) : RowsIn (Fence.wide.inRound l) n P row args w R :=
  fun c cs _ => let ⟨v, w', r, s⟩ := h c cs; ⟨v, w', r, stepsIn_wide.2 s⟩
theorem oper_in {l n : Nat} {o : Oper} {a : Act} {w : World} {K K' : Act → World → Prop} (hd : ∀ c, o.op ≠ .defer c) (h : o.wp P a w K (noOut Q)) (hK : ∀ a w, K a w → K' a w) : o.wpIn (Fence.wide.inRound l) n P a w K' Q := by
  refine ⟨fun _ _ => trivial, ?_⟩
  rw [Fence.inRound_round, Oper.semAt_some l _ _ hd]
  unfold Oper.wp at h
  generalize (execOp a.eval o).run P w = r at h
  unfold Oper.upon at h
  unfold Oper.uponIn
  split at h
  · exact hK _ _ h
  · exact hK _ _ h
  · exact hK _ _ h
  · refine ⟨(fun hh => by cases hh), CallsIn.inRound l (callsIn_wide.2 (h.mono fun e w2 he => ?_))⟩
    cases e
    · exact hK _ _ he
    · exact he
    · exact absurd he noOut_not
  · exact ⟨(fun hh => by cases hh), rows_in (h.mono fun v w2 he => hK _ _ he)⟩
  · exact h
  · exact h.elim
theorem any_in {l n : Nat} {ops : Array Oper} {md : Region.Mode} (hd : noDefer ops = true) : ∀ (fuel : Nat) (listed : Array Bool) (a : Act) (w : World), wpAny P md ops (noOut Q) fuel listed a w → wpAnyIn (Fence.wide.inRound l) n P md ops Q fuel listed a w
  | 0, _, _, _, h => h
  | fuel + 1, listed, a, w, h => by
    refine ⟨h.1, fun i hi => ?_⟩
    have h1 := h.2 i hi
    unfold wpOp at h1
    unfold wpOpIn
    cases ho : ops[i]? with
    | none =>
      rw [ho] at h1
      exact any_in hd fuel _ _ _ h1
    | some o =>
      rw [ho] at h1
      simp only at h1 ⊢
      split
      · next hw =>
        rw [if_pos hw] at h1
        rcases h1 with h1 | h1
        · exact oper_in (noDefer_spec hd ho) h1 fun a w hk => any_in hd fuel _ a w hk
        · exact absurd h1.2 noOut_not
      · next hw =>
        rw [if_neg hw] at h1
        exact ⟨fun _ _ => trivial, any_in hd fuel _ _ _ h1⟩
/-- The beginning, within a round. -/
theorem wpIn_region_held {l n id : Nat} {ops : Array Oper} {S : World → Prop} {a : Act} {w : World} (hd : noDefer ops = true) (hm : P.follows .mixedOrders = true) (hS : S w.drew)
    (h : S w.drew → wpAnyH P .any ops (noOut Q) S ops.size (Array.replicate ops.size false) a w.drew) : (Code.region id ops true).wpIn (Fence.wide.inRound l) n P Q a w :=
  wpIn_region_any hm (any_in hd _ _ _ _ (wpAny_of_held _ _ _ _ (h hS)))
end Go.Proofs.YtfdfcceleaodaaaDoor
