/- A region that draws its order: three or four may come up. -/
import Derived.Test.YtmgiholmhhjpaaaReg
import Derived.WalkKit
import Derived.WalkSpells
import Derived.WalkLawsBesides
import Derived.Deep.RegionHeld3
import Derived.Deep.DrawnRows
import Derived.Deep.DeepCutAuto
import Derived.Deep.DeepFit
import Derived.Lib.Hide
import Derived.BigQuiet
import Derived.Deep.QuietTactic
import Derived.Deep.RegionHeld3
namespace Go.Proofs.Ytmgiholmhhjpaaa
open Go.RowKit
set_option linter.unusedVariables false
set_option linter.unusedSimpArgs false
set_option maxRecDepth 20000
attribute [local go_sem ↓] Go.wp_at_zero Go.wp_at_succ
attribute [local go_sem] World.cell?_alloc_some frozen_alloc_some

section
variable {P : Program} {l : List Oper} {Q : Exit → Act → World → Prop} {md : Region.Mode} {S : World → Prop}
theorem three_op {i j k : Nat} {oi oj ok : Oper} {fuel : Nat} {listed : Array Bool} {a : Act} {w : World} (ei : opAt l i = some oi) (ej : opAt l j = some oj) (ek : opAt l k = some ok) (hr : Region.ready md l.toArray listed = [i, j, k])
    (wi : Region.wanted oi (yielded l.toArray a.tmps) = true) (wj : Region.wanted oj (yielded l.toArray a.tmps) = true) (wk : Region.wanted ok (yielded l.toArray a.tmps) = true)
    (hi : ∀ K' : Act → World → Prop, Shut (∀ a w, S w → (S w → wpAnyH P md l.toArray Q S fuel (listed.setIfInBounds i true) a w) → K' a w) → Oper.wp P oi a w K' Q)
    (hj : ∀ K' : Act → World → Prop, Shut (∀ a w, S w → (S w → wpAnyH P md l.toArray Q S fuel (listed.setIfInBounds j true) a w) → K' a w) → Oper.wp P oj a w K' Q)
    (hk : ∀ K' : Act → World → Prop, Shut (∀ a w, S w → (S w → wpAnyH P md l.toArray Q S fuel (listed.setIfInBounds k true) a w) → K' a w) → Oper.wp P ok a w K' Q) :
    wpAnyH P md l.toArray Q S (fuel + 1) listed a w :=
  wpAnyH_ready hr (by simp) (AllReadyH.cons ((opAt_get l i).trans ei) (fun K' hK => by rw [if_pos wi]; exact hi K' hK) (AllReadyH.cons ((opAt_get l j).trans ej) (fun K' hK => by rw [if_pos wj]; exact hj K' hK) (AllReadyH.cons ((opAt_get l k).trans ek) (fun K' hK => by rw [if_pos wk]; exact hk K' hK) AllReadyH.nil)))
theorem four_op {i j k m : Nat} {oi oj ok om : Oper} {fuel : Nat} {listed : Array Bool} {a : Act} {w : World} (ei : opAt l i = some oi) (ej : opAt l j = some oj) (ek : opAt l k = some ok) (em : opAt l m = some om) (hr : Region.ready md l.toArray listed = [i, j, k, m])
    (wi : Region.wanted oi (yielded l.toArray a.tmps) = true) (wj : Region.wanted oj (yielded l.toArray a.tmps) = true) (wk : Region.wanted ok (yielded l.toArray a.tmps) = true) (wm : Region.wanted om (yielded l.toArray a.tmps) = true)
    (hi : ∀ K' : Act → World → Prop, Shut (∀ a w, S w → (S w → wpAnyH P md l.toArray Q S fuel (listed.setIfInBounds i true) a w) → K' a w) → Oper.wp P oi a w K' Q)
    (hj : ∀ K' : Act → World → Prop, Shut (∀ a w, S w → (S w → wpAnyH P md l.toArray Q S fuel (listed.setIfInBounds j true) a w) → K' a w) → Oper.wp P oj a w K' Q)
    (hk : ∀ K' : Act → World → Prop, Shut (∀ a w, S w → (S w → wpAnyH P md l.toArray Q S fuel (listed.setIfInBounds k true) a w) → K' a w) → Oper.wp P ok a w K' Q)
    (hm : ∀ K' : Act → World → Prop, Shut (∀ a w, S w → (S w → wpAnyH P md l.toArray Q S fuel (listed.setIfInBounds m true) a w) → K' a w) → Oper.wp P om a w K' Q) :
    wpAnyH P md l.toArray Q S (fuel + 1) listed a w :=
  wpAnyH_ready hr (by simp) (AllReadyH.cons ((opAt_get l i).trans ei) (fun K' hK => by rw [if_pos wi]; exact hi K' hK) (AllReadyH.cons ((opAt_get l j).trans ej) (fun K' hK => by rw [if_pos wj]; exact hj K' hK) (AllReadyH.cons ((opAt_get l k).trans ek) (fun K' hK => by rw [if_pos wk]; exact hk K' hK) (AllReadyH.cons ((opAt_get l m).trans em) (fun K' hK => by rw [if_pos wm]; exact hm K' hK) AllReadyH.nil))))
end
end Go.Proofs.Ytmgiholmhhjpaaa
