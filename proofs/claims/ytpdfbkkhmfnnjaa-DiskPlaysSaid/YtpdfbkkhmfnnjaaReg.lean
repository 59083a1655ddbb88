/- A region that draws its order, walked by hand: what yields in every world that meets S is taken first, in the order that the text names; a step whose guard does not hold is passed over; a call is carried out where it alone may come up. -/
import Derived.Test.YtpdfbkkhmfnnjaaBase
import Derived.WalkKit
import Derived.WalkSpells
import Derived.WalkLawsBesides
import Derived.Deep.RegionHeld3
import Derived.Deep.DrawnRows
import Derived.Deep.DeepCutAuto
import Derived.Deep.DeepFit
import Derived.Lib.Hide
import Derived.BigQuiet
import Derived.Deep.QuietTactic
import Derived.Deep.RegionHeld3
namespace Go.Proofs.Ytpdfbkkhmfnnjaa
open Go.RowKit
set_option linter.unusedVariables false
set_option linter.unusedSimpArgs false
set_option maxRecDepth 20000
attribute [local go_sem ↓] Go.wp_at_zero Go.wp_at_succ
attribute [local go_sem] World.cell?_alloc_some frozen_alloc_some

def opAt : List Oper → Nat → Option Oper
  | [], _ => none
  | o :: _, 0 => some o
  | _ :: l, n + 1 => opAt l n
theorem opAt_get : ∀ (l : List Oper) (i : Nat), l.toArray[i]? = opAt l i
  | [], i => by simp [opAt]
  | o :: l, 0 => by simp [opAt]
  | o :: l, i + 1 => by
    have h := opAt_get l i
    simp only [List.getElem?_toArray] at h
    simp only [List.getElem?_toArray, List.getElem?_cons_succ, h, opAt]
section
variable {P : Program} {l : List Oper} {Q : Exit → Act → World → Prop} {md : Region.Mode} {S : World → Prop}
theorem take_op {i : Nat} {oi : Oper} {v : Value} {fuel : Nat} {listed : Array Bool} {a : Act} {w : World} (hi : opAt l i = some oi)
    (hs : Region.noSelect l.toArray = true) (hf : Region.free md l.toArray listed i = true) (hr : (Region.ready md l.toArray listed).contains i = true)
    (hQ : ∀ c a w, Q (.panic c) (a.put oi.dst v) w → Q (.panic c) a w) (hw : Region.wanted oi (yielded l.toArray a.tmps) = true)
    (hy : ∀ w, S w → (execOp a.eval oi).run P w = .ok (.value v) w) (hS : S w)
    (h : wpAnyH P md l.toArray Q S fuel (listed.setIfInBounds i true) (a.put oi.dst v) w) : wpAnyH P md l.toArray Q S (fuel + 1) listed a w :=
  wpAnyH_take ((opAt_get l i).trans hi) hs hf hr hQ (Or.inl ⟨hw, hy⟩) hS h
theorem skip_op {i : Nat} {oi : Oper} {fuel : Nat} {listed : Array Bool} {a : Act} {w : World} (hi : opAt l i = some oi)
    (hs : Region.noSelect l.toArray = true) (hf : Region.free md l.toArray listed i = true) (hr : (Region.ready md l.toArray listed).contains i = true)
    (hQ : ∀ c a w, Q (.panic c) (a.put oi.dst undef) w → Q (.panic c) a w) (hw : Region.wanted oi (yielded l.toArray a.tmps) = false) (hS : S w)
    (h : wpAnyH P md l.toArray Q S fuel (listed.setIfInBounds i true) (a.put oi.dst undef) w) : wpAnyH P md l.toArray Q S (fuel + 1) listed a w :=
  wpAnyH_take ((opAt_get l i).trans hi) hs hf hr hQ (Or.inr ⟨hw, rfl⟩) hS h
theorem call_op {i : Nat} {o : Oper} {fuel : Nat} {listed : Array Bool} {a : Act} {w : World} (hi : opAt l i = some o) (hr : Region.ready md l.toArray listed = [i])
    (hw : Region.wanted o (yielded l.toArray a.tmps) = true)
    (h : ∀ K' : Act → World → Prop, Shut (∀ a w, S w → (S w → wpAnyH P md l.toArray Q S fuel (listed.setIfInBounds i true) a w) → K' a w) → Oper.wp P o a w K' Q) :
    wpAnyH P md l.toArray Q S (fuel + 1) listed a w :=
  wpAnyH_ready hr (by simp) (AllReadyH.cons ((opAt_get l i).trans hi) (fun K' hK => by rw [if_pos hw]; exact h K' hK) AllReadyH.nil)
/-- Two may come up: both ways are walked. -/
theorem two_op {i j : Nat} {o o' : Oper} {fuel : Nat} {listed : Array Bool} {a : Act} {w : World} (hi : opAt l i = some o) (hj : opAt l j = some o') (hr : Region.ready md l.toArray listed = [i, j])
    (hw : Region.wanted o (yielded l.toArray a.tmps) = true) (hw' : Region.wanted o' (yielded l.toArray a.tmps) = true)
    (h : ∀ K' : Act → World → Prop, Shut (∀ a w, S w → (S w → wpAnyH P md l.toArray Q S fuel (listed.setIfInBounds i true) a w) → K' a w) → Oper.wp P o a w K' Q)
    (h' : ∀ K' : Act → World → Prop, Shut (∀ a w, S w → (S w → wpAnyH P md l.toArray Q S fuel (listed.setIfInBounds j true) a w) → K' a w) → Oper.wp P o' a w K' Q) :
    wpAnyH P md l.toArray Q S (fuel + 1) listed a w :=
  wpAnyH_ready hr (by simp) (AllReadyH.cons ((opAt_get l i).trans hi) (fun K' hK => by rw [if_pos hw]; exact h K' hK) (AllReadyH.cons ((opAt_get l j).trans hj) (fun K' hK => by rw [if_pos hw']; exact h' K' hK) AllReadyH.nil))
end
abbrev S1 (g : Nat) (cs : Array Value) (wx : World) : Prop := ∀ i, wx.cell? ⟨g, i, none⟩ = cs[i]?
theorem Blk.s1 {w : World} {g : Nat} {t : TypeId} {cs : Array Value} (h : Blk w g t cs) : S1 g cs w := h.cell
abbrev S11 (g1 g2 : Nat) (c1 c2 : Array Value) (wx : World) : Prop := (∀ i, wx.cell? ⟨g1, i, none⟩ = c1[i]?) ∧ (∀ i, wx.cell? ⟨g2, i, none⟩ = c2[i]?)
abbrev S12 (g : Nat) (cs : Array Value) (p q : Addr) (u v : Value) (wx : World) : Prop := (∀ i, wx.cell? ⟨g, i, none⟩ = cs[i]?) ∧ wx.cell? p = some u ∧ wx.cell? q = some v
abbrev S2 (p q : Addr) (u v : Value) (wx : World) : Prop := wx.cell? p = some u ∧ wx.cell? q = some v
theorem S2.keep {p q : Addr} {u v : Value} {W W' : World} (h : S2 p q u v W) (hb : Below W.heap.size W W') : S2 p q u v W' := ⟨cell_keep hb h.1, cell_keep hb h.2⟩
theorem S2.drew {p q : Addr} {u v : Value} {W : World} (h : S2 p q u v W) : S2 p q u v W.drew := h.keep (Below.refl _ _).drew
theorem S2.below {B : Nat} {p q : Addr} {u v : Value} {W W' : World} (h : S2 p q u v W) (hb : Below B W W') (hp : p.block < B) (hq : q.block < B) : S2 p q u v W' := ⟨(hb.cell hp).trans h.1, (hb.cell hq).trans h.2⟩
abbrev S4 (p q r s : Addr) (u v x y : Value) (wx : World) : Prop := wx.cell? p = some u ∧ wx.cell? q = some v ∧ wx.cell? r = some x ∧ wx.cell? s = some y
theorem S4.keep {p q r s : Addr} {u v x y : Value} {W W' : World} (h : S4 p q r s u v x y W) (hb : Below W.heap.size W W') : S4 p q r s u v x y W' := ⟨cell_keep hb h.1, cell_keep hb h.2.1, cell_keep hb h.2.2.1, cell_keep hb h.2.2.2⟩
theorem S4.drew {p q r s : Addr} {u v x y : Value} {W : World} (h : S4 p q r s u v x y W) : S4 p q r s u v x y W.drew := h.keep (Below.refl _ _).drew
/-- Q, but that nothing panics. -/
def noPan (Q : Exit → Act → World → Prop) : Exit → Act → World → Prop
  | .panic _, _, _ => False
  | e, a, w => Q e a w
theorem wp_noPan {P : Program} {c : Code} {Q : Exit → Act → World → Prop} {a : Act} {w : World} (h : c.wp P (noPan Q) a w) : c.wp P Q a w :=
  Code.wp_mono (fun e a w h => by cases e <;> first | exact h | exact h.elim) h
end Go.Proofs.Ytpdfbkkhmfnnjaa
