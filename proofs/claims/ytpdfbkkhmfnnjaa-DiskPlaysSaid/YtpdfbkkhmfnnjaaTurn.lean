/- What turns: all but some blocks is as it was. -/
import Derived.Test.YtpdfbkkhmfnnjaaApp
import Derived.WalkKit
import Derived.WalkSpells
import Derived.WalkLawsBesides
import Derived.Deep.RegionHeld3
import Derived.Deep.DrawnRows
import Derived.Deep.DeepCutAuto
import Derived.Deep.DeepFit
import Derived.Lib.Hide
import Derived.BigQuiet
import Derived.Deep.QuietTactic
namespace Go.Proofs.Ytpdfbkkhmfnnjaa
open Go.RowKit
set_option linter.unusedVariables false
set_option linter.unusedSimpArgs false
set_option maxRecDepth 20000
attribute [local go_sem ↓] Go.wp_at_zero Go.wp_at_succ
attribute [local go_sem] World.cell?_alloc_some frozen_alloc_some

/-- All but the blocks of F is as it was. -/
structure Turn (F : Nat → Prop) (w w' : World) : Prop where
  os : w'.os = w.os
  tape : w'.tape = w.tape
  output : w'.output = w.output
  size : w.heap.size ≤ w'.heap.size
  block : ∀ k, k < w.heap.size → ¬ F k → w'.heap[k]? = w.heap[k]?
theorem Turn.refl (F : Nat → Prop) (w : World) : Turn F w w := ⟨rfl, rfl, rfl, Nat.le_refl _, fun _ _ _ => rfl⟩
theorem Turn.trans {F F' : Nat → Prop} {a b c : World} (h : Turn F a b) (k : Turn F' b c) (hF : ∀ i, F' i → F i ∨ a.heap.size ≤ i) : Turn F a c :=
  ⟨k.os.trans h.os, k.tape.trans h.tape, k.output.trans h.output, Nat.le_trans h.size k.size, fun i hi hn => (k.block i (Nat.lt_of_lt_of_le hi h.size) (fun e => by rcases hF i e with e | e; exact hn e; omega)).trans (h.block i hi hn)⟩
theorem Turn.of_below {F : Nat → Prop} {w w' : World} (h : Below w.heap.size w w') : Turn F w w' := ⟨h.os, h.tape, h.output, h.size, fun k hk _ => h.block k hk⟩
theorem Turn.of_grown {F : Nat → Prop} {w w' : World} {row : Option Nat} (h : w.grownBy w' row) (hF : ∀ k, row = some k → F k) : Turn F w w' :=
  ⟨h.os, h.tape, h.output, h.size, fun k hk hn => h.block k hk fun e => hn (hF k e.symm)⟩
theorem Turn.mono {F F' : Nat → Prop} {w w' : World} (h : Turn F w w') (hF : ∀ k, k < w.heap.size → F k → F' k) : Turn F' w w' := ⟨h.os, h.tape, h.output, h.size, fun k hk hn => h.block k hk fun e => hn (hF k hk e)⟩
theorem Turn.below {F : Nat → Prop} {B : Nat} {a w w' : World} (h : Below B a w) (k : Turn F w w') (hF : ∀ i, F i → B ≤ i) (hs : B ≤ w.heap.size) : Below B a w' :=
  ⟨k.os.trans h.os, k.tape.trans h.tape, k.output.trans h.output, Nat.le_trans h.size k.size, fun i hi => (k.block i (by omega) (fun e => by have := hF i e; omega)).trans (h.block i hi)⟩
theorem Turn.blk {F : Nat → Prop} {w w' : World} {g : Nat} {t : TypeId} {cs : Array Value} (k : Turn F w w') (h : Blk w g t cs) (hg : ¬ F g) : Blk w' g t cs := (k.block g h.lt hg).trans h
theorem Turn.cell {F : Nat → Prop} {w w' : World} {a : Addr} {v : Value} (k : Turn F w w') (h : w.cell? a = some v) (hg : ¬ F a.block) : w'.cell? a = some v := by
  have hlt := World.block_lt_of_cell? _ _ h
  rw [World.cell?_of_block (k.block _ hlt hg)]
  exact h
theorem Turn.bytes {F : Nat → Prop} {w w' : World} {A : Option Addr} {m : Nat} {l : List Nat} (k : Turn F w w') (h : Bytes w A m l) (hg : ∀ ad, A = some ad → 0 < m → ¬ F ad.block) : Bytes w' A m l :=
  ⟨h.1, h.2.1, fun i x hi => by
    obtain ⟨h1, ad, e, h2⟩ := h.2.2 i x hi
    have hm : 0 < m := by have h3 := (List.getElem?_eq_some_iff.1 hi).1; have := h.1; omega
    refine ⟨h1, ad, e, k.cell h2 ?_⟩
    have : (ad.add i).block = ad.block := by unfold Addr.add; split <;> rfl
    rw [this]
    exact hg ad e hm⟩

theorem blk_ne {w : World} {e e' : Nat} {cs cs' : Array Value} {t t' : TypeId} (h : Blk w e t cs) (h' : Blk w e' t' cs') (ht : t ≠ t') : e ≠ e' := fun e2 => by
  subst e2
  have := Option.some.inj (h.symm.trans h')
  simp only [Obj.cells.injEq] at this
  exact ht this.2.1
theorem blk_newAt {w : World} {g : Nat} {t : TypeId} {cs : Array Value} (h : w.heap.size = g) : Blk (w.alloc (.cells cs t)) g t cs := by subst h; exact Blk.new w t cs
theorem below_own {B b : Nat} {a w w' : World} (h : Below B a w) (k : w.grownBy w' (some b)) (hB : B ≤ b) (hs : B ≤ w.heap.size) : Below B a w' :=
  ⟨k.os.trans h.os, k.tape.trans h.tape, k.output.trans h.output, Nat.le_trans h.size k.size, fun i hi => (k.block i (by omega) (fun e => by injection e with e; omega)).trans (h.block i hi)⟩
theorem Turn.setCell {w : World} {g : Nat} {t : TypeId} {cs : Array Value} (h : Blk w g t cs) (i : Nat) (v : Value) : Turn (fun k => k = g) w (w.setCell ⟨g, i, none⟩ v) :=
  ⟨rfl, rfl, rfl, by simp, fun k hk hn => heap_setCell_other w ⟨g, i, none⟩ k v (fun e => hn e)⟩
end Go.Proofs.Ytpdfbkkhmfnnjaa
