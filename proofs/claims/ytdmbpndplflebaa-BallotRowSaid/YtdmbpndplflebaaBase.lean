/- Small words that all of this seat's walks share: what a call gives back while nothing that was there turns. No statement of its own. -/
import Derived.Test.YtdmbpndplflebaaProg
import Derived.WalkKit
import Derived.WalkSpells
import Derived.WalkLawsBesides
import Derived.Deep.RegionHeld3
import Derived.Deep.DrawnRows
import Derived.Deep.DeepCutAuto
import Derived.Deep.DeepFit
import Derived.Lib.Hide
import Derived.BigQuiet
import Derived.Deep.QuietTactic
namespace Go.Proofs.Ytdmbpndplflebaa
open Go.RowKit

/-- The call gives v, and nothing that was there has turned. -/
def Gives (w : World) (v : Value) (e : Ending) (w' : World) : Prop := e = .returned v ∧ Below w.heap.size w w'

theorem keeps {W w1 : World} (hb : Below W.heap.size W w1) :
    (∀ b o, b < W.heap.size → w1.cell? ⟨b, o, none⟩ = W.cell? ⟨b, o, none⟩) ∧ (∀ b o, b < W.heap.size → w1.frozen? ⟨b, o, none⟩ = W.frozen? ⟨b, o, none⟩) :=
  ⟨fun b o h => hb.cell (p := ⟨b, o, none⟩) h, fun b o h => hb.frozen (p := ⟨b, o, none⟩) h⟩
theorem below_call {B : Nat} {w W w1 : World} (h : Below B w W) (hb : Below W.heap.size W w1) (hB : B ≤ W.heap.size) : Below B w w1 := h.trans (hb.mono hB)
theorem below_drewN {B : Nat} {a w : World} (h : Below B a w) (n : Nat) : Below B a (w.drewN n) := ⟨h.os, h.tape, h.output, h.size, h.block⟩
theorem ret_int {k : IntKind} {a b : Int} (h : a = b) : Ending.returned (.int k a) = .returned (.int k b) := by rw [h]
theorem ret_bool {a b : Bool} (h : a = b) : Ending.returned (.bool a) = .returned (.bool b) := by rw [h]
theorem wf_i64 {a : Int} (h : (Lit.int .i64 a).wf = true) : -9223372036854775808 ≤ a ∧ a ≤ 9223372036854775807 := by
  simpa [Lit.wf, IntKind.min, IntKind.max, IntKind.signed, IntKind.bits] using h
theorem wf_u8 {a : Int} (h : (Lit.int .u8 a).wf = true) : 0 ≤ a ∧ a ≤ 255 := by
  simpa [Lit.wf, IntKind.min, IntKind.max, IntKind.signed, IntKind.bits] using h
theorem wf_u32 {a : Int} (h : (Lit.int .u32 a).wf = true) : 0 ≤ a ∧ a ≤ 4294967295 := by
  simpa [Lit.wf, IntKind.min, IntKind.max, IntKind.signed, IntKind.bits] using h
theorem wf_u64 {a : Int} (h : (Lit.int .u64 a).wf = true) : 0 ≤ a ∧ a ≤ 18446744073709551615 := by
  simpa [Lit.wf, IntKind.min, IntKind.max, IntKind.signed, IntKind.bits] using h
theorem frozen_alloc_some (w : World) (a : Addr) (o : Obj) (h : (w.cell? a).isSome = true) : (w.alloc o).frozen? a = w.frozen? a := by
  obtain ⟨u, hu⟩ := Option.isSome_iff_exists.1 h
  exact World.frozen?_alloc_past _ _ _ (World.block_lt_of_cell? w a hu)
/-- A slice of n integers that came in, nil let in: what its elements read as. -/
def Ints (k : IntKind) (w : World) (A : Option Addr) (n : Nat) (zs : List Int) : Prop :=
  n ≤ maxLen ∧ n ≤ zs.length ∧ ∀ i, i < n → ∃ ad, A = some ad ∧ w.cell? (ad.add i) = some (.int k (zs.getD i 0)) ∧ (Lit.int k (zs.getD i 0)).wf = true
theorem Ints.below {k : IntKind} {w w' : World} {A : Option Addr} {n : Nat} {zs : List Int} (h : Ints k w A n zs) (hb : Below w.heap.size w w') : Ints k w' A n zs :=
  ⟨h.1, h.2.1, fun i hi => by
    obtain ⟨ad, e, hc, hw⟩ := h.2.2 i hi
    exact ⟨ad, e, (hb.cell (World.block_lt_of_cell? _ _ hc)).trans hc, hw⟩⟩
theorem cell_keep {W w1 : World} {a : Addr} {v : Value} (hb : Below W.heap.size W w1) (h : W.cell? a = some v) : w1.cell? a = some v :=
  (hb.cell (World.block_lt_of_cell? _ _ h)).trans h
theorem frozen_keep {W w1 : World} {a : Addr} {v : Value} {b : Bool} (hb : Below W.heap.size W w1) (h : W.cell? a = some v) (hf : W.frozen? a = b) : w1.frozen? a = b :=
  (hb.frozen (World.block_lt_of_cell? _ _ h)).trans hf
theorem cell_alloc {w : World} {a : Addr} {v : Value} {o : Obj} (h : w.cell? a = some v) : (w.alloc o).cell? a = some v :=
  (World.cell?_alloc_lt _ _ _ (World.block_lt_of_cell? _ _ h)).trans h
theorem frozen_alloc {w : World} {a : Addr} {v : Value} {b : Bool} {o : Obj} (h : w.cell? a = some v) (hf : w.frozen? a = b) : (w.alloc o).frozen? a = b :=
  (frozen_alloc_some w a o (by simp [h])).trans hf
theorem cell_restore {w : World} {a : Addr} {v : Value} {o o' : Obj} (h : (w.alloc o).cell? a = some v) (hne : a.block ≠ w.heap.size) : (w.alloc o').cell? a = some v := by
  have hl := World.block_lt_of_cell? _ _ h
  simp at hl
  have h1 : w.cell? a = some v := by rw [← h]; exact (World.cell?_alloc_lt _ _ _ (by omega)).symm
  exact cell_alloc h1
theorem cell_far {w : World} {a p : Addr} {v u : Value} (h : w.cell? a = some v) (hne : p.block ≠ a.block) : (w.setCell p u).cell? a = some v :=
  (World.cell?_setCell_far w p a u hne).trans h
theorem new_cell (w : World) (c : Array Value) (t : TypeId) (i : Nat) {v : Value} (h : c[i]? = some v) : (w.alloc (.cells c t)).cell? ⟨w.heap.size, i, none⟩ = some v ∧ (w.alloc (.cells c t)).frozen? ⟨w.heap.size, i, none⟩ = false := by
  refine ⟨?_, by simp [go_sem]⟩
  rw [World.cell?_alloc_new]; exact h
/-- A block that the region itself has laid ahead of a call is still there behind it. -/
theorem new_keep {w w1 : World} {c : Array Value} {t : TypeId} (hb : Below (w.alloc (.cells c t)).heap.size (w.alloc (.cells c t)) w1) (i : Nat) {v : Value} (h : c[i]? = some v) :
    w1.cell? ⟨w.heap.size, i, none⟩ = some v ∧ w1.frozen? ⟨w.heap.size, i, none⟩ = false :=
  ⟨cell_keep hb (new_cell w c t i h).1, frozen_keep hb (new_cell w c t i h).1 (new_cell w c t i h).2⟩
theorem new_keep_drew {w w1 : World} {c : Array Value} {t : TypeId} (hb : Below (w.alloc (.cells c t)).drew.heap.size (w.alloc (.cells c t)).drew w1) (i : Nat) {v : Value} (h : c[i]? = some v) :
    w1.cell? ⟨w.heap.size, i, none⟩ = some v ∧ w1.frozen? ⟨w.heap.size, i, none⟩ = false :=
  ⟨cell_keep hb (new_cell w c t i h).1, frozen_keep hb (new_cell w c t i h).1 (new_cell w c t i h).2⟩
theorem frozen_restore {w : World} {a : Addr} {b : Bool} {o o' : Obj} (h : (w.alloc o).frozen? a = b) (hne : a.block ≠ w.heap.size) : (w.alloc o').frozen? a = b :=
  (World.frozen?_alloc_old w o' a hne).trans ((World.frozen?_alloc_old w o a hne).symm.trans h)
theorem getD_mem {zs : List Int} {i : Nat} (h : i < zs.length) : zs.getD i 0 ∈ zs := by
  simp [List.getD, List.getElem?_eq_getElem h]
theorem ints_nil {k : IntKind} {w : World} : Ints k w none 0 [] := ⟨Nat.zero_le _, Nat.le_refl _, fun i hi => absurd hi (by omega)⟩
theorem ints_row {k : IntKind} {w : World} {x : Addr} {n : Nat} {zs : List Int} (h1 : n ≤ maxLen) (h2 : n ≤ zs.length)
    (hc : ∀ i, i < zs.length → w.cell? (x.add i) = some (.int k (zs.getD i 0))) (hw : ∀ m ∈ zs, (Lit.int k m).wf = true) : Ints k w (some x) n zs :=
  ⟨h1, h2, fun i hi => ⟨x, rfl, hc i (by omega), hw _ (getD_mem (by omega))⟩⟩
theorem lt2 (n : Nat) : n < n + 1 + 1 := by omega
theorem lt3 (n : Nat) : n < n + 1 + 1 + 1 := by omega
theorem lt4 (n : Nat) : n < n + 1 + 1 + 1 + 1 := by omega
theorem lt5 (n : Nat) : n < n + 1 + 1 + 1 + 1 + 1 := by omega
end Go.Proofs.Ytdmbpndplflebaa
