/- A record's load and store, all sixteen cells at once (cell by cell they cost the kernel ten to sixteen seconds each). -/
import Derived.Test.YtmgiholmhhjpaaaDoorRescueFastQ12
import Derived.Deep.WholeRow
import Derived.Deep.MidRow
import Derived.Deep.Upon
import Derived.WalkKit
import Derived.WalkSpells
import Derived.WalkLawsBesides
import Derived.Deep.RegionHeld3
import Derived.Deep.DrawnRows
import Derived.Deep.DeepCutAuto
import Derived.Deep.DeepFit
import Derived.Lib.Hide
import Derived.BigQuiet
import Derived.Deep.QuietTactic
namespace Go.Proofs.YtmgiholmhhjpaaaDoor
open Go.RowKit
set_option linter.unusedVariables false
set_option linter.unusedSimpArgs false
set_option maxRecDepth 20000
attribute [local go_sem ↓] Go.wp_at_zero Go.wp_at_succ
attribute [local go_sem] World.cell?_alloc_some frozen_alloc_some

theorem recinfo_size : (Tryd.prog.info? 33).map (·.size) = some 16 := by kernel_rfl
def loadRec (a : Addr) : Sem Value := loadVar 33 a
theorem loadVar_rec (a : Addr) : loadVar 33 a = loadRec a := rfl
def storeRec (a : Addr) (v : Value) : Sem Unit := storeVar 33 a v
theorem storeVar_rec (a : Addr) (v : Value) : storeVar 33 a v = storeRec a v := rfl
theorem rec_load {w : World} {g : Nat} {d0 d1 d2 d3 d4 d5 d6 d7 d8 d9 d10 d11 d12 d13 d14 d15 : Value} (h : Blk w g 33 #[d0, d1, d2, d3, d4, d5, d6, d7, d8, d9, d10, d11, d12, d13, d14, d15]) : (loadRec ⟨g, 0, none⟩).run Tryd.prog w = .ok (.agg #[d0, d1, d2, d3, d4, d5, d6, d7, d8, d9, d10, d11, d12, d13, d14, d15]) w :=
  run_loadVar_mid (P := Tryd.prog) w g 0 33 [d0, d1, d2, d3, d4, d5, d6, d7, d8, d9, d10, d11, d12, d13, d14, d15] _ (fun j v hv => by rw [Nat.zero_add, h.cell]; simpa using hv) Tryd.underlying33 rfl (by rw [recinfo_size]; rfl)
theorem rec_store_new (w : World) (d0 d1 d2 d3 d4 d5 d6 d7 d8 d9 d10 d11 d12 d13 d14 d15 : Value) (c0 : Int) (c1 : Int) (c2 : Int) (c3 : Int) (c4 : Int) (c5 : Int) (c6 : Int) (c7 : Int) (c8 : Int) (c9 : Int) (c10 : ByteArray) (c11 : ByteArray) (c12 : Int) (c13a : Option Addr) (c13m c13c : Nat) (c14 : Int) (c15 : Int) :
    (storeRec ⟨w.heap.size, 0, none⟩ (.agg #[.int .i64 c0, .int .i64 c1, .int .i64 c2, .int .i64 c3, .int .i64 c4, .int .i64 c5, .int .i64 c6, .int .i64 c7, .int .i64 c8, .int .i64 c9, .string c10, .string c11, .int .i64 c12, .slice c13a c13m c13c, .int .i64 c14, .int .i64 c15])).run Tryd.prog (w.alloc (.cells #[d0, d1, d2, d3, d4, d5, d6, d7, d8, d9, d10, d11, d12, d13, d14, d15] 33)) = .ok () (w.alloc (.cells #[.int .i64 c0, .int .i64 c1, .int .i64 c2, .int .i64 c3, .int .i64 c4, .int .i64 c5, .int .i64 c6, .int .i64 c7, .int .i64 c8, .int .i64 c9, .string c10, .string c11, .int .i64 c12, .slice c13a c13m c13c, .int .i64 c14, .int .i64 c15] 33)) :=
  run_storeVar_new w _ _ _ (by rw [recinfo_size]; rfl) rfl (by simp [Value.oneCell'])
/-- A world with a block's sixteen cells anew. -/
def recSet (w : World) (g : Nat) (cs : Array Value) : World := w.setCells g 0 cs.toList
theorem rec_store {w : World} {g : Nat} {cs : Array Value} (h : Blk w g 33 cs) (hs : cs.size = 16) (c0 : Int) (c1 : Int) (c2 : Int) (c3 : Int) (c4 : Int) (c5 : Int) (c6 : Int) (c7 : Int) (c8 : Int) (c9 : Int) (c10 : ByteArray) (c11 : ByteArray) (c12 : Int) (c13a : Option Addr) (c13m c13c : Nat) (c14 : Int) (c15 : Int) :
    (storeRec ⟨g, 0, none⟩ (.agg #[.int .i64 c0, .int .i64 c1, .int .i64 c2, .int .i64 c3, .int .i64 c4, .int .i64 c5, .int .i64 c6, .int .i64 c7, .int .i64 c8, .int .i64 c9, .string c10, .string c11, .int .i64 c12, .slice c13a c13m c13c, .int .i64 c14, .int .i64 c15])).run Tryd.prog w = .ok () (recSet w g #[.int .i64 c0, .int .i64 c1, .int .i64 c2, .int .i64 c3, .int .i64 c4, .int .i64 c5, .int .i64 c6, .int .i64 c7, .int .i64 c8, .int .i64 c9, .string c10, .string c11, .int .i64 c12, .slice c13a c13m c13c, .int .i64 c14, .int .i64 c15]) :=
  run_storeVar_mid (P := Tryd.prog) w g 0 33 #[.int .i64 c0, .int .i64 c1, .int .i64 c2, .int .i64 c3, .int .i64 c4, .int .i64 c5, .int .i64 c6, .int .i64 c7, .int .i64 c8, .int .i64 c9, .string c10, .string c11, .int .i64 c12, .slice c13a c13m c13c, .int .i64 c14, .int .i64 c15] (h.there (by rw [hs]; exact Nat.le_refl _)) (by rw [recinfo_size]; rfl) (by simp [Value.oneCell'])
theorem Blk.recSet {w : World} {g : Nat} {cs cs' : Array Value} (h : Blk w g 33 cs) (hs : cs'.size = cs.size) : Blk (recSet w g cs') g 33 cs' := h.setCells hs
theorem Blk.recSet_far {w : World} {g k : Nat} {t : TypeId} {cs cs' : Array Value} (h : Blk w k t cs) (hk : k ≠ g) : Blk (Go.Proofs.YtmgiholmhhjpaaaDoor.recSet w g cs') k t cs :=
  (World.heap_setCells_other w g 0 cs'.toList h.lt hk).trans h
theorem below_recSet {B g : Nat} {a w : World} (h : Below B a w) (hg : B ≤ g) (cs : Array Value) : Below B a (recSet w g cs) := below_setCells hg _ 0 h
theorem results_rec {fn : Func} {p t : Tmp} {tmps : Array Value} {w : World} {g : Nat} {d0 d1 d2 d3 d4 d5 d6 d7 d8 d9 d10 d11 d12 d13 d14 d15 b : Value} (h : fn.results = #[.cell p 33, .tmp t]) (hp : tmps.getD p undef = .pointer (some ⟨g, 0, none⟩)) (ht : tmps.getD t undef = b)
    (hb : Blk w g 33 #[d0, d1, d2, d3, d4, d5, d6, d7, d8, d9, d10, d11, d12, d13, d14, d15]) : (results fn tmps).run Tryd.prog w = .ok (.tuple #[.agg #[d0, d1, d2, d3, d4, d5, d6, d7, d8, d9, d10, d11, d12, d13, d14, d15], b]) w := by
  have hc := hb.cell
  have hp' : tmps[p]?.getD undef = .pointer (some ⟨g, 0, none⟩) := by simpa using hp
  have ht' : tmps[t]?.getD undef = b := by simpa using ht
  clear hp ht hb
  simp [results, h, go_sem, hp', ht', hc]
abbrev SL (g : Nat) (cs : Array Value) (wx : World) : Prop := (loadRec ⟨g, 0, none⟩).run Tryd.prog wx = .ok (.agg cs) wx ∧ ∀ i, wx.cell? ⟨g, i, none⟩ = cs[i]?
theorem Blk.sl {w : World} {g : Nat} {d0 d1 d2 d3 d4 d5 d6 d7 d8 d9 d10 d11 d12 d13 d14 d15 : Value} (h : Blk w g 33 #[d0, d1, d2, d3, d4, d5, d6, d7, d8, d9, d10, d11, d12, d13, d14, d15]) : SL g #[d0, d1, d2, d3, d4, d5, d6, d7, d8, d9, d10, d11, d12, d13, d14, d15] w := ⟨rec_load h, h.cell⟩
end Go.Proofs.YtmgiholmhhjpaaaDoor
