/- A decision's store, all ten cells at once. -/
import Derived.Test.YtmgiholmhhjpaaaPre
import Derived.Deep.WholeRow
import Derived.Deep.MidRow
import Derived.Deep.Upon
import Derived.WalkKit
import Derived.WalkSpells
import Derived.WalkLawsBesides
import Derived.Deep.RegionHeld3
import Derived.Deep.DrawnRows
import Derived.Deep.DeepCutAuto
import Derived.Deep.DeepFit
import Derived.Lib.Hide
import Derived.BigQuiet
import Derived.Deep.QuietTactic
namespace Go.Proofs.Ytmgiholmhhjpaaa
open Go.RowKit
set_option linter.unusedVariables false
set_option linter.unusedSimpArgs false
set_option maxRecDepth 20000
attribute [local go_sem ↓] Go.wp_at_zero Go.wp_at_succ
attribute [local go_sem] World.cell?_alloc_some frozen_alloc_some

theorem decinfo_size : (Try.prog.info? 32).map (·.size) = some 10 := by kernel_rfl
def storeDec (a : Addr) (v : Value) : Sem Unit := storeVar 32 a v
theorem storeVar_dec (a : Addr) (v : Value) : storeVar 32 a v = storeDec a v := rfl
/-- A decision's ten cells. -/
def decC (d : Int) (A : Option Addr) (m c : Nat) (q t : Int) : Array Value := #[.int .i64 d, .int .i64 0, .int .i64 0, .int .i64 0, .string ByteArray.empty, .string ByteArray.empty, .int .i64 0, .slice A m c, .int .i64 q, .int .i64 t]
def decSet (w : World) (g : Nat) (cs : Array Value) : World := w.setCells g 0 cs.toList
theorem dec_store {w : World} {g : Nat} {cs : Array Value} (h : Blk w g 32 cs) (hs : cs.size = 10) (d : Int) (A : Option Addr) (m c : Nat) (q t : Int) :
    (storeDec ⟨g, 0, none⟩ (decV d A m c q t)).run Try.prog w = .ok () (decSet w g (decC d A m c q t)) :=
  run_storeVar_mid (P := Try.prog) w g 0 32 (decC d A m c q t) (h.there (by rw [hs]; exact Nat.le_refl _)) (by rw [decinfo_size]; rfl) (by simp [decC, Value.oneCell'])
theorem Blk.decSet {w : World} {g : Nat} {cs cs' : Array Value} (h : Blk w g 32 cs) (hs : cs'.size = cs.size) : Blk (decSet w g cs') g 32 cs' := h.setCells hs
theorem Blk.decSet_far {w : World} {g k : Nat} {t : TypeId} {cs cs' : Array Value} (h : Blk w k t cs) (hk : k ≠ g) : Blk (Go.Proofs.Ytmgiholmhhjpaaa.decSet w g cs') k t cs :=
  (World.heap_setCells_other w g 0 cs'.toList h.lt hk).trans h
theorem below_decSet {B g : Nat} {a w : World} (h : Below B a w) (hg : B ≤ g) (cs : Array Value) : Below B a (decSet w g cs) := below_setCells hg _ 0 h
end Go.Proofs.Ytmgiholmhhjpaaa
