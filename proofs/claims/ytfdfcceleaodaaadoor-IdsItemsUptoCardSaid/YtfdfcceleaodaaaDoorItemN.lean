/- Items of numbers: how the program turns them. -/
import Derived.Test.YtfdfcceleaodaaaDoorListIn
import Derived.Test.YtfdfcceleaodaaaDoorIds
import Derived.Test.YtfdfcceleaodaaaDoorReg
import Derived.WalkKit
import Derived.WalkSpells
import Derived.WalkLawsBesides
import Derived.Deep.RegionHeld3
import Derived.Deep.DrawnRows
import Derived.Deep.DeepCutAuto
import Derived.Deep.DeepFit
import Derived.Lib.Hide
import Derived.BigQuiet
import Derived.Deep.QuietTactic
namespace Go.Proofs.YtfdfcceleaodaaaDoor
open Go.RowKit
set_option linter.unusedVariables false
set_option linter.unusedSimpArgs false
set_option maxRecDepth 20000
attribute [local go_sem ↓] Go.wp_at_zero Go.wp_at_succ
attribute [local go_sem] World.cell?_alloc_some frozen_alloc_some
attribute [local go_sem] lt2 lt3 lt4 lt5
attribute [local simp] lt2 lt3 lt4 lt5

/-- A number as the program turns it to an item's. -/
def u64n (a : Int) : Nat := (IntKind.u64.wrap a).toNat
theorem u64n_cast (a : Int) : IntKind.u64.wrap a = ((u64n a : Nat) : Int) := by
  have e : IntKind.u64.wrap a = a % 18446744073709551616 := by simp [IntKind.wrap, IntKind.bits, IntKind.signed]
  unfold u64n; rw [e]; omega
theorem u64n_lt (a : Int) : u64n a < 2 ^ 64 := by
  have e : IntKind.u64.wrap a = a % 18446744073709551616 := by simp [IntKind.wrap, IntKind.bits, IntKind.signed]
  unfold u64n; rw [e]; omega
theorem u64n_of {a : Int} (h : 0 ≤ a) (h' : a < 2 ^ 63) : u64n a = a.toNat := by
  have e : IntKind.u64.wrap a = a % 18446744073709551616 := by simp [IntKind.wrap, IntKind.bits, IntKind.signed]
  unfold u64n; rw [e]; omega
def ntree (a : Int) : Tree := .mk 0 (u64n a) ByteArray.empty []
def ltree (l : List Tree) : Tree := .mk 2 0 ByteArray.empty l
abbrev listV (A : Option Addr) (m c : Nat) : Value := .agg #[.int .i64 2, .int .u64 0, .string ByteArray.empty, .slice A m c]
theorem Blk.drew {w : World} {g : Nat} {t : TypeId} {cs : Array Value} (h : Blk w g t cs) : Blk w.drew g t cs := h.keep (Below.refl _ _).drew
theorem hin_set4 {w : World} {S : Nat → Prop} {t : Tree} {v : Value} (h : HoldsIn w S t v) {g : Nat} (hp : ¬ S g) (a b c d : Value) : HoldsIn ((((w.setCell ⟨g, 0, none⟩ a).setCell ⟨g, 1, none⟩ b).setCell ⟨g, 2, none⟩ c).setCell ⟨g, 3, none⟩ d) S t v :=
  (((h.set (p := ⟨g, 0, none⟩) hp a).set (p := ⟨g, 1, none⟩) hp b).set (p := ⟨g, 2, none⟩) hp c).set (p := ⟨g, 3, none⟩) hp d
theorem Blk.set4 {w : World} {g : Nat} {t : TypeId} {u0 u1 u2 u3 : Value} (h : Blk w g t #[u0, u1, u2, u3]) (a b c d : Value) : Blk ((((w.setCell ⟨g, 0, none⟩ a).setCell ⟨g, 1, none⟩ b).setCell ⟨g, 2, none⟩ c).setCell ⟨g, 3, none⟩ d) g t #[a, b, c, d] := by
  have := (((h.set_ 0 a).set_ 1 b).set_ 2 c).set_ 3 d
  simpa using this
theorem Blk.far4 {w : World} {k g : Nat} {t : TypeId} {cs : Array Value} (h : Blk w k t cs) (hk : k ≠ g) (a b c d : Value) : Blk ((((w.setCell ⟨g, 0, none⟩ a).setCell ⟨g, 1, none⟩ b).setCell ⟨g, 2, none⟩ c).setCell ⟨g, 3, none⟩ d) k t cs :=
  (((h.far (p := ⟨g, 0, none⟩) hk a).far (p := ⟨g, 1, none⟩) hk b).far (p := ⟨g, 2, none⟩) hk c).far (p := ⟨g, 3, none⟩) hk d
theorem own_far {w : World} {base : Nat} {e : TypeId} {size : Nat} {v : Value} {n : Nat} {xs : List Value} (h : w.ownsRow base e size v n xs) {p : Addr} (hp : v.ownBlock ≠ some p.block) (u : Value) : (w.setCell p u).ownsRow base e size v n xs :=
  have hb := (Below.refl p.block w).setCell (p := p) (Nat.le_refl _) u
  h.kept (row := some p.block) ⟨hb.os, hb.tape, hb.output, hb.size, fun k _ hne => Below.heap_setCell w p u k fun e => hne (by rw [e])⟩ (.inr hp)
theorem own_far4 {w : World} {base : Nat} {e : TypeId} {size : Nat} {v : Value} {n g : Nat} {xs : List Value} (h : w.ownsRow base e size v n xs) (hp : v.ownBlock ≠ some g) (a b c d : Value) :
    ((((w.setCell ⟨g, 0, none⟩ a).setCell ⟨g, 1, none⟩ b).setCell ⟨g, 2, none⟩ c).setCell ⟨g, 3, none⟩ d).ownsRow base e size v n xs :=
  own_far (own_far (own_far (own_far h (p := ⟨g, 0, none⟩) hp a) (p := ⟨g, 1, none⟩) hp b) (p := ⟨g, 2, none⟩) hp c) (p := ⟨g, 3, none⟩) hp d
theorem own_lower {w : World} {base base' : Nat} {e : TypeId} {size : Nat} {v : Value} {n : Nat} {xs : List Value} (h : w.ownsRow base e size v n xs) (hb : base' ≤ base) : w.ownsRow base' e size v n xs :=
  ⟨h.1, h.2.imp id fun ⟨g, cap, cur, hv, hg, hr⟩ => ⟨g, cap, cur, hv, by omega, hr⟩⟩
end Go.Proofs.YtfdfcceleaodaaaDoor
