/- What the walks of the laws ShimApart and ShimCut share. -/
import Derived.Test.YtlolnakeancenaaDoorShimApartQ41
import Derived.Test.YtlolnakeancenaaDoorShimApartQ19
import Derived.Test.YtlolnakeancenaaDoorShimApartQ42
import Derived.WalkKit
import Derived.WalkSpells
import Derived.WalkLawsBesides
import Derived.Deep.RegionHeld3
import Derived.Deep.DrawnRows
import Derived.Deep.DeepCutAuto
import Derived.Deep.DeepFit
import Derived.Lib.Hide
import Derived.BigQuiet
import Derived.Deep.QuietTactic
namespace Go.Proofs.YtlolnakeancenaaDoor
open Go.RowKit
set_option linter.unusedVariables false
set_option linter.unusedSimpArgs false
set_option maxRecDepth 20000
attribute [local go_sem ↓] Go.wp_at_zero Go.wp_at_succ
attribute [local go_sem] World.cell?_alloc_some frozen_alloc_some
attribute [local go_sem ↓ high] loadVar_msg storeVar_msg msg_store_new

/-- What the walks of the laws keep: the boxed message. -/
structure SlS (w : World) (MC : Array Value) (W : World) : Prop where
 kk : Below w.heap.size w W
 X : Blk W w.heap.size 50 MC
theorem SlS.keep {w W w1 : World} {MC : Array Value} (S : SlS w MC W) (hb : Below W.heap.size W w1) : SlS w MC w1 := ⟨below_call S.kk hb S.kk.size, S.X.keep hb⟩
theorem heads {W : World} {A : Option Addr} {n v : Nat} {P L : List Nat} (hL : L = mframe v P) (hb : Bytes W A n L) : ∃ ad, A = some ad ∧ W.cell? ad = some (.int .u8 (v : Int)) ∧ 0 < n := by
 subst hL
 have hn : 0 < n := by rw [hb.1, mframe_len]; omega
 obtain ⟨ad, x, rfl, hx, -, hxc⟩ := hb.at_ (k := 0) hn
 rw [show ad.add 0 = ad from rfl] at hxc
 have h : some v = some x := hx
 injection h with h
 subst h
 exact ⟨ad, rfl, hxc, hn⟩
end Go.Proofs.YtlolnakeancenaaDoor
