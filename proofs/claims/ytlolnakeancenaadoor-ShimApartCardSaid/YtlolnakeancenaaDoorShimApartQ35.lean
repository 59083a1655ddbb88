/- The walk of the document's Take of ids, at any item. -/
import Derived.Test.YtlolnakeancenaaDoorShimApartQ0
import Derived.Test.YtlolnakeancenaaDoorShimApartQ11
import Derived.Test.YtlolnakeancenaaDoorShimApartQ10
import Derived.Test.YtlolnakeancenaaDoorShimApartQ24
import Derived.Test.YtlolnakeancenaaDoorShimApartQ25
import Derived.WalkKit
import Derived.WalkSpells
import Derived.WalkLawsBesides
import Derived.Deep.RegionHeld3
import Derived.Deep.DrawnRows
import Derived.Deep.DeepCutAuto
import Derived.Deep.DeepFit
import Derived.Lib.Hide
import Derived.BigQuiet
import Derived.Deep.QuietTactic
namespace Go.Proofs.YtlolnakeancenaaDoor
open Go.RowKit
set_option linter.unusedVariables false
set_option linter.unusedSimpArgs false
set_option maxRecDepth 20000
attribute [local go_sem ↓] Go.wp_at_zero Go.wp_at_succ
attribute [local go_sem] World.cell?_alloc_some frozen_alloc_some
attribute [local go_sem] lt2 lt3 lt4 lt5
attribute [local simp] lt2 lt3 lt4 lt5
/-- What a round holds: the item's box, what was made of ids so far; blocks from z on are the round's. -/
structure TkP (w:World) (z:Nat) (cs:Array Value) (v:Value) (n:Nat) (xs:List Value) (W:World):Prop where
 hb:Below w.heap.size w W
 hx:Blk W w.heap.size 25 cs
 ho:W.ownsRow (w.heap.size+1) 41 2 v n xs
 hl:∀k,v.ownBlock=some k→k<z
 le:z≤W.heap.size
 z0:w.heap.size<z
theorem TkP.set {w:World} {z:Nat} {cs:Array Value} {v:Value} {n:Nat} {xs:List Value} {W:World} (h:TkP w z cs v n xs W) {p:Addr} (hp:z≤p.block) (u:Value):TkP w z cs v n xs (W.setCell p u):=
 ⟨h.hb.setCell (by have:=h.z0;omega) u,h.hx.far (by have:=h.z0;omega) u,own_far h.ho (fun e=>by have:=h.hl _ e;omega) u,h.hl,by simpa using h.le,h.z0⟩
end Go.Proofs.YtlolnakeancenaaDoor
