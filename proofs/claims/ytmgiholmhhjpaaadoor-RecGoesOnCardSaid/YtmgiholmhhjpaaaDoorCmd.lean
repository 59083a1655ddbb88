/- A command, opened; its cells. -/
import Derived.Test.YtmgiholmhhjpaaaDoorAgg
import Derived.Test.YtmgiholmhhjpaaaDoorApp
import Derived.ProofKit
import Derived.ShutString
import Derived.ChangeOld
namespace Go.Proofs.YtmgiholmhhjpaaaDoor
open Go.RowKit
set_option linter.unusedVariables false
set_option linter.unusedSimpArgs false
set_option maxRecDepth 20000
attribute [local go_sem ↓] Go.wp_at_zero Go.wp_at_succ
attribute [local go_sem] World.cell?_alloc_some frozen_alloc_some
open Go.ChangeShapes Go.WideShapes Go.ChangeAt
open Go.ChangeMaps (open_string shut_string)

structure CmdT where
  kind : Int
  client : Int
  seq : Int
  key : ByteArray
  val : ByteArray
  rev : Int
def CmdT.v (c : CmdT) : Value := .agg #[.int .i64 c.kind, .int .i64 c.client, .int .i64 c.seq, .string c.key, .string c.val, .int .i64 c.rev]
structure CmdT.Ok (c : CmdT) : Prop where
  kind : (Lit.int .i64 c.kind).wf = true
  client : (Lit.int .i64 c.client).wf = true
  seq : (Lit.int .i64 c.seq).wf = true
  key : c.key.size ≤ maxLen
  val : c.val.size ≤ maxLen
  rev : (Lit.int .i64 c.rev).wf = true

theorem open_cmd {H : Type} {enc : TypeId × Value → H} {w : World} {r : Reach} {b0 base : Nat} {spare : Nat → Bool} {held : Bool} {v : Value} {d : DataW H} {p : List MemPlace}
    (hv : Value.okWide Tryd.prog w r b0 23 v) (h : DataW.Trod enc Tryd.prog w base spare held 23 v d p) : ∃ c : CmdT, v = c.v ∧ c.Ok := by
  obtain ⟨v0, v1, v2, v3, v4, v5, y0, y1, y2, y3, y4, y5, m, rfl, h0, h1, h2, h3, h4, h5⟩ := open_agg6 Tryd.underlying23 (by kernel_rfl) (by kernel_rfl) hv h
  obtain ⟨a0, e0, _, w0⟩ := DataW.trod_int Tryd.underlying3 h0
  obtain ⟨a1, e1, _, w1⟩ := DataW.trod_int Tryd.underlying3 h1
  obtain ⟨a2, e2, _, w2⟩ := DataW.trod_int Tryd.underlying3 h2
  obtain ⟨a3, e3, _, w3⟩ := DataW.trod_string Tryd.underlying9 h3
  obtain ⟨a4, e4, _, w4⟩ := DataW.trod_string Tryd.underlying9 h4
  obtain ⟨a5, e5, _, w5⟩ := DataW.trod_int Tryd.underlying3 h5
  simp at e0 e1 e2 e3 e4 e5
  subst e0 e1 e2 e3 e4 e5
  exact ⟨⟨a0, a1, a2, a3, a4, a5⟩, rfl, w0, w1, w2, w3, w4, w5⟩
end Go.Proofs.YtmgiholmhhjpaaaDoor
