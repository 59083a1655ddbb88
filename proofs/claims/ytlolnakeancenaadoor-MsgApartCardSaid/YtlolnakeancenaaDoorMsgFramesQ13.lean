/- A message, opened; its load and store as a whole; msg.known, of, Same. -/
import Derived.Test.YtlolnakeancenaaDoorMsgFramesQ11
import Derived.Test.YtlolnakeancenaaDoorMsgFramesQ0
import Derived.Deep.WholeRow
import Derived.Deep.MidRow
import Derived.Deep.Upon
import Derived.WalkKit
import Derived.WalkSpells
import Derived.WalkLawsBesides
import Derived.Deep.RegionHeld3
import Derived.Deep.DrawnRows
import Derived.Deep.DeepCutAuto
import Derived.Deep.DeepFit
import Derived.Lib.Hide
import Derived.BigQuiet
import Derived.Deep.QuietTactic
namespace Go.Proofs.YtlolnakeancenaaDoor
open Go.RowKit
set_option linter.unusedVariables false
set_option linter.unusedSimpArgs false
set_option maxRecDepth 20000
attribute [local go_sem ↓] Go.wp_at_zero Go.wp_at_succ
attribute [local go_sem] World.cell?_alloc_some frozen_alloc_some

structure MsgT where
 k : Int
 i : Int
 n : Int
 br : Int
 bb : Int
 tr : Int
 tb : Int
 st : Int
 ck : Int
 cc : Int
 cq : Int
 cy : ByteArray
 cx : ByteArray
 cr : Int
 A : Option Addr
 m : Nat
 cap : Nat
 sq : Int
 tg : Int
 ver : Int
 l : List IdP
/-- The message's eighteen cells. -/
def MsgT.v (r : MsgT) : Value := .agg #[.int .i64 r.k, .int .i64 r.i, .int .i64 r.n, .int .i64 r.br, .int .i64 r.bb, .int .i64 r.tr, .int .i64 r.tb, .int .i64 r.st, .int .i64 r.ck, .int .i64 r.cc, .int .i64 r.cq, .string r.cy, .string r.cx, .int .i64 r.cr, .slice r.A r.m r.cap, .int .i64 r.sq, .int .i64 r.tg, .int .i64 r.ver]
def MsgT.p (r : MsgT) : AttrP := ⟨r.l, r.sq, r.tg⟩
/-- What is true of every message. -/
structure MsgT.Ok (w : World) (R : MsgT) : Prop where
 k : (Lit.int .i64 R.k).wf = true
 i : (Lit.int .i64 R.i).wf = true
 n : (Lit.int .i64 R.n).wf = true
 br : (Lit.int .i64 R.br).wf = true
 bb : (Lit.int .i64 R.bb).wf = true
 tr : (Lit.int .i64 R.tr).wf = true
 tb : (Lit.int .i64 R.tb).wf = true
 st : (Lit.int .i64 R.st).wf = true
 ck : (Lit.int .i64 R.ck).wf = true
 cc : (Lit.int .i64 R.cc).wf = true
 cq : (Lit.int .i64 R.cq).wf = true
 cy : R.cy.size ≤ maxLen
 cx : R.cx.size ≤ maxLen
 cr : (Lit.int .i64 R.cr).wf = true
 m : R.m ≤ R.cap
 cap : R.m ≤ R.cap
 l : IdsAt w R.A R.m R.l
 sq : (Lit.int .i64 R.sq).wf = true
 tg : (Lit.int .i64 R.tg).wf = true
 ver : (Lit.int .i64 R.ver).wf = true
theorem MsgT.Ok.keep {w w' : World} {r : MsgT} (h : r.Ok w) (hb : Below w.heap.size w w') : r.Ok w' := { h with l := h.l.keep hb }

theorem msginfo_size : (Tryd.prog.info? 50).map (·.size) = some 18 := by kernel_rfl
def loadMsg (a : Addr) : Sem Value := loadVar 50 a
theorem loadVar_msg (a : Addr) : loadVar 50 a = loadMsg a := rfl
def storeMsg (a : Addr) (v : Value) : Sem Unit := storeVar 50 a v
theorem storeVar_msg (a : Addr) (v : Value) : storeVar 50 a v = storeMsg a v := rfl
theorem msg_load {w : World} {g : Nat} {d0 d1 d2 d3 d4 d5 d6 d7 d8 d9 d10 d11 d12 d13 d14 d15 d16 d17 : Value} (h : Blk w g 50 #[d0, d1, d2, d3, d4, d5, d6, d7, d8, d9, d10, d11, d12, d13, d14, d15, d16, d17]) : (loadMsg ⟨g, 0, none⟩).run Tryd.prog w = .ok (.agg #[d0, d1, d2, d3, d4, d5, d6, d7, d8, d9, d10, d11, d12, d13, d14, d15, d16, d17]) w :=
 run_loadVar_mid (P := Tryd.prog) w g 0 50 [d0, d1, d2, d3, d4, d5, d6, d7, d8, d9, d10, d11, d12, d13, d14, d15, d16, d17] _ (fun j v hv => by rw [Nat.zero_add, h.cell]; simpa using hv) Tryd.underlying50 rfl (by rw [msginfo_size]; rfl)
theorem msg_store_new (w : World) (d0 d1 d2 d3 d4 d5 d6 d7 d8 d9 d10 d11 d12 d13 d14 d15 d16 d17 : Value) (c0 : Int) (c1 : Int) (c2 : Int) (c3 : Int) (c4 : Int) (c5 : Int) (c6 : Int) (c7 : Int) (c8 : Int) (c9 : Int) (c10 : Int) (c11 : ByteArray) (c12 : ByteArray) (c13 : Int) (c14a : Option Addr) (c14m c14c : Nat) (c15 : Int) (c16 : Int) (c17 : Int) :
  (storeMsg ⟨w.heap.size, 0, none⟩ (.agg #[.int .i64 c0, .int .i64 c1, .int .i64 c2, .int .i64 c3, .int .i64 c4, .int .i64 c5, .int .i64 c6, .int .i64 c7, .int .i64 c8, .int .i64 c9, .int .i64 c10, .string c11, .string c12, .int .i64 c13, .slice c14a c14m c14c, .int .i64 c15, .int .i64 c16, .int .i64 c17])).run Tryd.prog (w.alloc (.cells #[d0, d1, d2, d3, d4, d5, d6, d7, d8, d9, d10, d11, d12, d13, d14, d15, d16, d17] 50)) = .ok () (w.alloc (.cells #[.int .i64 c0, .int .i64 c1, .int .i64 c2, .int .i64 c3, .int .i64 c4, .int .i64 c5, .int .i64 c6, .int .i64 c7, .int .i64 c8, .int .i64 c9, .int .i64 c10, .string c11, .string c12, .int .i64 c13, .slice c14a c14m c14c, .int .i64 c15, .int .i64 c16, .int .i64 c17] 50)) :=
 run_storeVar_new w _ _ _ (by rw [msginfo_size]; rfl) rfl (by simp [Value.oneCell'])
/-- A world with a block's eighteen cells anew. -/
def msgSet (w : World) (g : Nat) (cs : Array Value) : World := w.setCells g 0 cs.toList
theorem msg_store {w : World} {g : Nat} {cs : Array Value} (h : Blk w g 50 cs) (hs : cs.size = 18) (c0 : Int) (c1 : Int) (c2 : Int) (c3 : Int) (c4 : Int) (c5 : Int) (c6 : Int) (c7 : Int) (c8 : Int) (c9 : Int) (c10 : Int) (c11 : ByteArray) (c12 : ByteArray) (c13 : Int) (c14a : Option Addr) (c14m c14c : Nat) (c15 : Int) (c16 : Int) (c17 : Int) :
  (storeMsg ⟨g, 0, none⟩ (.agg #[.int .i64 c0, .int .i64 c1, .int .i64 c2, .int .i64 c3, .int .i64 c4, .int .i64 c5, .int .i64 c6, .int .i64 c7, .int .i64 c8, .int .i64 c9, .int .i64 c10, .string c11, .string c12, .int .i64 c13, .slice c14a c14m c14c, .int .i64 c15, .int .i64 c16, .int .i64 c17])).run Tryd.prog w = .ok () (msgSet w g #[.int .i64 c0, .int .i64 c1, .int .i64 c2, .int .i64 c3, .int .i64 c4, .int .i64 c5, .int .i64 c6, .int .i64 c7, .int .i64 c8, .int .i64 c9, .int .i64 c10, .string c11, .string c12, .int .i64 c13, .slice c14a c14m c14c, .int .i64 c15, .int .i64 c16, .int .i64 c17]) :=
 run_storeVar_mid (P := Tryd.prog) w g 0 50 #[.int .i64 c0, .int .i64 c1, .int .i64 c2, .int .i64 c3, .int .i64 c4, .int .i64 c5, .int .i64 c6, .int .i64 c7, .int .i64 c8, .int .i64 c9, .int .i64 c10, .string c11, .string c12, .int .i64 c13, .slice c14a c14m c14c, .int .i64 c15, .int .i64 c16, .int .i64 c17] (h.there (by rw [hs]; exact Nat.le_refl _)) (by rw [msginfo_size]; rfl) (by simp [Value.oneCell'])
theorem Blk.msgSet {w : World} {g : Nat} {cs cs' : Array Value} (h : Blk w g 50 cs) (hs : cs'.size = cs.size) : Blk (msgSet w g cs') g 50 cs' := h.setCells hs
theorem Blk.msgSet_far {w : World} {g k : Nat} {t : TypeId} {cs cs' : Array Value} (h : Blk w k t cs) (hk : k ≠ g) : Blk (Go.Proofs.YtlolnakeancenaaDoor.msgSet w g cs') k t cs :=
 (World.heap_setCells_other w g 0 cs'.toList h.lt hk).trans h
theorem below_msgSet {B g : Nat} {a w : World} (h : Below B a w) (hg : B ≤ g) (cs : Array Value) : Below B a (msgSet w g cs) := below_setCells hg _ 0 h
theorem results_msg1 {fn : Func} {p : Tmp} {tmps : Array Value} {w : World} {g : Nat} {d0 d1 d2 d3 d4 d5 d6 d7 d8 d9 d10 d11 d12 d13 d14 d15 d16 d17 : Value} (h : fn.results = #[.cell p 50]) (hp : tmps.getD p undef = .pointer (some ⟨g, 0, none⟩))
  (hb : Blk w g 50 #[d0, d1, d2, d3, d4, d5, d6, d7, d8, d9, d10, d11, d12, d13, d14, d15, d16, d17]) : (results fn tmps).run Tryd.prog w = .ok (.agg #[d0, d1, d2, d3, d4, d5, d6, d7, d8, d9, d10, d11, d12, d13, d14, d15, d16, d17]) w := by
 have hc := hb.cell
 have hp' : tmps[p]?.getD undef = .pointer (some ⟨g, 0, none⟩) := by simpa using hp
 clear hp hb
 simp [results, h, go_sem, hp', hc]
abbrev SM (g : Nat) (cs : Array Value) (wx : World) : Prop := (loadMsg ⟨g, 0, none⟩).run Tryd.prog wx = .ok (.agg cs) wx ∧ ∀ i, wx.cell? ⟨g, i, none⟩ = cs[i]?
theorem Blk.sm {w : World} {g : Nat} {d0 d1 d2 d3 d4 d5 d6 d7 d8 d9 d10 d11 d12 d13 d14 d15 d16 d17 : Value} (h : Blk w g 50 #[d0, d1, d2, d3, d4, d5, d6, d7, d8, d9, d10, d11, d12, d13, d14, d15, d16, d17]) : SM g #[d0, d1, d2, d3, d4, d5, d6, d7, d8, d9, d10, d11, d12, d13, d14, d15, d16, d17] w := ⟨msg_load h, h.cell⟩

/-- What kinds have. -/
def kId (k : Int) : Bool := decide (1 ≤ k ∧ k ≤ 8)
def kBal (k : Int) : Bool := decide (1 ≤ k ∧ k ≤ 8 ∧ k ≠ 5)
def kSt (k : Int) : Bool := k == 7
def kCmd0 (k : Int) : Bool := k == 1 || k == 3 || k == 5 || k == 7
def kAt0 (k : Int) : Bool := k == 1 || k == 2 || k == 3 || k == 5 || k == 7
def kVer (k : Int) : Bool := k == 9
def kCmd (k st : Int) : Bool := kCmd0 k && !(k == 7 && st == 0)
def kAt (k st : Int) : Bool := kAt0 k && !(k == 7 && st == 0)
def kHas (k : Int) : Array Value := #[.bool (kId k), .bool (kBal k), .bool (kSt k), .bool (kCmd0 k), .bool (kAt0 k), .bool (kVer k)]
/-- The table of kinds lies where it lies. -/
def KindsAt (w : World) : Prop := ∀ (k j : Nat) (b : Value), k < 10 → (kHas (k : Int))[j]? = some b → w.cell? ⟨0, k * 6 + j, none⟩ = some b
theorem KindsAt.keep {w w' : World} (h : KindsAt w) (hb : Below w.heap.size w w') : KindsAt w' := fun k j b hk hj => cell_keep hb (h k j b hk hj)
theorem known_any (k : Int) (w : World) : Calls Tryd.prog 42 #[.int .i64 k] w (Gives w (.bool (decide (1 ≤ k ∧ k < 10)))) := by
 by_cases h1 : 1 ≤ k
 ·by_cases h2 : k < 10
  ·rw [decide_eq_true ⟨h1, h2⟩]
   go_enter Tryd.func42, Tryd.ntmps42
   go_wp2_with fail
   go_ret
   exact ⟨by simp [h1, h2], blw⟩
  ·rw [decide_eq_false (fun h => h2 h.2)]
   go_enter Tryd.func42, Tryd.ntmps42
   go_wp2_with fail
   go_ret
   exact ⟨by simp [h1, h2], blw⟩
 ·rw [decide_eq_false (fun h => h1 h.1)]
  go_enter Tryd.func42, Tryd.ntmps42
  go_wp2_with fail
  go_ret
  exact ⟨by simp [h1], blw⟩
end Go.Proofs.YtlolnakeancenaaDoor
