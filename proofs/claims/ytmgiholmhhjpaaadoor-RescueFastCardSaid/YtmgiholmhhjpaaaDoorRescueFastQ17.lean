/- What was said of an instance (api.Seen), a decision (api.Decision): loads and stores, all the cells at once; rows of what was said. rescue.of, committed, offered. rescue.accepted. -/
import Derived.Test.YtmgiholmhhjpaaaDoorRescueFastQ15
import Derived.WalkKit
import Derived.WalkSpells
import Derived.WalkLawsBesides
import Derived.Deep.RegionHeld3
import Derived.Deep.DrawnRows
import Derived.Deep.DeepCutAuto
import Derived.Deep.DeepFit
import Derived.Lib.Hide
import Derived.BigQuiet
import Derived.Deep.QuietTactic
namespace Go.Proofs.YtmgiholmhhjpaaaDoor
open Go.RowKit
set_option linter.unusedVariables false
set_option linter.unusedSimpArgs false
set_option maxRecDepth 20000
attribute [local go_sem ↓] Go.wp_at_zero Go.wp_at_succ
attribute [local go_sem] World.cell?_alloc_some frozen_alloc_some

theorem seeninfo_size : (Tryd.prog.info? 40).map (·.size) = some 17 := by kernel_rfl
theorem decinfo_size : (Tryd.prog.info? 42).map (·.size) = some 10 := by kernel_rfl
def loadSeen (a : Addr) : Sem Value := loadVar 40 a
theorem loadVar_seen (a : Addr) : loadVar 40 a = loadSeen a := rfl
def storeSeen (a : Addr) (v : Value) : Sem Unit := storeVar 40 a v
theorem storeVar_seen (a : Addr) (v : Value) : storeVar 40 a v = storeSeen a v := rfl
def loadDec (a : Addr) : Sem Value := loadVar 42 a
theorem loadVar_dec (a : Addr) : loadVar 42 a = loadDec a := rfl
def storeDec (a : Addr) (v : Value) : Sem Unit := storeVar 42 a v
theorem storeVar_dec (a : Addr) (v : Value) : storeVar 42 a v = storeDec a v := rfl
theorem seen_load_at {w : World} {g off : Nat} {d0 d1 d2 d3 d4 d5 d6 d7 d8 d9 d10 d11 d12 d13 d14 d15 d16 : Value} (h : ∀ (j : Nat) (v : Value), (#[d0, d1, d2, d3, d4, d5, d6, d7, d8, d9, d10, d11, d12, d13, d14, d15, d16] : Array Value)[j]? = some v → w.cell? ⟨g, off + j, none⟩ = some v) : (loadSeen ⟨g, off, none⟩).run Tryd.prog w = .ok (.agg #[d0, d1, d2, d3, d4, d5, d6, d7, d8, d9, d10, d11, d12, d13, d14, d15, d16]) w :=
  run_loadVar_mid (P := Tryd.prog) w g off 40 [d0, d1, d2, d3, d4, d5, d6, d7, d8, d9, d10, d11, d12, d13, d14, d15, d16] _ (fun j v hv => h j v (by simpa using hv)) Tryd.underlying40 rfl (by rw [seeninfo_size]; rfl)
theorem seen_load {w : World} {g : Nat} {d0 d1 d2 d3 d4 d5 d6 d7 d8 d9 d10 d11 d12 d13 d14 d15 d16 : Value} (h : Blk w g 40 #[d0, d1, d2, d3, d4, d5, d6, d7, d8, d9, d10, d11, d12, d13, d14, d15, d16]) : (loadSeen ⟨g, 0, none⟩).run Tryd.prog w = .ok (.agg #[d0, d1, d2, d3, d4, d5, d6, d7, d8, d9, d10, d11, d12, d13, d14, d15, d16]) w :=
  seen_load_at fun j v hv => by rw [Nat.zero_add, h.cell]; exact hv
/-- The record within. -/
theorem seen_rec {w : World} {g : Nat} {d0 d1 d2 d3 d4 d5 d6 d7 d8 d9 d10 d11 d12 d13 d14 d15 d16 : Value} (h : Blk w g 40 #[d0, d1, d2, d3, d4, d5, d6, d7, d8, d9, d10, d11, d12, d13, d14, d15, d16]) : (loadRec ⟨g, 1, none⟩).run Tryd.prog w = .ok (.agg #[d1, d2, d3, d4, d5, d6, d7, d8, d9, d10, d11, d12, d13, d14, d15, d16]) w :=
  run_loadVar_mid (P := Tryd.prog) w g 1 33 [d1, d2, d3, d4, d5, d6, d7, d8, d9, d10, d11, d12, d13, d14, d15, d16] _ (fun j v hv => by
    rw [h.cell]
    have : (#[d0, d1, d2, d3, d4, d5, d6, d7, d8, d9, d10, d11, d12, d13, d14, d15, d16] : Array Value)[1 + j]? = ([d1, d2, d3, d4, d5, d6, d7, d8, d9, d10, d11, d12, d13, d14, d15, d16] : List Value)[j]? := by rw [List.getElem?_toArray, Nat.add_comm 1 j, List.getElem?_cons_succ]
    rw [this]; exact hv) Tryd.underlying33 rfl (by rw [recinfo_size]; rfl)
theorem seen_store_new (w : World) (d0 d1 d2 d3 d4 d5 d6 d7 d8 d9 d10 d11 d12 d13 d14 d15 d16 : Value) (c0 : Int) (c1 : Int) (c2 : Int) (c3 : Int) (c4 : Int) (c5 : Int) (c6 : Int) (c7 : Int) (c8 : Int) (c9 : Int) (c10 : Int) (c11 : ByteArray) (c12 : ByteArray) (c13 : Int) (c14a : Option Addr) (c14m c14c : Nat) (c15 : Int) (c16 : Int) :
    (storeSeen ⟨w.heap.size, 0, none⟩ (.agg #[.int .i64 c0, .int .i64 c1, .int .i64 c2, .int .i64 c3, .int .i64 c4, .int .i64 c5, .int .i64 c6, .int .i64 c7, .int .i64 c8, .int .i64 c9, .int .i64 c10, .string c11, .string c12, .int .i64 c13, .slice c14a c14m c14c, .int .i64 c15, .int .i64 c16])).run Tryd.prog (w.alloc (.cells #[d0, d1, d2, d3, d4, d5, d6, d7, d8, d9, d10, d11, d12, d13, d14, d15, d16] 40)) = .ok () (w.alloc (.cells #[.int .i64 c0, .int .i64 c1, .int .i64 c2, .int .i64 c3, .int .i64 c4, .int .i64 c5, .int .i64 c6, .int .i64 c7, .int .i64 c8, .int .i64 c9, .int .i64 c10, .string c11, .string c12, .int .i64 c13, .slice c14a c14m c14c, .int .i64 c15, .int .i64 c16] 40)) :=
  run_storeVar_new w _ _ _ (by rw [seeninfo_size]; rfl) rfl (by simp [Value.oneCell'])
theorem dec_load {w : World} {g : Nat} {d0 d1 d2 d3 d4 d5 d6 d7 d8 d9 : Value} (h : Blk w g 42 #[d0, d1, d2, d3, d4, d5, d6, d7, d8, d9]) : (loadDec ⟨g, 0, none⟩).run Tryd.prog w = .ok (.agg #[d0, d1, d2, d3, d4, d5, d6, d7, d8, d9]) w :=
  run_loadVar_mid (P := Tryd.prog) w g 0 42 [d0, d1, d2, d3, d4, d5, d6, d7, d8, d9] _ (fun j v hv => by rw [Nat.zero_add, h.cell]; simpa using hv) Tryd.underlying42 rfl (by rw [decinfo_size]; rfl)
theorem dec_store_new (w : World) (d0 d1 d2 d3 d4 d5 d6 d7 d8 d9 : Value) (c0 : Int) (c1 : Int) (c2 : Int) (c3 : Int) (c4 : ByteArray) (c5 : ByteArray) (c6 : Int) (c7a : Option Addr) (c7m c7c : Nat) (c8 : Int) (c9 : Int) :
    (storeDec ⟨w.heap.size, 0, none⟩ (.agg #[.int .i64 c0, .int .i64 c1, .int .i64 c2, .int .i64 c3, .string c4, .string c5, .int .i64 c6, .slice c7a c7m c7c, .int .i64 c8, .int .i64 c9])).run Tryd.prog (w.alloc (.cells #[d0, d1, d2, d3, d4, d5, d6, d7, d8, d9] 42)) = .ok () (w.alloc (.cells #[.int .i64 c0, .int .i64 c1, .int .i64 c2, .int .i64 c3, .string c4, .string c5, .int .i64 c6, .slice c7a c7m c7c, .int .i64 c8, .int .i64 c9] 42)) :=
  run_storeVar_new w _ _ _ (by rw [decinfo_size]; rfl) rfl (by simp [Value.oneCell'])
def decSet (w : World) (g : Nat) (cs : Array Value) : World := w.setCells g 0 cs.toList
theorem dec_store {w : World} {g : Nat} {cs : Array Value} (h : Blk w g 42 cs) (hs : cs.size = 10) (c0 : Int) (c1 : Int) (c2 : Int) (c3 : Int) (c4 : ByteArray) (c5 : ByteArray) (c6 : Int) (c7a : Option Addr) (c7m c7c : Nat) (c8 : Int) (c9 : Int) :
    (storeDec ⟨g, 0, none⟩ (.agg #[.int .i64 c0, .int .i64 c1, .int .i64 c2, .int .i64 c3, .string c4, .string c5, .int .i64 c6, .slice c7a c7m c7c, .int .i64 c8, .int .i64 c9])).run Tryd.prog w = .ok () (decSet w g #[.int .i64 c0, .int .i64 c1, .int .i64 c2, .int .i64 c3, .string c4, .string c5, .int .i64 c6, .slice c7a c7m c7c, .int .i64 c8, .int .i64 c9]) :=
  run_storeVar_mid (P := Tryd.prog) w g 0 42 #[.int .i64 c0, .int .i64 c1, .int .i64 c2, .int .i64 c3, .string c4, .string c5, .int .i64 c6, .slice c7a c7m c7c, .int .i64 c8, .int .i64 c9] (h.there (by rw [hs]; exact Nat.le_refl _)) (by rw [decinfo_size]; rfl) (by simp [Value.oneCell'])
theorem Blk.decSet {w : World} {g : Nat} {cs cs' : Array Value} (h : Blk w g 42 cs) (hs : cs'.size = cs.size) : Blk (decSet w g cs') g 42 cs' := h.setCells hs
theorem Blk.decSet_far {w : World} {g k : Nat} {t : TypeId} {cs cs' : Array Value} (h : Blk w k t cs) (hk : k ≠ g) : Blk (Go.Proofs.YtmgiholmhhjpaaaDoor.decSet w g cs') k t cs :=
  (World.heap_setCells_other w g 0 cs'.toList h.lt hk).trans h
theorem below_decSet {B g : Nat} {a w : World} (h : Below B a w) (hg : B ≤ g) (cs : Array Value) : Below B a (decSet w g cs) := below_setCells hg _ 0 h
theorem results_dec2 {fn : Func} {p t : Tmp} {tmps : Array Value} {w : World} {g : Nat} {d0 d1 d2 d3 d4 d5 d6 d7 d8 d9 b : Value} (h : fn.results = #[.cell p 42, .tmp t]) (hp : tmps.getD p undef = .pointer (some ⟨g, 0, none⟩)) (ht : tmps.getD t undef = b)
    (hb : Blk w g 42 #[d0, d1, d2, d3, d4, d5, d6, d7, d8, d9]) : (results fn tmps).run Tryd.prog w = .ok (.tuple #[.agg #[d0, d1, d2, d3, d4, d5, d6, d7, d8, d9], b]) w := by
  have hc := hb.cell
  have hp' : tmps[p]?.getD undef = .pointer (some ⟨g, 0, none⟩) := by simpa using hp
  have ht' : tmps[t]?.getD undef = b := by simpa using ht
  clear hp ht hb
  simp [results, h, go_sem, hp', ht', hc]
theorem results_dec {fn : Func} {p : Tmp} {tmps : Array Value} {w : World} {g : Nat} {d0 d1 d2 d3 d4 d5 d6 d7 d8 d9 : Value} (h : fn.results = #[.cell p 42]) (hp : tmps.getD p undef = .pointer (some ⟨g, 0, none⟩))
    (hb : Blk w g 42 #[d0, d1, d2, d3, d4, d5, d6, d7, d8, d9]) : (results fn tmps).run Tryd.prog w = .ok (.agg #[d0, d1, d2, d3, d4, d5, d6, d7, d8, d9]) w := by
  have hc := hb.cell
  have hp' : tmps[p]?.getD undef = .pointer (some ⟨g, 0, none⟩) := by simpa using hp
  clear hp hb
  simp [results, h, go_sem, hp', hc]
structure SeenT where
  f : Int
  r : RecT
/-- What was said, as it lies in a row. -/
def SeensAt (w : World) (A : Option Addr) (m : Nat) (ss : List SeenT) : Prop :=
  m = ss.length ∧ m ≤ maxLen ∧ ∀ (i : Nat) (s : SeenT), ss[i]? = some s → s.r.Ok w ∧
    ∃ b o, A = some ⟨b, o, none⟩ ∧ ∀ (j : Nat) (v : Value), (#[.int .i64 s.f, .int .i64 s.r.i, .int .i64 s.r.n, .int .i64 s.r.st, .int .i64 s.r.br, .int .i64 s.r.bb, .int .i64 s.r.tr, .int .i64 s.r.tb, .int .i64 s.r.k, .int .i64 s.r.c, .int .i64 s.r.q, .string s.r.y, .string s.r.x, .int .i64 s.r.r, .slice s.r.A s.r.m s.r.cap, .int .i64 s.r.sq, .int .i64 s.r.tg] : Array Value)[j]? = some v → w.cell? ⟨b, o + i * 17 + j, none⟩ = some v
theorem SeensAt.keep {w w' : World} {A : Option Addr} {m : Nat} {l : List SeenT} (h : SeensAt w A m l) (hb : Below w.heap.size w w') : SeensAt w' A m l :=
  ⟨h.1, h.2.1, fun i x hi => by
    obtain ⟨hI, b, o, e, h1⟩ := h.2.2 i x hi
    exact ⟨hI.keep hb, b, o, e, fun j v hv => cell_keep hb (h1 j v hv)⟩⟩
theorem SeensAt.nil {w : World} {A : Option Addr} : SeensAt w A 0 [] := ⟨rfl, Nat.zero_le _, fun i x h => by simp at h⟩
theorem SeensAt.at_ {w : World} {A : Option Addr} {m : Nat} {l : List SeenT} (h : SeensAt w A m l) {i : Nat} (hi : i < m) :
    ∃ s b o, l[i]? = some s ∧ s.r.Ok w ∧ A = some ⟨b, o, none⟩ ∧ (loadSeen ⟨b, o + i * 17, none⟩).run Tryd.prog w = .ok (.agg #[.int .i64 s.f, .int .i64 s.r.i, .int .i64 s.r.n, .int .i64 s.r.st, .int .i64 s.r.br, .int .i64 s.r.bb, .int .i64 s.r.tr, .int .i64 s.r.tb, .int .i64 s.r.k, .int .i64 s.r.c, .int .i64 s.r.q, .string s.r.y, .string s.r.x, .int .i64 s.r.r, .slice s.r.A s.r.m s.r.cap, .int .i64 s.r.sq, .int .i64 s.r.tg]) w := by
  have hl : i < l.length := by rw [← h.1]; exact hi
  obtain ⟨w1, b, o, e, h1⟩ := h.2.2 i l[i] (List.getElem?_eq_getElem hl)
  exact ⟨_, b, o, List.getElem?_eq_getElem hl, w1, e, seen_load_at h1⟩
theorem SeensAt.cell {w : World} {A : Option Addr} {m : Nat} {l : List SeenT} (h : SeensAt w A m l) {i : Nat} {s : SeenT} (hi : l[i]? = some s) :
    ∃ b o, A = some ⟨b, o, none⟩ ∧ w.cell? ⟨b, o + i * 17, none⟩ = some (.int .i64 s.f) := by
  obtain ⟨w1, b, o, e, h1⟩ := h.2.2 i s hi
  exact ⟨b, o, e, h1 0 _ rfl⟩
/-- A decision for a record's command. -/
def decF (d : Int) (a : RecT) : Value := .agg #[.int .i64 d, .int .i64 a.k, .int .i64 a.c, .int .i64 a.q, .string a.y, .string a.x, .int .i64 a.r, .slice a.A a.m a.cap, .int .i64 a.sq, .int .i64 a.tg]
def decZ : Value := .agg #[.int .i64 0, .int .i64 0, .int .i64 0, .int .i64 0, .string ByteArray.empty, .string ByteArray.empty, .int .i64 0, .slice none 0 0, .int .i64 0, .int .i64 0]
end Go.Proofs.YtmgiholmhhjpaaaDoor

namespace Go.Proofs.YtmgiholmhhjpaaaDoor
open Go.RowKit
set_option linter.unusedVariables false
set_option linter.unusedSimpArgs false
set_option maxRecDepth 20000
attribute [local go_sem ↓] Go.wp_at_zero Go.wp_at_succ
attribute [local go_sem] World.cell?_alloc_some frozen_alloc_some
attribute [local go_sem ↓ high] loadVar_rec storeVar_rec loadVar_seen storeVar_seen loadVar_dec storeVar_dec
attribute [local go_sem] rec_store_new seen_store_new dec_store_new

set_option maxHeartbeats 2000000 in
theorem of_any (d : Int) (a : RecT) (w : World) : Calls Tryd.prog 58 #[.int .i64 d, .agg #[.int .i64 a.i, .int .i64 a.n, .int .i64 a.st, .int .i64 a.br, .int .i64 a.bb, .int .i64 a.tr, .int .i64 a.tb, .int .i64 a.k, .int .i64 a.c, .int .i64 a.q, .string a.y, .string a.x, .int .i64 a.r, .slice a.A a.m a.cap, .int .i64 a.sq, .int .i64 a.tg]] w (Gives w (decF d a)) := by
  have B0 : Blk ((w.alloc (.cells #[.int .i64 a.i, .int .i64 a.n, .int .i64 a.st, .int .i64 a.br, .int .i64 a.bb, .int .i64 a.tr, .int .i64 a.tb, .int .i64 a.k, .int .i64 a.c, .int .i64 a.q, .string a.y, .string a.x, .int .i64 a.r, .slice a.A a.m a.cap, .int .i64 a.sq, .int .i64 a.tg] 33)).alloc (.cells #[.int .i64 0, .int .i64 0, .int .i64 0, .int .i64 0, .string ⟨#[]⟩, .string ⟨#[]⟩, .int .i64 0, .slice none 0 0, .int .i64 0, .int .i64 0] 42)) w.heap.size 33 #[.int .i64 a.i, .int .i64 a.n, .int .i64 a.st, .int .i64 a.br, .int .i64 a.bb, .int .i64 a.tr, .int .i64 a.tb, .int .i64 a.k, .int .i64 a.c, .int .i64 a.q, .string a.y, .string a.x, .int .i64 a.r, .slice a.A a.m a.cap, .int .i64 a.sq, .int .i64 a.tg] := (Blk.new w _ _).alloc _
  have B1 : Blk ((w.alloc (.cells #[.int .i64 a.i, .int .i64 a.n, .int .i64 a.st, .int .i64 a.br, .int .i64 a.bb, .int .i64 a.tr, .int .i64 a.tb, .int .i64 a.k, .int .i64 a.c, .int .i64 a.q, .string a.y, .string a.x, .int .i64 a.r, .slice a.A a.m a.cap, .int .i64 a.sq, .int .i64 a.tg] 33)).alloc (.cells #[.int .i64 0, .int .i64 0, .int .i64 0, .int .i64 0, .string ⟨#[]⟩, .string ⟨#[]⟩, .int .i64 0, .slice none 0 0, .int .i64 0, .int .i64 0] 42)) (w.heap.size + 1) 42 #[.int .i64 0, .int .i64 0, .int .i64 0, .int .i64 0, .string ⟨#[]⟩, .string ⟨#[]⟩, .int .i64 0, .slice none 0 0, .int .i64 0, .int .i64 0] := Blk.newAt (by simp)
  have k1 : Below w.heap.size w ((w.alloc (.cells #[.int .i64 a.i, .int .i64 a.n, .int .i64 a.st, .int .i64 a.br, .int .i64 a.bb, .int .i64 a.tr, .int .i64 a.tb, .int .i64 a.k, .int .i64 a.c, .int .i64 a.q, .string a.y, .string a.x, .int .i64 a.r, .slice a.A a.m a.cap, .int .i64 a.sq, .int .i64 a.tg] 33)).alloc (.cells #[.int .i64 0, .int .i64 0, .int .i64 0, .int .i64 0, .string ⟨#[]⟩, .string ⟨#[]⟩, .int .i64 0, .slice none 0 0, .int .i64 0, .int .i64 0] 42)) := by ((repeat' first | with_reducible exact Below.refl _ _ | with_reducible assumption | with_reducible refine Below.alloc ?_ ?_ _ | with_reducible refine Below.setCell ?_ ?_ _ | with_reducible apply Below.drew | with_reducible apply below_drewN | with_reducible refine below_call ?_ (by with_reducible assumption) ?_) <;> (first | omega | (simp; done) | (simp; omega) | (simp at *; omega)))
  have sd := dec_store B1 rfl d a.k a.c a.q a.y a.x a.r a.A a.m a.cap a.sq a.tg
  have B0c := B0.cell
  clear B0
  unfold decF
  go_enter Tryd.func58, Tryd.ntmps58
  go_wp2_with fail
  refine bodyPost_ret (v := .agg #[.int .i64 d, .int .i64 a.k, .int .i64 a.c, .int .i64 a.q, .string a.y, .string a.x, .int .i64 a.r, .slice a.A a.m a.cap, .int .i64 a.sq, .int .i64 a.tg]) (results_dec rfl rfl (B1.decSet (cs' := #[.int .i64 d, .int .i64 a.k, .int .i64 a.c, .int .i64 a.q, .string a.y, .string a.x, .int .i64 a.r, .slice a.A a.m a.cap, .int .i64 a.sq, .int .i64 a.tg]) rfl)) rfl ?_
  exact ⟨rfl, below_decSet k1 (by omega) _⟩
/-- The first of a state. -/
def fnd (st : Int) (ss : List SeenT) : Option SeenT := ss.find? fun s => s.r.st == st
def askR (w : World) (d : Int) (o : Option SeenT) (e : Ending) (w' : World) : Prop := e = .returned (.tuple #[match o with | some s => decF d s.r | none => decZ, .bool o.isSome]) ∧ Below w.heap.size w w'
theorem fnd_take {st : Int} {ss : List SeenT} {j : Nat} {s : SeenT} (h : ss[j]? = some s) (h0 : fnd st (ss.take j) = none) : fnd st (ss.take (j + 1)) = if s.r.st = st then some s else none := by
  unfold fnd at *
  rw [List.take_add_one, h, List.find?_append, h0]
  simp
theorem fnd_some {st : Int} {ss : List SeenT} {j : Nat} {s : SeenT} (h : ss[j]? = some s) (h0 : fnd st (ss.take j) = none) (hs : s.r.st = st) : fnd st ss = some s := by
  have h1 := fnd_take h h0
  rw [if_pos hs] at h1
  have : ss = ss.take (j + 1) ++ ss.drop (j + 1) := (List.take_append_drop _ _).symm
  unfold fnd at *
  rw [this, List.find?_append, h1]
  rfl
set_option maxHeartbeats 4000000 in
theorem committed_any (A : Option Addr) (m c : Nat) (ss : List SeenT) (w : World) (h : SeensAt w A m ss) : Calls Tryd.prog 34 #[.slice A m c] w (askR w 1 (fnd 3 ss)) := by
  obtain ⟨R, hR⟩ : ∃ R, R = fnd 3 ss := ⟨_, rfl⟩
  rw [← hR]
  have HR := Lib.hid hR
  have H := Lib.hid h
  have Hm := Lib.hid h.1
  have hc := h.2.1
  have hmm : m ≤ 9223372036854775807 := by unfold maxLen at hc; omega
  clear hR h
  go_enter Tryd.func34, Tryd.ntmps34
  go_wp2_with fail
  go_loopw [8] (fun s8 wr => ∃ j : Nat, j ≤ m ∧ s8 = .int .i64 j ∧ Hid (fnd 3 (ss.take j) = none) ∧ Below w.heap.size w wr ∧ Blk wr w.heap.size 42 #[.int .i64 0, .int .i64 0, .int .i64 0, .int .i64 0, .string ⟨#[]⟩, .string ⟨#[]⟩, .int .i64 0, .slice none 0 0, .int .i64 0, .int .i64 0]) (fun s8 _ => m - (intOf s8).toNat)
  case atStart => exact ⟨0, by omega, rfl, Lib.hid rfl, by ((repeat' first | with_reducible exact Below.refl _ _ | with_reducible assumption | with_reducible refine Below.alloc ?_ ?_ _ | with_reducible refine Below.setCell ?_ ?_ _ | with_reducible apply Below.drew | with_reducible apply below_drewN | with_reducible refine below_call ?_ (by with_reducible assumption) ?_) <;> (first | omega | (simp; done) | (simp; omega) | (simp at *; omega))), Blk.new _ _ _⟩
  case round =>
    obtain ⟨j, hj, rfl, hf, hbr, hB⟩ := hrel
    have hzr := hbr.size
    have hzl := hB.lt
    by_cases hlt : j < m
    · obtain ⟨s, b, o, e1, _, rfl, ld⟩ := (H.out.keep hbr).at_ hlt
      have E1 := Lib.hid e1
      have j0 : (0 : Int) ≤ (j : Int) := by omega
      have j1 : (j : Int) < (m : Int) := by omega
      have hp := below_one (w := wr) (.cells #[.int .i64 s.f, .int .i64 s.r.i, .int .i64 s.r.n, .int .i64 s.r.st, .int .i64 s.r.br, .int .i64 s.r.bb, .int .i64 s.r.tr, .int .i64 s.r.tb, .int .i64 s.r.k, .int .i64 s.r.c, .int .i64 s.r.q, .string s.r.y, .string s.r.x, .int .i64 s.r.r, .slice s.r.A s.r.m s.r.cap, .int .i64 s.r.sq, .int .i64 s.r.tg] 40)
      have S1 : Blk (wr.alloc (.cells #[.int .i64 s.f, .int .i64 s.r.i, .int .i64 s.r.n, .int .i64 s.r.st, .int .i64 s.r.br, .int .i64 s.r.bb, .int .i64 s.r.tr, .int .i64 s.r.tb, .int .i64 s.r.k, .int .i64 s.r.c, .int .i64 s.r.q, .string s.r.y, .string s.r.x, .int .i64 s.r.r, .slice s.r.A s.r.m s.r.cap, .int .i64 s.r.sq, .int .i64 s.r.tg] 40)) wr.heap.size 40 #[.int .i64 s.f, .int .i64 s.r.i, .int .i64 s.r.n, .int .i64 s.r.st, .int .i64 s.r.br, .int .i64 s.r.bb, .int .i64 s.r.tr, .int .i64 s.r.tb, .int .i64 s.r.k, .int .i64 s.r.c, .int .i64 s.r.q, .string s.r.y, .string s.r.x, .int .i64 s.r.r, .slice s.r.A s.r.m s.r.cap, .int .i64 s.r.sq, .int .i64 s.r.tg] := Blk.new _ _ _
      have S1c := S1.cell
      have S1r := seen_rec S1
      have hB1 := hB.alloc (.cells #[.int .i64 s.f, .int .i64 s.r.i, .int .i64 s.r.n, .int .i64 s.r.st, .int .i64 s.r.br, .int .i64 s.r.bb, .int .i64 s.r.tr, .int .i64 s.r.tb, .int .i64 s.r.k, .int .i64 s.r.c, .int .i64 s.r.q, .string s.r.y, .string s.r.x, .int .i64 s.r.r, .slice s.r.A s.r.m s.r.cap, .int .i64 s.r.sq, .int .i64 s.r.tg] 40)
      clear e1 S1
      obtain ⟨st, hst⟩ : ∃ st, st = s.r.st := ⟨_, rfl⟩
      by_cases g : s.r.st = 3
      · obtain rfl : R = some s := by rw [HR.out]; exact fnd_some E1.out hf.out g
        have g' : (s.r.st == (3 : Int)) = true := by simp [g]
        clear g hst HR hf
        have hof := fun W => of_any 1 s.r W
        unfold decF at hof
        go_wp2_with (go_at_call 58; (with_reducible refine (hof _).mono ?_); rintro e w1 ⟨rfl, hb1⟩; have hB2 := hB1.keep hb1; have sd := dec_store hB2 rfl 1 s.r.k s.r.c s.r.q s.r.y s.r.x s.r.r s.r.A s.r.m s.r.cap s.r.sq s.r.tg; have k1 : Below w.heap.size w w1 := (by ((repeat' first | with_reducible exact Below.refl _ _ | with_reducible assumption | with_reducible refine Below.alloc ?_ ?_ _ | with_reducible refine Below.setCell ?_ ?_ _ | with_reducible apply Below.drew | with_reducible apply below_drewN | with_reducible refine below_call ?_ (by with_reducible assumption) ?_) <;> (first | omega | (simp; done) | (simp; omega) | (simp at *; omega)))); clear hof hb1)
        refine bodyPost_ret (v := .tuple #[.agg #[.int .i64 1, .int .i64 s.r.k, .int .i64 s.r.c, .int .i64 s.r.q, .string s.r.y, .string s.r.x, .int .i64 s.r.r, .slice s.r.A s.r.m s.r.cap, .int .i64 s.r.sq, .int .i64 s.r.tg], .bool true]) (results_dec2 rfl rfl rfl (hB2.decSet (cs' := #[.int .i64 1, .int .i64 s.r.k, .int .i64 s.r.c, .int .i64 s.r.q, .string s.r.y, .string s.r.x, .int .i64 s.r.r, .slice s.r.A s.r.m s.r.cap, .int .i64 s.r.sq, .int .i64 s.r.tg]) rfl)) rfl ?_
        exact ⟨rfl, below_decSet k1 (Nat.le_refl _) _⟩
      · have g' : (s.r.st == (3 : Int)) = false := by simp [g]
        have F2 : Hid (fnd 3 (ss.take (j + 1)) = none) := Lib.hid (by rw [fnd_take E1.out hf.out, if_neg g])
        clear g hst
        go_wp2_with fail
        go_roundw
        case rel => exact ⟨j + 1, by omega, by go_num, F2, hbr.trans (hp.mono hbr.size), hB1⟩
        case measure => simp [intOf]; omega
    · obtain rfl : j = m := by omega
      obtain rfl : R = none := by rw [HR.out]; have := hf.out; rwa [List.take_of_length_le (by have := Hm.out; omega)] at this
      have sd := dec_store hB rfl 0 0 0 0 ByteArray.empty ByteArray.empty 0 none 0 0 0 0
      have sd2 := dec_store hB rfl 0 0 0 0 ⟨#[]⟩ ⟨#[]⟩ 0 none 0 0 0 0
      clear HR hf
      go_wp2_with fail
      refine bodyPost_ret (v := .tuple #[.agg #[.int .i64 0, .int .i64 0, .int .i64 0, .int .i64 0, .string ByteArray.empty, .string ByteArray.empty, .int .i64 0, .slice none 0 0, .int .i64 0, .int .i64 0], .bool false]) (results_dec2 rfl rfl rfl (hB.decSet (cs' := #[.int .i64 0, .int .i64 0, .int .i64 0, .int .i64 0, .string ByteArray.empty, .string ByteArray.empty, .int .i64 0, .slice none 0 0, .int .i64 0, .int .i64 0]) rfl)) rfl ?_
      exact ⟨rfl, below_decSet hbr (Nat.le_refl _) _⟩

set_option maxHeartbeats 4000000 in
theorem offered_any (A : Option Addr) (m c : Nat) (ss : List SeenT) (w : World) (h : SeensAt w A m ss) : Calls Tryd.prog 36 #[.slice A m c] w (askR w 3 (fnd 1 ss)) := by
  obtain ⟨R, hR⟩ : ∃ R, R = fnd 1 ss := ⟨_, rfl⟩
  rw [← hR]
  have HR := Lib.hid hR
  have H := Lib.hid h
  have Hm := Lib.hid h.1
  have hc := h.2.1
  have hmm : m ≤ 9223372036854775807 := by unfold maxLen at hc; omega
  clear hR h
  go_enter Tryd.func36, Tryd.ntmps36
  go_wp2_with fail
  go_loopw [8] (fun s8 wr => ∃ j : Nat, j ≤ m ∧ s8 = .int .i64 j ∧ Hid (fnd 1 (ss.take j) = none) ∧ Below w.heap.size w wr ∧ Blk wr w.heap.size 42 #[.int .i64 0, .int .i64 0, .int .i64 0, .int .i64 0, .string ⟨#[]⟩, .string ⟨#[]⟩, .int .i64 0, .slice none 0 0, .int .i64 0, .int .i64 0]) (fun s8 _ => m - (intOf s8).toNat)
  case atStart => exact ⟨0, by omega, rfl, Lib.hid rfl, by ((repeat' first | with_reducible exact Below.refl _ _ | with_reducible assumption | with_reducible refine Below.alloc ?_ ?_ _ | with_reducible refine Below.setCell ?_ ?_ _ | with_reducible apply Below.drew | with_reducible apply below_drewN | with_reducible refine below_call ?_ (by with_reducible assumption) ?_) <;> (first | omega | (simp; done) | (simp; omega) | (simp at *; omega))), Blk.new _ _ _⟩
  case round =>
    obtain ⟨j, hj, rfl, hf, hbr, hB⟩ := hrel
    have hzr := hbr.size
    have hzl := hB.lt
    by_cases hlt : j < m
    · obtain ⟨s, b, o, e1, _, rfl, ld⟩ := (H.out.keep hbr).at_ hlt
      have E1 := Lib.hid e1
      have j0 : (0 : Int) ≤ (j : Int) := by omega
      have j1 : (j : Int) < (m : Int) := by omega
      have hp := below_one (w := wr) (.cells #[.int .i64 s.f, .int .i64 s.r.i, .int .i64 s.r.n, .int .i64 s.r.st, .int .i64 s.r.br, .int .i64 s.r.bb, .int .i64 s.r.tr, .int .i64 s.r.tb, .int .i64 s.r.k, .int .i64 s.r.c, .int .i64 s.r.q, .string s.r.y, .string s.r.x, .int .i64 s.r.r, .slice s.r.A s.r.m s.r.cap, .int .i64 s.r.sq, .int .i64 s.r.tg] 40)
      have S1 : Blk (wr.alloc (.cells #[.int .i64 s.f, .int .i64 s.r.i, .int .i64 s.r.n, .int .i64 s.r.st, .int .i64 s.r.br, .int .i64 s.r.bb, .int .i64 s.r.tr, .int .i64 s.r.tb, .int .i64 s.r.k, .int .i64 s.r.c, .int .i64 s.r.q, .string s.r.y, .string s.r.x, .int .i64 s.r.r, .slice s.r.A s.r.m s.r.cap, .int .i64 s.r.sq, .int .i64 s.r.tg] 40)) wr.heap.size 40 #[.int .i64 s.f, .int .i64 s.r.i, .int .i64 s.r.n, .int .i64 s.r.st, .int .i64 s.r.br, .int .i64 s.r.bb, .int .i64 s.r.tr, .int .i64 s.r.tb, .int .i64 s.r.k, .int .i64 s.r.c, .int .i64 s.r.q, .string s.r.y, .string s.r.x, .int .i64 s.r.r, .slice s.r.A s.r.m s.r.cap, .int .i64 s.r.sq, .int .i64 s.r.tg] := Blk.new _ _ _
      have S1c := S1.cell
      have S1r := seen_rec S1
      have hB1 := hB.alloc (.cells #[.int .i64 s.f, .int .i64 s.r.i, .int .i64 s.r.n, .int .i64 s.r.st, .int .i64 s.r.br, .int .i64 s.r.bb, .int .i64 s.r.tr, .int .i64 s.r.tb, .int .i64 s.r.k, .int .i64 s.r.c, .int .i64 s.r.q, .string s.r.y, .string s.r.x, .int .i64 s.r.r, .slice s.r.A s.r.m s.r.cap, .int .i64 s.r.sq, .int .i64 s.r.tg] 40)
      clear e1 S1
      obtain ⟨st, hst⟩ : ∃ st, st = s.r.st := ⟨_, rfl⟩
      by_cases g : s.r.st = 1
      · obtain rfl : R = some s := by rw [HR.out]; exact fnd_some E1.out hf.out g
        have g' : (s.r.st == (1 : Int)) = true := by simp [g]
        clear g hst HR hf
        have hof := fun W => of_any 3 s.r W
        unfold decF at hof
        go_wp2_with (go_at_call 58; (with_reducible refine (hof _).mono ?_); rintro e w1 ⟨rfl, hb1⟩; have hB2 := hB1.keep hb1; have sd := dec_store hB2 rfl 3 s.r.k s.r.c s.r.q s.r.y s.r.x s.r.r s.r.A s.r.m s.r.cap s.r.sq s.r.tg; have k1 : Below w.heap.size w w1 := (by ((repeat' first | with_reducible exact Below.refl _ _ | with_reducible assumption | with_reducible refine Below.alloc ?_ ?_ _ | with_reducible refine Below.setCell ?_ ?_ _ | with_reducible apply Below.drew | with_reducible apply below_drewN | with_reducible refine below_call ?_ (by with_reducible assumption) ?_) <;> (first | omega | (simp; done) | (simp; omega) | (simp at *; omega)))); clear hof hb1)
        refine bodyPost_ret (v := .tuple #[.agg #[.int .i64 3, .int .i64 s.r.k, .int .i64 s.r.c, .int .i64 s.r.q, .string s.r.y, .string s.r.x, .int .i64 s.r.r, .slice s.r.A s.r.m s.r.cap, .int .i64 s.r.sq, .int .i64 s.r.tg], .bool true]) (results_dec2 rfl rfl rfl (hB2.decSet (cs' := #[.int .i64 3, .int .i64 s.r.k, .int .i64 s.r.c, .int .i64 s.r.q, .string s.r.y, .string s.r.x, .int .i64 s.r.r, .slice s.r.A s.r.m s.r.cap, .int .i64 s.r.sq, .int .i64 s.r.tg]) rfl)) rfl ?_
        exact ⟨rfl, below_decSet k1 (Nat.le_refl _) _⟩
      · have g' : (s.r.st == (1 : Int)) = false := by simp [g]
        have F2 : Hid (fnd 1 (ss.take (j + 1)) = none) := Lib.hid (by rw [fnd_take E1.out hf.out, if_neg g])
        clear g hst
        go_wp2_with fail
        go_roundw
        case rel => exact ⟨j + 1, by omega, by go_num, F2, hbr.trans (hp.mono hbr.size), hB1⟩
        case measure => simp [intOf]; omega
    · obtain rfl : j = m := by omega
      obtain rfl : R = none := by rw [HR.out]; have := hf.out; rwa [List.take_of_length_le (by have := Hm.out; omega)] at this
      have sd := dec_store hB rfl 0 0 0 0 ByteArray.empty ByteArray.empty 0 none 0 0 0 0
      have sd2 := dec_store hB rfl 0 0 0 0 ⟨#[]⟩ ⟨#[]⟩ 0 none 0 0 0 0
      clear HR hf
      go_wp2_with fail
      refine bodyPost_ret (v := .tuple #[.agg #[.int .i64 0, .int .i64 0, .int .i64 0, .int .i64 0, .string ByteArray.empty, .string ByteArray.empty, .int .i64 0, .slice none 0 0, .int .i64 0, .int .i64 0], .bool false]) (results_dec2 rfl rfl rfl (hB.decSet (cs' := #[.int .i64 0, .int .i64 0, .int .i64 0, .int .i64 0, .string ByteArray.empty, .string ByteArray.empty, .int .i64 0, .slice none 0 0, .int .i64 0, .int .i64 0]) rfl)) rfl ?_
      exact ⟨rfl, below_decSet hbr (Nat.le_refl _) _⟩

end Go.Proofs.YtmgiholmhhjpaaaDoor

namespace Go.Proofs.YtmgiholmhhjpaaaDoor
open Go.RowKit
set_option linter.unusedVariables false
set_option linter.unusedSimpArgs false
set_option maxRecDepth 20000
attribute [local go_sem ↓] Go.wp_at_zero Go.wp_at_succ
attribute [local go_sem] World.cell?_alloc_some frozen_alloc_some
attribute [local go_sem ↓ high] loadVar_rec storeVar_rec loadVar_seen storeVar_seen loadVar_dec storeVar_dec
attribute [local go_sem] rec_store_new seen_store_new dec_store_new

def zeroRec : RecT := ⟨0, 0, 0, 0, 0, 0, 0, 0, 0, 0, ⟨#[]⟩, ⟨#[]⟩, 0, none, 0, 0, 0, 0, []⟩
def recO : Option SeenT → RecT
  | some s => s.r
  | none => zeroRec
def accStep (o : Option SeenT) (s : SeenT) : Option SeenT := if s.r.st = 2 ∧ (o.isSome = false ∨ lessB (recO o).tr (recO o).tb s.r.tr s.r.tb = true) then some s else o
def acc (ss : List SeenT) : Option SeenT := ss.foldl accStep none
theorem acc_take {ss : List SeenT} {j : Nat} {s : SeenT} (h : ss[j]? = some s) : acc (ss.take (j + 1)) = accStep (acc (ss.take j)) s := by
  unfold acc
  rw [List.take_add_one, h, List.foldl_append]
  rfl
set_option maxHeartbeats 8000000 in
theorem accepted_any (A : Option Addr) (m c : Nat) (ss : List SeenT) (w : World) (h : SeensAt w A m ss) : Calls Tryd.prog 35 #[.slice A m c] w (fun e w' => e = .returned (.tuple #[decF 2 (recO (acc ss)), .bool (acc ss).isSome]) ∧ Below w.heap.size w w') := by
  obtain ⟨R, hR⟩ : ∃ R, R = acc ss := ⟨_, rfl⟩
  rw [← hR]
  have HR := Lib.hid hR
  have H := Lib.hid h
  have Hm := Lib.hid h.1
  have hc := h.2.1
  have hmm : m ≤ 9223372036854775807 := by unfold maxLen at hc; omega
  clear hR h
  have rs2 : (storeRec ⟨w.heap.size + 1, 0, none⟩ (.agg #[.int .i64 0, .int .i64 0, .int .i64 0, .int .i64 0, .int .i64 0, .int .i64 0, .int .i64 0, .int .i64 0, .int .i64 0, .int .i64 0, .string ⟨#[]⟩, .string ⟨#[]⟩, .int .i64 0, .slice none 0 0, .int .i64 0, .int .i64 0])).run Tryd.prog ((w.alloc (.cells #[.int .i64 0, .int .i64 0, .int .i64 0, .int .i64 0, .string ⟨#[]⟩, .string ⟨#[]⟩, .int .i64 0, .slice none 0 0, .int .i64 0, .int .i64 0] 42)).alloc (.cells #[.int .i64 0, .int .i64 0, .int .i64 0, .int .i64 0, .int .i64 0, .int .i64 0, .int .i64 0, .int .i64 0, .int .i64 0, .int .i64 0, .string ⟨#[]⟩, .string ⟨#[]⟩, .int .i64 0, .slice none 0 0, .int .i64 0, .int .i64 0] 33)) = .ok () ((w.alloc (.cells #[.int .i64 0, .int .i64 0, .int .i64 0, .int .i64 0, .string ⟨#[]⟩, .string ⟨#[]⟩, .int .i64 0, .slice none 0 0, .int .i64 0, .int .i64 0] 42)).alloc (.cells #[.int .i64 0, .int .i64 0, .int .i64 0, .int .i64 0, .int .i64 0, .int .i64 0, .int .i64 0, .int .i64 0, .int .i64 0, .int .i64 0, .string ⟨#[]⟩, .string ⟨#[]⟩, .int .i64 0, .slice none 0 0, .int .i64 0, .int .i64 0] 33)) := by
    have := rec_store_new (w.alloc (.cells #[.int .i64 0, .int .i64 0, .int .i64 0, .int .i64 0, .string ⟨#[]⟩, .string ⟨#[]⟩, .int .i64 0, .slice none 0 0, .int .i64 0, .int .i64 0] 42)) (.int .i64 0) (.int .i64 0) (.int .i64 0) (.int .i64 0) (.int .i64 0) (.int .i64 0) (.int .i64 0) (.int .i64 0) (.int .i64 0) (.int .i64 0) (.string ⟨#[]⟩) (.string ⟨#[]⟩) (.int .i64 0) (.slice none 0 0) (.int .i64 0) (.int .i64 0) 0 0 0 0 0 0 0 0 0 0 ⟨#[]⟩ ⟨#[]⟩ 0 none 0 0 0 0
    rw [World.size_alloc] at this
    exact this
  go_enter Tryd.func35, Tryd.ntmps35
  go_wp2_with fail
  go_loopw [5, 11] (fun s5 s11 wr => ∃ (j : Nat) (z : Bool) (b : RecT), j ≤ m ∧ s5 = .bool z ∧ s11 = .int .i64 j ∧ Hid ((acc (ss.take j)).isSome = z ∧ recO (acc (ss.take j)) = b) ∧ Below w.heap.size w wr ∧ Blk wr w.heap.size 42 #[.int .i64 0, .int .i64 0, .int .i64 0, .int .i64 0, .string ⟨#[]⟩, .string ⟨#[]⟩, .int .i64 0, .slice none 0 0, .int .i64 0, .int .i64 0] ∧ Blk wr (w.heap.size + 1) 33 #[.int .i64 b.i, .int .i64 b.n, .int .i64 b.st, .int .i64 b.br, .int .i64 b.bb, .int .i64 b.tr, .int .i64 b.tb, .int .i64 b.k, .int .i64 b.c, .int .i64 b.q, .string b.y, .string b.x, .int .i64 b.r, .slice b.A b.m b.cap, .int .i64 b.sq, .int .i64 b.tg]) (fun _ s11 _ => m - (intOf s11).toNat)
  case atStart => exact ⟨0, false, zeroRec, by omega, rfl, rfl, Lib.hid ⟨rfl, rfl⟩, by ((repeat' first | with_reducible exact Below.refl _ _ | with_reducible assumption | with_reducible refine Below.alloc ?_ ?_ _ | with_reducible refine Below.setCell ?_ ?_ _ | with_reducible apply Below.drew | with_reducible apply below_drewN | with_reducible refine below_call ?_ (by with_reducible assumption) ?_) <;> (first | omega | (simp; done) | (simp; omega) | (simp at *; omega))), (Blk.new _ _ _).alloc _, Blk.newAt (by simp)⟩
  case round =>
    obtain ⟨j, z, b, hj, rfl, rfl, hf, hbr, hB, hG⟩ := hrel
    have hzr := hbr.size
    have hzl := hG.lt
    by_cases hlt : j < m
    · obtain ⟨s, bb, o, e1, _, rfl, ld⟩ := (H.out.keep hbr).at_ hlt
      have E1 := Lib.hid (acc_take e1)
      have j0 : (0 : Int) ≤ (j : Int) := by omega
      have j1 : (j : Int) < (m : Int) := by omega
      have hp := below_one (w := wr) (.cells #[.int .i64 s.f, .int .i64 s.r.i, .int .i64 s.r.n, .int .i64 s.r.st, .int .i64 s.r.br, .int .i64 s.r.bb, .int .i64 s.r.tr, .int .i64 s.r.tb, .int .i64 s.r.k, .int .i64 s.r.c, .int .i64 s.r.q, .string s.r.y, .string s.r.x, .int .i64 s.r.r, .slice s.r.A s.r.m s.r.cap, .int .i64 s.r.sq, .int .i64 s.r.tg] 40)
      have S1 : Blk (wr.alloc (.cells #[.int .i64 s.f, .int .i64 s.r.i, .int .i64 s.r.n, .int .i64 s.r.st, .int .i64 s.r.br, .int .i64 s.r.bb, .int .i64 s.r.tr, .int .i64 s.r.tb, .int .i64 s.r.k, .int .i64 s.r.c, .int .i64 s.r.q, .string s.r.y, .string s.r.x, .int .i64 s.r.r, .slice s.r.A s.r.m s.r.cap, .int .i64 s.r.sq, .int .i64 s.r.tg] 40)) wr.heap.size 40 #[.int .i64 s.f, .int .i64 s.r.i, .int .i64 s.r.n, .int .i64 s.r.st, .int .i64 s.r.br, .int .i64 s.r.bb, .int .i64 s.r.tr, .int .i64 s.r.tb, .int .i64 s.r.k, .int .i64 s.r.c, .int .i64 s.r.q, .string s.r.y, .string s.r.x, .int .i64 s.r.r, .slice s.r.A s.r.m s.r.cap, .int .i64 s.r.sq, .int .i64 s.r.tg] := Blk.new _ _ _
      have S1c := S1.cell
      have S1r := seen_rec S1
      have hB1 := hB.alloc (.cells #[.int .i64 s.f, .int .i64 s.r.i, .int .i64 s.r.n, .int .i64 s.r.st, .int .i64 s.r.br, .int .i64 s.r.bb, .int .i64 s.r.tr, .int .i64 s.r.tb, .int .i64 s.r.k, .int .i64 s.r.c, .int .i64 s.r.q, .string s.r.y, .string s.r.x, .int .i64 s.r.r, .slice s.r.A s.r.m s.r.cap, .int .i64 s.r.sq, .int .i64 s.r.tg] 40)
      have hG1 := hG.alloc (.cells #[.int .i64 s.f, .int .i64 s.r.i, .int .i64 s.r.n, .int .i64 s.r.st, .int .i64 s.r.br, .int .i64 s.r.bb, .int .i64 s.r.tr, .int .i64 s.r.tb, .int .i64 s.r.k, .int .i64 s.r.c, .int .i64 s.r.q, .string s.r.y, .string s.r.x, .int .i64 s.r.r, .slice s.r.A s.r.m s.r.cap, .int .i64 s.r.sq, .int .i64 s.r.tg] 40)
      have k1 : Below w.heap.size w (wr.alloc (.cells #[.int .i64 s.f, .int .i64 s.r.i, .int .i64 s.r.n, .int .i64 s.r.st, .int .i64 s.r.br, .int .i64 s.r.bb, .int .i64 s.r.tr, .int .i64 s.r.tb, .int .i64 s.r.k, .int .i64 s.r.c, .int .i64 s.r.q, .string s.r.y, .string s.r.x, .int .i64 s.r.r, .slice s.r.A s.r.m s.r.cap, .int .i64 s.r.sq, .int .i64 s.r.tg] 40)) := hbr.trans (hp.mono hbr.size)
      have hG1c := hG1.cell
      clear e1
      by_cases g : s.r.st = 2
      case neg =>
        have g' : (s.r.st == (2 : Int)) = false := by simp [g]
        have F2 : Hid ((acc (ss.take (j + 1))).isSome = z ∧ recO (acc (ss.take (j + 1))) = b) := Lib.hid (by rw [E1.out, accStep, if_neg (fun h => g h.1)]; exact hf.out)
        clear g S1
        go_wp2_with fail
        go_roundw
        case rel => exact ⟨j + 1, z, b, by omega, rfl, by go_num, F2, k1, hB1, hG1⟩
        case measure => simp [intOf]; omega
      have g' : (s.r.st == (2 : Int)) = true := by simp [g]
      cases z
      · have F2 : Hid ((acc (ss.take (j + 1))).isSome = true ∧ recO (acc (ss.take (j + 1))) = s.r) := Lib.hid (by rw [E1.out, accStep, if_pos ⟨g, .inl hf.out.1⟩]; exact ⟨rfl, rfl⟩)
        have sr := rec_store hG1 rfl s.r.i s.r.n s.r.st s.r.br s.r.bb s.r.tr s.r.tb s.r.k s.r.c s.r.q s.r.y s.r.x s.r.r s.r.A s.r.m s.r.cap s.r.sq s.r.tg
        clear g S1
        go_wp2_with fail
        go_roundw
        case rel => exact ⟨j + 1, true, s.r, by omega, rfl, by go_num, F2, below_recSet k1 (by omega) _, hB1.recSet_far (by omega), hG1.recSet rfl⟩
        case measure => simp [intOf]; omega
      · have hls := fun W => less_any b.tr b.tb s.r.tr s.r.tb W
        obtain ⟨lb, hlb⟩ : ∃ lb, lb = lessB b.tr b.tb s.r.tr s.r.tb := ⟨_, rfl⟩
        rw [← hlb] at hls
        have Hlb := Lib.hid hlb
        clear hlb
        cases lb
        · have F2 : Hid ((acc (ss.take (j + 1))).isSome = true ∧ recO (acc (ss.take (j + 1))) = b) := Lib.hid (by
            rw [E1.out, accStep, if_neg (fun h => by
              rcases h.2 with h | h
              · rw [hf.out.1] at h; cases h
              · rw [hf.out.2, ← Hlb.out] at h; cases h)]
            exact hf.out)
          clear g
          go_wp2_with (go_at_call 26; (with_reducible refine (hls _).mono ?_); rintro e w1 ⟨rfl, hb1⟩; have hz1 := hb1.size; (try simp only [World.size_alloc] at hz1); have S2 := S1.keep hb1; have S2r := seen_rec S2; have hB2 := hB1.keep hb1; have hG2 := hG1.keep hb1; have k2 := below_call k1 hb1 k1.size; have sr := rec_store hG2 rfl s.r.i s.r.n s.r.st s.r.br s.r.bb s.r.tr s.r.tb s.r.k s.r.c s.r.q s.r.y s.r.x s.r.r s.r.A s.r.m s.r.cap s.r.sq s.r.tg; clear hls)
          go_roundw
          case rel => exact ⟨j + 1, true, b, by omega, rfl, by go_num, F2, k2, hB2, hG2⟩
          case measure => simp [intOf]; omega
        · have F2 : Hid ((acc (ss.take (j + 1))).isSome = true ∧ recO (acc (ss.take (j + 1))) = s.r) := Lib.hid (by
            rw [E1.out, accStep, if_pos ⟨g, .inr (by rw [hf.out.2, ← Hlb.out])⟩]; exact ⟨rfl, rfl⟩)
          clear g
          go_wp2_with (go_at_call 26; (with_reducible refine (hls _).mono ?_); rintro e w1 ⟨rfl, hb1⟩; have hz1 := hb1.size; (try simp only [World.size_alloc] at hz1); have S2 := S1.keep hb1; have S2r := seen_rec S2; have hB2 := hB1.keep hb1; have hG2 := hG1.keep hb1; have k2 := below_call k1 hb1 k1.size; have sr := rec_store hG2 rfl s.r.i s.r.n s.r.st s.r.br s.r.bb s.r.tr s.r.tb s.r.k s.r.c s.r.q s.r.y s.r.x s.r.r s.r.A s.r.m s.r.cap s.r.sq s.r.tg; clear hls)
          go_roundw
          case rel => exact ⟨j + 1, true, s.r, by omega, rfl, by go_num, F2, below_recSet k2 (by omega) _, hB2.recSet_far (by omega), hG2.recSet rfl⟩
          case measure => simp [intOf]; omega
    · obtain rfl : j = m := by omega
      have hfin : R.isSome = z ∧ recO R = b := by have := hf.out; rw [List.take_of_length_le (by have := Hm.out; omega), ← HR.out] at this; exact this
      have HF := Lib.hid hfin
      clear hfin
      have lr := rec_load hG
      have hof := fun W => of_any 2 b W
      unfold decF at hof
      clear HR hf
      go_wp2_with (go_at_call 58; (with_reducible refine (hof _).mono ?_); rintro e w1 ⟨rfl, hb1⟩; have hB2 := hB.keep hb1; have sd := dec_store hB2 rfl 2 b.k b.c b.q b.y b.x b.r b.A b.m b.cap b.sq b.tg; have k1 : Below w.heap.size w w1 := (by ((repeat' first | with_reducible exact Below.refl _ _ | with_reducible assumption | with_reducible refine Below.alloc ?_ ?_ _ | with_reducible refine Below.setCell ?_ ?_ _ | with_reducible apply Below.drew | with_reducible apply below_drewN | with_reducible refine below_call ?_ (by with_reducible assumption) ?_) <;> (first | omega | (simp; done) | (simp; omega) | (simp at *; omega)))); clear hof hb1)
      refine bodyPost_ret (v := .tuple #[.agg #[.int .i64 2, .int .i64 b.k, .int .i64 b.c, .int .i64 b.q, .string b.y, .string b.x, .int .i64 b.r, .slice b.A b.m b.cap, .int .i64 b.sq, .int .i64 b.tg], .bool z]) (results_dec2 rfl rfl rfl (hB2.decSet (cs' := #[.int .i64 2, .int .i64 b.k, .int .i64 b.c, .int .i64 b.q, .string b.y, .string b.x, .int .i64 b.r, .slice b.A b.m b.cap, .int .i64 b.sq, .int .i64 b.tg]) rfl)) rfl ?_
      exact ⟨by rw [HF.out.1, HF.out.2]; rfl, below_decSet k1 (Nat.le_refl _) _⟩
end Go.Proofs.YtmgiholmhhjpaaaDoor
