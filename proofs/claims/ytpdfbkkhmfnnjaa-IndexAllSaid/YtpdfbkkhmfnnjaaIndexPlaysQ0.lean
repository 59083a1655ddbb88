/- Entries in memory: slices of them, rows of one's own. What is done with an index, as it came in. The law's great: no more than sixty acts. The document's entries: Drop. The document's ids: Right, Less, Has, Equal, Check. The document's sets of ids: add, Set, Join. The document's Set and Join of ids. -/
import Derived.Test.YtpdfbkkhmfnnjaaIndexMeetsQ3
import Derived.Test.YtpdfbkkhmfnnjaaIndexMeetsQ0
import Derived.Test.YtpdfbkkhmfnnjaaIndexMeetsQ6
import Derived.Test.YtpdfbkkhmfnnjaaIndexMeetsQ4
import Derived.WalkKit
import Derived.WalkSpells
import Derived.WalkLawsBesides
import Derived.Deep.RegionHeld3
import Derived.Deep.DrawnRows
import Derived.Deep.DeepCutAuto
import Derived.Deep.DeepFit
import Derived.Lib.Hide
import Derived.BigQuiet
import Derived.Deep.QuietTactic
import Derived.Deep.Matrix
import Derived.ProofKit
import Derived.OpenShut
import Derived.ShutString
import Derived.Lib.SmallJoins
namespace Go.Proofs.Ytpdfbkkhmfnnjaa
open Go.RowKit
set_option linter.unusedVariables false
set_option linter.unusedSimpArgs false
set_option maxRecDepth 20000
attribute [local go_sem ↓] Go.wp_at_zero Go.wp_at_succ
attribute [local go_sem] World.cell?_alloc_some frozen_alloc_some

def eL (e : EntT) : List Value := [.int .i64 e.i.1, .int .i64 e.i.2, .int .i64 e.c.kind, .int .i64 e.c.client, .int .i64 e.c.seq, .string e.c.key, .string e.c.val, .int .i64 e.c.rev, .int .i64 e.s]
def flatE (x : List EntT) : List Value := x.flatMap eL
theorem flatE_length (x : List EntT) : (flatE x).length = x.length * 9 := by
  induction x with
  | nil => rfl
  | cons s r ih => simp only [flatE, List.flatMap_cons, List.length_append, List.length_cons] at ih ⊢; rw [ih]; simp [eL]; omega
theorem flatE_get : ∀ (x : List EntT) (i : Nat) (t : EntT), x[i]? = some t → ∀ (j : Nat) (v : Value), (eL t)[j]? = some v → (flatE x)[i * 9 + j]? = some v
  | [], i, s, h, _, _, _ => by simp at h
  | a :: r, 0, s, h, j, v, hv => by
    simp at h; subst h
    have hj : j < 9 := by
      rcases Nat.lt_or_ge j 9 with h' | h'
      · exact h'
      · rw [List.getElem?_eq_none (by exact h')] at hv; cases hv
    rw [Nat.zero_mul, Nat.zero_add, flatE, List.flatMap_cons, List.getElem?_append_left (by exact hj)]
    exact hv
  | a :: r, i + 1, s, h, j, v, hv => by
    rw [List.getElem?_cons_succ] at h
    have := flatE_get r i s h j v hv
    have hl : (eL a).length = 9 := rfl
    rw [flatE, List.flatMap_cons, List.getElem?_append_right (by rw [hl]; omega), hl, show (i + 1) * 9 + j - 9 = i * 9 + j by omega]
    exact this
theorem flatE_snoc (x : List EntT) (t : EntT) : flatE (x ++ [t]) = flatE x ++ eL t := by simp [flatE]
theorem src_ent {w : World} {e : TypeId} (t : EntT) : Src (w.alloc (.cells #[.int .i64 t.i.1, .int .i64 t.i.2, .int .i64 t.c.kind, .int .i64 t.c.client, .int .i64 t.c.seq, .string t.c.key, .string t.c.val, .int .i64 t.c.rev, .int .i64 t.s] e)) 9 (some ⟨w.heap.size, 0, none⟩) 1 (eL t) := by
  refine ⟨rfl, fun j u hj => ⟨_, rfl, ?_⟩, fun u hu => ?_⟩
  · have hadd : (⟨w.heap.size, 0, none⟩ : Addr).add j = ⟨w.heap.size, j, none⟩ := by unfold Addr.add; split <;> simp_all
    rw [hadd]
    exact (new_cell w #[.int .i64 t.i.1, .int .i64 t.i.2, .int .i64 t.c.kind, .int .i64 t.c.client, .int .i64 t.c.seq, .string t.c.key, .string t.c.val, .int .i64 t.c.rev, .int .i64 t.s] e j (by simpa [eL] using hj)).1
  · simp only [eL, List.mem_cons, List.not_mem_nil, or_false] at hu
    rcases hu with rfl | rfl | rfl | rfl | rfl | rfl | rfl | rfl | rfl <;> rfl
theorem ent17info : ∃ i, Try.prog.info? 38 = some i ∧ i.zero = some (.agg #[.int .i64 0, .int .i64 0, .int .i64 0, .int .i64 0, .int .i64 0, .string ByteArray.empty, .string ByteArray.empty, .int .i64 0, .int .i64 0]) ∧ i.size = 9 ∧ i.bytes = 88 := by
  have h : (Try.prog.info? 38).map (fun i => (i.zero, i.size, i.bytes)) = some (some (.agg #[.int .i64 0, .int .i64 0, .int .i64 0, .int .i64 0, .int .i64 0, .string ByteArray.empty, .string ByteArray.empty, .int .i64 0, .int .i64 0]), 9, 88) := by kernel_rfl
  cases hi : Try.prog.info? 38 with
  | none => rw [hi] at h; cases h
  | some i => rw [hi] at h; simp only [Option.map_some, Option.some.injEq, Prod.mk.injEq] at h; exact ⟨i, rfl, h.1, h.2.1, h.2.2⟩
/-- A slice of entries, nil let in, that reads as the list x. -/
def EntsAt (w : World) (A : Option Addr) (m : Nat) (x : List EntT) : Prop :=
  m = x.length ∧ m ≤ maxLen ∧ ∀ (i : Nat) (t : EntT), x[i]? = some t → EntOk t ∧ ∃ b o, A = some ⟨b, o, none⟩ ∧ ∀ (j : Nat) (v : Value), (eL t)[j]? = some v → w.cell? ⟨b, o + i * 9 + j, none⟩ = some v
theorem EntsAt.keep {w w' : World} {A : Option Addr} {m : Nat} {x : List EntT} (h : EntsAt w A m x) (hb : Below w.heap.size w w') : EntsAt w' A m x :=
  ⟨h.1, h.2.1, fun i t hi => by
    obtain ⟨h1, b, o, e, h2⟩ := h.2.2 i t hi
    exact ⟨h1, b, o, e, fun j v hj => cell_keep hb (h2 j v hj)⟩⟩
theorem EntsAt.turn {P : Nat → Prop} {w w' : World} {A : Option Addr} {m : Nat} {x : List EntT} (h : EntsAt w A m x) (t : Turn P w w') (hP : ∀ ad, A = some ad → ¬ P ad.block) : EntsAt w' A m x :=
  ⟨h.1, h.2.1, fun i e hi => by
    obtain ⟨h1, b, o, e, h2⟩ := h.2.2 i e hi
    exact ⟨h1, b, o, e, fun j v hj => t.cell (h2 j v hj) (show ¬ P b from hP _ e)⟩⟩
theorem EntsAt.at_ {w : World} {A : Option Addr} {m : Nat} {x : List EntT} (h : EntsAt w A m x) {i : Nat} (hi : i < m) :
    ∃ t b o, x[i]? = some t ∧ EntOk t ∧ A = some ⟨b, o, none⟩ ∧ ∀ (j : Nat) (v : Value), (eL t)[j]? = some v → w.cell? ⟨b, o + i * 9 + j, none⟩ = some v := by
  have hl : i < x.length := by rw [← h.1]; exact hi
  obtain ⟨h1, b, o, e, h2⟩ := h.2.2 i x[i] (List.getElem?_eq_getElem hl)
  exact ⟨_, b, o, List.getElem?_eq_getElem hl, h1, e, h2⟩
theorem ents_own {w : World} {base : Nat} {e : TypeId} {A : Option Addr} {m c : Nat} {x : List EntT} (h : w.ownsRow base e 9 (.slice A m c) m (flatE x)) (hm : m = x.length) (hl : m ≤ maxLen) (hok : ∀ t ∈ x, EntOk t) : EntsAt w A m x := by
  refine ⟨hm, hl, fun i t hi => ⟨hok t (List.mem_of_getElem? hi), ?_⟩⟩
  have him : i < m := by
    rw [hm]
    exact (List.getElem?_eq_some_iff.1 hi).1
  rcases h.2 with ⟨_, h0⟩ | ⟨g, cap, cur, hv, hb, hg, hn, hcm, hs, ht⟩
  · omega
  · injection hv with hA _ _
    subst hA
    refine ⟨g, 0, rfl, fun j v hj => ?_⟩
    have hf := flatE_get x i t hi j v hj
    rw [← ht, List.getElem?_take] at hf
    rw [Nat.zero_add, cell_of_row w g (i * 9 + j) cur e (0, 0) hg, ← Array.getElem?_toList]
    split at hf
    · exact hf
    · cases hf
theorem take_drop17 {y : List EntT} {k : Nat} {e : EntT} (h : y[k]? = some e) (i : IdP) : dropE (y.take (k + 1)) i = dropE (y.take k) i ++ (if e.i = i then [] else [e]) := by
  rw [List.take_add_one, h]
  unfold dropE
  rw [List.filter_append]
  congr 1
  by_cases he : e.i = i <;> simp [he]
theorem take_meet17 {y : List EntT} {k : Nat} {e : EntT} (h : y[k]? = some e) (c : CmdT) (but : IdP) : (y.take (k + 1)).filter (meetE c but) = (y.take k).filter (meetE c but) ++ (if meetE c but e = true then [e] else []) := by
  rw [List.take_add_one, h, List.filter_append]
  congr 1
  by_cases he : meetE c but e = true <;> simp [he]
end Go.Proofs.Ytpdfbkkhmfnnjaa

namespace Go.Proofs.Ytpdfbkkhmfnnjaa
open Go.RowKit Go.ChangeShapes Go.WideShapes Go.Joins Go.Deep Go.ChangeAt
set_option linter.unusedVariables false
set_option maxRecDepth 20000
set_option linter.unusedSimpArgs false

/-- What is done; an id, a command, a number. -/
structure XA where
  d : Int
  e : EntT
instance : Inhabited XA := ⟨⟨0, ⟨(0, 0), ⟨0, 0, 0, ⟨#[]⟩, ⟨#[]⟩, 0⟩, 0⟩⟩⟩
def xL (x : XA) : List Value := .int .i64 x.d :: eL x.e
def XOk (x : XA) : Prop := (Lit.int .i64 x.d).wf = true ∧ EntOk x.e
def XActsAt (w : World) (A : Option Addr) (m : Nat) (l : List XA) : Prop :=
  m = l.length ∧ m ≤ maxLen ∧ ∀ (i : Nat) (x : XA), l[i]? = some x → XOk x ∧ ∃ b o, A = some ⟨b, o, none⟩ ∧ ∀ (j : Nat) (v : Value), (xL x)[j]? = some v → w.cell? ⟨b, o + i * 10 + j, none⟩ = some v
theorem XActsAt.keep {w w' : World} {A : Option Addr} {m : Nat} {l : List XA} (h : XActsAt w A m l) (hb : Below w.heap.size w w') : XActsAt w' A m l :=
  ⟨h.1, h.2.1, fun i x hi => by
    obtain ⟨h1, b, o, e, h2⟩ := h.2.2 i x hi
    exact ⟨h1, b, o, e, fun j v hj => cell_keep hb (h2 j v hj)⟩⟩
theorem XActsAt.nil {w : World} {A : Option Addr} : XActsAt w A 0 [] := ⟨rfl, Nat.zero_le _, fun i x h => by simp at h⟩
theorem XActsAt.at_ {w : World} {A : Option Addr} {m : Nat} {l : List XA} (h : XActsAt w A m l) {i : Nat} (hi : i < m) :
    ∃ x b o, l[i]? = some x ∧ XOk x ∧ A = some ⟨b, o, none⟩ ∧ ∀ (j : Nat) (v : Value), (xL x)[j]? = some v → w.cell? ⟨b, o + i * 10 + j, none⟩ = some v := by
  have hl : i < l.length := by rw [← h.1]; exact hi
  obtain ⟨ok, b, o, e, h1⟩ := h.2.2 i l[i] (List.getElem?_eq_getElem hl)
  exact ⟨_, b, o, List.getElem?_eq_getElem hl, ok, e, h1⟩
section
variable {H : Type} {enc : TypeId × Value → H} {w : World} {base : Nat} {spare : Nat → Bool} {held : Bool}
theorem xlist6 {α : Type} {l : List α} (h : l.length = 6) : ∃ c0 c1 c2 c3 c4 c5, l = [c0, c1, c2, c3, c4, c5] := by
  match l, h with
  | [c0, c1, c2, c3, c4, c5], _ => exact ⟨c0, c1, c2, c3, c4, c5, rfl⟩
theorem xlist10 {α : Type} {l : List α} (h : l.length = 10) : ∃ c0 c1 c2 c3 c4 c5 c6 c7 c8 c9, l = [c0, c1, c2, c3, c4, c5, c6, c7, c8, c9] := by
  match l, h with
  | [c0, c1, c2, c3, c4, c5, c6, c7, c8, c9], _ => exact ⟨c0, c1, c2, c3, c4, c5, c6, c7, c8, c9, rfl⟩
theorem open_cmdc {fuel : Nat} {cs : List Value} {x : DataW H × List MemPlace} (h : DataW.trod enc Try.prog w base spare held fuel 24 cs = some x) :
    ∃ c : CmdT, cs = [.int .i64 c.kind, .int .i64 c.client, .int .i64 c.seq, .string c.key, .string c.val, .int .i64 c.rev] ∧ c.Ok := by
  obtain ⟨xs, n, _, _, hl, hlen, hf⟩ := DataW.trod_struct Try.underlying24 h
  have hC : Try.prog.cellsOf 24 = 6 := by kernel_rfl
  have h1 : Try.prog.cellsOf 3 = 1 := by kernel_rfl
  have h2 : Try.prog.cellsOf 9 = 1 := by kernel_rfl
  obtain ⟨c0, c1, c2, c3, c4, c5, rfl⟩ := xlist6 (hl.trans hC)
  match xs, hlen with
  | [y0, y1, y2, y3, y4, y5], _ =>
    have g0 : DataW.trod enc Try.prog w base spare held n 3 [c0] = some y0 := by simpa [h1, h2] using hf 0 _ rfl
    have g1 : DataW.trod enc Try.prog w base spare held n 3 [c1] = some y1 := by simpa [h1, h2] using hf 1 _ rfl
    have g2 : DataW.trod enc Try.prog w base spare held n 3 [c2] = some y2 := by simpa [h1, h2] using hf 2 _ rfl
    have g3 : DataW.trod enc Try.prog w base spare held n 9 [c3] = some y3 := by simpa [h1, h2] using hf 3 _ rfl
    have g4 : DataW.trod enc Try.prog w base spare held n 9 [c4] = some y4 := by simpa [h1, h2] using hf 4 _ rfl
    have g5 : DataW.trod enc Try.prog w base spare held n 3 [c5] = some y5 := by simpa [h1, h2] using hf 5 _ rfl
    obtain ⟨a0, e0, _, w0⟩ := DataW.trod_int Try.underlying3 g0
    obtain ⟨a1, e1, _, w1⟩ := DataW.trod_int Try.underlying3 g1
    obtain ⟨a2, e2, _, w2⟩ := DataW.trod_int Try.underlying3 g2
    obtain ⟨a3, e3, _, w3⟩ := DataW.trod_string Try.underlying9 g3
    obtain ⟨a4, e4, _, w4⟩ := DataW.trod_string Try.underlying9 g4
    obtain ⟨a5, e5, _, w5⟩ := DataW.trod_int Try.underlying3 g5
    simp at e0 e1 e2 e3 e4 e5
    subst e0 e1 e2 e3 e4 e5
    exact ⟨⟨a0, a1, a2, a3, a4, a5⟩, rfl, w0, w1, w2, w3, w4, w5⟩
theorem open_xact {fuel : Nat} {cs : List Value} {x : DataW H × List MemPlace} (h : DataW.trod enc Try.prog w base spare held fuel 34 cs = some x) : ∃ y : XA, cs = xL y ∧ XOk y := by
  obtain ⟨xs, n, _, _, hl, hlen, hf⟩ := DataW.trod_struct Try.underlying34 h
  have hC : Try.prog.cellsOf 34 = 10 := by kernel_rfl
  have h1 : Try.prog.cellsOf 3 = 1 := by kernel_rfl
  have h2 : Try.prog.cellsOf 26 = 2 := by kernel_rfl
  have h3 : Try.prog.cellsOf 24 = 6 := by kernel_rfl
  obtain ⟨c0, c1, c2, c3, c4, c5, c6, c7, c8, c9, rfl⟩ := xlist10 (hl.trans hC)
  match xs, hlen with
  | [y0, y1, y2, y3], _ =>
    have g0 : DataW.trod enc Try.prog w base spare held n 3 [c0] = some y0 := by simpa [h1, h2, h3] using hf 0 _ rfl
    have g1 : DataW.trod enc Try.prog w base spare held n 26 [c1, c2] = some y1 := by simpa [h1, h2, h3] using hf 1 _ rfl
    have g2 : DataW.trod enc Try.prog w base spare held n 24 [c3, c4, c5, c6, c7, c8] = some y2 := by simpa [h1, h2, h3] using hf 2 _ rfl
    have g3 : DataW.trod enc Try.prog w base spare held n 3 [c9] = some y3 := by simpa [h1, h2, h3] using hf 3 _ rfl
    obtain ⟨d, e0, _, wd⟩ := DataW.trod_int Try.underlying3 g0
    obtain ⟨r, nn, e1, w1, w2⟩ := open_id g1
    obtain ⟨c, e2, wc⟩ := open_cmdc g2
    obtain ⟨s, e3, _, ws⟩ := DataW.trod_int Try.underlying3 g3
    simp at e0 e1 e2 e3
    obtain ⟨rfl, rfl⟩ := e1
    obtain ⟨rfl, rfl, rfl, rfl, rfl, rfl⟩ := e2
    subst e0 e3
    exact ⟨⟨d, ⟨(r, nn), c, s⟩⟩, rfl, wd, ⟨w1, w2⟩, wc, ws⟩
theorem xspot {w : World} {A : Addr} {v : Value} (h : w.cell? (A.add 0) = some v) : ∃ b o, A = ⟨b, o, none⟩ := by
  have := World.cell?_spot h
  rcases A with ⟨b, o, sp⟩
  exact ⟨b, o, by simpa [Addr.add] using this⟩
theorem open_xacts {fuel : Nat} {cs : List Value} {x : DataW H × List MemPlace} (h : DataW.trod enc Try.prog w base spare held fuel 22 cs = some x) :
    ∃ (A : Option Addr) (m c : Nat) (l : List XA), cs = [.slice A m c] ∧ m ≤ c ∧ c ≤ maxLen ∧ XActsAt w A m l := by
  rcases DataW.trod_slice Try.underlying22 h with ⟨e3, _⟩ | ⟨A, len, cap, elems, rest, q, hq, e3, _, hbA, hle, hcap, hel, helem, _, _⟩
  · exact ⟨none, 0, 0, [], e3, Nat.le_refl _, Nat.zero_le _, XActsAt.nil⟩
  · have hC : Try.prog.cellsOf 34 = 10 := by kernel_rfl
    have hspot : 0 < len → ∃ b o, A = ⟨b, o, none⟩ := fun h => by
      have key := helem 0 h
      rw [List.getElem?_eq_getElem (by omega), hC] at key
      obtain ⟨cs', h1', h2'⟩ := Option.bind_eq_some_iff.1 key
      obtain ⟨y, rfl, ok⟩ := open_xact h2'
      obtain ⟨_, hlc, hcell⟩ := World.cells?_some h1'
      have c0 := hcell 0 (by omega)
      rw [add_of_add] at c0
      exact xspot (v := .int .i64 y.d) (by simpa [xL] using c0)
    have hex : ∀ i, i < len → ∃ x : XA, XOk x ∧ ∃ b o, A = ⟨b, o, none⟩ ∧ ∀ (j : Nat) (v : Value), (xL x)[j]? = some v → w.cell? ⟨b, o + i * 10 + j, none⟩ = some v := by
      intro i hi
      have key := helem i hi
      rw [List.getElem?_eq_getElem (by omega), hC] at key
      obtain ⟨cs', h1', h2'⟩ := Option.bind_eq_some_iff.1 key
      obtain ⟨y, rfl, ok⟩ := open_xact h2'
      obtain ⟨_, hlc, hcell⟩ := World.cells?_some h1'
      obtain ⟨b, o, rfl⟩ := hspot (by omega)
      refine ⟨y, ok, b, o, rfl, fun j v hj => ?_⟩
      have hjl : j < 10 := by
        have := (List.getElem?_eq_some_iff.1 hj).1
        exact this
      have hc := hcell j (by omega)
      rw [add_of_add] at hc
      have e : ∀ k, (Addr.mk b o none).add k = ⟨b, o + k, none⟩ := fun k => by unfold Addr.add; split <;> simp_all
      rw [e, ← Nat.add_assoc] at hc
      rw [hc]
      exact hj
    obtain ⟨F, hF⟩ := choose_lt hex
    refine ⟨some A, len, cap, (List.range len).map F, e3, hle, hcap, by simp, by omega, fun i x hi => ?_⟩
    simp only [List.getElem?_map, Option.map_eq_some_iff] at hi
    obtain ⟨r, hr, rfl⟩ := hi
    obtain ⟨hlt, hv⟩ := List.getElem?_eq_some_iff.1 hr
    simp at hlt hv
    subst hv
    obtain ⟨w1, b, o, e, h1⟩ := hF i hlt
    exact ⟨w1, b, o, by rw [e], h1⟩
end
end Go.Proofs.Ytpdfbkkhmfnnjaa

namespace Go.Proofs.Ytpdfbkkhmfnnjaa
open Go.RowKit
set_option linter.unusedVariables false
set_option linter.unusedSimpArgs false
set_option maxRecDepth 20000
attribute [local go_sem ↓] Go.wp_at_zero Go.wp_at_succ
attribute [local go_sem] World.cell?_alloc_some frozen_alloc_some

def GreatP (w : World) (m : Nat) (e : Ending) (w' : World) : Prop := ∃ b : Bool, e = .returned (.bool b) ∧ (b = false → m ≤ 60) ∧ Below w.heap.size w w'
set_option maxHeartbeats 4000000 in
theorem great17_any (A : Option Addr) (m c : Nat) (l : List XA) (w : World) (h : XActsAt w A m l) : Calls Try.prog 7 #[.slice A m c] w (GreatP w m) := by
  have H := Lib.hid h
  have hmm : m ≤ 9223372036854775807 := by have := h.2.1; unfold maxLen at this; omega
  clear h
  go_enter Try.func7, Try.ntmps7
  go_wp2_with fail
  go_loopw [3] (fun s3 wr => ∃ i : Nat, i ≤ m ∧ i ≤ 60 ∧ s3 = .int .i64 i ∧ Below w.heap.size w wr) (fun s3 _ => 60 - (intOf s3).toNat)
  case atStart => exact ⟨0, by omega, by omega, rfl, Below.refl _ _⟩
  case round =>
    obtain ⟨i, hi, hi60, rfl, hb⟩ := hrel
    by_cases hlt : i < m
    · have i1 : (i : Int) < (m : Int) := by omega
      have i0 : (0 : Int) ≤ (i : Int) := by omega
      by_cases h60 : i < 60
      · have i2 : (i : Int) < 60 := by omega
        obtain ⟨⟨d, ⟨⟨r, nn⟩, ⟨ck, cl, cq, ky, vl, rv⟩, sq⟩⟩, b, o, _, ok, rfl, hc⟩ := (H.out.keep hb).at_ hlt
        have hg := fun W => great_any ck cl cq ky vl rv W
        have c3 := hc 3 _ rfl
        have c4 := hc 4 _ rfl
        have c5 := hc 5 _ rfl
        have c6 := hc 6 _ rfl
        have c7 := hc 7 _ rfl
        have c8 := hc 8 _ rfl
        simp only at c3 c4 c5 c6 c7 c8
        clear hc ok
        generalize cgreat ky vl = G at hg
        cases G
        · go_wp2_with (go_at_call 8; (with_reducible refine (hg _).mono ?_); rintro e9 w9 ⟨rfl, hb9⟩; replace hb := below_call hb hb9 hb.size; clear c3 c4 c5 c6 c7 c8 hb9)
          go_roundw
          case rel => exact ⟨i + 1, by omega, by omega, by go_num, hb⟩
          case measure => simp [intOf]; omega
        · go_wp2_with (go_at_call 8; (with_reducible refine (hg _).mono ?_); rintro e9 w9 ⟨rfl, hb9⟩; replace hb := below_call hb hb9 hb.size; clear c3 c4 c5 c6 c7 c8 hb9)
          go_ret
          exact ⟨true, rfl, fun h => (by cases h), hb⟩
      · have i2 : ¬ (i : Int) < 60 := by omega
        have FIN := Lib.hid (show GreatP w m (.returned (.bool (decide ((60 : Int) < (m : Int))))) wr from ⟨_, rfl, fun h => by have := of_decide_eq_false h; omega, hb⟩)
        go_wp2_with fail
        go_ret
        exact FIN.out
    · have i1 : ¬ (i : Int) < (m : Int) := by omega
      have FIN := Lib.hid (show GreatP w m (.returned (.bool (decide ((60 : Int) < (m : Int))))) wr from ⟨_, rfl, fun h => by have := of_decide_eq_false h; omega, hb⟩)
      go_wp2_with fail
      go_ret
      exact FIN.out
end Go.Proofs.Ytpdfbkkhmfnnjaa

namespace Go.Proofs.Ytpdfbkkhmfnnjaa
open Go.RowKit
set_option linter.unusedVariables false
set_option linter.unusedSimpArgs false
set_option maxRecDepth 20000
attribute [local go_sem ↓] Go.wp_at_zero Go.wp_at_succ
attribute [local go_sem] World.cell?_alloc_some frozen_alloc_some
attribute [local go_sem ↓ high] id_neq_run id_eql_run

theorem blk_appX {w' W : World} {base k : Nat} {e : TypeId} {size : Nat} {v : Value} {n : Nat} {xs : List Value} {t : TypeId} {cs : Array Value} (h : Blk W k t cs) (ho : W.ownsRow base e size v n xs) (hg : W.grownBy w' v.ownBlock) (hk : k < base) : Blk w' k t cs :=
  (hg.block _ h.lt (fun e => by have := (ho.lt _ e.symm).1; omega)).trans h
theorem own_lowX {w : World} {base base' : Nat} {e : TypeId} {size : Nat} {v : Value} {n : Nat} {xs : List Value} (h : w.ownsRow base e size v n xs) (hb : base' ≤ base) : w.ownsRow base' e size v n xs :=
  ⟨h.1, h.2.imp id fun ⟨g, cap, cur, e1, h1, h2⟩ => ⟨g, cap, cur, e1, Nat.le_trans hb h1, h2⟩⟩
def Drops (w : World) (y : List EntT) (i : IdP) (e : Ending) (w' : World) : Prop :=
  ∃ A' m' c', e = .returned (.slice A' m' c') ∧ m' = (dropE y i).length ∧ w'.ownsRow w.heap.size 38 9 (.slice A' m' c') m' (flatE (dropE y i)) ∧ (∀ t ∈ dropE y i, EntOk t) ∧ Below w.heap.size w w'
set_option maxHeartbeats 4000000 in
theorem drop17_any (A : Option Addr) (m c : Nat) (y : List EntT) (i1 i2 : Int) (w : World) (h : EntsAt w A m y) (hm1 : m ≤ 1000000) : Calls Try.prog 11 #[.slice A m c, .agg #[.int .i64 i1, .int .i64 i2]] w (Drops w y (i1, i2)) := by
  have H := Lib.hid h
  have Hm := Lib.hid h.1
  have hwf : ∀ t ∈ dropE y (i1, i2), EntOk t := fun t ht => by
    obtain ⟨j, hj⟩ := List.getElem?_of_mem (mem_dropE.1 ht).1
    exact (h.2.2 j t hj).1
  have Hwf := Lib.hid hwf
  clear h hwf
  obtain ⟨i0, hi, hz0, hzz, hz2⟩ := ent17info
  go_enter Try.func11, Try.ntmps11
  go_wp2_with fail
  go_loopw [5, 6] (fun s5 s6 wr => ∃ (k n c' : Nat) (A' : Option Addr), k ≤ m ∧ s6 = .int .i64 k ∧ s5 = .slice A' n c' ∧ n ≤ k ∧ Below w.heap.size w wr ∧ Blk wr w.heap.size 26 #[.int .i64 i1, .int .i64 i2] ∧ wr.ownsRow (w.heap.size + 1) 38 9 (.slice A' n c') n (flatE (dropE (y.take k) (i1, i2)))) (fun _ s6 _ => m - (intOf s6).toNat)
  case atStart => exact ⟨0, 0, 0, none, by omega, rfl, rfl, by omega, by ((repeat' first | with_reducible exact Below.refl _ _ | with_reducible assumption | with_reducible refine Below.alloc ?_ ?_ _ | with_reducible refine Below.setCell ?_ ?_ _ | with_reducible apply Below.drew | with_reducible apply below_drewN | with_reducible refine below_call ?_ (by with_reducible assumption) ?_) <;> (first | omega | (simp; done) | (simp; omega) | (simp at *; omega))), Blk.new _ _ _, World.ownsRow_nil _ _ _ _⟩
  case round =>
    obtain ⟨k, n, c', A', hk, rfl, rfl, hn, hb, hB, hown⟩ := hrel
    have hzr := hB.lt
    by_cases hlt : k < m
    · obtain ⟨⟨⟨r, nn⟩, ⟨ck, cl, cq, ky, vl, rv⟩, sq⟩, b, o, e1, _, rfl, hce⟩ := (H.out.keep hb).at_ hlt
      have k0 : (0 : Int) ≤ (k : Int) := by omega
      have k1 : (k : Int) < (m : Int) := by omega
      have hst := take_drop17 e1 (i1, i2)
      have b0 := hB.cell 0
      have b1 := hB.cell 1
      have c0 := hce 0 _ rfl
      have c1 := hce 1 _ rfl
      have c2 := hce 2 _ rfl
      have c3 := hce 3 _ rfl
      have c4 := hce 4 _ rfl
      have c5 := hce 5 _ rfl
      have c6 := hce 6 _ rfl
      have c7 := hce 7 _ rfl
      have c8 := hce 8 _ rfl
      rw [Nat.add_zero] at c0
      simp only at c0 c1 c2 c3 c4 c5 c6 c7 c8 hst
      clear hce
      have hpre : S4 ⟨w.heap.size, 0, none⟩ ⟨w.heap.size, 1, none⟩ ⟨b, o + k * 9, none⟩ ⟨b, o + k * 9 + 1, none⟩ (.int .i64 i1) (.int .i64 i2) (.int .i64 r) (.int .i64 nn) wr := ⟨b0, b1, c0, c1⟩
      clear e1 b0 b1
      by_cases hq : (r = i1 ∧ nn = i2)
      · obtain ⟨rfl, rfl⟩ := hq
        rw [if_pos rfl, List.append_nil] at hst
        have Hst := Lib.hid hst
        clear hst c0 c1 c2 c3 c4 c5 c6 c7 c8
        go_upto_region 5 with fail
        (refine wp_region_held_drew (S := (S4 ⟨w.heap.size, 0, none⟩ ⟨w.heap.size, 1, none⟩ ⟨b, o + k * 9, none⟩ ⟨b, o + k * 9 + 1, none⟩ (.int .i64 r) (.int .i64 nn) (.int .i64 r) (.int .i64 nn))) (by kernel_rfl) ?_ (fun hHeld => ?_); (· exact hpre.drew))
        (refine take_op (i := 0) (v := ?_) rfl (by kernel_rfl) (by kernel_rfl) (by kernel_rfl) (fun _ _ _ h => h) (by rfl) ?_ hHeld ?_; rotate_left; (· (intro wS hSw; (try dsimp only at hSw); go_simp; first | done | with_reducible rfl)); simp only [Act.put, List.setIfInBounds_toArray, List.set_cons_zero, List.set_cons_succ]); (refine take_op (i := 1) (v := ?_) rfl (by kernel_rfl) (by kernel_rfl) (by kernel_rfl) (fun _ _ _ h => h) (by rfl) ?_ hHeld ?_; rotate_left; (· (intro wS hSw; (try dsimp only at hSw); go_simp; first | done | with_reducible rfl)); simp only [Act.put, List.setIfInBounds_toArray, List.set_cons_zero, List.set_cons_succ]); (refine take_op (i := 2) (v := ?_) rfl (by kernel_rfl) (by kernel_rfl) (by kernel_rfl) (fun _ _ _ h => h) (by rfl) ?_ hHeld ?_; rotate_left; (· (intro wS hSw; (try dsimp only at hSw); go_simp; first | done | with_reducible rfl)); simp only [Act.put, List.setIfInBounds_toArray, List.set_cons_zero, List.set_cons_succ]); (refine take_op (i := 3) (v := ?_) rfl (by kernel_rfl) (by kernel_rfl) (by kernel_rfl) (fun _ _ _ h => h) (by rfl) ?_ hHeld ?_; rotate_left; (· (intro wS hSw; (try dsimp only at hSw); go_simp; first | done | with_reducible rfl)); simp only [Act.put, List.setIfInBounds_toArray, List.set_cons_zero, List.set_cons_succ]); (refine take_op (i := 4) (v := ?_) rfl (by kernel_rfl) (by kernel_rfl) (by kernel_rfl) (fun _ _ _ h => h) (by rfl) ?_ hHeld ?_; rotate_left; (· (intro wS hSw; (try dsimp only at hSw); go_simp; first | done | with_reducible rfl)); simp only [Act.put, List.setIfInBounds_toArray, List.set_cons_zero, List.set_cons_succ]); (refine take_op (i := 5) (v := ?_) rfl (by kernel_rfl) (by kernel_rfl) (by kernel_rfl) (fun _ _ _ h => h) (by rfl) ?_ hHeld ?_; rotate_left; (· (intro wS hSw; (try dsimp only at hSw); go_simp; first | done | with_reducible rfl)); simp only [Act.put, List.setIfInBounds_toArray, List.set_cons_zero, List.set_cons_succ]); (refine take_op (i := 6) (v := ?_) rfl (by kernel_rfl) (by kernel_rfl) (by kernel_rfl) (fun _ _ _ h => h) (by rfl) ?_ hHeld ?_; rotate_left; (· (intro wS hSw; (try dsimp only at hSw); go_simp; first | done | with_reducible rfl)); simp only [Act.put, List.setIfInBounds_toArray, List.set_cons_zero, List.set_cons_succ])
        (refine wpAnyH_done (by kernel_rfl) ?_ _)
        replace hb := hb.drew
        replace hB := Blk.keep hB (Below.refl _ _).drew
        replace hown := ownX_keep hown (Below.refl _ _).drew
        clear hpre hHeld hzr
        generalize wr.drew = wd at hb hB hown ⊢
        go_wp2_with fail
        go_roundw
        case rel => exact ⟨k + 1, n, c', A', by omega, by go_num, rfl, by omega, hb, hB, by rw [Hst.out]; exact hown⟩
        case measure => simp [intOf]; omega
      · rw [if_neg (fun e => hq (by injection e with e1 e2; exact ⟨e1, e2⟩))] at hst
        have Hst := Lib.hid hst
        have hneq : (r == i1 && nn == i2) = false := by simpa using hq
        clear hst
        go_upto_region 5 with fail
        (refine wp_region_held_drew (S := (S4 ⟨w.heap.size, 0, none⟩ ⟨w.heap.size, 1, none⟩ ⟨b, o + k * 9, none⟩ ⟨b, o + k * 9 + 1, none⟩ (.int .i64 i1) (.int .i64 i2) (.int .i64 r) (.int .i64 nn))) (by kernel_rfl) ?_ (fun hHeld => ?_); (· exact hpre.drew))
        (refine take_op (i := 0) (v := ?_) rfl (by kernel_rfl) (by kernel_rfl) (by kernel_rfl) (fun _ _ _ h => h) (by rfl) ?_ hHeld ?_; rotate_left; (· (intro wS hSw; (try dsimp only at hSw); go_simp; first | done | with_reducible rfl)); simp only [Act.put, List.setIfInBounds_toArray, List.set_cons_zero, List.set_cons_succ]); (refine take_op (i := 1) (v := ?_) rfl (by kernel_rfl) (by kernel_rfl) (by kernel_rfl) (fun _ _ _ h => h) (by rfl) ?_ hHeld ?_; rotate_left; (· (intro wS hSw; (try dsimp only at hSw); go_simp; first | done | with_reducible rfl)); simp only [Act.put, List.setIfInBounds_toArray, List.set_cons_zero, List.set_cons_succ]); (refine take_op (i := 2) (v := ?_) rfl (by kernel_rfl) (by kernel_rfl) (by kernel_rfl) (fun _ _ _ h => h) (by rfl) ?_ hHeld ?_; rotate_left; (· (intro wS hSw; (try dsimp only at hSw); go_simp; first | done | with_reducible rfl)); simp only [Act.put, List.setIfInBounds_toArray, List.set_cons_zero, List.set_cons_succ]); (refine take_op (i := 3) (v := ?_) rfl (by kernel_rfl) (by kernel_rfl) (by kernel_rfl) (fun _ _ _ h => h) (by rfl) ?_ hHeld ?_; rotate_left; (· (intro wS hSw; (try dsimp only at hSw); go_simp; first | done | with_reducible rfl)); simp only [Act.put, List.setIfInBounds_toArray, List.set_cons_zero, List.set_cons_succ]); (refine take_op (i := 4) (v := ?_) rfl (by kernel_rfl) (by kernel_rfl) (by kernel_rfl) (fun _ _ _ h => h) (by rfl) ?_ hHeld ?_; rotate_left; (· (intro wS hSw; (try dsimp only at hSw); go_simp; first | done | with_reducible rfl)); simp only [Act.put, List.setIfInBounds_toArray, List.set_cons_zero, List.set_cons_succ]); (refine take_op (i := 5) (v := ?_) rfl (by kernel_rfl) (by kernel_rfl) (by kernel_rfl) (fun _ _ _ h => h) (by rfl) ?_ hHeld ?_; rotate_left; (· (intro wS hSw; (try dsimp only at hSw); go_simp; first | done | with_reducible rfl)); simp only [Act.put, List.setIfInBounds_toArray, List.set_cons_zero, List.set_cons_succ])
        (refine take_op (i := 6) (v := .bool true) rfl (by kernel_rfl) (by kernel_rfl) (by kernel_rfl) (fun _ _ _ h => h) (by rfl) ?_ hHeld ?_; (· (intro wS hSw; clear hSw; go_simp)); simp only [Act.put, List.setIfInBounds_toArray, List.set_cons_zero, List.set_cons_succ])
        (refine wpAnyH_done (by kernel_rfl) ?_ _)
        replace hb := hb.drew
        replace hB := Blk.keep hB (Below.refl _ _).drew
        replace hown := ownX_keep hown (Below.refl _ _).drew
        replace c0 := cell_keep (Below.refl wr.heap.size wr).drew c0
        replace c1 := cell_keep (Below.refl wr.heap.size wr).drew c1
        replace c2 := cell_keep (Below.refl wr.heap.size wr).drew c2
        replace c3 := cell_keep (Below.refl wr.heap.size wr).drew c3
        replace c4 := cell_keep (Below.refl wr.heap.size wr).drew c4
        replace c5 := cell_keep (Below.refl wr.heap.size wr).drew c5
        replace c6 := cell_keep (Below.refl wr.heap.size wr).drew c6
        replace c7 := cell_keep (Below.refl wr.heap.size wr).drew c7
        replace c8 := cell_keep (Below.refl wr.heap.size wr).drew c8
        clear hpre hHeld hneq hq hzr
        generalize wr.drew = wd at hb hB hown c0 c1 c2 c3 c4 c5 c6 c7 c8 ⊢
        have hzr := hB.lt
        have k1' := below_one (w := wd) (.cells #[.int .i64 r, .int .i64 nn, .int .i64 ck, .int .i64 cl, .int .i64 cq, .string ky, .string vl, .int .i64 rv, .int .i64 sq] 38)
        have hsrc := src_ent (w := wd) (e := 38) ⟨(r, nn), ⟨ck, cl, cq, ky, vl, rv⟩, sq⟩
        have hownA := ownX_keep hown k1'
        go_wp2_with ((at_builtin; go_loud (refine wpList_app _ rfl (.tmp 20) (.tmp 25) 32 rfl _ 38 i0 _ 9 88 Try.underlying32 hi hz0 hzz hz2 rfl (by omega) _ _ _ rfl hownA _ _ _ _ rfl hsrc ?h63 ?hby ?hbase ?_); (case h63 => (unfold maxLen; first | omega | (simp; done) | (simp; omega))); (case hby => first | omega | (simp; done) | (simp; omega)); (case hbase => first | omega | (simp; done) | (simp; omega)); intro v9 w9 hownw9 hgroww9 hatw9 holdw9))
        obtain ⟨A8, c8', rfl, _, _⟩ := ownX_form hownw9
        go_roundw
        case rel => exact ⟨k + 1, n + 1, c8', A8, by omega, by go_num, rfl, by omega, below_app (below_call hb k1' hb.size) hownA hgroww9 (by omega) (by simp; omega), blk_appX (hB.keep k1') hownA hgroww9 (by omega), by rw [Hst.out, flatE_snoc]; exact hownw9⟩
        case measure => simp [intOf]; omega
    · have hkl : k = y.length := by have := Hm.out; omega
      have nk : ¬ (k : Int) < (m : Int) := by omega
      rw [hkl, List.take_length] at hown
      have hnm : n = (dropE y (i1, i2)).length := by have := hown.1; rw [flatE_length] at this; omega
      have FIN := Lib.hid (show Drops w y (i1, i2) (.returned (.slice A' n c')) wr from ⟨A', n, c', rfl, hnm, own_lowX hown (by omega), Hwf.out, hb⟩)
      clear hown hnm
      go_wp2_with fail
      go_ret
      exact FIN.out
end Go.Proofs.Ytpdfbkkhmfnnjaa

namespace Go.Proofs.Ytpdfbkkhmfnnjaa
open Go.RowKit
set_option linter.unusedVariables false
set_option linter.unusedSimpArgs false
set_option maxRecDepth 20000
attribute [local go_sem ↓] Go.wp_at_zero Go.wp_at_succ
attribute [local go_sem] World.cell?_alloc_some frozen_alloc_some

set_option maxHeartbeats 400000 in
theorem less5_any (a b c d : Int) (w : World) :
    Calls Try.prog 71 #[.agg #[.int .i64 a, .int .i64 b], .agg #[.int .i64 c, .int .i64 d]] w (Gives w (.bool (decide (idLt (a, b) (c, d))))) := by
  by_cases h1 : b < d
  · rw [decide_eq_true (show idLt (a, b) (c, d) from .inl h1)]
    go_enter Try.func71, Try.ntmps71
    go_wp2_with fail
    go_ret
    exact ⟨by simp, by ((repeat' first | with_reducible exact Below.refl _ _ | with_reducible assumption | with_reducible refine Below.alloc ?_ ?_ _ | with_reducible refine Below.setCell ?_ ?_ _ | with_reducible apply Below.drew | with_reducible apply below_drewN | with_reducible refine below_call ?_ (by with_reducible assumption) ?_) <;> (first | omega | (simp; done) | (simp; omega) | (simp at *; omega)))⟩
  by_cases h2 : b = d
  · subst h2
    by_cases h3 : a < c
    · rw [decide_eq_true (show idLt (a, b) (c, b) from .inr ⟨rfl, h3⟩)]
      go_enter Try.func71, Try.ntmps71
      go_wp2_with fail
      go_ret
      exact ⟨by simp [h3], by ((repeat' first | with_reducible exact Below.refl _ _ | with_reducible assumption | with_reducible refine Below.alloc ?_ ?_ _ | with_reducible refine Below.setCell ?_ ?_ _ | with_reducible apply Below.drew | with_reducible apply below_drewN | with_reducible refine below_call ?_ (by with_reducible assumption) ?_) <;> (first | omega | (simp; done) | (simp; omega) | (simp at *; omega)))⟩
    · rw [decide_eq_false (show ¬ idLt (a, b) (c, b) from by unfold idLt; simp only; omega)]
      go_enter Try.func71, Try.ntmps71
      go_wp2_with fail
      go_ret
      exact ⟨by simp [h3]; try omega, by ((repeat' first | with_reducible exact Below.refl _ _ | with_reducible assumption | with_reducible refine Below.alloc ?_ ?_ _ | with_reducible refine Below.setCell ?_ ?_ _ | with_reducible apply Below.drew | with_reducible apply below_drewN | with_reducible refine below_call ?_ (by with_reducible assumption) ?_) <;> (first | omega | (simp; done) | (simp; omega) | (simp at *; omega)))⟩
  · rw [decide_eq_false (show ¬ idLt (a, b) (c, d) from by unfold idLt; simp only; omega)]
    have h2' : (b == d) = false := by simp [h2]
    go_enter Try.func71, Try.ntmps71
    go_wp2_with fail
    go_ret
    exact ⟨by simp, by ((repeat' first | with_reducible exact Below.refl _ _ | with_reducible assumption | with_reducible refine Below.alloc ?_ ?_ _ | with_reducible refine Below.setCell ?_ ?_ _ | with_reducible apply Below.drew | with_reducible apply below_drewN | with_reducible refine below_call ?_ (by with_reducible assumption) ?_) <;> (first | omega | (simp; done) | (simp; omega) | (simp at *; omega)))⟩

section
attribute [local go_sem ↓ high] id_neq_run id_eql_run
set_option maxHeartbeats 2000000 in
theorem has5_any (A : Option Addr) (m c : Nat) (l : List IdP) (x1 x2 : Int) (w : World) (h1 : IdsAt w A m l) :
    Calls Try.prog 40 #[.slice A m c, .agg #[.int .i64 x1, .int .i64 x2]] w (Gives w (.bool (decide ((x1, x2) ∈ l)))) := by
  generalize hR : decide ((x1, x2) ∈ l) = R
  have HR := Lib.hid hR
  have H1 := Lib.hid h1
  have Hm := Lib.hid h1.1
  have hc := h1.2.1
  clear hR h1
  have hmm : m ≤ 9223372036854775807 := by unfold maxLen at hc; omega
  go_enter Try.func40, Try.ntmps40
  go_wp2_with fail
  go_loopw [5] (fun s5 wr => ∃ j : Nat, j ≤ m ∧ s5 = .int .i64 j ∧ (x1, x2) ∉ l.take j ∧ Below w.heap.size w wr ∧ wr.cell? ⟨w.heap.size, 0, none⟩ = some (.int .i64 x1) ∧ wr.cell? ⟨w.heap.size, 1, none⟩ = some (.int .i64 x2)) (fun s5 _ => m - (intOf s5).toNat)
  case atStart => exact ⟨0, by omega, rfl, by simp, by ((repeat' first | with_reducible exact Below.refl _ _ | with_reducible assumption | with_reducible refine Below.alloc ?_ ?_ _ | with_reducible refine Below.setCell ?_ ?_ _ | with_reducible apply Below.drew | with_reducible apply below_drewN | with_reducible refine below_call ?_ (by with_reducible assumption) ?_) <;> (first | omega | (simp; done) | (simp; omega) | (simp at *; omega))), (new_cell w #[.int .i64 x1, .int .i64 x2] 26 0 rfl).1, (new_cell w #[.int .i64 x1, .int .i64 x2] 26 1 rfl).1⟩
  case round =>
    obtain ⟨j, hj, rfl, htk, hbr, t0, t1⟩ := hrel
    have hzr := hbr.size
    have Htk := Lib.hid htk
    clear htk
    by_cases hlt : j < m
    · obtain ⟨r, n, b, o, e1, _, _, rfl, p0, p1⟩ := (H1.out.keep hbr).at_ hlt
      have E1 := Lib.hid e1
      clear e1
      have j0 : (0 : Int) ≤ (j : Int) := by omega
      have j1 : (j : Int) < (m : Int) := by omega
      by_cases hok : r = x1 ∧ n = x2
      · have hok' : (r == x1 && n == x2) = true := by simp [hok]
        have hfin : R = true := by
          rw [← HR.out]
          exact decide_eq_true (List.mem_of_getElem? (by rw [← hok.1, ← hok.2]; exact E1.out))
        subst hfin
        clear hok
        go_upto_region 4 with fail
        go_region
        all_goals
          go_wp2_with fail
          go_ret
          exact ⟨rfl, by ((repeat' first | with_reducible exact Below.refl _ _ | with_reducible assumption | with_reducible refine Below.alloc ?_ ?_ _ | with_reducible refine Below.setCell ?_ ?_ _ | with_reducible apply Below.drew | with_reducible apply below_drewN | with_reducible refine below_call ?_ (by with_reducible assumption) ?_) <;> (first | omega | (simp; done) | (simp; omega) | (simp at *; omega)))⟩
      · have hok' : (r == x1 && n == x2) = false := by simpa using hok
        have Hnx := Lib.hid (show (x1, x2) ∉ l.take (j + 1) from by
          rw [List.take_add_one, E1.out]
          intro h
          rcases List.mem_append.1 h with h | h
          · exact Htk.out h
          · simp at h; exact hok ⟨h.1.symm, h.2.symm⟩)
        clear hok
        go_upto_region 4 with fail
        go_region
        all_goals
          go_wp2_with fail
          go_roundw
          case rel => exact ⟨j + 1, by omega, by go_num, Hnx.out, by ((repeat' first | with_reducible exact Below.refl _ _ | with_reducible assumption | with_reducible refine Below.alloc ?_ ?_ _ | with_reducible refine Below.setCell ?_ ?_ _ | with_reducible apply Below.drew | with_reducible apply below_drewN | with_reducible refine below_call ?_ (by with_reducible assumption) ?_) <;> (first | omega | (simp; done) | (simp; omega) | (simp at *; omega))), by simpa using t0, by simpa using t1⟩
          case measure => simp [intOf]; omega
    · have hfin : R = false := by
        rw [← HR.out]
        have h := Htk.out
        rw [List.take_of_length_le (by have := Hm.out; omega)] at h
        exact decide_eq_false h
      subst hfin
      go_wp2_with fail
      go_ret
      exact ⟨rfl, by ((repeat' first | with_reducible exact Below.refl _ _ | with_reducible assumption | with_reducible refine Below.alloc ?_ ?_ _ | with_reducible refine Below.setCell ?_ ?_ _ | with_reducible apply Below.drew | with_reducible apply below_drewN | with_reducible refine below_call ?_ (by with_reducible assumption) ?_) <;> (first | omega | (simp; done) | (simp; omega) | (simp at *; omega)))⟩
set_option maxHeartbeats 1000000 in
theorem equal5_any (A A2 : Option Addr) (m c m2 c2 : Nat) (l l2 : List IdP) (w : World) (h1 : IdsAt w A m l) (h2 : IdsAt w A2 m2 l2) :
    Calls Try.prog 15 #[.slice A m c, .slice A2 m2 c2] w (Gives w (.bool (lseq l l2))) := by
  generalize hR : lseq l l2 = R
  have HR := Lib.hid hR
  have H1 := Lib.hid h1
  have H2 := Lib.hid h2
  have Hm := Lib.hid h1.1
  have Hm2 := Lib.hid h2.1
  have hc := h1.2.1
  clear hR h1 h2
  by_cases e4 : m = m2
  case neg =>
    have hfin : R = false := by
      rw [← HR.out]
      simp only [lseq, decide_eq_false_iff_not]
      intro h; exact e4 (by rw [Hm.out, Hm2.out, h])
    subst hfin
    have e4' : ((m : Int) != (m2 : Int)) = true := by simp; omega
    go_enter Try.func15, Try.ntmps15
    go_wp2_with fail
    go_ret
    exact ⟨rfl, by ((repeat' first | with_reducible exact Below.refl _ _ | with_reducible assumption | with_reducible refine Below.alloc ?_ ?_ _ | with_reducible refine Below.setCell ?_ ?_ _ | with_reducible apply Below.drew | with_reducible apply below_drewN | with_reducible refine below_call ?_ (by with_reducible assumption) ?_) <;> (first | omega | (simp; done) | (simp; omega) | (simp at *; omega)))⟩
  subst e4
  have hmm : m ≤ 9223372036854775807 := by unfold maxLen at hc; omega
  go_enter Try.func15, Try.ntmps15
  go_wp2_with fail
  go_loopw [5] (fun s5 wr => ∃ j : Nat, j ≤ m ∧ s5 = .int .i64 j ∧ l.take j = l2.take j ∧ Below w.heap.size w wr) (fun s5 _ => m - (intOf s5).toNat)
  case atStart => exact ⟨0, by omega, rfl, rfl, by ((repeat' first | with_reducible exact Below.refl _ _ | with_reducible assumption | with_reducible refine Below.alloc ?_ ?_ _ | with_reducible refine Below.setCell ?_ ?_ _ | with_reducible apply Below.drew | with_reducible apply below_drewN | with_reducible refine below_call ?_ (by with_reducible assumption) ?_) <;> (first | omega | (simp; done) | (simp; omega) | (simp at *; omega)))⟩
  case round =>
    obtain ⟨j, hj, rfl, htk, hbr⟩ := hrel
    have hzr := hbr.size
    have Htk := Lib.hid htk
    clear htk
    by_cases hlt : j < m
    · obtain ⟨r, n, b, o, e1, _, _, rfl, p0, p1⟩ := (H1.out.keep hbr).at_ hlt
      obtain ⟨r2, n2, b2, o2, e2, _, _, rfl, q0, q1⟩ := (H2.out.keep hbr).at_ hlt
      have E1 := Lib.hid e1
      have E2 := Lib.hid e2
      clear e1 e2
      have j0 : (0 : Int) ≤ (j : Int) := by omega
      have j1 : (j : Int) < (m : Int) := by omega
      by_cases hok : r = r2 ∧ n = n2
      · have hok' : (r == r2 && n == n2) = true := by simp [hok]
        have Hnx := Lib.hid (take_step Htk.out E1.out (by rw [hok.1, hok.2]; exact E2.out))
        clear hok
        go_upto_region 6 with fail
        go_region
        all_goals
          go_wp2_with fail
          go_roundw
          case rel => exact ⟨j + 1, by omega, by go_num, Hnx.out, by ((repeat' first | with_reducible exact Below.refl _ _ | with_reducible assumption | with_reducible refine Below.alloc ?_ ?_ _ | with_reducible refine Below.setCell ?_ ?_ _ | with_reducible apply Below.drew | with_reducible apply below_drewN | with_reducible refine below_call ?_ (by with_reducible assumption) ?_) <;> (first | omega | (simp; done) | (simp; omega) | (simp at *; omega)))⟩
          case measure => simp [intOf]; omega
      · have hok' : (r == r2 && n == n2) = false := by simpa using hok
        have hfin : R = false := by
          rw [← HR.out]
          simp only [lseq, decide_eq_false_iff_not]
          intro h; subst h
          have h1 := E1.out
          rw [E2.out] at h1
          injection h1 with h1
          injection h1 with h1 h2
          exact hok ⟨h1.symm, h2.symm⟩
        subst hfin
        clear hok
        go_upto_region 6 with fail
        go_region
        all_goals
          go_wp2_with fail
          go_ret
          exact ⟨rfl, by ((repeat' first | with_reducible exact Below.refl _ _ | with_reducible assumption | with_reducible refine Below.alloc ?_ ?_ _ | with_reducible refine Below.setCell ?_ ?_ _ | with_reducible apply Below.drew | with_reducible apply below_drewN | with_reducible refine below_call ?_ (by with_reducible assumption) ?_) <;> (first | omega | (simp; done) | (simp; omega) | (simp at *; omega)))⟩
    · have g1 : l.take j = l := List.take_of_length_le (by have := Hm.out; omega)
      have g2 : l2.take j = l2 := List.take_of_length_le (by have := Hm2.out; omega)
      have hfin : R = true := by
        rw [← HR.out]
        simp only [lseq, decide_eq_true_eq]
        have := Htk.out; rwa [g1, g2] at this
      subst hfin
      clear g1 g2 Htk
      go_wp2_with fail
      go_ret
      exact ⟨rfl, by ((repeat' first | with_reducible exact Below.refl _ _ | with_reducible assumption | with_reducible refine Below.alloc ?_ ?_ _ | with_reducible refine Below.setCell ?_ ?_ _ | with_reducible apply Below.drew | with_reducible apply below_drewN | with_reducible refine below_call ?_ (by with_reducible assumption) ?_) <;> (first | omega | (simp; done) | (simp; omega) | (simp at *; omega)))⟩

end
end Go.Proofs.Ytpdfbkkhmfnnjaa

namespace Go.Proofs.Ytpdfbkkhmfnnjaa
open Go.RowKit
set_option linter.unusedVariables false
set_option linter.unusedSimpArgs false
set_option maxRecDepth 20000
attribute [local go_sem ↓] Go.wp_at_zero Go.wp_at_succ
attribute [local go_sem] World.cell?_alloc_some frozen_alloc_some
open Go.Sort Go.Lib

theorem ins_none {x : IdP} : ∀ {a : List IdP}, (∀ z ∈ a, ¬ idLt x z) → ins x a = a ++ [x]
  | [], _ => rfl
  | y :: a, h => by
    rw [ins, if_neg (h y (by simp)), ins_none fun z hz => h z (by simp [hz])]
    rfl
theorem ins_found {x y : IdP} : ∀ {a : List IdP}, (∃ z ∈ a, idLt x z) → ins x (a ++ [y]) = ins x a ++ [y]
  | [], h => by obtain ⟨z, hz, _⟩ := h; simp at hz
  | b :: a, h => by
    rw [List.cons_append, ins, ins]
    by_cases hb : idLt x b
    · rw [if_pos hb, if_pos hb]; rfl
    · rw [if_neg hb, if_neg hb, ins_found]
      · rfl
      · obtain ⟨z, hz, hx⟩ := h
        rcases List.mem_cons.1 hz with e | hz
        · subst e; exact absurd hx hb
        · exact ⟨z, hz, hx⟩
theorem ins_new {x y : IdP} (hy : idLt x y) : ∀ {a : List IdP}, (∀ z ∈ a, ¬ idLt x z) → ins x (a ++ [y]) = a ++ [x] ++ [y]
  | [], _ => by simp [ins, hy]
  | b :: a, h => by
    rw [List.cons_append, ins, if_neg (h b (by simp)), ins_new hy fun z hz => h z (by simp [hz])]
    simp
/-- Has the new one been laid behind the first i? -/
def laidBy (x : IdP) (l : List IdP) (i : Nat) : Bool := (l.take i).any fun z => decide (idLt x z)
def outBy (x : IdP) (l : List IdP) (i : Nat) : List IdP := if laidBy x l i then ins x (l.take i) else l.take i
theorem laidBy_iff {x : IdP} {l : List IdP} {i : Nat} : laidBy x l i = true ↔ ∃ z ∈ l.take i, idLt x z := by simp [laidBy]
theorem laidBy_no {x : IdP} {l : List IdP} {i : Nat} (h : laidBy x l i = false) : ∀ z ∈ l.take i, ¬ idLt x z := fun z hz hx => by
  have := laidBy_iff.2 ⟨z, hz, hx⟩
  rw [h] at this; cases this
theorem laidBy_step {x y : IdP} {l : List IdP} {i : Nat} (hy : l[i]? = some y) : laidBy x l (i + 1) = (laidBy x l i || decide (idLt x y)) := by
  unfold laidBy; rw [List.take_add_one, hy, List.any_append]; simp
theorem outBy_had {x y : IdP} {l : List IdP} {i : Nat} (hy : l[i]? = some y) (h : laidBy x l i = true) : outBy x l (i + 1) = outBy x l i ++ [y] := by
  unfold outBy
  rw [laidBy_step hy, h, Bool.true_or, if_pos rfl, if_pos rfl, List.take_add_one, hy]
  exact ins_found (laidBy_iff.1 h)
theorem outBy_new {x y : IdP} {l : List IdP} {i : Nat} (hy : l[i]? = some y) (h : laidBy x l i = false) (hx : idLt x y) : outBy x l (i + 1) = outBy x l i ++ [x] ++ [y] := by
  unfold outBy
  rw [laidBy_step hy, h, decide_eq_true hx]
  simp only [Bool.or_true, if_true, Bool.false_eq_true, if_false]
  rw [List.take_add_one, hy]
  exact ins_new hx (laidBy_no h)
theorem outBy_not {x y : IdP} {l : List IdP} {i : Nat} (hy : l[i]? = some y) (h : laidBy x l i = false) (hx : ¬ idLt x y) : outBy x l (i + 1) = outBy x l i ++ [y] := by
  unfold outBy
  rw [laidBy_step hy, h, decide_eq_false hx]
  simp only [Bool.or_false, Bool.false_eq_true, if_false]
  rw [List.take_add_one, hy]
  rfl
theorem outBy_end {x : IdP} {l : List IdP} : ins x l = if laidBy x l l.length then outBy x l l.length else outBy x l l.length ++ [x] := by
  unfold outBy
  cases h : laidBy x l l.length
  · simp only [Bool.false_eq_true, if_false, List.take_length]
    have := laidBy_no h
    rw [List.take_length] at this
    exact ins_none this
  · simp
theorem outBy_len {x : IdP} {l : List IdP} {i : Nat} : (outBy x l i).length ≤ i + 1 := by
  unfold outBy
  have h : (l.take i).length ≤ i := by rw [List.length_take]; omega
  split
  · rw [length_ins]; omega
  · omega
theorem own_keep {w w' : World} {base : Nat} {e : TypeId} {size : Nat} {v : Value} {n : Nat} {xs : List Value} (h : w.ownsRow base e size v n xs) (hb : Below w.heap.size w w') : w'.ownsRow base e size v n xs := by
  refine ⟨h.1, ?_⟩
  rcases h.2 with h0 | ⟨g, cap, cur, e1, hbs, hg, rest⟩
  · exact .inl h0
  · exact .inr ⟨g, cap, cur, e1, hbs, (hb.block g (Array.getElem?_eq_some_iff.1 hg).1).trans hg, rest⟩
/-- From a block that the call laid first: what lay ahead of it. -/
theorem below_w {w W : World} {o : Obj} (h : Below (w.heap.size + 1) (w.alloc o) W) : Below w.heap.size w W := ((Below.refl _ _).alloc (Nat.le_refl _) o).trans (h.mono (by omega))

theorem own_fresh {w : World} {base : Nat} {e : TypeId} {size : Nat} {A : Option Addr} {n m c : Nat} {xs : List Value} (h : w.ownsRow base e size (.slice A n c) m xs) : Fresh base A := fun ad ea => by
  rcases h.2 with ⟨h0, _⟩ | ⟨g, cap, cur, e1, hbs, _⟩
  · injection h0 with e1 e2 e3
    rw [ea] at e1; cases e1
  · injection e1 with e1 e2 e3
    rw [ea] at e1
    cases e1
    exact ⟨rfl, hbs⟩
set_option maxHeartbeats 8000000 in
theorem add5_fresh (A : Option Addr) (m c : Nat) (l : List IdP) (x1 x2 : Int) (w : World) (h1 : IdsAt w A m l) (hm : m ≤ 1000000) (hx1 : (Lit.int .i64 x1).wf = true) (hx2 : (Lit.int .i64 x2).wf = true) :
    Calls Try.prog 41 #[.slice A m c, .agg #[.int .i64 x1, .int .i64 x2]] w
      fun e w' => ∃ A' c', e = .returned (.slice A' (m + 1) c') ∧ IdsAt w' A' (m + 1) (ins (x1, x2) l) ∧ Fresh w.heap.size A' ∧ Below w.heap.size w w' := by
  have H1 := Lib.hid h1
  have Hm := Lib.hid h1.1
  have hwf : ∀ z ∈ ins (x1, x2) l, (Lit.int .i64 z.1).wf = true ∧ (Lit.int .i64 z.2).wf = true := fun z hz => by
    rcases mem_ins.1 hz with e | hz
    · subst e; exact ⟨hx1, hx2⟩
    · exact h1.wf z hz
  have Hwf := Lib.hid hwf
  have hle := fun a b c d W => less5_any a b c d W
  clear h1 hwf
  go_enter Try.func41, Try.ntmps41
  go_wp2_with fail
  go_loopw [5, 6, 7] (fun s5 s6 s7 wr => ∃ (i k c' : Nat) (A' : Option Addr), i ≤ m ∧ s7 = .int .i64 i ∧ s6 = .bool (laidBy (x1, x2) l i) ∧ s5 = .slice A' k c' ∧ k = (outBy (x1, x2) l i).length ∧ wr.ownsRow (w.heap.size + 1) 26 2 (.slice A' k c') k (flat2 (outBy (x1, x2) l i)) ∧ Below (w.heap.size + 1) (w.alloc (.cells #[.int .i64 x1, .int .i64 x2] 26)) wr) (fun s5 s6 s7 _ => m - (intOf s7).toNat)
  case atStart => exact ⟨0, 0, 0, none, by omega, rfl, by simp [laidBy], rfl, by simp [outBy, laidBy], by simp [outBy, laidBy, flat2]; exact World.ownsRow_nil _ _ _ _, Below.refl _ _⟩
  case round =>
    obtain ⟨i, k, c', A', hi, rfl, rfl, rfl, hk, hown, hb0⟩ := hrel
    have hbr := below_w hb0
    have hzr := hb0.size
    simp only [World.size_alloc] at hzr
    have t0 : wr.cell? ⟨w.heap.size, 0, none⟩ = some (.int .i64 x1) := (hb0.cell (p := ⟨w.heap.size, 0, none⟩) (by simp)).trans (new_cell w #[.int .i64 x1, .int .i64 x2] 26 0 rfl).1
    have t1 : wr.cell? ⟨w.heap.size, 1, none⟩ = some (.int .i64 x2) := (hb0.cell (p := ⟨w.heap.size, 1, none⟩) (by simp)).trans (new_cell w #[.int .i64 x1, .int .i64 x2] 26 1 rfl).1
    have hkm : k ≤ i + 1 := by rw [hk]; exact outBy_len
    by_cases hlt : i < m
    · obtain ⟨r, n, b, o, e1, _, _, rfl, pw0, pw1⟩ := H1.out.at_ hlt
      have E1 := Lib.hid e1
      have p0 := cell_keep hbr pw0
      have p1 := cell_keep hbr pw1
      have i0 : (0 : Int) ≤ (i : Int) := by omega
      have i1 : (i : Int) < (m : Int) := by omega
      have Hk := Lib.hid hk
      clear e1 hk
      have hpre : S4 ⟨w.heap.size, 0, none⟩ ⟨w.heap.size, 1, none⟩ ⟨b, o + i * 2, none⟩ ⟨b, o + i * 2 + 1, none⟩ (.int .i64 x1) (.int .i64 x2) (.int .i64 r) (.int .i64 n) wr := ⟨t0, t1, p0, p1⟩
      cases hD : laidBy (x1, x2) l i
      · have hl1 := fun W => hle x1 x2 r n W
        have HD := Lib.hid hD
        clear hD hle t0 t1 p0 p1
        by_cases hx : idLt (x1, x2) (r, n)
        · rw [decide_eq_true hx] at hl1
          have Hst := Lib.hid (laidBy_step E1.out (x := (x1, x2)))
          have Hout := Lib.hid (outBy_new E1.out HD.out hx)
          have Hst2 := Lib.hid (show laidBy (x1, x2) l (i + 1) = true from by rw [Hst.out, HD.out, decide_eq_true hx]; rfl)
          clear hx
          go_upto_region 6 with fail
          (refine wp_region_held_drew (S := (S4 ⟨w.heap.size, 0, none⟩ ⟨w.heap.size, 1, none⟩ ⟨b, o + i * 2, none⟩ ⟨b, o + i * 2 + 1, none⟩ (.int .i64 x1) (.int .i64 x2) (.int .i64 r) (.int .i64 n))) (by kernel_rfl) ?_ (fun hHeld => ?_); (· exact hpre.drew))
          (refine take_op (i := 0) (v := ?_) rfl (by kernel_rfl) (by kernel_rfl) (by kernel_rfl) (fun _ _ _ h => h) (by rfl) ?_ hHeld ?_; rotate_left; (· (intro wS hSw; (try dsimp only at hSw); go_simp; first | done | with_reducible rfl)); simp only [Act.put, List.setIfInBounds_toArray, List.set_cons_zero, List.set_cons_succ]); (refine take_op (i := 1) (v := ?_) rfl (by kernel_rfl) (by kernel_rfl) (by kernel_rfl) (fun _ _ _ h => h) (by rfl) ?_ hHeld ?_; rotate_left; (· (intro wS hSw; (try dsimp only at hSw); go_simp; first | done | with_reducible rfl)); simp only [Act.put, List.setIfInBounds_toArray, List.set_cons_zero, List.set_cons_succ]); (refine take_op (i := 2) (v := ?_) rfl (by kernel_rfl) (by kernel_rfl) (by kernel_rfl) (fun _ _ _ h => h) (by rfl) ?_ hHeld ?_; rotate_left; (· (intro wS hSw; (try dsimp only at hSw); go_simp; first | done | with_reducible rfl)); simp only [Act.put, List.setIfInBounds_toArray, List.set_cons_zero, List.set_cons_succ]); (refine take_op (i := 3) (v := ?_) rfl (by kernel_rfl) (by kernel_rfl) (by kernel_rfl) (fun _ _ _ h => h) (by rfl) ?_ hHeld ?_; rotate_left; (· (intro wS hSw; (try dsimp only at hSw); go_simp; first | done | with_reducible rfl)); simp only [Act.put, List.setIfInBounds_toArray, List.set_cons_zero, List.set_cons_succ]); (refine take_op (i := 4) (v := ?_) rfl (by kernel_rfl) (by kernel_rfl) (by kernel_rfl) (fun _ _ _ h => h) (by rfl) ?_ hHeld ?_; rotate_left; (· (intro wS hSw; (try dsimp only at hSw); go_simp; first | done | with_reducible rfl)); simp only [Act.put, List.setIfInBounds_toArray, List.set_cons_zero, List.set_cons_succ]); (refine take_op (i := 5) (v := ?_) rfl (by kernel_rfl) (by kernel_rfl) (by kernel_rfl) (fun _ _ _ h => h) (by rfl) ?_ hHeld ?_; rotate_left; (· (intro wS hSw; (try dsimp only at hSw); go_simp; first | done | with_reducible rfl)); simp only [Act.put, List.setIfInBounds_toArray, List.set_cons_zero, List.set_cons_succ]); (refine take_op (i := 6) (v := ?_) rfl (by kernel_rfl) (by kernel_rfl) (by kernel_rfl) (fun _ _ _ h => h) (by rfl) ?_ hHeld ?_; rotate_left; (· (intro wS hSw; (try dsimp only at hSw); go_simp; first | done | with_reducible rfl)); simp only [Act.put, List.setIfInBounds_toArray, List.set_cons_zero, List.set_cons_succ]); (refine take_op (i := 7) (v := ?_) rfl (by kernel_rfl) (by kernel_rfl) (by kernel_rfl) (fun _ _ _ h => h) (by rfl) ?_ hHeld ?_; rotate_left; (· (intro wS hSw; (try dsimp only at hSw); go_simp; first | done | with_reducible rfl)); simp only [Act.put, List.setIfInBounds_toArray, List.set_cons_zero, List.set_cons_succ])
          (refine call_op (i := 8) rfl (by kernel_rfl) (by rfl) (fun K hK => ?_); go_simp; (go_at_call 71; (with_reducible refine (hl1 _).mono ?_); rintro e w1 ⟨rfl, hb1⟩); refine hK.out _ _ (hHeld.keep hb1) (fun hHeld2 => ?_); clear hK K hHeld; have hHeld := hHeld2; clear hHeld2; (try simp only [Act.put, List.setIfInBounds_toArray, List.set_cons_zero, List.set_cons_succ]))
          (refine take_op (i := 9) (v := ?_) rfl (by kernel_rfl) (by kernel_rfl) (by kernel_rfl) (fun _ _ _ h => h) (by rfl) ?_ hHeld ?_; rotate_left; (· (intro wS hSw; (try dsimp only at hSw); go_simp; first | done | with_reducible rfl)); simp only [Act.put, List.setIfInBounds_toArray, List.set_cons_zero, List.set_cons_succ])
          (refine wpAnyH_done (by kernel_rfl) ?_ _)
          obtain ⟨t0, t1, p0, p1⟩ := hHeld
          have hb1' : Below wr.heap.size wr w1 := ((Below.refl _ _).drew).trans hb1
          replace hown := own_keep hown hb1'
          replace hb0 := hb0.trans (hb1'.mono hzr)
          have hz1 := hb0.size
          simp only [World.size_alloc] at hz1
          clear hb1 hb1' hpre hbr hzr
          go_wp2_with (first | (at_builtin; obtain ⟨i0, hi0, hz00, hz01, hz02⟩ := idinfo; (at_builtin; go_loud (refine wpList_app _ rfl (.tmp 24) (.tmp 26) 42 rfl _ 26 i0 _ 2 16 Try.underlying42 hi0 hz00 hz01 hz02 rfl (by omega) _ _ _ rfl (hown.alloc _) _ _ _ _ rfl src_two' ?h63 ?hby ?hbase ?_); (case h63 => (unfold maxLen; first | omega | (simp; done) | (simp; omega))); (case hby => first | omega | (simp; done) | (simp; omega)); (case hbase => first | omega | (simp; done) | (simp; omega)); intro v_w2' w2' hownw2' hgroww2' hatw2' holdw2'); clear hi0 hz00 hz01 hz02; have hb2 := below_app ((hb0).alloc (by omega) (.cells #[_, _] 26)) (hown.alloc _) hgroww2' (Nat.le_refl _) (by simp; omega); have hown2 : w2'.ownsRow (w.heap.size + 1) 26 2 v_w2' (k + 1) (flat2 ((outBy (x1, x2) l i ++ [(x1, x2)]))) := (by rw [flat2_append]; exact hownw2'); obtain ⟨A4, c4, rfl, _, _⟩ := own_form5 hown2; have hz2 := hb2.size; simp only [World.size_alloc] at hz2; have q0 := cell_keep (below_w hb2) pw0; have q1 := cell_keep (below_w hb2) pw1; skip) | (at_builtin; obtain ⟨i0, hi0, hz00, hz01, hz02⟩ := idinfo; (at_builtin; go_loud (refine wpList_app _ rfl (.tmp 28) (.tmp 33) 42 rfl _ 26 i0 _ 2 16 Try.underlying42 hi0 hz00 hz01 hz02 rfl (by omega) _ _ _ rfl (hown2.alloc _) _ _ _ _ rfl src_two' ?h63 ?hby ?hbase ?_); (case h63 => (unfold maxLen; first | omega | (simp; done) | (simp; omega))); (case hby => first | omega | (simp; done) | (simp; omega)); (case hbase => first | omega | (simp; done) | (simp; omega)); intro v_w3' w3' hownw3' hgroww3' hatw3' holdw3'); clear hi0 hz00 hz01 hz02; have hb3 := below_app ((hb2).alloc (by omega) (.cells #[_, _] 26)) (hown2.alloc _) hgroww3' (Nat.le_refl _) (by simp; omega); have hown3 : w3'.ownsRow (w.heap.size + 1) 26 2 v_w3' (k + 1 + 1) (flat2 ((outBy (x1, x2) l i ++ [(x1, x2)] ++ [(r, n)]))) := (by rw [flat2_append]; exact hownw3'); obtain ⟨A5, c5, rfl, _, _⟩ := own_form5 hown3; have hz3 := hb3.size; simp only [World.size_alloc] at hz3; skip))
          go_roundw
          case rel => exact ⟨i + 1, k + 1 + 1, c5, A5, by omega, by go_num, by rw [Hst2.out], rfl, by rw [Hout.out]; simp [Hk.out], by rw [Hout.out]; exact hown3, hb3⟩
          case measure => simp [intOf]; omega
        · rw [decide_eq_false hx] at hl1
          have Hout := Lib.hid (outBy_not E1.out HD.out hx)
          have Hst2 := Lib.hid (show laidBy (x1, x2) l (i + 1) = false from by rw [laidBy_step E1.out (x := (x1, x2)), HD.out, decide_eq_false hx]; rfl)
          clear hx
          go_upto_region 6 with fail
          (refine wp_region_held_drew (S := (S4 ⟨w.heap.size, 0, none⟩ ⟨w.heap.size, 1, none⟩ ⟨b, o + i * 2, none⟩ ⟨b, o + i * 2 + 1, none⟩ (.int .i64 x1) (.int .i64 x2) (.int .i64 r) (.int .i64 n))) (by kernel_rfl) ?_ (fun hHeld => ?_); (· exact hpre.drew))
          (refine take_op (i := 0) (v := ?_) rfl (by kernel_rfl) (by kernel_rfl) (by kernel_rfl) (fun _ _ _ h => h) (by rfl) ?_ hHeld ?_; rotate_left; (· (intro wS hSw; (try dsimp only at hSw); go_simp; first | done | with_reducible rfl)); simp only [Act.put, List.setIfInBounds_toArray, List.set_cons_zero, List.set_cons_succ]); (refine take_op (i := 1) (v := ?_) rfl (by kernel_rfl) (by kernel_rfl) (by kernel_rfl) (fun _ _ _ h => h) (by rfl) ?_ hHeld ?_; rotate_left; (· (intro wS hSw; (try dsimp only at hSw); go_simp; first | done | with_reducible rfl)); simp only [Act.put, List.setIfInBounds_toArray, List.set_cons_zero, List.set_cons_succ]); (refine take_op (i := 2) (v := ?_) rfl (by kernel_rfl) (by kernel_rfl) (by kernel_rfl) (fun _ _ _ h => h) (by rfl) ?_ hHeld ?_; rotate_left; (· (intro wS hSw; (try dsimp only at hSw); go_simp; first | done | with_reducible rfl)); simp only [Act.put, List.setIfInBounds_toArray, List.set_cons_zero, List.set_cons_succ]); (refine take_op (i := 3) (v := ?_) rfl (by kernel_rfl) (by kernel_rfl) (by kernel_rfl) (fun _ _ _ h => h) (by rfl) ?_ hHeld ?_; rotate_left; (· (intro wS hSw; (try dsimp only at hSw); go_simp; first | done | with_reducible rfl)); simp only [Act.put, List.setIfInBounds_toArray, List.set_cons_zero, List.set_cons_succ]); (refine take_op (i := 4) (v := ?_) rfl (by kernel_rfl) (by kernel_rfl) (by kernel_rfl) (fun _ _ _ h => h) (by rfl) ?_ hHeld ?_; rotate_left; (· (intro wS hSw; (try dsimp only at hSw); go_simp; first | done | with_reducible rfl)); simp only [Act.put, List.setIfInBounds_toArray, List.set_cons_zero, List.set_cons_succ]); (refine take_op (i := 5) (v := ?_) rfl (by kernel_rfl) (by kernel_rfl) (by kernel_rfl) (fun _ _ _ h => h) (by rfl) ?_ hHeld ?_; rotate_left; (· (intro wS hSw; (try dsimp only at hSw); go_simp; first | done | with_reducible rfl)); simp only [Act.put, List.setIfInBounds_toArray, List.set_cons_zero, List.set_cons_succ]); (refine take_op (i := 6) (v := ?_) rfl (by kernel_rfl) (by kernel_rfl) (by kernel_rfl) (fun _ _ _ h => h) (by rfl) ?_ hHeld ?_; rotate_left; (· (intro wS hSw; (try dsimp only at hSw); go_simp; first | done | with_reducible rfl)); simp only [Act.put, List.setIfInBounds_toArray, List.set_cons_zero, List.set_cons_succ]); (refine take_op (i := 7) (v := ?_) rfl (by kernel_rfl) (by kernel_rfl) (by kernel_rfl) (fun _ _ _ h => h) (by rfl) ?_ hHeld ?_; rotate_left; (· (intro wS hSw; (try dsimp only at hSw); go_simp; first | done | with_reducible rfl)); simp only [Act.put, List.setIfInBounds_toArray, List.set_cons_zero, List.set_cons_succ])
          (refine call_op (i := 8) rfl (by kernel_rfl) (by rfl) (fun K hK => ?_); go_simp; (go_at_call 71; (with_reducible refine (hl1 _).mono ?_); rintro e w1 ⟨rfl, hb1⟩); refine hK.out _ _ (hHeld.keep hb1) (fun hHeld2 => ?_); clear hK K hHeld; have hHeld := hHeld2; clear hHeld2; (try simp only [Act.put, List.setIfInBounds_toArray, List.set_cons_zero, List.set_cons_succ]))
          (refine take_op (i := 9) (v := ?_) rfl (by kernel_rfl) (by kernel_rfl) (by kernel_rfl) (fun _ _ _ h => h) (by rfl) ?_ hHeld ?_; rotate_left; (· (intro wS hSw; (try dsimp only at hSw); go_simp; first | done | with_reducible rfl)); simp only [Act.put, List.setIfInBounds_toArray, List.set_cons_zero, List.set_cons_succ])
          (refine wpAnyH_done (by kernel_rfl) ?_ _)
          obtain ⟨t0, t1, p0, p1⟩ := hHeld
          have hb1' : Below wr.heap.size wr w1 := ((Below.refl _ _).drew).trans hb1
          replace hown := own_keep hown hb1'
          replace hb0 := hb0.trans (hb1'.mono hzr)
          have hz1 := hb0.size
          simp only [World.size_alloc] at hz1
          clear hb1 hb1' hpre hbr hzr
          go_wp2_with (at_builtin; obtain ⟨i0, hi0, hz00, hz01, hz02⟩ := idinfo; (at_builtin; go_loud (refine wpList_app _ rfl (.tmp 28) (.tmp 33) 42 rfl _ 26 i0 _ 2 16 Try.underlying42 hi0 hz00 hz01 hz02 rfl (by omega) _ _ _ rfl (hown.alloc _) _ _ _ _ rfl src_two' ?h63 ?hby ?hbase ?_); (case h63 => (unfold maxLen; first | omega | (simp; done) | (simp; omega))); (case hby => first | omega | (simp; done) | (simp; omega)); (case hbase => first | omega | (simp; done) | (simp; omega)); intro v_w3' w3' hownw3' hgroww3' hatw3' holdw3'); clear hi0 hz00 hz01 hz02; have hb3 := below_app ((hb0).alloc (by omega) (.cells #[_, _] 26)) (hown.alloc _) hgroww3' (Nat.le_refl _) (by simp; omega); have hown3 : w3'.ownsRow (w.heap.size + 1) 26 2 v_w3' (k + 1) (flat2 ((outBy (x1, x2) l i ++ [(r, n)]))) := (by rw [flat2_append]; exact hownw3'); obtain ⟨A5, c5, rfl, _, _⟩ := own_form5 hown3; have hz3 := hb3.size; simp only [World.size_alloc] at hz3; skip)
          go_roundw
          case rel => exact ⟨i + 1, k + 1, c5, A5, by omega, by go_num, by rw [Hst2.out], rfl, by rw [Hout.out]; simp [Hk.out], by rw [Hout.out]; exact hown3, hb3⟩
          case measure => simp [intOf]; omega
      · have Hout := Lib.hid (outBy_had E1.out hD)
        have Hst2 := Lib.hid (show laidBy (x1, x2) l (i + 1) = true from by rw [laidBy_step E1.out (x := (x1, x2)), hD]; rfl)
        clear hD hle
        go_upto_region 6 with fail
        (refine wp_region_held_drew (S := (S4 ⟨w.heap.size, 0, none⟩ ⟨w.heap.size, 1, none⟩ ⟨b, o + i * 2, none⟩ ⟨b, o + i * 2 + 1, none⟩ (.int .i64 x1) (.int .i64 x2) (.int .i64 r) (.int .i64 n))) (by kernel_rfl) ?_ (fun hHeld => ?_); (· exact hpre.drew))
        (refine take_op (i := 0) (v := ?_) rfl (by kernel_rfl) (by kernel_rfl) (by kernel_rfl) (fun _ _ _ h => h) (by rfl) ?_ hHeld ?_; rotate_left; (· (intro wS hSw; (try dsimp only at hSw); go_simp; first | done | with_reducible rfl)); simp only [Act.put, List.setIfInBounds_toArray, List.set_cons_zero, List.set_cons_succ]); (refine take_op (i := 1) (v := ?_) rfl (by kernel_rfl) (by kernel_rfl) (by kernel_rfl) (fun _ _ _ h => h) (by rfl) ?_ hHeld ?_; rotate_left; (· (intro wS hSw; (try dsimp only at hSw); go_simp; first | done | with_reducible rfl)); simp only [Act.put, List.setIfInBounds_toArray, List.set_cons_zero, List.set_cons_succ]); (refine take_op (i := 2) (v := ?_) rfl (by kernel_rfl) (by kernel_rfl) (by kernel_rfl) (fun _ _ _ h => h) (by rfl) ?_ hHeld ?_; rotate_left; (· (intro wS hSw; (try dsimp only at hSw); go_simp; first | done | with_reducible rfl)); simp only [Act.put, List.setIfInBounds_toArray, List.set_cons_zero, List.set_cons_succ])
        (refine skip_op (i := 3) rfl (by kernel_rfl) (by kernel_rfl) (by kernel_rfl) (fun _ _ _ h => h) (by rfl) hHeld ?_; simp only [Act.put, List.setIfInBounds_toArray, List.set_cons_zero, List.set_cons_succ]); (refine skip_op (i := 4) rfl (by kernel_rfl) (by kernel_rfl) (by kernel_rfl) (fun _ _ _ h => h) (by rfl) hHeld ?_; simp only [Act.put, List.setIfInBounds_toArray, List.set_cons_zero, List.set_cons_succ]); (refine skip_op (i := 5) rfl (by kernel_rfl) (by kernel_rfl) (by kernel_rfl) (fun _ _ _ h => h) (by rfl) hHeld ?_; simp only [Act.put, List.setIfInBounds_toArray, List.set_cons_zero, List.set_cons_succ]); (refine skip_op (i := 6) rfl (by kernel_rfl) (by kernel_rfl) (by kernel_rfl) (fun _ _ _ h => h) (by rfl) hHeld ?_; simp only [Act.put, List.setIfInBounds_toArray, List.set_cons_zero, List.set_cons_succ]); (refine skip_op (i := 7) rfl (by kernel_rfl) (by kernel_rfl) (by kernel_rfl) (fun _ _ _ h => h) (by rfl) hHeld ?_; simp only [Act.put, List.setIfInBounds_toArray, List.set_cons_zero, List.set_cons_succ]); (refine skip_op (i := 8) rfl (by kernel_rfl) (by kernel_rfl) (by kernel_rfl) (fun _ _ _ h => h) (by rfl) hHeld ?_; simp only [Act.put, List.setIfInBounds_toArray, List.set_cons_zero, List.set_cons_succ])
        (refine take_op (i := 9) (v := ?_) rfl (by kernel_rfl) (by kernel_rfl) (by kernel_rfl) (fun _ _ _ h => h) (by rfl) ?_ hHeld ?_; rotate_left; (· (intro wS hSw; (try dsimp only at hSw); go_simp; first | done | with_reducible rfl)); simp only [Act.put, List.setIfInBounds_toArray, List.set_cons_zero, List.set_cons_succ])
        (refine wpAnyH_done (by kernel_rfl) ?_ _)
        replace hown := own_keep hown ((Below.refl _ _).drew)
        replace hb0 := hb0.drew
        rw [show wr.heap.size = wr.drew.heap.size from rfl] at hzr
        generalize wr.drew = wd at hHeld hown hb0 hzr ⊢
        obtain ⟨t0, t1, p0, p1⟩ := hHeld
        go_wp2_with (at_builtin; obtain ⟨i0, hi0, hz00, hz01, hz02⟩ := idinfo; (at_builtin; go_loud (refine wpList_app _ rfl (.tmp 28) (.tmp 33) 42 rfl _ 26 i0 _ 2 16 Try.underlying42 hi0 hz00 hz01 hz02 rfl (by omega) _ _ _ rfl (hown.alloc _) _ _ _ _ rfl src_two' ?h63 ?hby ?hbase ?_); (case h63 => (unfold maxLen; first | omega | (simp; done) | (simp; omega))); (case hby => first | omega | (simp; done) | (simp; omega)); (case hbase => first | omega | (simp; done) | (simp; omega)); intro v_w3' w3' hownw3' hgroww3' hatw3' holdw3'); clear hi0 hz00 hz01 hz02; have hb3 := below_app ((hb0).alloc (by omega) (.cells #[_, _] 26)) (hown.alloc _) hgroww3' (Nat.le_refl _) (by simp; omega); have hown3 : w3'.ownsRow (w.heap.size + 1) 26 2 v_w3' (k + 1) (flat2 ((outBy (x1, x2) l i ++ [(r, n)]))) := (by rw [flat2_append]; exact hownw3'); obtain ⟨A5, c5, rfl, _, _⟩ := own_form5 hown3; have hz3 := hb3.size; simp only [World.size_alloc] at hz3; skip)
        go_roundw
        case rel => exact ⟨i + 1, k + 1, c5, A5, by omega, by go_num, by rw [Hst2.out], rfl, by rw [Hout.out]; simp [Hk.out], by rw [Hout.out]; exact hown3, hb3⟩
        case measure => simp [intOf]; omega
    · have hil : i = l.length := by have := Hm.out; omega
      have hend := @outBy_end (x1, x2) l
      rw [← hil] at hend
      have ni : ¬ (i : Int) < (m : Int) := by omega
      cases hD : laidBy (x1, x2) l i
      · rw [hD] at hend
        simp only [Bool.false_eq_true, if_false] at hend
        have Hend := Lib.hid hend
        have Hk := Lib.hid hk
        clear hD hend hk
        go_wp2_with (at_builtin; obtain ⟨i0, hi0, hz00, hz01, hz02⟩ := idinfo; (at_builtin; go_loud (refine wpList_app _ rfl (.tmp 37) (.tmp 39) 42 rfl _ 26 i0 _ 2 16 Try.underlying42 hi0 hz00 hz01 hz02 rfl (by omega) _ _ _ rfl (hown.alloc _) _ _ _ _ rfl src_two' ?h63 ?hby ?hbase ?_); (case h63 => (unfold maxLen; first | omega | (simp; done) | (simp; omega))); (case hby => first | omega | (simp; done) | (simp; omega)); (case hbase => first | omega | (simp; done) | (simp; omega)); intro v_w3' w3' hownw3' hgroww3' hatw3' holdw3'); clear hi0 hz00 hz01 hz02; have hb3 := below_app ((hb0).alloc (by omega) (.cells #[_, _] 26)) (hown.alloc _) hgroww3' (Nat.le_refl _) (by simp; omega); have hown3 : w3'.ownsRow (w.heap.size + 1) 26 2 v_w3' (k + 1) (flat2 ((outBy (x1, x2) l i ++ [(x1, x2)]))) := (by rw [flat2_append]; exact hownw3'); obtain ⟨A5, c5, rfl, _, _⟩ := own_form5 hown3; have hz3 := hb3.size; simp only [World.size_alloc] at hz3; skip)
        go_ret
        have hlen : k + 1 = m + 1 := by
          have := congrArg List.length Hend.out
          rw [length_ins, List.length_append, ← Hk.out, ← Hm.out] at this
          simp at this; omega
        rw [← Hend.out, hlen] at hown3
        rw [hlen]
        obtain ⟨r1, _, _⟩ := ids_of_own hown3 (by unfold maxLen; omega) Hwf.out
        exact ⟨A5, ⟨c5, rfl⟩, r1, (own_fresh hown3).mono (by omega), below_w hb3⟩
      · rw [hD] at hend
        simp only [if_true] at hend
        have Hend := Lib.hid hend
        have Hk := Lib.hid hk
        have Hown := Lib.hid hown
        clear hD hend hk hown
        go_wp2_with fail
        go_ret
        have hlen : k = m + 1 := by
          have := congrArg List.length Hend.out
          rw [length_ins, ← Hk.out, ← Hm.out] at this
          omega
        have hown3 := Hown.out
        rw [← Hend.out, hlen] at hown3
        rw [hlen]
        obtain ⟨r1, _, _⟩ := ids_of_own hown3 (by unfold maxLen; omega) Hwf.out
        exact ⟨A', ⟨c', rfl⟩, r1, (own_fresh hown3).mono (by omega), hbr⟩
theorem add5_any (A : Option Addr) (m c : Nat) (l : List IdP) (x1 x2 : Int) (w : World) (h1 : IdsAt w A m l) (hm : m ≤ 1000000) (hx1 : (Lit.int .i64 x1).wf = true) (hx2 : (Lit.int .i64 x2).wf = true) :
    Calls Try.prog 41 #[.slice A m c, .agg #[.int .i64 x1, .int .i64 x2]] w
      fun e w' => ∃ A' c', e = .returned (.slice A' (m + 1) c') ∧ IdsAt w' A' (m + 1) (ins (x1, x2) l) ∧ Below w.heap.size w w' :=
  (add5_fresh A m c l x1 x2 w h1 hm hx1 hx2).mono fun e w' ⟨A', c', he, hI, _, hb⟩ => ⟨A', c', he, hI, hb⟩
end Go.Proofs.Ytpdfbkkhmfnnjaa

namespace Go.Proofs.Ytpdfbkkhmfnnjaa
open Go.RowKit
set_option linter.unusedVariables false
set_option linter.unusedSimpArgs false
set_option maxRecDepth 20000
attribute [local go_sem ↓] Go.wp_at_zero Go.wp_at_succ
attribute [local go_sem] World.cell?_alloc_some frozen_alloc_some
open Go.Sort Go.Lib

theorem take_fold {l : List IdP} {i : Nat} {y : IdP} (hy : l[i]? = some y) : idSet (l.take (i + 1)) = setStep (idSet (l.take i)) y := by
  unfold idSet
  rw [List.take_add_one, hy, List.foldl_append]
  rfl
theorem idSet_take_len {l : List IdP} {i : Nat} : (idSet (l.take i)).length ≤ i := by
  have := length_idSet (l.take i)
  rw [List.length_take] at this
  omega
set_option maxHeartbeats 4000000 in
theorem set5_fresh (A : Option Addr) (m c : Nat) (l : List IdP) (w : World) (h1 : IdsAt w A m l) (hm : m ≤ 1000000) :
    Calls Try.prog 21 #[.slice A m c] w
      fun e w' => ∃ A' c', e = .returned (.slice A' (idSet l).length c') ∧ IdsAt w' A' (idSet l).length (idSet l) ∧ Fresh w.heap.size A' ∧ Below w.heap.size w w' := by
  have H1 := Lib.hid h1
  have Hm := Lib.hid h1.1
  have hh := fun A' m' c' l' r n W (h : IdsAt W A' m' l') => has5_any A' m' c' l' r n W h
  have ha := fun A' m' c' l' r n W (h : IdsAt W A' m' l') h2 h3 h4 => add5_fresh A' m' c' l' r n W h h2 h3 h4
  have HH := Lib.hid hh
  have HA := Lib.hid ha
  clear h1 hh ha
  go_enter Try.func21, Try.ntmps21
  go_wp2_with fail
  go_loopw [3, 4] (fun s3 s4 wr => ∃ (i k c' : Nat) (A' : Option Addr), i ≤ m ∧ s4 = .int .i64 i ∧ s3 = .slice A' k c' ∧ k = (idSet (l.take i)).length ∧ IdsAt wr A' k (idSet (l.take i)) ∧ Fresh w.heap.size A' ∧ Below w.heap.size w wr) (fun s3 s4 _ => m - (intOf s4).toNat)
  case atStart => exact ⟨0, 0, 0, none, by omega, rfl, rfl, rfl, IdsAt.nil, fun ad h => (by cases h), by ((repeat' first | with_reducible exact Below.refl _ _ | with_reducible assumption | with_reducible refine Below.alloc ?_ ?_ _ | with_reducible refine Below.setCell ?_ ?_ _ | with_reducible apply Below.drew | with_reducible apply below_drewN | with_reducible refine below_call ?_ (by with_reducible assumption) ?_) <;> (first | omega | (simp; done) | (simp; omega) | (simp at *; omega)))⟩
  case round =>
    obtain ⟨i, k, c', A', hi, rfl, rfl, hk, hI, hF, hbr⟩ := hrel
    have F0 := Lib.hid hF
    clear hF
    have hzr := hbr.size
    have hkm : k ≤ i := by rw [hk]; exact idSet_take_len
    have Hk := Lib.hid hk
    have I0 := Lib.hid hI
    clear hk hI
    by_cases hlt : i < m
    · obtain ⟨r, n, b, o, e1, wr1, wn1, rfl, pw0, pw1⟩ := H1.out.at_ hlt
      have E1 := Lib.hid e1
      have p0 := cell_keep hbr pw0
      have p1 := cell_keep hbr pw1
      have i0 : (0 : Int) ≤ (i : Int) := by omega
      have i1 : (i : Int) < (m : Int) := by omega
      have Hf := Lib.hid (take_fold e1)
      clear e1
      by_cases hx : (r, n) ∈ idSet (l.take i)
      · have Hf2 := Lib.hid (show idSet (l.take (i + 1)) = idSet (l.take i) from by rw [Hf.out, setStep, if_pos hx])
        have h5 := fun W (hb : Below wr.heap.size wr W) => HH.out A' k c' _ r n W (I0.out.keep hb)
        rw [decide_eq_true hx] at h5
        clear hx
        go_wp2_with (go_at_call 40; (with_reducible refine (h5 _ (by ((repeat' first | with_reducible exact Below.refl _ _ | with_reducible assumption | with_reducible refine Below.alloc ?_ ?_ _ | with_reducible refine Below.setCell ?_ ?_ _ | with_reducible apply Below.drew | with_reducible apply below_drewN | with_reducible refine below_call ?_ (by with_reducible assumption) ?_) <;> (first | omega | (simp; done) | (simp; omega) | (simp at *; omega))))).mono ?_); rintro e w1 ⟨rfl, hb1⟩; have hz1 := hb1.size; (try simp at hz1))
        go_roundw
        case rel => exact ⟨i + 1, k, c', A', by omega, by go_num, rfl, by rw [Hf2.out]; exact Hk.out, by rw [Hf2.out]; exact I0.out.keep (by ((repeat' first | with_reducible exact Below.refl _ _ | with_reducible assumption | with_reducible refine Below.alloc ?_ ?_ _ | with_reducible refine Below.setCell ?_ ?_ _ | with_reducible apply Below.drew | with_reducible apply below_drewN | with_reducible refine below_call ?_ (by with_reducible assumption) ?_) <;> (first | omega | (simp; done) | (simp; omega) | (simp at *; omega)))), F0.out, by ((repeat' first | with_reducible exact Below.refl _ _ | with_reducible assumption | with_reducible refine Below.alloc ?_ ?_ _ | with_reducible refine Below.setCell ?_ ?_ _ | with_reducible apply Below.drew | with_reducible apply below_drewN | with_reducible refine below_call ?_ (by with_reducible assumption) ?_) <;> (first | omega | (simp; done) | (simp; omega) | (simp at *; omega)))⟩
        case measure => simp [intOf]; omega
      · have Hf2 := Lib.hid (show idSet (l.take (i + 1)) = ins (r, n) (idSet (l.take i)) from by rw [Hf.out, setStep, if_neg hx])
        have h5 := fun W (hb : Below wr.heap.size wr W) => HH.out A' k c' _ r n W (I0.out.keep hb)
        have h6 := fun W (hb : Below wr.heap.size wr W) => HA.out A' k c' _ r n W (I0.out.keep hb) (by omega) wr1 wn1
        rw [decide_eq_false hx] at h5
        clear hx
        go_wp2_with (first | (go_at_call 40; (with_reducible refine (h5 _ (by ((repeat' first | with_reducible exact Below.refl _ _ | with_reducible assumption | with_reducible refine Below.alloc ?_ ?_ _ | with_reducible refine Below.setCell ?_ ?_ _ | with_reducible apply Below.drew | with_reducible apply below_drewN | with_reducible refine below_call ?_ (by with_reducible assumption) ?_) <;> (first | omega | (simp; done) | (simp; omega) | (simp at *; omega))))).mono ?_); rintro e w1 ⟨rfl, hb1⟩; have hz1 := hb1.size; (try simp at hz1); have q0 := cell_keep hb1 p0; have q1 := cell_keep hb1 p1) | (go_at_call 41; (with_reducible refine (h6 _ (by ((repeat' first | with_reducible exact Below.refl _ _ | with_reducible assumption | with_reducible refine Below.alloc ?_ ?_ _ | with_reducible refine Below.setCell ?_ ?_ _ | with_reducible apply Below.drew | with_reducible apply below_drewN | with_reducible refine below_call ?_ (by with_reducible assumption) ?_) <;> (first | omega | (simp; done) | (simp; omega) | (simp at *; omega))))).mono ?_); rintro e w2 ⟨A4, c4, rfl, hI2, hF2, hb2⟩; have I2 := Lib.hid hI2; have F2 := Lib.hid hF2; clear hI2 hF2; have hz2 := hb2.size; (try simp at hz2)))
        go_roundw
        case rel => exact ⟨i + 1, k + 1, c4, A4, by omega, by go_num, rfl, by rw [Hf2.out, length_ins, Hk.out], by rw [Hf2.out]; exact I2.out, F2.out.mono (by omega), by ((repeat' first | with_reducible exact Below.refl _ _ | with_reducible assumption | with_reducible refine Below.alloc ?_ ?_ _ | with_reducible refine Below.setCell ?_ ?_ _ | with_reducible apply Below.drew | with_reducible apply below_drewN | with_reducible refine below_call ?_ (by with_reducible assumption) ?_) <;> (first | omega | (simp; done) | (simp; omega) | (simp at *; omega)))⟩
        case measure => simp [intOf]; omega
    · have ni : ¬ (i : Int) < (m : Int) := by omega
      have hall : l.take i = l := List.take_of_length_le (by have := Hm.out; omega)
      have Hall := Lib.hid hall
      clear hall
      go_wp2_with fail
      go_ret
      have h := I0.out
      have hk2 := Hk.out
      rw [Hall.out] at h hk2
      subst hk2
      exact ⟨A', ⟨c', rfl⟩, h, F0.out, hbr⟩
theorem set5_any (A : Option Addr) (m c : Nat) (l : List IdP) (w : World) (h1 : IdsAt w A m l) (hm : m ≤ 1000000) :
    Calls Try.prog 21 #[.slice A m c] w
      fun e w' => ∃ A' c', e = .returned (.slice A' (idSet l).length c') ∧ IdsAt w' A' (idSet l).length (idSet l) ∧ Below w.heap.size w w' :=
  (set5_fresh A m c l w h1 hm).mono fun e w' ⟨A', c', he, hI, _, hb⟩ => ⟨A', c', he, hI, hb⟩
end Go.Proofs.Ytpdfbkkhmfnnjaa
