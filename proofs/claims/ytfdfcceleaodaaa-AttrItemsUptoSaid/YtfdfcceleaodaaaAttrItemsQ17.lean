/- Trees as values of type any: what the program's inner functions hand on. The walk of codec.tree: an item as a value of type any, or a panic with what is wrong. The walk of codec.lay: the form of a tree behind the bytes that are there. The deferred function codec.caught: for a frame that returns, and for one that panics with a fault. The walk of codec.Put. Items in a list: what a slice of them holds; a row of four cells each. The walks of codec.Num, Text, List. The walks of package stonecroplaw03: its example, and the law CodecPuts. -/
import Derived.Test.YtfdfcceleaodaaaAttrItemsQ15
import Derived.Test.YtfdfcceleaodaaaAttrItemsQ4
import Derived.Test.YtfdfcceleaodaaaAttrItemsQ11
import Derived.Laws.MakeOwn
import Derived.Defers
import Derived.Recover
import Derived.Lib.BufferMore
namespace Go.Proofs.Ytfdfcceleaodaaa
open Go.RowKit
set_option linter.unusedVariables false
set_option linter.unusedSimpArgs false
set_option maxRecDepth 20000
attribute [local go_sem ↓] Go.wp_at_zero Go.wp_at_succ
attribute [local go_sem] World.cell?_alloc_some frozen_alloc_some

theorem info_any : (Try.prog.info? 20).map (fun i => (i.zero, i.size, i.bytes)) = some (some .nilIface, 1, 16) := by kernel_rfl
theorem any_parts : ∃ i, Try.prog.info? 20 = some i ∧ i.zero = some .nilIface ∧ i.size = 1 ∧ i.bytes = 16 := by
  have h := info_any
  cases hi : Try.prog.info? 20 with
  | none => rw [hi] at h; cases h
  | some i =>
    rw [hi] at h
    simp at h
    exact ⟨i, rfl, h.1, h.2.1, h.2.2⟩
theorem made_any (n : Nat) : (madeCells (Value.nilIface).cells (n * 1)).size = n * 1 := by
  simp [madeCells]
end Go.Proofs.Ytfdfcceleaodaaa

namespace Go.Proofs.Ytfdfcceleaodaaa
open Go.RowKit
set_option linter.unusedVariables false
set_option linter.unusedSimpArgs false
set_option maxRecDepth 20000
attribute [local go_sem ↓] Go.wp_at_zero Go.wp_at_succ
attribute [local go_sem] World.cell?_alloc_some frozen_alloc_some
attribute [local go_sem] lt2 lt3 lt4 lt5
attribute [local simp] lt2 lt3 lt4 lt5

end Go.Proofs.Ytfdfcceleaodaaa

namespace Go.Proofs.Ytfdfcceleaodaaa
open Go.RowKit
set_option linter.unusedVariables false
set_option linter.unusedSimpArgs false
set_option maxRecDepth 20000
attribute [local go_sem ↓] Go.wp_at_zero Go.wp_at_succ
attribute [local go_sem] World.cell?_alloc_some frozen_alloc_some
attribute [local go_sem] lt2 lt3 lt4 lt5
attribute [local simp] lt2 lt3 lt4 lt5

@[go_sem] theorem as_nn (v : Value) (w : World) : (Instr.typeAssert (.iface 25 v) 20 25 true).run Try.prog w = .ok (.tuple #[v, .bool true]) w := by kernel_rfl
@[go_sem] theorem as_sn (v : Value) (w : World) : (Instr.typeAssert (.iface 9 v) 20 25 true).run Try.prog w = .ok (.tuple #[.int .u64 0, .bool false]) w := by kernel_rfl
@[go_sem] theorem as_ss (v : Value) (w : World) : (Instr.typeAssert (.iface 9 v) 20 9 true).run Try.prog w = .ok (.tuple #[v, .bool true]) w := by kernel_rfl
theorem tforms_take_len (l : List Tree) (j : Nat) : (tforms (l.take j)).length ≤ (tforms l).length := by
  conv => rhs; rw [← List.take_append_drop j l, tforms_append]
  simp
end Go.Proofs.Ytfdfcceleaodaaa

namespace Go.Proofs.Ytfdfcceleaodaaa
open Go.RowKit
set_option linter.unusedVariables false
set_option linter.unusedSimpArgs false
set_option maxRecDepth 20000
attribute [local go_sem ↓] Go.wp_at_zero Go.wp_at_succ
attribute [local go_sem] World.cell?_alloc_some frozen_alloc_some
attribute [local go_sem] lt2 lt3 lt4 lt5
attribute [local simp] lt2 lt3 lt4 lt5

end Go.Proofs.Ytfdfcceleaodaaa

namespace Go.Proofs.Ytfdfcceleaodaaa
open Go.RowKit
set_option linter.unusedVariables false
set_option linter.unusedSimpArgs false
set_option maxRecDepth 20000
attribute [local go_sem ↓] Go.wp_at_zero Go.wp_at_succ
attribute [local go_sem] World.cell?_alloc_some frozen_alloc_some
attribute [local go_sem] lt2 lt3 lt4 lt5
attribute [local simp] lt2 lt3 lt4 lt5

end Go.Proofs.Ytfdfcceleaodaaa

namespace Go.Proofs.Ytfdfcceleaodaaa
open Go.RowKit
set_option linter.unusedVariables false
set_option linter.unusedSimpArgs false
set_option maxRecDepth 20000
attribute [local go_sem ↓] Go.wp_at_zero Go.wp_at_succ
attribute [local go_sem] World.cell?_alloc_some frozen_alloc_some

/-- The slice holds the trees. -/
def Items (w : World) (A : Option Addr) (m c : Nat) (l : List Tree) : Prop :=
  m = l.length ∧ m ≤ c ∧ c ≤ maxLen ∧ ∃ vs : Nat → Value, (∀ i, i < m → ∃ ad, A = some ad ∧ ∀ j u, (vs i).cells[j]? = some u → w.cell? (ad.add (4 * i + j)) = some u) ∧ ∀ (i : Nat) (t : Tree), l[i]? = some t → Holds w t (vs i)
theorem Items.node {w : World} {A : Option Addr} {m c : Nat} {l : List Tree} (h : Items w A m c l) {k : Int} {n : Nat} {s : ByteArray} (hk : (Lit.int .i64 k).wf = true) (hn : n < 2 ^ 64) (hs : s.size ≤ maxLen) :
    Holds w (.mk k n s l) (.agg #[.int .i64 k, .int .u64 (n : Int), .string s, .slice A m c]) := by
  obtain ⟨h1, h2, h3, vs, h4, h5⟩ := h
  exact .mk k n s l A m c vs hk hn hs h1 h2 h3 h4 h5
theorem Holds.items {w : World} {k : Int} {n : Nat} {s : ByteArray} {l : List Tree} {A : Option Addr} {m c : Nat} {kk nn : Int} {ss : ByteArray} (h : Holds w (.mk k n s l) (.agg #[.int .i64 kk, .int .u64 nn, .string ss, .slice A m c])) : Items w A m c l := by
  cases h with
  | mk k n s l A m c vs hk hn hs hm hmc hc hcell hsub => exact ⟨hm, hmc, hc, vs, hcell, hsub⟩
theorem Items.nil (w : World) : Items w none 0 0 [] := ⟨rfl, Nat.le_refl _, Nat.zero_le _, fun _ => .nilIface, fun i hi => absurd hi (by omega), fun i t hi => by simp at hi⟩
theorem Items.keep {w w' : World} (hb : Below w.heap.size w w') {A : Option Addr} {m c : Nat} {l : List Tree} (h : Items w A m c l) : Items w' A m c l := by
  obtain ⟨h1, h2, h3, vs, h4, h5⟩ := h
  exact ⟨h1, h2, h3, vs, fun i hi => by
    obtain ⟨ad, e, hc⟩ := h4 i hi
    exact ⟨ad, e, fun j u hu => cell_keep hb (hc j u hu)⟩, fun i t hi => (h5 i t hi).keep hb⟩

/-- The cells of the first so many. -/
def flat4 (vs : Nat → Value) : Nat → List Value
  | 0 => []
  | m + 1 => flat4 vs m ++ (vs m).cells.toList
theorem Holds.four {w : World} {t : Tree} {v : Value} (h : Holds w t v) : v.cells.size = 4 ∧ ∀ u ∈ v.cells.toList, u.oneCell' = true := by
  cases h with
  | mk k n s l A m c vs hk hn hs hm hmc hc hcell hsub =>
    refine ⟨rfl, fun u hu => ?_⟩
    simp [Value.cells] at hu
    rcases hu with rfl | rfl | rfl | rfl <;> rfl
theorem flat4_length {vs : Nat → Value} {m : Nat} (h : ∀ i, i < m → (vs i).cells.size = 4) : (flat4 vs m).length = m * 4 := by
  induction m with
  | zero => rfl
  | succ m ih =>
    have h1 := ih fun i hi => h i (by omega)
    have h2 := h m (by omega)
    simp only [flat4, List.length_append, h1, Array.length_toList, h2]
    omega
theorem flat4_get {vs : Nat → Value} {m : Nat} (h : ∀ i, i < m → (vs i).cells.size = 4) {i j : Nat} (hi : i < m) (hj : j < 4) : (flat4 vs m)[4 * i + j]? = (vs i).cells[j]? := by
  induction m with
  | zero => omega
  | succ m ih =>
    have h0 := flat4_length (fun i hi => h i (by omega : i < m + 1)) (m := m)
    by_cases him : i < m
    · simp only [flat4]
      rw [List.getElem?_append_left (by omega)]
      exact ih (fun i hi => h i (by omega)) him
    · have : i = m := by omega
      subst this
      simp only [flat4]
      rw [List.getElem?_append_right (by omega), h0, show 4 * i + j - i * 4 = j by omega, Array.getElem?_toList]
theorem flat4_one {vs : Nat → Value} {m : Nat} (h : ∀ i, i < m → ∀ u ∈ (vs i).cells.toList, u.oneCell' = true) : ∀ u ∈ flat4 vs m, u.oneCell' = true := by
  induction m with
  | zero => intro u hu; cases hu
  | succ m ih =>
    intro u hu
    rcases List.mem_append.1 hu with hu | hu
    · exact ih (fun i hi => h i (by omega)) u hu
    · exact h m (by omega) u hu

/-- A row of its own of items: of the first trees of a list. -/
def RowI (w : World) (base : Nat) (v : Value) (m : Nat) (l : List Tree) : Prop :=
  m = l.length ∧ ∃ vs : Nat → Value, w.ownsRow base 28 4 v m (flat4 vs m) ∧ ∀ (i : Nat) (t : Tree), l[i]? = some t → Holds w t (vs i)
theorem RowI.form {w : World} {base : Nat} {v : Value} {m : Nat} {l : List Tree} (h : RowI w base v m l) : ∃ A c, v = .slice A m c ∧ m ≤ c ∧ c ≤ maxLen := by
  obtain ⟨_, vs, hown, _⟩ := h
  rcases hown.2 with ⟨rfl, hl⟩ | ⟨g, cap, cur, rfl, _, _, hle, hm, _⟩
  · exact ⟨none, 0, by rw [hl], by omega, Nat.zero_le _⟩
  · exact ⟨_, cap, rfl, hle, hm⟩
theorem RowI.items {w : World} {base : Nat} {A : Option Addr} {m k c : Nat} {l : List Tree} (h : RowI w base (.slice A k c) m l) : k = m ∧ Items w A m c l := by
  obtain ⟨A', c', e, hmc, hc⟩ := h.form
  injection e with e1 e2 e3
  subst e1 e2 e3
  obtain ⟨hm, vs, hown, hsub⟩ := h
  have h4 : ∀ i, i < k → (vs i).cells.size = 4 := fun i hi => (hsub i l[i] (List.getElem?_eq_getElem (by omega))).four.1
  refine ⟨rfl, hm, hmc, hc, vs, fun i hi => ?_, hsub⟩
  rcases hown.2 with ⟨_, hl⟩ | ⟨g, cap, cur, hv, _⟩
  · omega
  · injection hv with hv _ _
    subst hv
    refine ⟨_, rfl, fun j u hu => ?_⟩
    have hj : j < 4 := by
      rw [← h4 i hi]
      exact (Array.getElem?_eq_some_iff.1 hu).1
    refine hown.cells (g := g) rfl (4 * i + j) u ?_
    rw [flat4_get h4 hi hj]; exact hu
/-- What a slice of items holds, as the source of an append. -/
theorem Items.src {w : World} {A : Option Addr} {m c : Nat} {l : List Tree} (h : Items w A m c l) : ∃ vs : Nat → Value, Src w 4 A m (flat4 vs m) ∧ ∀ (i : Nat) (t : Tree), l[i]? = some t → Holds w t (vs i) := by
  obtain ⟨hm, _, _, vs, hc, hsub⟩ := h
  have h4 : ∀ i, i < m → (vs i).cells.size = 4 ∧ ∀ u ∈ (vs i).cells.toList, u.oneCell' = true := fun i hi => (hsub i l[i] (List.getElem?_eq_getElem (by omega))).four
  refine ⟨vs, ⟨flat4_length fun i hi => (h4 i hi).1, fun q u hq => ?_, flat4_one fun i hi => (h4 i hi).2⟩, hsub⟩
  have hlen := flat4_length fun i hi => (h4 i hi).1
  have hql : q < m * 4 := by
    rw [← hlen]
    rcases Nat.lt_or_ge q (flat4 vs m).length with h | h
    · exact h
    · rw [List.getElem?_eq_none h] at hq; cases hq
  have hq2 : q = 4 * (q / 4) + q % 4 := by omega
  have hi : q / 4 < m := by omega
  obtain ⟨ad, e, hcell⟩ := hc (q / 4) hi
  refine ⟨ad, e, ?_⟩
  rw [hq2] at hq ⊢
  rw [flat4_get (fun i hi => (h4 i hi).1) hi (by omega)] at hq
  exact hcell _ _ hq
theorem Src.keep {w w' : World} {size : Nat} {A : Option Addr} {m : Nat} {news : List Value} (h : Src w size A m news) (hb : Below w.heap.size w w') : Src w' size A m news :=
  ⟨h.1, fun j u hj => by
    obtain ⟨ad, e, hc⟩ := h.2.1 j u hj
    exact ⟨ad, e, cell_keep hb hc⟩, h.2.2⟩
theorem info_item : ∃ i, Try.prog.info? 28 = some i ∧ i.zero = some (.agg #[.int .i64 0, .int .u64 0, .string ByteArray.empty, .slice none 0 0]) ∧ i.size = 4 ∧ i.bytes = 56 := by
  have h : (Try.prog.info? 28).map (fun i => (i.zero, i.size, i.bytes)) = some (some (.agg #[.int .i64 0, .int .u64 0, .string ByteArray.empty, .slice none 0 0]), 4, 56) := by kernel_rfl
  cases hi : Try.prog.info? 28 with
  | none => rw [hi] at h; cases h
  | some i =>
    rw [hi] at h
    simp at h
    exact ⟨i, rfl, h.1, h.2.1, h.2.2⟩
end Go.Proofs.Ytfdfcceleaodaaa

namespace Go.Proofs.Ytfdfcceleaodaaa
open Go.RowKit
set_option linter.unusedVariables false
set_option linter.unusedSimpArgs false
set_option maxRecDepth 20000
attribute [local go_sem ↓] Go.wp_at_zero Go.wp_at_succ
attribute [local go_sem] World.cell?_alloc_some frozen_alloc_some
attribute [local go_sem] lt2 lt3 lt4 lt5
attribute [local simp] lt2 lt3 lt4 lt5

def numV (n : Nat) : Value := .agg #[.int .i64 0, .int .u64 (n : Int), .string ByteArray.empty, .slice none 0 0]
def textV (s : ByteArray) : Value := .agg #[.int .i64 1, .int .u64 0, .string s, .slice none 0 0]
theorem holds_num (w : World) {n : Nat} (hn : n < 2 ^ 64) : Holds w (.mk 0 n ByteArray.empty []) (numV n) := (Items.nil w).node (by decide) hn (by decide)
theorem holds_text (w : World) {s : ByteArray} (hs : s.size ≤ maxLen) : Holds w (.mk 1 0 s []) (textV s) := (Items.nil w).node (n := 0) (by decide) (by decide) hs
theorem num_any (n : Nat) (w : World) : Calls Try.prog 26 #[.int .u64 (n : Int)] w (Gives w (numV n)) := by
  go_enter Try.func26, Try.ntmps26
  go_wp2_with fail
  refine bodyPost_ret (v := numV n) (by simp [results, Try.results26, go_sem, *, numV] <;> rfl) rfl ?_
  exact ⟨rfl, by ((repeat' first | with_reducible exact Below.refl _ _ | with_reducible assumption | with_reducible refine Below.alloc ?_ ?_ _ | with_reducible refine Below.setCell ?_ ?_ _ | with_reducible apply Below.drew | with_reducible apply below_drewN | with_reducible refine below_call ?_ (by with_reducible assumption) ?_) <;> (first | omega | (simp; done) | (simp; omega) | (simp at *; omega)))⟩
/-- A row of items of the call's own; the items' own lists are as they were in w0. -/
def Cloned (w0 w : World) (base : Nat) (v : Value) (m : Nat) (l : List Tree) : Prop :=
  m = l.length ∧ ∃ vs : Nat → Value, w.ownsRow base 28 4 v m (flat4 vs m) ∧ ∀ (i : Nat) (t : Tree), l[i]? = some t → Holds w0 t (vs i)
theorem Cloned.row {w0 w : World} {base : Nat} {v : Value} {m : Nat} {l : List Tree} (h : Cloned w0 w base v m l) (hb : Below w0.heap.size w0 w) : RowI w base v m l := by
  obtain ⟨h1, vs, h2, h3⟩ := h
  exact ⟨h1, vs, h2, fun i t ht => (h3 i t ht).keep hb⟩
theorem Cloned.set {w0 w : World} {base : Nat} {v : Value} {m : Nat} {l : List Tree} (h : Cloned w0 w base v m l) {p : Addr} (hp : p.block < base) (u : Value) : Cloned w0 (w.setCell p u) base v m l := by
  obtain ⟨h1, vs, h2, h3⟩ := h
  exact ⟨h1, vs, ownsRow_setCell_below h2 hp u, h3⟩
set_option maxHeartbeats 2000000 in
theorem clone_any (ad : Addr) (m c : Nat) (l : List Tree) (w0 w : World) (hb0 : Below w0.heap.size w0 w) (h : Items w0 (some ad) m c l) (hm : m ≤ 1000000000) :
    Calls Try.prog 43 #[.slice (some ad) m c] w (fun e w' => ∃ A' c', e = .returned (.slice A' m c') ∧ Cloned w0 w' w.heap.size (.slice A' m c') m l ∧ Below w.heap.size w w') := by
  obtain ⟨i1, hi, hz0, hz1, hz2⟩ := info_item
  have hk : Below w.heap.size w (w.alloc (.cells #[] 28)) := below_one _
  have hml := Lib.hid h.1
  have hnil := fun W : World => Lib.run_eql_slice_some_nil (P := Try.prog) W ad m c Try.underlying26
  obtain ⟨vs, hsrc0, hsub⟩ := h.src
  have hsrc := (hsrc0.keep hb0).keep hk
  have hown : (w.alloc (.cells #[] 28)).ownsRow w.heap.size 28 4 (.slice (some ⟨w.heap.size, 0, none⟩) 0 0) 0 [] := World.ownsRow_made w #[] 0 (Nat.le_refl _) (Nat.zero_le _) (by simp)
  go_enter Try.func43, Try.ntmps43
  go_wp2_with (at_builtin; go_loud (refine wpList_app _ rfl (.tmp 5) (.tmp 6) 26 rfl _ 28 i1 _ 4 56 Try.underlying26 hi hz0 hz1 hz2 rfl (by omega) _ _ _ rfl hown _ _ _ _ rfl hsrc ?h63 ?hby ?hbase ?_); (case h63 => (unfold maxLen; first | omega | (simp; done) | (simp; omega))); (case hby => first | omega | (simp; done) | (simp; omega)); (case hbase => first | omega | (simp; done) | (simp; omega)); intro v2 w2 hownw2 hgroww2 hatw2 holdw2)
  have hb2 := below_app hk hown hgroww2 (Nat.le_refl _) (by simp)
  have hcl : Cloned w0 w2 w.heap.size v2 m l := ⟨hml.out, vs, by simpa using hownw2, hsub⟩
  obtain ⟨A2, c2, rfl, _, _⟩ := (hcl.row (below_call hb0 hb2 hb0.size)).form
  go_ret
  exact ⟨_, _, rfl, hcl, hb2⟩
theorem codeclist_any (ad : Addr) (m c : Nat) (l : List Tree) (w : World) (h : Items w (some ad) m c l) (hm : m ≤ 1000000000) :
    Calls Try.prog 25 #[.slice (some ad) m c] w (fun e w' => ∃ v, e = .returned v ∧ Holds w' (.mk 2 0 ByteArray.empty l) v ∧ Below w.heap.size w w') := by
  have hcl : ∀ W, Below w.heap.size w W → Calls Try.prog 43 #[.slice (some ad) m c] W (fun e w' => ∃ A' c', e = .returned (.slice A' m c') ∧ Cloned w w' W.heap.size (.slice A' m c') m l ∧ Below W.heap.size W w') := fun W hb => clone_any ad m c l w W hb h hm
  clear h
  go_enter Try.func25, Try.ntmps25
  go_wp2_with fail
  refine (hcl _ (by ((repeat' first | with_reducible exact Below.refl _ _ | with_reducible assumption | with_reducible refine Below.alloc ?_ ?_ _ | with_reducible refine Below.setCell ?_ ?_ _ | with_reducible apply Below.drew | with_reducible apply below_drewN | with_reducible refine below_call ?_ (by with_reducible assumption) ?_) <;> (first | omega | (simp; done) | (simp; omega) | (simp at *; omega))))).mono ?_
  rintro e w1 ⟨A', c', rfl, hit, hb1⟩
  have hz1 := hb1.size
  simp at hz1
  obtain ⟨q0, r0⟩ := new_keep hb1 0 rfl
  obtain ⟨q1, r1⟩ := new_keep hb1 1 rfl
  obtain ⟨q2, r2⟩ := new_keep hb1 2 rfl
  obtain ⟨q3, r3⟩ := new_keep hb1 3 rfl
  simp only [World.size_alloc] at hit
  have Hit := Lib.hid hit
  clear hit
  go_wp2_with fail
  have hbw : Below w.heap.size w w1 := by ((repeat' first | with_reducible exact Below.refl _ _ | with_reducible assumption | with_reducible refine Below.alloc ?_ ?_ _ | with_reducible refine Below.setCell ?_ ?_ _ | with_reducible apply Below.drew | with_reducible apply below_drewN | with_reducible refine below_call ?_ (by with_reducible assumption) ?_) <;> (first | omega | (simp; done) | (simp; omega) | (simp at *; omega)))
  refine bodyPost_ret (v := .agg #[.int .i64 2, .int .u64 0, .string ByteArray.empty, .slice A' m c']) (by simp [results, Try.results25, go_sem, *] <;> rfl) rfl ?_
  have h4 := (((Hit.out.set (p := ⟨w.heap.size, 0, none⟩) (by simp) (.int .i64 2)).set (p := ⟨w.heap.size, 1, none⟩) (by simp) (.int .u64 0)).set (p := ⟨w.heap.size, 2, none⟩) (by simp) (.string ByteArray.empty)).set (p := ⟨w.heap.size, 3, none⟩) (by simp) (.slice A' m c')
  have hb4 : Below w.heap.size w ((((w1.setCell ⟨w.heap.size, 0, none⟩ (.int .i64 2)).setCell ⟨w.heap.size, 1, none⟩ (.int .u64 0)).setCell ⟨w.heap.size, 2, none⟩ (.string ByteArray.empty)).setCell ⟨w.heap.size, 3, none⟩ (.slice A' m c')) := by ((repeat' first | with_reducible exact Below.refl _ _ | with_reducible assumption | with_reducible refine Below.alloc ?_ ?_ _ | with_reducible refine Below.setCell ?_ ?_ _ | with_reducible apply Below.drew | with_reducible apply below_drewN | with_reducible refine below_call ?_ (by with_reducible assumption) ?_) <;> (first | omega | (simp; done) | (simp; omega) | (simp at *; omega)))
  exact ⟨_, rfl, (h4.row hb4).items.2.node (n := 0) (by decide) (by decide) (by decide), hb4⟩
end Go.Proofs.Ytfdfcceleaodaaa

namespace Go.Proofs.Ytfdfcceleaodaaa
open Go.RowKit
set_option linter.unusedVariables false
set_option linter.unusedSimpArgs false
set_option maxRecDepth 20000
attribute [local go_sem ↓] Go.wp_at_zero Go.wp_at_succ
attribute [local go_sem] World.cell?_alloc_some frozen_alloc_some
attribute [local go_sem] lt2 lt3 lt4 lt5
attribute [local simp] lt2 lt3 lt4 lt5

theorem items_block {w : World} {g m : Nat} {e : TypeId} {fr : Nat × Nat} {vs : Nat → Value} {l : List Tree} (hb : w.heap[g]? = some (.cells (flat4 vs m).toArray e fr)) (hm : m = l.length) (hmm : m ≤ maxLen)
    (h : ∀ (i : Nat) (t : Tree), l[i]? = some t → Holds w t (vs i)) : Items w (some ⟨g, 0, none⟩) m m l :=
  ⟨hm, Nat.le_refl _, hmm, vs, fun i hi => ⟨_, rfl, fun j u hu => by
    have h4 : ∀ i, i < m → (vs i).cells.size = 4 := fun i hi => (h i l[i] (List.getElem?_eq_getElem (by omega))).four.1
    have hj : j < 4 := by rw [← h4 i hi]; exact (Array.getElem?_eq_some_iff.1 hu).1
    have hadd : (⟨g, 0, none⟩ : Addr).add (4 * i + j) = ⟨g, 4 * i + j, none⟩ := by unfold Addr.add; split <;> simp_all
    rw [hadd, cell_of_row w g _ _ e fr hb, List.getElem?_toArray, flat4_get h4 hi hj]
    exact hu⟩, h⟩
theorem check_pair (a b : Tree) (d : Nat) : checks [a, b] d = if check a d = 0 then (if check b d = 0 then 0 else check b d) else check a d := by simp [checks]
theorem Puts.below {w w' : World} {k : IntKind} {e : TypeId} {l : List Nat} {err : Nat} {r : Ending} (h : Puts w k e l err r w') : Below w.heap.size w w' := by
  obtain ⟨v, _, _, hb⟩ := h; exact hb

def tA : Tree := .mk 2 0 ByteArray.empty [.mk 0 5 ByteArray.empty [], .mk 1 0 ⟨#[97]⟩ []]
theorem form_small {v : Nat} (h : v < 248) : form v = [v] := by unfold form; rw [if_pos h]
theorem tA_form : tform tA = [2, 2, 0, 5, 1, 1, 97] := by
  simp only [tA, tform, tforms]
  have h1 : (ByteArray.mk #[97]).size = 1 := rfl
  have h2 : txt (ByteArray.mk #[97]) = [97] := rfl
  simp [h1, h2, form_small]
theorem tA_check : check tA 0 = 0 := by
  have h1 : (ByteArray.mk #[97]).size = 1 := rfl
  have h2 : ByteArray.empty.size = 0 := rfl
  simp [tA, check, checks, bad, h1, h2]
theorem tA_err : perr tA = 0 := by simp [perr, tA_check, tA_form]
theorem tA_put : pform tA = [2, 2, 0, 5, 1, 1, 97] := by simp [pform, tA_err, tA_form]
theorem tA_size : tsize tA ≤ 10 := by
  have h1 : (ByteArray.mk #[97]).size = 1 := rfl
  have h2 : ByteArray.empty.size = 0 := rfl
  simp [tA, tsize, tsizes, h1, h2]

end Go.Proofs.Ytfdfcceleaodaaa
