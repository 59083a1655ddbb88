/- The walks of codec.Num, Text, List. -/
import Derived.Test.YtfdfcceleaodaaaDoorItems
import Derived.Lib.BufferMore
namespace Go.Proofs.YtfdfcceleaodaaaDoor
open Go.RowKit
set_option linter.unusedVariables false
set_option linter.unusedSimpArgs false
set_option maxRecDepth 20000
attribute [local go_sem ↓] Go.wp_at_zero Go.wp_at_succ
attribute [local go_sem] World.cell?_alloc_some frozen_alloc_some
attribute [local go_sem] lt2 lt3 lt4 lt5
attribute [local simp] lt2 lt3 lt4 lt5

def numV (n : Nat) : Value := .agg #[.int .i64 0, .int .u64 (n : Int), .string ByteArray.empty, .slice none 0 0]
def textV (s : ByteArray) : Value := .agg #[.int .i64 1, .int .u64 0, .string s, .slice none 0 0]
theorem holds_num (w : World) {n : Nat} (hn : n < 2 ^ 64) : Holds w (.mk 0 n ByteArray.empty []) (numV n) := (Items.nil w).node (by decide) hn (by decide)
theorem holds_text (w : World) {s : ByteArray} (hs : s.size ≤ maxLen) : Holds w (.mk 1 0 s []) (textV s) := (Items.nil w).node (n := 0) (by decide) (by decide) hs
theorem num_any (n : Nat) (w : World) : Calls Tryd.prog 38 #[.int .u64 (n : Int)] w (Gives w (numV n)) := by
  go_enter Tryd.func38, Tryd.ntmps38
  go_wp2_with fail
  refine bodyPost_ret (v := numV n) (by simp [results, Tryd.results38, go_sem, *, numV] <;> rfl) rfl ?_
  exact ⟨rfl, by ((repeat' first | with_reducible exact Below.refl _ _ | with_reducible assumption | with_reducible refine Below.alloc ?_ ?_ _ | with_reducible refine Below.setCell ?_ ?_ _ | with_reducible apply Below.drew | with_reducible apply below_drewN | with_reducible refine below_call ?_ (by with_reducible assumption) ?_) <;> (first | omega | (simp; done) | (simp; omega) | (simp at *; omega)))⟩
theorem codectext_any (s : ByteArray) (w : World) : Calls Tryd.prog 100 #[.string s] w (Gives w (textV s)) := by
  go_enter Tryd.func100, Tryd.ntmps100
  go_wp2_with fail
  refine bodyPost_ret (v := textV s) (by simp [results, Tryd.results100, go_sem, *, textV]) rfl ?_
  exact ⟨rfl, by ((repeat' first | with_reducible exact Below.refl _ _ | with_reducible assumption | with_reducible refine Below.alloc ?_ ?_ _ | with_reducible refine Below.setCell ?_ ?_ _ | with_reducible apply Below.drew | with_reducible apply below_drewN | with_reducible refine below_call ?_ (by with_reducible assumption) ?_) <;> (first | omega | (simp; done) | (simp; omega) | (simp at *; omega)))⟩
/-- A row of items of the call's own; the items' own lists are as they were in w0. -/
def Cloned (w0 w : World) (base : Nat) (v : Value) (m : Nat) (l : List Tree) : Prop :=
  m = l.length ∧ ∃ vs : Nat → Value, w.ownsRow base 26 4 v m (flat4 vs m) ∧ ∀ (i : Nat) (t : Tree), l[i]? = some t → Holds w0 t (vs i)
theorem Cloned.row {w0 w : World} {base : Nat} {v : Value} {m : Nat} {l : List Tree} (h : Cloned w0 w base v m l) (hb : Below w0.heap.size w0 w) : RowI w base v m l := by
  obtain ⟨h1, vs, h2, h3⟩ := h
  exact ⟨h1, vs, h2, fun i t ht => (h3 i t ht).keep hb⟩
theorem Cloned.set {w0 w : World} {base : Nat} {v : Value} {m : Nat} {l : List Tree} (h : Cloned w0 w base v m l) {p : Addr} (hp : p.block < base) (u : Value) : Cloned w0 (w.setCell p u) base v m l := by
  obtain ⟨h1, vs, h2, h3⟩ := h
  exact ⟨h1, vs, ownsRow_setCell_below h2 hp u, h3⟩
set_option maxHeartbeats 2000000 in
theorem clone_any (ad : Addr) (m c : Nat) (l : List Tree) (w0 w : World) (hb0 : Below w0.heap.size w0 w) (h : Items w0 (some ad) m c l) (hm : m ≤ 1000000000) :
    Calls Tryd.prog 101 #[.slice (some ad) m c] w (fun e w' => ∃ A' c', e = .returned (.slice A' m c') ∧ Cloned w0 w' w.heap.size (.slice A' m c') m l ∧ Below w.heap.size w w') := by
  obtain ⟨i1, hi, hz0, hz1, hz2⟩ := info_item
  have hk : Below w.heap.size w (w.alloc (.cells #[] 26)) := below_one _
  have hml := Lib.hid h.1
  have hnil := fun W : World => Lib.run_eql_slice_some_nil (P := Tryd.prog) W ad m c Tryd.underlying24
  obtain ⟨vs, hsrc0, hsub⟩ := h.src
  have hsrc := (hsrc0.keep hb0).keep hk
  have hown : (w.alloc (.cells #[] 26)).ownsRow w.heap.size 26 4 (.slice (some ⟨w.heap.size, 0, none⟩) 0 0) 0 [] := World.ownsRow_made w #[] 0 (Nat.le_refl _) (Nat.zero_le _) (by simp)
  go_enter Tryd.func101, Tryd.ntmps101
  go_wp2_with (at_builtin; go_loud (refine wpList_app _ rfl (.tmp 5) (.tmp 6) 24 rfl _ 26 i1 _ 4 56 Tryd.underlying24 hi hz0 hz1 hz2 rfl (by omega) _ _ _ rfl hown _ _ _ _ rfl hsrc ?h63 ?hby ?hbase ?_); (case h63 => (unfold maxLen; first | omega | (simp; done) | (simp; omega))); (case hby => first | omega | (simp; done) | (simp; omega)); (case hbase => first | omega | (simp; done) | (simp; omega)); intro v2 w2 hownw2 hgroww2 hatw2 holdw2)
  have hb2 := below_app hk hown hgroww2 (Nat.le_refl _) (by simp)
  have hcl : Cloned w0 w2 w.heap.size v2 m l := ⟨hml.out, vs, by simpa using hownw2, hsub⟩
  obtain ⟨A2, c2, rfl, _, _⟩ := (hcl.row (below_call hb0 hb2 hb0.size)).form
  go_ret
  exact ⟨_, _, rfl, hcl, hb2⟩
theorem codeclist_any (ad : Addr) (m c : Nat) (l : List Tree) (w : World) (h : Items w (some ad) m c l) (hm : m ≤ 1000000000) :
    Calls Tryd.prog 76 #[.slice (some ad) m c] w (fun e w' => ∃ v, e = .returned v ∧ Holds w' (.mk 2 0 ByteArray.empty l) v ∧ Below w.heap.size w w') := by
  have hcl : ∀ W, Below w.heap.size w W → Calls Tryd.prog 101 #[.slice (some ad) m c] W (fun e w' => ∃ A' c', e = .returned (.slice A' m c') ∧ Cloned w w' W.heap.size (.slice A' m c') m l ∧ Below W.heap.size W w') := fun W hb => clone_any ad m c l w W hb h hm
  clear h
  go_enter Tryd.func76, Tryd.ntmps76
  go_wp2_with fail
  refine (hcl _ (by ((repeat' first | with_reducible exact Below.refl _ _ | with_reducible assumption | with_reducible refine Below.alloc ?_ ?_ _ | with_reducible refine Below.setCell ?_ ?_ _ | with_reducible apply Below.drew | with_reducible apply below_drewN | with_reducible refine below_call ?_ (by with_reducible assumption) ?_) <;> (first | omega | (simp; done) | (simp; omega) | (simp at *; omega))))).mono ?_
  rintro e w1 ⟨A', c', rfl, hit, hb1⟩
  have hz1 := hb1.size
  simp at hz1
  obtain ⟨q0, r0⟩ := new_keep hb1 0 rfl
  obtain ⟨q1, r1⟩ := new_keep hb1 1 rfl
  obtain ⟨q2, r2⟩ := new_keep hb1 2 rfl
  obtain ⟨q3, r3⟩ := new_keep hb1 3 rfl
  simp only [World.size_alloc] at hit
  have Hit := Lib.hid hit
  clear hit
  go_wp2_with fail
  have hbw : Below w.heap.size w w1 := by ((repeat' first | with_reducible exact Below.refl _ _ | with_reducible assumption | with_reducible refine Below.alloc ?_ ?_ _ | with_reducible refine Below.setCell ?_ ?_ _ | with_reducible apply Below.drew | with_reducible apply below_drewN | with_reducible refine below_call ?_ (by with_reducible assumption) ?_) <;> (first | omega | (simp; done) | (simp; omega) | (simp at *; omega)))
  refine bodyPost_ret (v := .agg #[.int .i64 2, .int .u64 0, .string ByteArray.empty, .slice A' m c']) (by simp [results, Tryd.results76, go_sem, *] <;> rfl) rfl ?_
  have h4 := (((Hit.out.set (p := ⟨w.heap.size, 0, none⟩) (by simp) (.int .i64 2)).set (p := ⟨w.heap.size, 1, none⟩) (by simp) (.int .u64 0)).set (p := ⟨w.heap.size, 2, none⟩) (by simp) (.string ByteArray.empty)).set (p := ⟨w.heap.size, 3, none⟩) (by simp) (.slice A' m c')
  have hb4 : Below w.heap.size w ((((w1.setCell ⟨w.heap.size, 0, none⟩ (.int .i64 2)).setCell ⟨w.heap.size, 1, none⟩ (.int .u64 0)).setCell ⟨w.heap.size, 2, none⟩ (.string ByteArray.empty)).setCell ⟨w.heap.size, 3, none⟩ (.slice A' m c')) := by ((repeat' first | with_reducible exact Below.refl _ _ | with_reducible assumption | with_reducible refine Below.alloc ?_ ?_ _ | with_reducible refine Below.setCell ?_ ?_ _ | with_reducible apply Below.drew | with_reducible apply below_drewN | with_reducible refine below_call ?_ (by with_reducible assumption) ?_) <;> (first | omega | (simp; done) | (simp; omega) | (simp at *; omega)))
  exact ⟨_, rfl, (h4.row hb4).items.2.node (n := 0) (by decide) (by decide) (by decide), hb4⟩
end Go.Proofs.YtfdfcceleaodaaaDoor
