/- Small words that all of this seat's walks share: what a call gives back while nothing that was there turns. No statement of its own. -/
import Derived.Test.YtpdfbkkhmfnnjaaProg
import Derived.WalkKit
import Derived.WalkSpells
import Derived.WalkLawsBesides
import Derived.Deep.RegionHeld3
import Derived.Deep.DrawnRows
import Derived.Deep.DeepCutAuto
import Derived.Deep.DeepFit
import Derived.Lib.Hide
import Derived.BigQuiet
import Derived.Deep.QuietTactic
namespace Go.Proofs.Ytpdfbkkhmfnnjaa
open Go.RowKit

/-- The call gives v, and nothing that was there has turned. -/
def Gives (w : World) (v : Value) (e : Ending) (w' : World) : Prop := e = .returned v ∧ Below w.heap.size w w'

theorem keeps {W w1 : World} (hb : Below W.heap.size W w1) :
    (∀ b o, b < W.heap.size → w1.cell? ⟨b, o, none⟩ = W.cell? ⟨b, o, none⟩) ∧ (∀ b o, b < W.heap.size → w1.frozen? ⟨b, o, none⟩ = W.frozen? ⟨b, o, none⟩) :=
  ⟨fun b o h => hb.cell (p := ⟨b, o, none⟩) h, fun b o h => hb.frozen (p := ⟨b, o, none⟩) h⟩
theorem below_call {B : Nat} {w W w1 : World} (h : Below B w W) (hb : Below W.heap.size W w1) (hB : B ≤ W.heap.size) : Below B w w1 := h.trans (hb.mono hB)
theorem below_drewN {B : Nat} {a w : World} (h : Below B a w) (n : Nat) : Below B a (w.drewN n) := ⟨h.os, h.tape, h.output, h.size, h.block⟩
theorem ret_int {k : IntKind} {a b : Int} (h : a = b) : Ending.returned (.int k a) = .returned (.int k b) := by rw [h]
theorem ret_bool {a b : Bool} (h : a = b) : Ending.returned (.bool a) = .returned (.bool b) := by rw [h]
theorem wf_i64 {a : Int} (h : (Lit.int .i64 a).wf = true) : -9223372036854775808 ≤ a ∧ a ≤ 9223372036854775807 := by
  simpa [Lit.wf, IntKind.min, IntKind.max, IntKind.signed, IntKind.bits] using h
theorem wf_u8 {a : Int} (h : (Lit.int .u8 a).wf = true) : 0 ≤ a ∧ a ≤ 255 := by
  simpa [Lit.wf, IntKind.min, IntKind.max, IntKind.signed, IntKind.bits] using h
theorem wf_u32 {a : Int} (h : (Lit.int .u32 a).wf = true) : 0 ≤ a ∧ a ≤ 4294967295 := by
  simpa [Lit.wf, IntKind.min, IntKind.max, IntKind.signed, IntKind.bits] using h
theorem wf_u64 {a : Int} (h : (Lit.int .u64 a).wf = true) : 0 ≤ a ∧ a ≤ 18446744073709551615 := by
  simpa [Lit.wf, IntKind.min, IntKind.max, IntKind.signed, IntKind.bits] using h
theorem frozen_alloc_some (w : World) (a : Addr) (o : Obj) (h : (w.cell? a).isSome = true) : (w.alloc o).frozen? a = w.frozen? a := by
  obtain ⟨u, hu⟩ := Option.isSome_iff_exists.1 h
  exact World.frozen?_alloc_past _ _ _ (World.block_lt_of_cell? w a hu)
/-- A slice of n integers that came in, nil let in: what its elements read as. -/
def Ints (k : IntKind) (w : World) (A : Option Addr) (n : Nat) (zs : List Int) : Prop :=
  n ≤ maxLen ∧ n ≤ zs.length ∧ ∀ i, i < n → ∃ ad, A = some ad ∧ w.cell? (ad.add i) = some (.int k (zs.getD i 0)) ∧ (Lit.int k (zs.getD i 0)).wf = true
theorem Ints.below {k : IntKind} {w w' : World} {A : Option Addr} {n : Nat} {zs : List Int} (h : Ints k w A n zs) (hb : Below w.heap.size w w') : Ints k w' A n zs :=
  ⟨h.1, h.2.1, fun i hi => by
    obtain ⟨ad, e, hc, hw⟩ := h.2.2 i hi
    exact ⟨ad, e, (hb.cell (World.block_lt_of_cell? _ _ hc)).trans hc, hw⟩⟩
theorem cell_keep {W w1 : World} {a : Addr} {v : Value} (hb : Below W.heap.size W w1) (h : W.cell? a = some v) : w1.cell? a = some v :=
  (hb.cell (World.block_lt_of_cell? _ _ h)).trans h
theorem frozen_keep {W w1 : World} {a : Addr} {v : Value} {b : Bool} (hb : Below W.heap.size W w1) (h : W.cell? a = some v) (hf : W.frozen? a = b) : w1.frozen? a = b :=
  (hb.frozen (World.block_lt_of_cell? _ _ h)).trans hf
theorem cell_alloc {w : World} {a : Addr} {v : Value} {o : Obj} (h : w.cell? a = some v) : (w.alloc o).cell? a = some v :=
  (World.cell?_alloc_lt _ _ _ (World.block_lt_of_cell? _ _ h)).trans h
theorem frozen_alloc {w : World} {a : Addr} {v : Value} {b : Bool} {o : Obj} (h : w.cell? a = some v) (hf : w.frozen? a = b) : (w.alloc o).frozen? a = b :=
  (frozen_alloc_some w a o (by simp [h])).trans hf
theorem cell_restore {w : World} {a : Addr} {v : Value} {o o' : Obj} (h : (w.alloc o).cell? a = some v) (hne : a.block ≠ w.heap.size) : (w.alloc o').cell? a = some v := by
  have hl := World.block_lt_of_cell? _ _ h
  simp at hl
  have h1 : w.cell? a = some v := by rw [← h]; exact (World.cell?_alloc_lt _ _ _ (by omega)).symm
  exact cell_alloc h1
theorem cell_far {w : World} {a p : Addr} {v u : Value} (h : w.cell? a = some v) (hne : p.block ≠ a.block) : (w.setCell p u).cell? a = some v :=
  (World.cell?_setCell_far w p a u hne).trans h
theorem new_cell (w : World) (c : Array Value) (t : TypeId) (i : Nat) {v : Value} (h : c[i]? = some v) : (w.alloc (.cells c t)).cell? ⟨w.heap.size, i, none⟩ = some v ∧ (w.alloc (.cells c t)).frozen? ⟨w.heap.size, i, none⟩ = false := by
  refine ⟨?_, by simp [go_sem]⟩
  rw [World.cell?_alloc_new]; exact h
/-- A block that the region itself has laid ahead of a call is still there behind it. -/
theorem new_keep {w w1 : World} {c : Array Value} {t : TypeId} (hb : Below (w.alloc (.cells c t)).heap.size (w.alloc (.cells c t)) w1) (i : Nat) {v : Value} (h : c[i]? = some v) :
    w1.cell? ⟨w.heap.size, i, none⟩ = some v ∧ w1.frozen? ⟨w.heap.size, i, none⟩ = false :=
  ⟨cell_keep hb (new_cell w c t i h).1, frozen_keep hb (new_cell w c t i h).1 (new_cell w c t i h).2⟩
theorem new_keep_drew {w w1 : World} {c : Array Value} {t : TypeId} (hb : Below (w.alloc (.cells c t)).drew.heap.size (w.alloc (.cells c t)).drew w1) (i : Nat) {v : Value} (h : c[i]? = some v) :
    w1.cell? ⟨w.heap.size, i, none⟩ = some v ∧ w1.frozen? ⟨w.heap.size, i, none⟩ = false :=
  ⟨cell_keep hb (new_cell w c t i h).1, frozen_keep hb (new_cell w c t i h).1 (new_cell w c t i h).2⟩
theorem frozen_restore {w : World} {a : Addr} {b : Bool} {o o' : Obj} (h : (w.alloc o).frozen? a = b) (hne : a.block ≠ w.heap.size) : (w.alloc o').frozen? a = b :=
  (World.frozen?_alloc_old w o' a hne).trans ((World.frozen?_alloc_old w o a hne).symm.trans h)
theorem getD_mem {zs : List Int} {i : Nat} (h : i < zs.length) : zs.getD i 0 ∈ zs := by
  simp [List.getD, List.getElem?_eq_getElem h]
theorem ints_nil {k : IntKind} {w : World} : Ints k w none 0 [] := ⟨Nat.zero_le _, Nat.le_refl _, fun i hi => absurd hi (by omega)⟩
theorem ints_row {k : IntKind} {w : World} {x : Addr} {n : Nat} {zs : List Int} (h1 : n ≤ maxLen) (h2 : n ≤ zs.length)
    (hc : ∀ i, i < zs.length → w.cell? (x.add i) = some (.int k (zs.getD i 0))) (hw : ∀ m ∈ zs, (Lit.int k m).wf = true) : Ints k w (some x) n zs :=
  ⟨h1, h2, fun i hi => ⟨x, rfl, hc i (by omega), hw _ (getD_mem (by omega))⟩⟩
/-- Block g is just the cells cs, none frozen. -/
def Blk (w : World) (g : Nat) (t : TypeId) (cs : Array Value) : Prop := w.heap[g]? = some (.cells cs t (0, 0))
section
variable {w w' : World} {g : Nat} {t : TypeId} {cs : Array Value}
theorem Blk.lt (h : Blk w g t cs) : g < w.heap.size := by
  rcases Nat.lt_or_ge g w.heap.size with hlt | hge
  · exact hlt
  · unfold Blk at h; rw [Array.getElem?_eq_none hge] at h; cases h
theorem Blk.cell (h : Blk w g t cs) (i : Nat) : w.cell? ⟨g, i, none⟩ = cs[i]? := cell_of_row w g i cs t (0, 0) h
theorem Blk.frozen (h : Blk w g t cs) (i : Nat) : w.frozen? ⟨g, i, none⟩ = false := by
  unfold Blk at h
  simp [World.frozen?, h]
theorem Blk.new (w : World) (t : TypeId) (cs : Array Value) : Blk (w.alloc (.cells cs t)) w.heap.size t cs := heap_alloc_new w _
theorem Blk.alloc (h : Blk w g t cs) (o : Obj) : Blk (w.alloc o) g t cs := (Below.heap_alloc w o g h.lt).trans h
theorem Blk.set_ (h : Blk w g t cs) (i : Nat) (u : Value) : Blk (w.setCell ⟨g, i, none⟩ u) g t (cs.setIfInBounds i u) := by
  unfold Blk at h ⊢
  simp [World.setCell, Array.getElem?_modify, h]
theorem Blk.far (h : Blk w g t cs) {p : Addr} (hp : g ≠ p.block) (u : Value) : Blk (w.setCell p u) g t cs := (Below.heap_setCell w p u g hp).trans h
theorem Blk.below {B : Nat} (h : Blk w g t cs) (hb : Below B w w') (hg : g < B) : Blk w' g t cs := (hb.block g hg).trans h
theorem Blk.keep (h : Blk w g t cs) (hb : Below w.heap.size w w') : Blk w' g t cs := (hb.block g h.lt).trans h
end
theorem setCells_blk {g : Nat} {t : TypeId} : ∀ (l : List Value) (o : Nat) (w : World) (cs : Array Value), Blk w g t cs → ∃ cs', Blk (w.setCells g o l) g t cs' ∧ cs'.size = cs.size
  | [], _, w, cs, h => ⟨cs, h, rfl⟩
  | v :: l, o, w, cs, h => by
    obtain ⟨cs', h1, h2⟩ := setCells_blk l (o + 1) _ _ (h.set_ o v)
    exact ⟨cs', h1, by simpa using h2⟩
theorem Blk.setCells {w : World} {g : Nat} {t : TypeId} {cs cs' : Array Value} (h : Blk w g t cs) (hs : cs'.size = cs.size) : Blk (w.setCells g 0 cs'.toList) g t cs' := by
  obtain ⟨c2, h2, hz⟩ := setCells_blk cs'.toList 0 w cs h
  have : c2 = cs' := by
    apply Array.ext (by omega)
    intro i h3 h4
    apply Option.some.inj
    rw [← Array.getElem?_eq_getElem, ← Array.getElem?_eq_getElem, ← h2.cell i]
    have := World.cell?_setCells_in g cs'.toList 0 w (fun j hj => by
      rw [h.cell]; simp at hj; simp; omega) i (by simpa using h4)
    rw [Nat.zero_add] at this
    rw [this, Array.getElem?_eq_getElem h4]
    rfl
  rw [this] at h2
  exact h2
theorem below_setCells {B g : Nat} (hg : B ≤ g) : ∀ (l : List Value) (o : Nat) {a w : World}, Below B a w → Below B a (w.setCells g o l)
  | [], _, _, _, h => h
  | _ :: l, o, _, _, h => below_setCells hg l (o + 1) (h.setCell hg _)
theorem Blk.there {w : World} {g : Nat} {t : TypeId} {cs : Array Value} (h : Blk w g t cs) {n : Nat} (hn : n ≤ cs.size) : w.there g 0 n := fun j hj => by
  rw [Nat.zero_add, h.cell, h.frozen]
  exact ⟨by simp; omega, rfl⟩
/-- A slice of n bytes, nil let in, that reads as the list l. -/
def Bytes (w : World) (A : Option Addr) (n : Nat) (l : List Nat) : Prop :=
  n = l.length ∧ n ≤ maxLen ∧ ∀ (i c : Nat), l[i]? = some c → c < 256 ∧ ∃ ad, A = some ad ∧ w.cell? (ad.add i) = some (.int .u8 (c : Int))
theorem Bytes.keep {w w' : World} {A : Option Addr} {n : Nat} {l : List Nat} (h : Bytes w A n l) (hb : Below w.heap.size w w') : Bytes w' A n l :=
  ⟨h.1, h.2.1, fun i c hi => by
    obtain ⟨hc, ad, e, hcell⟩ := h.2.2 i c hi
    exact ⟨hc, ad, e, cell_keep hb hcell⟩⟩
theorem Bytes.lt {w : World} {A : Option Addr} {n : Nat} {l : List Nat} (h : Bytes w A n l) : ∀ c ∈ l, c < 256 := fun c hc => by
  obtain ⟨i, hi⟩ := List.getElem?_of_mem hc
  exact (h.2.2 i c hi).1
theorem Bytes.none_ {w : World} : Bytes w none 0 [] := ⟨rfl, Nat.zero_le _, fun i c h => by simp at h⟩
theorem Bytes.at_ {w : World} {A : Option Addr} {n : Nat} {l : List Nat} (h : Bytes w A n l) {k : Nat} (hk : k < n) :
    ∃ ad c, A = some ad ∧ l[k]? = some c ∧ c < 256 ∧ w.cell? (ad.add k) = some (.int .u8 (c : Int)) := by
  have hl : k < l.length := by have := h.1; omega
  obtain ⟨hc, ad, e, hcell⟩ := h.2.2 k l[k] (List.getElem?_eq_getElem hl)
  exact ⟨ad, l[k], e, List.getElem?_eq_getElem hl, hc, hcell⟩
theorem add_of_add (a : Addr) (i j : Nat) : (a.add i).add j = a.add (i + j) := by
  unfold Addr.add
  by_cases hi : i = 0 <;> by_cases hj : j = 0 <;> simp [hi, hj, Nat.add_assoc]
theorem Bytes.cutTo {w : World} {A : Option Addr} {n : Nat} {l : List Nat} (h : Bytes w A n l) {k : Nat} (hk : k ≤ n) : Bytes w A k (l.take k) :=
  ⟨by rw [List.length_take]; have := h.1; omega, by have := h.2.1; omega, fun i c hi => by
    rw [List.getElem?_take] at hi
    split at hi
    · exact h.2.2 i c hi
    · cases hi⟩
theorem Bytes.cutFrom {w : World} {A : Option Addr} {n : Nat} {l : List Nat} (h : Bytes w A n l) {k cap : Nat} (hk : k ≤ n) (hc : n ≤ cap) :
    Bytes w (if cap = k then A else A.map (·.add k)) (n - k) (l.drop k) :=
  ⟨by rw [List.length_drop, h.1], by have := h.2.1; omega, fun i c hi => by
    rw [List.getElem?_drop] at hi
    obtain ⟨h1, ad, rfl, hcell⟩ := h.2.2 (k + i) c hi
    have : k + i < l.length := by
      rcases Nat.lt_or_ge (k + i) l.length with h2 | h2
      · exact h2
      · rw [List.getElem?_eq_none h2] at hi; cases hi
    have := h.1
    rw [if_neg (by omega)]
    exact ⟨h1, ad.add k, rfl, by rw [add_of_add]; exact hcell⟩⟩
theorem Bytes.of_ints {w : World} {A : Option Addr} {n : Nat} {zs : List Int} (h : Ints .u8 w A n zs) : Bytes w A n ((zs.take n).map Int.toNat) :=
  ⟨by rw [List.length_map, List.length_take]; have := h.2.1; omega, h.1, fun i c hi => by
    rw [List.getElem?_map, List.getElem?_take] at hi
    split at hi
    · rename_i hlt
      obtain ⟨ad, e, hcell, hwf⟩ := h.2.2 i hlt
      have hl : i < zs.length := by have := h.2.1; omega
      have hz : zs.getD i 0 = zs[i] := by simp [List.getD, List.getElem?_eq_getElem hl]
      rw [hz] at hcell hwf
      rw [List.getElem?_eq_getElem hl] at hi
      simp only [Option.map_some, Option.some.injEq] at hi
      have hb := wf_u8 hwf
      subst hi
      exact ⟨by omega, ad, e, by rw [hcell]; congr 2; omega⟩
    · cases hi⟩
/-- A slice of n byte slices that read as the lists ls. -/
def Texts (w : World) (A : Option Addr) (n : Nat) (ls : List (List Nat)) : Prop :=
  n = ls.length ∧ n ≤ maxLen ∧ ∀ (i : Nat) (l : List Nat), ls[i]? = some l → ∃ ad B m c, A = some ad ∧ w.cell? (ad.add i) = some (.slice B m c) ∧ Bytes w B m l
theorem Texts.keep {w w' : World} {A : Option Addr} {n : Nat} {ls : List (List Nat)} (h : Texts w A n ls) (hb : Below w.heap.size w w') : Texts w' A n ls :=
  ⟨h.1, h.2.1, fun i l hi => by
    obtain ⟨ad, B, m, c, e, hcell, hl⟩ := h.2.2 i l hi
    exact ⟨ad, B, m, c, e, cell_keep hb hcell, hl.keep hb⟩⟩
theorem lt2 (n : Nat) : n < n + 1 + 1 := by omega
theorem lt3 (n : Nat) : n < n + 1 + 1 + 1 := by omega
theorem lt4 (n : Nat) : n < n + 1 + 1 + 1 + 1 := by omega
theorem lt5 (n : Nat) : n < n + 1 + 1 + 1 + 1 + 1 := by omega
end Go.Proofs.Ytpdfbkkhmfnnjaa
