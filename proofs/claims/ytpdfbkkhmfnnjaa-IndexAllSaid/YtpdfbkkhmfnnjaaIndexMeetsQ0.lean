/- Small words that all of this seat's walks share: what a call gives back while nothing that was there turns. No statement of its own. Sets of ids, in plain Lean: their order, the set of a list, what is joined; no program in sight. A struct of six one-cell fields, by value, opened. append onto a row of the call's own, from whatever source: what the new slice owns, where it lies, and that the old slice still reads as it did. A command, opened; its cells. Rows of bytes that the call itself made: one store; make. Rows of bytes that a call hands on: what a function that appends to its argument gives back. The contracts of the library's functions at this dump, laid by the shelf's own tool in plain declarations. What turns: all but some blocks is as it was. Maps that the call has made, of any keys and elements: what they hold. Ids as keys of maps. A region that draws its order, walked by hand: what yields in every world that meets S is taken first, in the order that the text names; a step whose guard does not hold is passed over; a call is carried out where it alone may come up. Lists of ids in memory, attributes by value; the opening of those that came in. A row of ids of the call's own, cell by cell. Ids held against one another: ==, slices.Equal, ids.Equal, attr.Same. A call that only lays blocks and draws: in the sort's own words. The walk of stonecropref06.Great (few imports). -/
import Derived.Test.YtpdfbkkhmfnnjaaProg
import Derived.WalkKit
import Derived.WalkSpells
import Derived.WalkLawsBesides
import Derived.Deep.RegionHeld3
import Derived.Deep.DrawnRows
import Derived.Deep.DeepCutAuto
import Derived.Deep.DeepFit
import Derived.Lib.Hide
import Derived.BigQuiet
import Derived.Deep.QuietTactic
import Derived.Lib.SmallJoins
import Derived.Maps.AppendAt
import Derived.Deep.AppendLies
import Derived.Deep.RegionLaw
import Derived.ProofKit
import Derived.ShutString
import Derived.ChangeOld
import Derived.Shelf.Small.Wraps
import Derived.Shelf.Strconv.Itoa0
import Derived.Shelf.Strings.Prefix
import Derived.Maps.Views
import Derived.Maps.Own
import Derived.Maps.OwnOps
import Derived.Maps.OwnSet
import Derived.Maps.RangeWalk
import Derived.Maps.Keyed
import Derived.StringKeys
import Derived.Carry
import Derived.DeepKeys4
import Derived.Sort.Grow
import Derived.Deep.Draws
namespace Go.Proofs.Ytpdfbkkhmfnnjaa
open Go.RowKit

/-- The call gives v, and nothing that was there has turned. -/
def Gives (w : World) (v : Value) (e : Ending) (w' : World) : Prop := e = .returned v ∧ Below w.heap.size w w'

theorem keeps {W w1 : World} (hb : Below W.heap.size W w1) :
    (∀ b o, b < W.heap.size → w1.cell? ⟨b, o, none⟩ = W.cell? ⟨b, o, none⟩) ∧ (∀ b o, b < W.heap.size → w1.frozen? ⟨b, o, none⟩ = W.frozen? ⟨b, o, none⟩) :=
  ⟨fun b o h => hb.cell (p := ⟨b, o, none⟩) h, fun b o h => hb.frozen (p := ⟨b, o, none⟩) h⟩
theorem below_call {B : Nat} {w W w1 : World} (h : Below B w W) (hb : Below W.heap.size W w1) (hB : B ≤ W.heap.size) : Below B w w1 := h.trans (hb.mono hB)
theorem below_drewN {B : Nat} {a w : World} (h : Below B a w) (n : Nat) : Below B a (w.drewN n) := ⟨h.os, h.tape, h.output, h.size, h.block⟩
theorem ret_int {k : IntKind} {a b : Int} (h : a = b) : Ending.returned (.int k a) = .returned (.int k b) := by rw [h]
theorem ret_bool {a b : Bool} (h : a = b) : Ending.returned (.bool a) = .returned (.bool b) := by rw [h]
theorem wf_i64 {a : Int} (h : (Lit.int .i64 a).wf = true) : -9223372036854775808 ≤ a ∧ a ≤ 9223372036854775807 := by
  simpa [Lit.wf, IntKind.min, IntKind.max, IntKind.signed, IntKind.bits] using h
theorem wf_u8 {a : Int} (h : (Lit.int .u8 a).wf = true) : 0 ≤ a ∧ a ≤ 255 := by
  simpa [Lit.wf, IntKind.min, IntKind.max, IntKind.signed, IntKind.bits] using h
theorem wf_u32 {a : Int} (h : (Lit.int .u32 a).wf = true) : 0 ≤ a ∧ a ≤ 4294967295 := by
  simpa [Lit.wf, IntKind.min, IntKind.max, IntKind.signed, IntKind.bits] using h
theorem wf_u64 {a : Int} (h : (Lit.int .u64 a).wf = true) : 0 ≤ a ∧ a ≤ 18446744073709551615 := by
  simpa [Lit.wf, IntKind.min, IntKind.max, IntKind.signed, IntKind.bits] using h
theorem frozen_alloc_some (w : World) (a : Addr) (o : Obj) (h : (w.cell? a).isSome = true) : (w.alloc o).frozen? a = w.frozen? a := by
  obtain ⟨u, hu⟩ := Option.isSome_iff_exists.1 h
  exact World.frozen?_alloc_past _ _ _ (World.block_lt_of_cell? w a hu)
/-- A slice of n integers that came in, nil let in: what its elements read as. -/
def Ints (k : IntKind) (w : World) (A : Option Addr) (n : Nat) (zs : List Int) : Prop :=
  n ≤ maxLen ∧ n ≤ zs.length ∧ ∀ i, i < n → ∃ ad, A = some ad ∧ w.cell? (ad.add i) = some (.int k (zs.getD i 0)) ∧ (Lit.int k (zs.getD i 0)).wf = true
theorem Ints.below {k : IntKind} {w w' : World} {A : Option Addr} {n : Nat} {zs : List Int} (h : Ints k w A n zs) (hb : Below w.heap.size w w') : Ints k w' A n zs :=
  ⟨h.1, h.2.1, fun i hi => by
    obtain ⟨ad, e, hc, hw⟩ := h.2.2 i hi
    exact ⟨ad, e, (hb.cell (World.block_lt_of_cell? _ _ hc)).trans hc, hw⟩⟩
theorem cell_keep {W w1 : World} {a : Addr} {v : Value} (hb : Below W.heap.size W w1) (h : W.cell? a = some v) : w1.cell? a = some v :=
  (hb.cell (World.block_lt_of_cell? _ _ h)).trans h
theorem frozen_keep {W w1 : World} {a : Addr} {v : Value} {b : Bool} (hb : Below W.heap.size W w1) (h : W.cell? a = some v) (hf : W.frozen? a = b) : w1.frozen? a = b :=
  (hb.frozen (World.block_lt_of_cell? _ _ h)).trans hf
theorem cell_alloc {w : World} {a : Addr} {v : Value} {o : Obj} (h : w.cell? a = some v) : (w.alloc o).cell? a = some v :=
  (World.cell?_alloc_lt _ _ _ (World.block_lt_of_cell? _ _ h)).trans h
theorem frozen_alloc {w : World} {a : Addr} {v : Value} {b : Bool} {o : Obj} (h : w.cell? a = some v) (hf : w.frozen? a = b) : (w.alloc o).frozen? a = b :=
  (frozen_alloc_some w a o (by simp [h])).trans hf
theorem cell_restore {w : World} {a : Addr} {v : Value} {o o' : Obj} (h : (w.alloc o).cell? a = some v) (hne : a.block ≠ w.heap.size) : (w.alloc o').cell? a = some v := by
  have hl := World.block_lt_of_cell? _ _ h
  simp at hl
  have h1 : w.cell? a = some v := by rw [← h]; exact (World.cell?_alloc_lt _ _ _ (by omega)).symm
  exact cell_alloc h1
theorem cell_far {w : World} {a p : Addr} {v u : Value} (h : w.cell? a = some v) (hne : p.block ≠ a.block) : (w.setCell p u).cell? a = some v :=
  (World.cell?_setCell_far w p a u hne).trans h
theorem new_cell (w : World) (c : Array Value) (t : TypeId) (i : Nat) {v : Value} (h : c[i]? = some v) : (w.alloc (.cells c t)).cell? ⟨w.heap.size, i, none⟩ = some v ∧ (w.alloc (.cells c t)).frozen? ⟨w.heap.size, i, none⟩ = false := by
  refine ⟨?_, by simp [go_sem]⟩
  rw [World.cell?_alloc_new]; exact h
/-- A block that the region itself has laid ahead of a call is still there behind it. -/
theorem new_keep {w w1 : World} {c : Array Value} {t : TypeId} (hb : Below (w.alloc (.cells c t)).heap.size (w.alloc (.cells c t)) w1) (i : Nat) {v : Value} (h : c[i]? = some v) :
    w1.cell? ⟨w.heap.size, i, none⟩ = some v ∧ w1.frozen? ⟨w.heap.size, i, none⟩ = false :=
  ⟨cell_keep hb (new_cell w c t i h).1, frozen_keep hb (new_cell w c t i h).1 (new_cell w c t i h).2⟩
theorem new_keep_drew {w w1 : World} {c : Array Value} {t : TypeId} (hb : Below (w.alloc (.cells c t)).drew.heap.size (w.alloc (.cells c t)).drew w1) (i : Nat) {v : Value} (h : c[i]? = some v) :
    w1.cell? ⟨w.heap.size, i, none⟩ = some v ∧ w1.frozen? ⟨w.heap.size, i, none⟩ = false :=
  ⟨cell_keep hb (new_cell w c t i h).1, frozen_keep hb (new_cell w c t i h).1 (new_cell w c t i h).2⟩
theorem frozen_restore {w : World} {a : Addr} {b : Bool} {o o' : Obj} (h : (w.alloc o).frozen? a = b) (hne : a.block ≠ w.heap.size) : (w.alloc o').frozen? a = b :=
  (World.frozen?_alloc_old w o' a hne).trans ((World.frozen?_alloc_old w o a hne).symm.trans h)
theorem getD_mem {zs : List Int} {i : Nat} (h : i < zs.length) : zs.getD i 0 ∈ zs := by
  simp [List.getD, List.getElem?_eq_getElem h]
theorem ints_nil {k : IntKind} {w : World} : Ints k w none 0 [] := ⟨Nat.zero_le _, Nat.le_refl _, fun i hi => absurd hi (by omega)⟩
theorem ints_row {k : IntKind} {w : World} {x : Addr} {n : Nat} {zs : List Int} (h1 : n ≤ maxLen) (h2 : n ≤ zs.length)
    (hc : ∀ i, i < zs.length → w.cell? (x.add i) = some (.int k (zs.getD i 0))) (hw : ∀ m ∈ zs, (Lit.int k m).wf = true) : Ints k w (some x) n zs :=
  ⟨h1, h2, fun i hi => ⟨x, rfl, hc i (by omega), hw _ (getD_mem (by omega))⟩⟩
/-- Block g is just the cells cs, none frozen. -/
def Blk (w : World) (g : Nat) (t : TypeId) (cs : Array Value) : Prop := w.heap[g]? = some (.cells cs t (0, 0))
section
variable {w w' : World} {g : Nat} {t : TypeId} {cs : Array Value}
theorem Blk.lt (h : Blk w g t cs) : g < w.heap.size := by
  rcases Nat.lt_or_ge g w.heap.size with hlt | hge
  · exact hlt
  · unfold Blk at h; rw [Array.getElem?_eq_none hge] at h; cases h
theorem Blk.cell (h : Blk w g t cs) (i : Nat) : w.cell? ⟨g, i, none⟩ = cs[i]? := cell_of_row w g i cs t (0, 0) h
theorem Blk.frozen (h : Blk w g t cs) (i : Nat) : w.frozen? ⟨g, i, none⟩ = false := by
  unfold Blk at h
  simp [World.frozen?, h]
theorem Blk.new (w : World) (t : TypeId) (cs : Array Value) : Blk (w.alloc (.cells cs t)) w.heap.size t cs := heap_alloc_new w _
theorem Blk.alloc (h : Blk w g t cs) (o : Obj) : Blk (w.alloc o) g t cs := (Below.heap_alloc w o g h.lt).trans h
theorem Blk.set_ (h : Blk w g t cs) (i : Nat) (u : Value) : Blk (w.setCell ⟨g, i, none⟩ u) g t (cs.setIfInBounds i u) := by
  unfold Blk at h ⊢
  simp [World.setCell, Array.getElem?_modify, h]
theorem Blk.far (h : Blk w g t cs) {p : Addr} (hp : g ≠ p.block) (u : Value) : Blk (w.setCell p u) g t cs := (Below.heap_setCell w p u g hp).trans h
theorem Blk.below {B : Nat} (h : Blk w g t cs) (hb : Below B w w') (hg : g < B) : Blk w' g t cs := (hb.block g hg).trans h
theorem Blk.keep (h : Blk w g t cs) (hb : Below w.heap.size w w') : Blk w' g t cs := (hb.block g h.lt).trans h
end
theorem setCells_blk {g : Nat} {t : TypeId} : ∀ (l : List Value) (o : Nat) (w : World) (cs : Array Value), Blk w g t cs → ∃ cs', Blk (w.setCells g o l) g t cs' ∧ cs'.size = cs.size
  | [], _, w, cs, h => ⟨cs, h, rfl⟩
  | v :: l, o, w, cs, h => by
    obtain ⟨cs', h1, h2⟩ := setCells_blk l (o + 1) _ _ (h.set_ o v)
    exact ⟨cs', h1, by simpa using h2⟩
theorem Blk.setCells {w : World} {g : Nat} {t : TypeId} {cs cs' : Array Value} (h : Blk w g t cs) (hs : cs'.size = cs.size) : Blk (w.setCells g 0 cs'.toList) g t cs' := by
  obtain ⟨c2, h2, hz⟩ := setCells_blk cs'.toList 0 w cs h
  have : c2 = cs' := by
    apply Array.ext (by omega)
    intro i h3 h4
    apply Option.some.inj
    rw [← Array.getElem?_eq_getElem, ← Array.getElem?_eq_getElem, ← h2.cell i]
    have := World.cell?_setCells_in g cs'.toList 0 w (fun j hj => by
      rw [h.cell]; simp at hj; simp; omega) i (by simpa using h4)
    rw [Nat.zero_add] at this
    rw [this, Array.getElem?_eq_getElem h4]
    rfl
  rw [this] at h2
  exact h2
theorem below_setCells {B g : Nat} (hg : B ≤ g) : ∀ (l : List Value) (o : Nat) {a w : World}, Below B a w → Below B a (w.setCells g o l)
  | [], _, _, _, h => h
  | _ :: l, o, _, _, h => below_setCells hg l (o + 1) (h.setCell hg _)
theorem Blk.there {w : World} {g : Nat} {t : TypeId} {cs : Array Value} (h : Blk w g t cs) {n : Nat} (hn : n ≤ cs.size) : w.there g 0 n := fun j hj => by
  rw [Nat.zero_add, h.cell, h.frozen]
  exact ⟨by simp; omega, rfl⟩
/-- A slice of n bytes, nil let in, that reads as the list l. -/
def Bytes (w : World) (A : Option Addr) (n : Nat) (l : List Nat) : Prop :=
  n = l.length ∧ n ≤ maxLen ∧ ∀ (i c : Nat), l[i]? = some c → c < 256 ∧ ∃ ad, A = some ad ∧ w.cell? (ad.add i) = some (.int .u8 (c : Int))
theorem Bytes.keep {w w' : World} {A : Option Addr} {n : Nat} {l : List Nat} (h : Bytes w A n l) (hb : Below w.heap.size w w') : Bytes w' A n l :=
  ⟨h.1, h.2.1, fun i c hi => by
    obtain ⟨hc, ad, e, hcell⟩ := h.2.2 i c hi
    exact ⟨hc, ad, e, cell_keep hb hcell⟩⟩
theorem Bytes.lt {w : World} {A : Option Addr} {n : Nat} {l : List Nat} (h : Bytes w A n l) : ∀ c ∈ l, c < 256 := fun c hc => by
  obtain ⟨i, hi⟩ := List.getElem?_of_mem hc
  exact (h.2.2 i c hi).1
theorem Bytes.none_ {w : World} : Bytes w none 0 [] := ⟨rfl, Nat.zero_le _, fun i c h => by simp at h⟩
theorem Bytes.at_ {w : World} {A : Option Addr} {n : Nat} {l : List Nat} (h : Bytes w A n l) {k : Nat} (hk : k < n) :
    ∃ ad c, A = some ad ∧ l[k]? = some c ∧ c < 256 ∧ w.cell? (ad.add k) = some (.int .u8 (c : Int)) := by
  have hl : k < l.length := by have := h.1; omega
  obtain ⟨hc, ad, e, hcell⟩ := h.2.2 k l[k] (List.getElem?_eq_getElem hl)
  exact ⟨ad, l[k], e, List.getElem?_eq_getElem hl, hc, hcell⟩
theorem add_of_add (a : Addr) (i j : Nat) : (a.add i).add j = a.add (i + j) := by
  unfold Addr.add
  by_cases hi : i = 0 <;> by_cases hj : j = 0 <;> simp [hi, hj, Nat.add_assoc]
theorem Bytes.cutTo {w : World} {A : Option Addr} {n : Nat} {l : List Nat} (h : Bytes w A n l) {k : Nat} (hk : k ≤ n) : Bytes w A k (l.take k) :=
  ⟨by rw [List.length_take]; have := h.1; omega, by have := h.2.1; omega, fun i c hi => by
    rw [List.getElem?_take] at hi
    split at hi
    · exact h.2.2 i c hi
    · cases hi⟩
theorem Bytes.cutFrom {w : World} {A : Option Addr} {n : Nat} {l : List Nat} (h : Bytes w A n l) {k cap : Nat} (hk : k ≤ n) (hc : n ≤ cap) :
    Bytes w (if cap = k then A else A.map (·.add k)) (n - k) (l.drop k) :=
  ⟨by rw [List.length_drop, h.1], by have := h.2.1; omega, fun i c hi => by
    rw [List.getElem?_drop] at hi
    obtain ⟨h1, ad, rfl, hcell⟩ := h.2.2 (k + i) c hi
    have : k + i < l.length := by
      rcases Nat.lt_or_ge (k + i) l.length with h2 | h2
      · exact h2
      · rw [List.getElem?_eq_none h2] at hi; cases hi
    have := h.1
    rw [if_neg (by omega)]
    exact ⟨h1, ad.add k, rfl, by rw [add_of_add]; exact hcell⟩⟩
theorem Bytes.of_ints {w : World} {A : Option Addr} {n : Nat} {zs : List Int} (h : Ints .u8 w A n zs) : Bytes w A n ((zs.take n).map Int.toNat) :=
  ⟨by rw [List.length_map, List.length_take]; have := h.2.1; omega, h.1, fun i c hi => by
    rw [List.getElem?_map, List.getElem?_take] at hi
    split at hi
    · rename_i hlt
      obtain ⟨ad, e, hcell, hwf⟩ := h.2.2 i hlt
      have hl : i < zs.length := by have := h.2.1; omega
      have hz : zs.getD i 0 = zs[i] := by simp [List.getD, List.getElem?_eq_getElem hl]
      rw [hz] at hcell hwf
      rw [List.getElem?_eq_getElem hl] at hi
      simp only [Option.map_some, Option.some.injEq] at hi
      have hb := wf_u8 hwf
      subst hi
      exact ⟨by omega, ad, e, by rw [hcell]; congr 2; omega⟩
    · cases hi⟩
/-- A slice of n byte slices that read as the lists ls. -/
def Texts (w : World) (A : Option Addr) (n : Nat) (ls : List (List Nat)) : Prop :=
  n = ls.length ∧ n ≤ maxLen ∧ ∀ (i : Nat) (l : List Nat), ls[i]? = some l → ∃ ad B m c, A = some ad ∧ w.cell? (ad.add i) = some (.slice B m c) ∧ Bytes w B m l
theorem Texts.keep {w w' : World} {A : Option Addr} {n : Nat} {ls : List (List Nat)} (h : Texts w A n ls) (hb : Below w.heap.size w w') : Texts w' A n ls :=
  ⟨h.1, h.2.1, fun i l hi => by
    obtain ⟨ad, B, m, c, e, hcell, hl⟩ := h.2.2 i l hi
    exact ⟨ad, B, m, c, e, cell_keep hb hcell, hl.keep hb⟩⟩
theorem lt2 (n : Nat) : n < n + 1 + 1 := by omega
theorem lt3 (n : Nat) : n < n + 1 + 1 + 1 := by omega
theorem lt4 (n : Nat) : n < n + 1 + 1 + 1 + 1 := by omega
theorem lt5 (n : Nat) : n < n + 1 + 1 + 1 + 1 + 1 := by omega
end Go.Proofs.Ytpdfbkkhmfnnjaa

namespace Go.Proofs.Ytpdfbkkhmfnnjaa
set_option linter.unusedVariables false
set_option linter.unusedSimpArgs false

abbrev IdP := Int × Int
def idLt (a b : IdP) : Prop := a.2 < b.2 ∨ a.2 = b.2 ∧ a.1 < b.1
instance (a b : IdP) : Decidable (idLt a b) := by unfold idLt; exact inferInstance
theorem idLt_irrefl (a : IdP) : ¬ idLt a a := by unfold idLt; omega
theorem idLt_trans {a b c : IdP} (h1 : idLt a b) (h2 : idLt b c) : idLt a c := by unfold idLt at *; omega
theorem idLt_total (a b : IdP) : idLt a b ∨ a = b ∨ idLt b a := by
  obtain ⟨a1, a2⟩ := a
  obtain ⟨b1, b2⟩ := b
  unfold idLt
  simp only [Prod.mk.injEq]
  omega
theorem idLt_asymm {a b : IdP} (h : idLt a b) : ¬ idLt b a := fun h2 => idLt_irrefl _ (idLt_trans h h2)
theorem idLt_ne {a b : IdP} (h : idLt a b) : a ≠ b := fun e => by rw [e] at h; exact idLt_irrefl _ h
/-- Ascending, none twice. -/
abbrev Asc (l : List IdP) : Prop := l.Pairwise idLt

/-- Two ascending lists of the same ids are the same. -/
theorem asc_unique : ∀ {s t : List IdP}, Asc s → Asc t → (∀ x, x ∈ s ↔ x ∈ t) → s = t
  | [], [], _, _, _ => rfl
  | [], b :: t, _, _, h => absurd ((h b).2 (by simp)) (by simp)
  | a :: s, [], _, _, h => absurd ((h a).1 (by simp)) (by simp)
  | a :: s, b :: t, hs, ht, h => by
    obtain ⟨ha, hs'⟩ := List.pairwise_cons.1 hs
    obtain ⟨hb, ht'⟩ := List.pairwise_cons.1 ht
    have e : a = b := by
      rcases List.mem_cons.1 ((h a).1 (by simp)) with e | h1
      · exact e
      · rcases List.mem_cons.1 ((h b).2 (by simp)) with e | h2
        · exact e.symm
        · exact absurd (idLt_trans (hb a h1) (ha b h2)) (idLt_irrefl _)
    subst e
    rw [asc_unique hs' ht' fun x => ⟨fun hx => ?_, fun hx => ?_⟩]
    · rcases List.mem_cons.1 ((h x).1 (by simp [hx])) with e | h1
      · subst e; exact absurd (ha _ hx) (idLt_irrefl _)
      · exact h1
    · rcases List.mem_cons.1 ((h x).2 (by simp [hx])) with e | h1
      · subst e; exact absurd (hb _ hx) (idLt_irrefl _)
      · exact h1

/-- An ascending list with an id more. -/
def ins (x : IdP) : List IdP → List IdP
  | [] => [x]
  | y :: l => if idLt x y then x :: y :: l else y :: ins x l
theorem mem_ins {x z : IdP} : ∀ {l : List IdP}, z ∈ ins x l ↔ z = x ∨ z ∈ l
  | [] => by simp [ins]
  | y :: l => by
    unfold ins
    split
    · simp
    · simp only [List.mem_cons, mem_ins (l := l)]
      constructor
      · rintro (h | h | h)
        · exact .inr (.inl h)
        · exact .inl h
        · exact .inr (.inr h)
      · rintro (h | h | h)
        · exact .inr (.inl h)
        · exact .inl h
        · exact .inr (.inr h)
theorem length_ins {x : IdP} : ∀ {l : List IdP}, (ins x l).length = l.length + 1
  | [] => rfl
  | y :: l => by
    unfold ins
    split
    · simp
    · simp [length_ins (l := l)]
theorem asc_ins {x : IdP} : ∀ {l : List IdP}, Asc l → x ∉ l → Asc (ins x l)
  | [], _, _ => by simp [ins]
  | y :: l, h, hx => by
    obtain ⟨hy, hl⟩ := List.pairwise_cons.1 h
    simp only [List.mem_cons, not_or] at hx
    unfold ins
    split
    · rename_i hlt
      refine List.pairwise_cons.2 ⟨fun z hz => ?_, h⟩
      rcases List.mem_cons.1 hz with e | hz
      · subst e; exact hlt
      · exact idLt_trans hlt (hy z hz)
    · rename_i hge
      refine List.pairwise_cons.2 ⟨fun z hz => ?_, asc_ins hl hx.2⟩
      rcases mem_ins.1 hz with e | hz
      · subst e
        rcases idLt_total z y with h1 | h1 | h1
        · exact absurd h1 hge
        · exact absurd h1 hx.1
        · exact h1
      · exact hy z hz
def setStep (s : List IdP) (x : IdP) : List IdP := if x ∈ s then s else ins x s
/-- The set of a list. -/
def idSet (l : List IdP) : List IdP := l.foldl setStep []
theorem foldl_setStep : ∀ (l s : List IdP), Asc s → Asc (l.foldl setStep s) ∧ (∀ z, z ∈ l.foldl setStep s ↔ z ∈ s ∨ z ∈ l) ∧ (l.foldl setStep s).length ≤ s.length + l.length
  | [], s, h => ⟨h, fun z => by simp, by simp⟩
  | x :: l, s, h => by
    have h1 : Asc (setStep s x) ∧ (∀ z, z ∈ setStep s x ↔ z ∈ s ∨ z = x) ∧ (setStep s x).length ≤ s.length + 1 := by
      unfold setStep
      by_cases hx : x ∈ s
      · rw [if_pos hx]
        exact ⟨h, fun z => ⟨.inl, fun hz => hz.elim id fun e => e ▸ hx⟩, by omega⟩
      · rw [if_neg hx]
        exact ⟨asc_ins h hx, fun z => by rw [mem_ins]; exact Or.comm, by rw [length_ins]; omega⟩
    obtain ⟨h2, h3, h4⟩ := foldl_setStep l (setStep s x) h1.1
    refine ⟨h2, fun z => ?_, by simp only [List.foldl_cons, List.length_cons]; omega⟩
    rw [List.foldl_cons, h3, h1.2.1, List.mem_cons, or_assoc]
theorem asc_idSet (l : List IdP) : Asc (idSet l) := (foldl_setStep l [] List.Pairwise.nil).1
theorem mem_idSet {l : List IdP} {z : IdP} : z ∈ idSet l ↔ z ∈ l := by
  rw [idSet, (foldl_setStep l [] List.Pairwise.nil).2.1]; simp
theorem length_idSet (l : List IdP) : (idSet l).length ≤ l.length := by
  have := (foldl_setStep l [] List.Pairwise.nil).2.2
  simpa [idSet] using this
theorem idSet_eq {l s : List IdP} (h : Asc s) (hm : ∀ x, x ∈ s ↔ x ∈ l) : s = idSet l := asc_unique h (asc_idSet l) fun x => (hm x).trans mem_idSet.symm
theorem idSet_self {l : List IdP} (h : Asc l) : idSet l = l := (idSet_eq h fun _ => Iff.rfl).symm
theorem idSet_congr {l m : List IdP} (h : ∀ x, x ∈ l ↔ x ∈ m) : idSet l = idSet m := idSet_eq (asc_idSet l) fun x => mem_idSet.trans (h x)

/-- An id is right. -/
def idRight (x : IdP) : Bool := decide (0 ≤ x.1) && decide (x.1 < 7) && decide (0 ≤ x.2) && decide (x.2 ≤ 1099511627776)
theorem idRight_iff {x : IdP} : idRight x = true ↔ (0 ≤ x.1 ∧ x.1 < 7 ∧ 0 ≤ x.2 ∧ x.2 ≤ 1099511627776) := by
  simp only [idRight, Bool.and_eq_true, decide_eq_true_eq, and_assoc]
/-- A set is right. -/
def idsOk (l : List IdP) : Bool := decide ((∀ x ∈ l, idRight x = true) ∧ Asc l ∧ l.length ≤ 4096)
theorem idsOk_iff {l : List IdP} : idsOk l = true ↔ (∀ x ∈ l, idRight x = true) ∧ Asc l ∧ l.length ≤ 4096 := by
  unfold idsOk; rw [decide_eq_true_iff]

/-- What an instance hangs on: the ids, the number, the tag. -/
structure AttrP where
  l : List IdP
  q : Int
  t : Int
deriving DecidableEq
def azero : AttrP := ⟨[], 0, 0⟩
/-- What is wrong with it: an error's number. -/
def acheck (a : AttrP) : Nat :=
  if ¬ (a.t = 1 ∨ a.t = 2) then 17
  else if (a.t = 1 ∧ (a.q < 1 ∨ 1099511627776 < a.q)) ∨ (a.t = 2 ∧ a.q ≠ 0) then 6
  else if idsOk a.l = false then 4 else 0
theorem acheck_iff {a : AttrP} : acheck a = 0 ↔ ((a.t = 1 ∧ 1 ≤ a.q ∧ a.q ≤ 1099511627776) ∨ (a.t = 2 ∧ a.q = 0)) ∧ idsOk a.l = true := by
  unfold acheck
  by_cases h1 : a.t = 1 ∨ a.t = 2
  · rw [if_neg (fun hn => hn h1)]
    by_cases h2 : (a.t = 1 ∧ (a.q < 1 ∨ 1099511627776 < a.q)) ∨ (a.t = 2 ∧ a.q ≠ 0)
    · rw [if_pos h2]
      constructor
      · intro h; cases h
      · rintro ⟨h3, _⟩; omega
    · rw [if_neg h2]
      cases hk : idsOk a.l
      · simp
      · simp only [Bool.true_eq_false, if_false, true_iff, and_true]
        omega
  · rw [if_pos h1]
    constructor
    · intro h; cases h
    · rintro ⟨h3, _⟩; omega
/-- What two come to, and an error's number. -/
def ajoin (a b : AttrP) : AttrP × Nat :=
  if acheck a ≠ 0 ∨ acheck b ≠ 0 then (azero, 4)
  else if a.t ≠ b.t then (azero, 17)
  else if 4096 < (idSet (a.l ++ b.l)).length then (azero, 12)
  else (⟨idSet (a.l ++ b.l), max a.q b.q, a.t⟩, 0)
theorem ajoin_ok {a b : AttrP} (h : (ajoin a b).2 = 0) : acheck a = 0 ∧ acheck b = 0 ∧ a.t = b.t ∧ (idSet (a.l ++ b.l)).length ≤ 4096 ∧ (ajoin a b).1 = ⟨idSet (a.l ++ b.l), max a.q b.q, a.t⟩ := by
  unfold ajoin at *
  split at h
  · cases h
  · rename_i h1
    split at h
    · cases h
    · rename_i h2
      split at h
      · cases h
      · rename_i h3
        rw [if_neg h1, if_neg h2, if_neg h3]
        exact ⟨by omega, by omega, by omega, by omega, rfl⟩
theorem ajoin_of {a b : AttrP} (h1 : acheck a = 0) (h2 : acheck b = 0) (h3 : a.t = b.t) (h4 : (idSet (a.l ++ b.l)).length ≤ 4096) : ajoin a b = (⟨idSet (a.l ++ b.l), max a.q b.q, a.t⟩, 0) := by
  unfold ajoin
  rw [if_neg (by omega), if_neg (by omega), if_neg (by omega)]
theorem ajoin_right {a b : AttrP} (h : (ajoin a b).2 = 0) : acheck (ajoin a b).1 = 0 := by
  obtain ⟨h1, h2, h3, h4, h5⟩ := ajoin_ok h
  rw [h5]
  rw [acheck_iff] at h1 h2 ⊢
  obtain ⟨h1, k1⟩ := h1
  obtain ⟨h2, k2⟩ := h2
  rw [idsOk_iff] at k1 k2
  refine ⟨?_, idsOk_iff.2 ⟨fun x hx => ?_, asc_idSet _, h4⟩⟩
  · simp only
    omega
  · rcases List.mem_append.1 (mem_idSet.1 hx) with hx | hx
    · exact k1.1 x hx
    · exact k2.1 x hx
theorem ajoin_len {a b : AttrP} : (ajoin a b).1.l.length ≤ a.l.length + b.l.length := by
  unfold ajoin
  split
  · simp [azero]
  · split
    · simp [azero]
    · split
      · simp [azero]
      · have := length_idSet (a.l ++ b.l)
        simpa using this
theorem ajoin_comm (a b : AttrP) : ajoin a b = ajoin b a := by
  have e : idSet (a.l ++ b.l) = idSet (b.l ++ a.l) := idSet_congr fun x => by simp [Or.comm]
  have e2 : max a.q b.q = max b.q a.q := by omega
  by_cases h1 : acheck a ≠ 0 ∨ acheck b ≠ 0
  · simp only [ajoin, if_pos h1, if_pos h1.symm]
  · by_cases h2 : a.t = b.t
    · simp only [ajoin, if_neg h1, if_neg (fun h => h1 (Or.symm h)), e, e2, h2]
    · simp only [ajoin, if_neg h1, if_neg (fun h => h1 (Or.symm h)), if_pos h2, if_pos (Ne.symm h2)]
/-- What is joined to either stays. -/
theorem ajoin_stays {a b : AttrP} (h : (ajoin a b).2 = 0) : ajoin (ajoin a b).1 a = ((ajoin a b).1, 0) := by
  have hr := ajoin_right h
  obtain ⟨h1, h2, h3, h4, h5⟩ := ajoin_ok h
  rw [h5] at hr ⊢
  have e : idSet (idSet (a.l ++ b.l) ++ a.l) = idSet (a.l ++ b.l) := idSet_congr fun x => by
    simp only [List.mem_append, mem_idSet]
    constructor
    · rintro ((h | h) | h)
      · exact .inl h
      · exact .inr h
      · exact .inl h
    · exact .inl
  rw [ajoin_of hr h1 rfl (by simpa only [e] using h4)]
  simp only [e]
  congr 2
  omega
theorem ajoin_three {a b c : AttrP} (h1 : (ajoin a b).2 = 0) (h2 : (ajoin b c).2 = 0) (hl : a.l.length + b.l.length + c.l.length ≤ 4096) :
    ∃ d, ajoin (ajoin a b).1 c = (d, 0) ∧ ajoin a (ajoin b c).1 = (d, 0) := by
  have r1 := ajoin_right h1
  have r2 := ajoin_right h2
  have l1 := @ajoin_len a b
  have l2 := @ajoin_len b c
  obtain ⟨p1, p2, p3, p4, p5⟩ := ajoin_ok h1
  obtain ⟨q1, q2, q3, q4, q5⟩ := ajoin_ok h2
  rw [p5] at r1 l1 ⊢
  rw [q5] at r2 l2 ⊢
  simp only at l1 l2
  have k1 := length_idSet (idSet (a.l ++ b.l) ++ c.l)
  have k2 := length_idSet (a.l ++ idSet (b.l ++ c.l))
  simp only [List.length_append] at k1 k2
  refine ⟨_, ajoin_of r1 q2 (by simpa using p3.trans q3) (by simp only; omega), ?_⟩
  rw [ajoin_of p1 r2 (by simpa using p3) (by simp only; omega)]
  have e : idSet (a.l ++ idSet (b.l ++ c.l)) = idSet (idSet (a.l ++ b.l) ++ c.l) := idSet_congr fun x => by
    simp only [List.mem_append, mem_idSet, or_assoc]
  simp only [e]
  congr 2
  omega
end Go.Proofs.Ytpdfbkkhmfnnjaa

namespace Go.Proofs.Ytpdfbkkhmfnnjaa
open Go Go.ChangeShapes Go.WideShapes Go.Joins Go.Deep
set_option linter.unusedVariables false
variable {H : Type} {enc : TypeId × Value → H} {P : Program} {w : World} {base : Nat} {spare : Nat → Bool} {held : Bool}
theorem array6 {α : Type} {cs : Array α} (h : cs.size = 6) : ∃ c0 c1 c2 c3 c4 c5, cs = #[c0, c1, c2, c3, c4, c5] := by
  obtain ⟨l⟩ := cs
  match l, h with
  | [c0, c1, c2, c3, c4, c5], _ => exact ⟨c0, c1, c2, c3, c4, c5, rfl⟩
theorem open_agg6 {r : Reach} {b0 : Nat} {t : TypeId} {f0 f1 f2 f3 f4 f5 : Field} {v : Value} {d : DataW H} {p : List MemPlace} (hs : P.underlying t = some (.struct #[f0, f1, f2, f3, f4, f5])) (hone : oneCellFields P #[f0, f1, f2, f3, f4, f5] = true) (hC : P.cellsOf t = 6)
    (hv : Value.okWide P w r b0 t v) (h : DataW.Trod enc P w base spare held t v d p) :
    ∃ (v0 v1 v2 v3 v4 v5 : Value) (y0 y1 y2 y3 y4 y5 : DataW H × List MemPlace) (n : Nat), v = .agg #[v0, v1, v2, v3, v4, v5] ∧
      DataW.trod enc P w base spare held n f0.type [v0] = some y0 ∧ DataW.trod enc P w base spare held n f1.type [v1] = some y1 ∧ DataW.trod enc P w base spare held n f2.type [v2] = some y2 ∧
      DataW.trod enc P w base spare held n f3.type [v3] = some y3 ∧ DataW.trod enc P w base spare held n f4.type [v4] = some y4 ∧ DataW.trod enc P w base spare held n f5.type [v5] = some y5 := by
  obtain ⟨cs, rfl, hsz⟩ := okWide_struct hs hv
  obtain ⟨c0, c1, c2, c3, c4, c5, rfl⟩ := array6 (hsz.trans hC)
  obtain ⟨fuel, hf⟩ := h
  obtain ⟨xs, n, _, _, hl, hlen, hf⟩ := DataW.trod_struct hs hf
  match xs, hlen with
  | [y0, y1, y2, y3, y4, y5], _ =>
    have g0 := hf 0 f0 rfl
    have g1 := hf 1 f1 rfl
    have g2 := hf 2 f2 rfl
    have g3 := hf 3 f3 rfl
    have g4 := hf 4 f4 rfl
    have g5 := hf 5 f5 rfl
    obtain ⟨o0, k0⟩ := hone_of hone 0 f0 rfl
    obtain ⟨o1, k1⟩ := hone_of hone 1 f1 rfl
    obtain ⟨o2, k2⟩ := hone_of hone 2 f2 rfl
    obtain ⟨o3, k3⟩ := hone_of hone 3 f3 rfl
    obtain ⟨o4, k4⟩ := hone_of hone 4 f4 rfl
    obtain ⟨o5, k5⟩ := hone_of hone 5 f5 rfl
    exact ⟨c0, c1, c2, c3, c4, c5, y0, y1, y2, y3, y4, y5, n, rfl, by simpa [Value.cells, o0, k0] using g0, by simpa [Value.cells, o1, k1] using g1, by simpa [Value.cells, o2, k2] using g2,
      by simpa [Value.cells, o3, k3] using g3, by simpa [Value.cells, o4, k4] using g4, by simpa [Value.cells, o5, k5] using g5⟩
end Go.Proofs.Ytpdfbkkhmfnnjaa

namespace Go.Proofs.Ytpdfbkkhmfnnjaa
open Go.RowKit
section
variable {P : Program} (w : World)

/-- What is appended: m elements at the address A (none where there are none). -/
def Src (w : World) (size : Nat) (A : Option Addr) (m : Nat) (news : List Value) : Prop :=
  news.length = m * size ∧ (∀ j u, news[j]? = some u → ∃ ad, A = some ad ∧ w.cell? (ad.add j) = some u) ∧ ∀ u ∈ news, u.oneCell' = true

theorem run_app (base : Nat) (t ty e : TypeId) (i : TypeInfo) (z : Value) (size bytes : Nat) (ht : P.underlying t = some (.slice e)) (hi : P.info? e = some i) (hz : i.zero = some z)
    (hsize : i.size = size) (hby : i.bytes = bytes) (hzs : z.cells.size = size) (hsz : 0 < size)
    (v : Value) (n : Nat) (xs : List Value) (hown : w.ownsRow base e size v n xs) (A : Option Addr) (m c : Nat) (news : List Value) (hs : Src w size A m news)
    (h63 : n + m ≤ maxLen) (hbytes : (n + m) * bytes ≤ 140737488355328) (hbase : base ≤ w.heap.size) :
    ∃ v' w', (Builtin.append_ #[t, t] ty #[v, .slice A m c]).run P w = .ok v' w' ∧ w'.ownsRow base e size v' (n + m) (xs ++ news) ∧ w.grownBy w' v.ownBlock ∧
      (v'.ownBlock = v.ownBlock ∨ v'.ownBlock = some w.heap.size) ∧ w'.ownsRow base e size v n xs := by
  obtain ⟨hl, hsrc, h1⟩ := hs
  by_cases hm0 : m = 0
  · -- nothing is appended
    subst hm0
    have hn : news = [] := List.eq_nil_of_length_eq_zero (by simpa using hl)
    subst hn
    refine ⟨v, w, ?_, by simpa using hown, ⟨rfl, rfl, rfl, Nat.le_refl _, fun _ _ _ => rfl⟩, .inl rfl, hown⟩
    have hfc : ∀ s : Nat, (Builtin.firstCells s 0 (.slice A 0 c)).run P w = .ok #[] w := by
      intro s
      cases A <;> simp [Builtin.firstCells, loadCells, loadCellsFrom]
    rcases hown.2 with ⟨rfl, rfl⟩ | ⟨g, cap, cur, rfl, _, _, hnc, _⟩
    · simp [Builtin.append_, run_underlying ht, sizeOf, typeInfo, hi, Builtin.lenOf, hfc]
    · simp [Builtin.append_, run_underlying ht, sizeOf, typeInfo, hi, Builtin.lenOf, hfc, hnc, storeCells]
  · have hpos : 0 < news.length := by rw [hl]; exact Nat.mul_pos (by omega) hsz
    obtain ⟨ad, rfl, _⟩ := hsrc 0 news[0] (List.getElem?_eq_getElem hpos)
    have hnews : ∀ j u, news[j]? = some u → w.cell? (ad.add j) = some u := fun j u hj => by
      obtain ⟨ad', he, hc⟩ := hsrc j u hj
      cases he
      exact hc
    obtain ⟨v', w', hr, h2, h3, _, h5⟩ := run_append_own_at (P := P) w base t ty e i z size bytes ht hi hz hsize hby hzs hsz v n xs hown ad m c news hl hnews h1 h63 hbytes hbase
    refine ⟨v', w', hr, h2, h3, h5, ?_⟩
    subst hsize
    subst hby
    rcases hown.2 with ⟨rfl, rfl⟩ | ⟨g, cap, cur, rfl, hbg, hg, hnc, hcm, hcs, htake⟩
    · have hx : xs = [] := List.eq_nil_of_length_eq_zero (by simpa using hown.1)
      subst hx
      exact World.ownsRow_nil _ _ _ _
    · by_cases hroom : n + m ≤ cap
      · have hfit : n * i.size + news.length ≤ cur.size := by rw [hl, hcs, ← Nat.add_mul]; exact Nat.mul_le_mul_right _ hroom
        have hr' := run_append_room (P := P) w t ty e i ht hi g n cap cur hg ad m c news hl hnews h1 hroom hfit
        rw [hr] at hr'
        injection hr' with _ hw
        subst hw
        refine ⟨hown.1, .inr ⟨g, cap, _, rfl, hbg, setRow_heap w g cur _ e _ hg, hnc, hcm, ?_, ?_⟩⟩
        · simp only [List.size_toArray, List.length_append, List.length_take, List.length_drop, Array.length_toList]
          omega
        · rw [htake, List.append_assoc, ← hown.1]
          exact List.take_left
      · have holds : ∀ j u, xs[j]? = some u → w.cell? ((⟨g, 0, none⟩ : Addr).add j) = some u := hown.cells (g := g) rfl
        have hr' := run_append_grow (P := P) w t ty e i z ht hi hz ⟨g, 0, none⟩ n cap xs hown.1 holds ad m c news hl hnews (by omega) (by simp only [maxLen] at h63; omega) (growslice_fits (by omega) hbytes)
        rw [hr] at hr'
        injection hr' with _ hw
        subst hw
        refine ⟨hown.1, .inr ⟨g, cap, cur, rfl, hbg, ?_, hnc, hcm, hcs, htake⟩⟩
        exact (Below.heap_alloc w.drew _ g (Array.getElem?_eq_some_iff.1 hg).1).trans hg

theorem wp_app {o : Oper} {a : Act} {K : Act → World → Prop} {Q : Exit → Act → World → Prop} (s x : Operand) (t : TypeId)
    (ho : o.op = .call { callee := .builtin .append, args := #[s, x], argTypes := #[t, t] })
    (base : Nat) (e : TypeId) (i : TypeInfo) (z : Value) (size bytes : Nat) (ht : P.underlying t = some (.slice e)) (hi : P.info? e = some i) (hz : i.zero = some z)
    (hsize : i.size = size) (hby : i.bytes = bytes) (hzs : z.cells.size = size) (hsz : 0 < size)
    (v : Value) (n : Nat) (xs : List Value) (hs : a.eval s = v) (hown : w.ownsRow base e size v n xs)
    (A : Option Addr) (m c : Nat) (news : List Value) (hx : a.eval x = .slice A m c) (hsrc : Src w size A m news)
    (h63 : n + m ≤ maxLen) (hbytes : (n + m) * bytes ≤ 140737488355328) (hbase : base ≤ w.heap.size)
    (h : ∀ v' w', w'.ownsRow base e size v' (n + m) (xs ++ news) → w.grownBy w' v.ownBlock → (v'.ownBlock = v.ownBlock ∨ v'.ownBlock = some w.heap.size) → w'.ownsRow base e size v n xs → K (a.put o.dst v') w') : o.wp P a w K Q := by
  obtain ⟨v', w', hr, h2, h3, h4, h5⟩ := run_app (P := P) w base t o.type e i z size bytes ht hi hz hsize hby hzs hsz v n xs hown A m c news hsrc h63 hbytes hbase
  unfold Oper.wp execOp
  simp only [ho, resolve, invoke, builtin, Sem.run_bind, Sem.run_pure, Result.andThen_ok, List.map_toArray, List.map_cons, List.map_nil, hs, hx, hr]
  exact h v' w' h2 h3 h4 h5

/-- At the list of a plain region's operations. -/
theorem wpList_app {ops : Array Oper} {rest : List Oper} {o : Oper} {a : Act} {Q : Exit → Act → World → Prop} (hgd : o.guard = none) (s x : Operand) (t : TypeId)
    (ho : o.op = .call { callee := .builtin .append, args := #[s, x], argTypes := #[t, t] })
    (base : Nat) (e : TypeId) (i : TypeInfo) (z : Value) (size bytes : Nat) (ht : P.underlying t = some (.slice e)) (hi : P.info? e = some i) (hz : i.zero = some z)
    (hsize : i.size = size) (hby : i.bytes = bytes) (hzs : z.cells.size = size) (hsz : 0 < size)
    (v : Value) (n : Nat) (xs : List Value) (hs : a.eval s = v) (hown : w.ownsRow base e size v n xs)
    (A : Option Addr) (m c : Nat) (news : List Value) (hx : a.eval x = .slice A m c) (hsrc : Src w size A m news)
    (h63 : n + m ≤ maxLen) (hbytes : (n + m) * bytes ≤ 140737488355328) (hbase : base ≤ w.heap.size)
    (h : ∀ v' w', w'.ownsRow base e size v' (n + m) (xs ++ news) → w.grownBy w' v.ownBlock → (v'.ownBlock = v.ownBlock ∨ v'.ownBlock = some w.heap.size) → w'.ownsRow base e size v n xs → wpList P ops Q rest (a.put o.dst v') w') : wpList P ops Q (o :: rest) a w :=
  wpList_plain hgd fun _ hK => wp_app w s x t ho base e i z size bytes ht hi hz hsize hby hzs hsz v n xs hs hown A m c news hx hsrc h63 hbytes hbase fun v' w' h2 h3 h4 h5 => hK _ _ (h v' w' h2 h3 h4 h5)

/-- At a step of a region that draws its order. -/
theorem step_app {ops : Array Oper} {o : Oper} {a : Act} {K : Act → World → Prop} {Q : Exit → Act → World → Prop} {E : Prop} (hgd : o.guard = none) (s x : Operand) (t : TypeId)
    (ho : o.op = .call { callee := .builtin .append, args := #[s, x], argTypes := #[t, t] })
    (base : Nat) (e : TypeId) (i : TypeInfo) (z : Value) (size bytes : Nat) (ht : P.underlying t = some (.slice e)) (hi : P.info? e = some i) (hz : i.zero = some z)
    (hsize : i.size = size) (hby : i.bytes = bytes) (hzs : z.cells.size = size) (hsz : 0 < size)
    (v : Value) (n : Nat) (xs : List Value) (hs : a.eval s = v) (hown : w.ownsRow base e size v n xs)
    (A : Option Addr) (m c : Nat) (news : List Value) (hx : a.eval x = .slice A m c) (hsrc : Src w size A m news)
    (h63 : n + m ≤ maxLen) (hbytes : (n + m) * bytes ≤ 140737488355328) (hbase : base ≤ w.heap.size)
    (h : ∀ v' w', w'.ownsRow base e size v' (n + m) (xs ++ news) → w.grownBy w' v.ownBlock → (v'.ownBlock = v.ownBlock ∨ v'.ownBlock = some w.heap.size) → w'.ownsRow base e size v n xs → K (a.put o.dst v') w') :
    if Region.wanted o (yielded ops a.tmps) = true then Oper.wp P o a w K Q else E := by
  have hw : Region.wanted o (yielded ops a.tmps) = true := by simp [Region.wanted, hgd]
  rw [if_pos hw]
  exact wp_app w s x t ho base e i z size bytes ht hi hz hsize hby hzs hsz v n xs hs hown A m c news hx hsrc h63 hbytes hbase h
end

/-- The block laid before the last one is still there behind a call. -/
theorem new_keep2 {w w1 : World} {c : Array Value} {t : TypeId} {o : Obj} (hb : Below ((w.alloc (.cells c t)).alloc o).heap.size ((w.alloc (.cells c t)).alloc o) w1) (i : Nat) {v : Value} (h : c[i]? = some v) :
    w1.cell? ⟨w.heap.size, i, none⟩ = some v := cell_keep hb (cell_alloc (new_cell w c t i h).1)
theorem new_keep2_drew {w w1 : World} {c : Array Value} {t : TypeId} {o : Obj} (hb : Below ((w.alloc (.cells c t)).alloc o).drew.heap.size ((w.alloc (.cells c t)).alloc o).drew w1) (i : Nat) {v : Value} (h : c[i]? = some v) :
    w1.cell? ⟨w.heap.size, i, none⟩ = some v := cell_keep hb (cell_alloc (new_cell w c t i h).1)
/-! ### Bytes -/
/-- The cells of a row of bytes. -/
def u8s (l : List Nat) : List Value := l.map fun (c : Nat) => Value.int .u8 (c : Int)
theorem u8s_length (l : List Nat) : (u8s l).length = l.length := by simp [u8s]
theorem u8s_append (a b : List Nat) : u8s (a ++ b) = u8s a ++ u8s b := by simp [u8s]
theorem u8s_one (l : List Nat) : ∀ u ∈ u8s l, u.oneCell' = true := fun u hu => by
  simp only [u8s, List.mem_map] at hu
  obtain ⟨c, _, rfl⟩ := hu
  rfl
theorem Src.of_bytes {w : World} {A : Option Addr} {n : Nat} {l : List Nat} (h : Bytes w A n l) : Src w 1 A n (u8s l) :=
  ⟨by rw [u8s_length, h.1, Nat.mul_one], fun j u hu => by
    simp only [u8s, List.getElem?_map, Option.map_eq_some_iff] at hu
    obtain ⟨c, hc, rfl⟩ := hu
    exact (h.2.2 j c hc).2, u8s_one l⟩
/-- A byte slice of the call's own that reads as l: it lies in a block from base on, and may be written. -/
def OwnB (w : World) (base : Nat) (e : TypeId) (v : Value) (l : List Nat) : Prop := w.ownsRow base e 1 v l.length (u8s l) ∧ ∀ c ∈ l, c < 256
theorem OwnB.bytes {w : World} {base : Nat} {e : TypeId} {A : Option Addr} {n c : Nat} {l : List Nat} (h : OwnB w base e (.slice A n c) l) : n = l.length ∧ n ≤ c ∧ Bytes w A n l := by
  have hn : n = l.length ∧ n ≤ c ∧ l.length ≤ maxLen := by
    rcases h.1.2 with ⟨hv, hl⟩ | ⟨g, cap, cur, hv, _, _, hle, hcap, _⟩
    · cases hv; rw [hl]; exact ⟨rfl, Nat.le_refl _, Nat.zero_le _⟩
    · cases hv; exact ⟨rfl, hle, by omega⟩
  refine ⟨hn.1, hn.2.1, hn.1, by have := hn.2.2; omega, fun i x hi => ⟨h.2 x (List.mem_of_getElem? hi), ?_⟩⟩
  have hx : (u8s l)[i]? = some (.int .u8 (x : Int)) := by simp [u8s, hi]
  rcases h.1.2 with ⟨_, hl⟩ | ⟨g, cap, cur, hv, _⟩
  · have : l = [] := List.eq_nil_of_length_eq_zero hl
    subst this
    simp at hi
  · cases hv
    exact ⟨_, rfl, h.1.cells (g := g) rfl i _ hx⟩
theorem OwnB.form {w : World} {base : Nat} {e : TypeId} {v : Value} {l : List Nat} (h : OwnB w base e v l) : ∃ A c, v = .slice A l.length c ∧ l.length ≤ c ∧ c ≤ maxLen := by
  rcases h.1.2 with ⟨rfl, hl⟩ | ⟨g, cap, cur, rfl, _, _, hle, hm, _⟩
  · exact ⟨none, 0, by rw [hl], by omega, Nat.zero_le _⟩
  · exact ⟨_, cap, rfl, hle, hm⟩
theorem OwnB.nil_ (w : World) (base : Nat) (e : TypeId) : OwnB w base e (.slice none 0 0) [] := ⟨World.ownsRow_nil _ _ _ _, by simp⟩
theorem OwnB.made {w : World} {base : Nat} {e : TypeId} (hb : base ≤ w.heap.size) : OwnB (w.alloc (.cells #[] e)) base e (.slice (some ⟨w.heap.size, 0, none⟩) 0 0) [] :=
  ⟨World.ownsRow_made w #[] 0 hb (Nat.zero_le _) (by simp), by simp⟩
theorem grown_of_below {w w' : World} (hb : Below w.heap.size w w') (row : Option Nat) : w.grownBy w' row := ⟨hb.os, hb.tape, hb.output, hb.size, fun k hk _ => hb.block k hk⟩
theorem OwnB.keep {w w' : World} {base : Nat} {e : TypeId} {v : Value} {l : List Nat} (h : OwnB w base e v l) (hb : Below w.heap.size w w') : OwnB w' base e v l :=
  ⟨h.1.kept (grown_of_below hb none) (by cases v.ownBlock <;> simp), h.2⟩
theorem OwnB.kept {w w' : World} {base : Nat} {e : TypeId} {v : Value} {l : List Nat} {row : Option Nat} (h : OwnB w base e v l) (hg : w.grownBy w' row) (hne : v.ownBlock = none ∨ v.ownBlock ≠ row) : OwnB w' base e v l :=
  ⟨h.1.kept hg hne, h.2⟩
/-- Behind an append all below the base is as it was. -/
theorem below_app {B base : Nat} {a w w' : World} {e : TypeId} {size : Nat} {v : Value} {n : Nat} {xs : List Value} (h : Below B a w) (hown : w.ownsRow base e size v n xs) (hg : w.grownBy w' v.ownBlock) (hB : B ≤ base) (hs : B ≤ w.heap.size) : Below B a w' :=
  h.grown hg hs fun k hk => by have := (hown.lt k hk).1; omega
theorem Bytes.below {B : Nat} {w w' : World} {A : Option Addr} {n : Nat} {l : List Nat} (h : Bytes w A n l) (hb : Below B w w') (hB : w.heap.size ≤ B) : Bytes w' A n l := h.keep (hb.mono hB)
theorem Bytes.of_block {w : World} {g : Nat} {e : TypeId} {fr : Nat × Nat} {l : List Nat} (h : w.heap[g]? = some (.cells (u8s l).toArray e fr)) (hl : ∀ c ∈ l, c < 256) (hm : l.length ≤ maxLen) :
    Bytes w (some ⟨g, 0, none⟩) l.length l :=
  ⟨rfl, hm, fun i x hi => ⟨hl x (List.mem_of_getElem? hi), _, rfl, by
    have hadd : (⟨g, 0, none⟩ : Addr).add i = ⟨g, i, none⟩ := by unfold Addr.add; split <;> simp_all
    rw [hadd, cell_of_row w g i _ e fr h]
    simp [u8s, hi]⟩⟩
theorem texts_nil {w : World} : Texts w none 0 [] := ⟨rfl, Nat.zero_le _, fun i l h => by simp at h⟩
theorem texts_rows {w : World} {x : Addr} {n : Nat} {A : Nat → Option Addr} {L C : Nat → Nat} {Z : Nat → List Int} (hn : n ≤ maxLen)
    (h : ∀ r, r < n → w.cell? (x.add r) = some (.slice (A r) (L r) (C r)) ∧ L r ≤ C r ∧ C r ≤ maxLen ∧ (Z r).length = C r ∧ (∀ m ∈ Z r, (Lit.int .u8 m).wf = true) ∧ (A r = none → C r = 0) ∧
        ∀ a', A r = some a' → ∀ c, c < C r → w.cell? (a'.add c) = some (.int .u8 ((Z r).getD c 0))) :
    Texts w (some x) n ((List.range n).map fun r => ((Z r).take (L r)).map Int.toNat) :=
  ⟨by simp, hn, fun i l hi => by
    simp only [List.getElem?_map, Option.map_eq_some_iff] at hi
    obtain ⟨r, hr, rfl⟩ := hi
    obtain ⟨hlt, hv⟩ := List.getElem?_eq_some_iff.1 hr
    simp at hlt hv
    subst hv
    obtain ⟨h1, h2, h3, h4, h5, h6, h7⟩ := h i hlt
    refine ⟨x, A i, L i, C i, rfl, h1, Bytes.of_ints ⟨by omega, by omega, fun j hj => ?_⟩⟩
    cases hA : A i with
    | none => have := h6 hA; omega
    | some a' => exact ⟨a', rfl, h7 a' hA j (by omega), h5 _ (getD_mem (by omega))⟩⟩
/-- A slice of one slice of bytes; of two; of four. -/
theorem texts1 {w : World} {g : Nat} {B : Option Addr} {m c : Nat} {l : List Nat} (h0 : w.cell? ⟨g, 0, none⟩ = some (.slice B m c)) (hb : Bytes w B m l) : Texts w (some ⟨g, 0, none⟩) 1 [l] :=
  ⟨rfl, by decide, fun i x hi => by
    match i with
    | 0 => simp at hi; subst hi; exact ⟨_, B, m, c, rfl, by simpa [Addr.add] using h0, hb⟩
    | i + 1 => simp at hi⟩
theorem texts2 {w : World} {g : Nat} {B0 B1 : Option Addr} {m0 c0 m1 c1 : Nat} {l0 l1 : List Nat} (h0 : w.cell? ⟨g, 0, none⟩ = some (.slice B0 m0 c0)) (h1 : w.cell? ⟨g, 1, none⟩ = some (.slice B1 m1 c1))
    (b0 : Bytes w B0 m0 l0) (b1 : Bytes w B1 m1 l1) : Texts w (some ⟨g, 0, none⟩) 2 [l0, l1] :=
  ⟨rfl, by decide, fun i x hi => by
    match i with
    | 0 => simp at hi; subst hi; exact ⟨_, B0, m0, c0, rfl, by simpa [Addr.add] using h0, b0⟩
    | 1 => simp at hi; subst hi; exact ⟨_, B1, m1, c1, rfl, by simpa [Addr.add] using h1, b1⟩
    | i + 2 => simp at hi⟩
theorem texts4 {w : World} {g : Nat} {B0 B1 B2 B3 : Option Addr} {m0 c0 m1 c1 m2 c2 m3 c3 : Nat} {l0 l1 l2 l3 : List Nat}
    (h0 : w.cell? ⟨g, 0, none⟩ = some (.slice B0 m0 c0)) (h1 : w.cell? ⟨g, 1, none⟩ = some (.slice B1 m1 c1)) (h2 : w.cell? ⟨g, 2, none⟩ = some (.slice B2 m2 c2)) (h3 : w.cell? ⟨g, 3, none⟩ = some (.slice B3 m3 c3))
    (b0 : Bytes w B0 m0 l0) (b1 : Bytes w B1 m1 l1) (b2 : Bytes w B2 m2 l2) (b3 : Bytes w B3 m3 l3) : Texts w (some ⟨g, 0, none⟩) 4 [l0, l1, l2, l3] :=
  ⟨rfl, by decide, fun i x hi => by
    match i with
    | 0 => simp at hi; subst hi; exact ⟨_, B0, m0, c0, rfl, by simpa [Addr.add] using h0, b0⟩
    | 1 => simp at hi; subst hi; exact ⟨_, B1, m1, c1, rfl, by simpa [Addr.add] using h1, b1⟩
    | 2 => simp at hi; subst hi; exact ⟨_, B2, m2, c2, rfl, by simpa [Addr.add] using h2, b2⟩
    | 3 => simp at hi; subst hi; exact ⟨_, B3, m3, c3, rfl, by simpa [Addr.add] using h3, b3⟩
    | i + 4 => simp at hi⟩
end Go.Proofs.Ytpdfbkkhmfnnjaa

namespace Go.Proofs.Ytpdfbkkhmfnnjaa
open Go.RowKit
set_option linter.unusedVariables false
set_option linter.unusedSimpArgs false
set_option maxRecDepth 20000
attribute [local go_sem ↓] Go.wp_at_zero Go.wp_at_succ
attribute [local go_sem] World.cell?_alloc_some frozen_alloc_some
open Go.ChangeShapes Go.WideShapes Go.ChangeAt
open Go.ChangeMaps (open_string shut_string)

structure CmdT where
  kind : Int
  client : Int
  seq : Int
  key : ByteArray
  val : ByteArray
  rev : Int
def CmdT.v (c : CmdT) : Value := .agg #[.int .i64 c.kind, .int .i64 c.client, .int .i64 c.seq, .string c.key, .string c.val, .int .i64 c.rev]
structure CmdT.Ok (c : CmdT) : Prop where
  kind : (Lit.int .i64 c.kind).wf = true
  client : (Lit.int .i64 c.client).wf = true
  seq : (Lit.int .i64 c.seq).wf = true
  key : c.key.size ≤ maxLen
  val : c.val.size ≤ maxLen
  rev : (Lit.int .i64 c.rev).wf = true

theorem open_cmd {H : Type} {enc : TypeId × Value → H} {w : World} {r : Reach} {b0 base : Nat} {spare : Nat → Bool} {held : Bool} {v : Value} {d : DataW H} {p : List MemPlace}
    (hv : Value.okWide Try.prog w r b0 24 v) (h : DataW.Trod enc Try.prog w base spare held 24 v d p) : ∃ c : CmdT, v = c.v ∧ c.Ok := by
  obtain ⟨v0, v1, v2, v3, v4, v5, y0, y1, y2, y3, y4, y5, m, rfl, h0, h1, h2, h3, h4, h5⟩ := open_agg6 Try.underlying24 (by kernel_rfl) (by kernel_rfl) hv h
  obtain ⟨a0, e0, _, w0⟩ := DataW.trod_int Try.underlying3 h0
  obtain ⟨a1, e1, _, w1⟩ := DataW.trod_int Try.underlying3 h1
  obtain ⟨a2, e2, _, w2⟩ := DataW.trod_int Try.underlying3 h2
  obtain ⟨a3, e3, _, w3⟩ := DataW.trod_string Try.underlying9 h3
  obtain ⟨a4, e4, _, w4⟩ := DataW.trod_string Try.underlying9 h4
  obtain ⟨a5, e5, _, w5⟩ := DataW.trod_int Try.underlying3 h5
  simp at e0 e1 e2 e3 e4 e5
  subst e0 e1 e2 e3 e4 e5
  exact ⟨⟨a0, a1, a2, a3, a4, a5⟩, rfl, w0, w1, w2, w3, w4, w5⟩
end Go.Proofs.Ytpdfbkkhmfnnjaa

namespace Go.Proofs.Ytpdfbkkhmfnnjaa
open Go.RowKit
theorem u8s_set (l : List Nat) (k c : Nat) : (u8s l).toArray.setIfInBounds k (.int .u8 (c : Int)) = (u8s (l.set k c)).toArray := by
  simp [u8s, List.map_set]
theorem u8s_get {l : List Nat} {k c : Nat} (h : l[k]? = some c) : (u8s l).toArray[k]? = some (.int .u8 (c : Int)) := by
  simp [u8s, h]
theorem made_u8s (n : Nat) : madeCells (Value.int .u8 0).cells (n * 1) = (u8s (List.replicate n 0)).toArray := by
  apply Array.ext'
  simp [madeCells, u8s, Value.cells]
  apply List.ext_getElem
  · simp
  · intro i h1 h2
    simp [Nat.mod_one]
theorem run_make_u8 {P : Program} (t e : TypeId) (i : TypeInfo) (ht : P.underlying t = some (.slice e)) (hi : P.info? e = some i) (hz : i.zero = some (.int .u8 0)) (hs : i.size = 1) (hb : i.bytes = 1)
    (n : Nat) (h : n ≤ 281474976710656) (w : World) :
    (Instr.makeSlice t (.int .i64 (n : Int)) (.int .i64 (n : Int))).run P w = .ok (.slice (some ⟨w.heap.size, 0, none⟩) n n) (w.alloc (.cells (u8s (List.replicate n 0)).toArray e)) := by
  have := run_make (P := P) w t e i _ ht hi hz .i64 .i64 (n : Int) (n : Int) (by omega) (by omega) (by rw [hb]; omega) (by omega)
  rw [this, hs, Int.toNat_natCast, made_u8s]
/-- A block of bytes of the call's own reads as its list. -/
theorem Blk.bytes {w : World} {g : Nat} {e : TypeId} {l : List Nat} (h : Blk w g e (u8s l).toArray) (hl : ∀ c ∈ l, c < 256) (hm : l.length ≤ maxLen) : Bytes w (some ⟨g, 0, none⟩) l.length l :=
  Bytes.of_block (fr := (0, 0)) h hl hm
end Go.Proofs.Ytpdfbkkhmfnnjaa

namespace Go.Proofs.Ytpdfbkkhmfnnjaa
open Go.RowKit
set_option linter.unusedVariables false
set_option linter.unusedSimpArgs false
set_option linter.unnecessarySimpa false

theorem src_one {w : World} {e : TypeId} {u : Value} (h1 : u.oneCell' = true) : Src (w.alloc (.cells #[u] e)) 1 (some ⟨w.heap.size, 0, none⟩) 1 [u] :=
  ⟨rfl, fun j x hj => by
    match j with
    | 0 => simp at hj; subst hj; exact ⟨_, rfl, by simpa [Addr.add] using (new_cell w #[u] e 0 rfl).1⟩
    | j + 1 => simp at hj, fun x hx => by simp at hx; subst hx; exact h1⟩
theorem below_one {w : World} (o : Obj) : Below w.heap.size w (w.alloc o) := (Below.refl _ _).alloc (Nat.le_refl _) _

/-- A call makes a byte slice of its own that reads as l; nothing that was there has turned. -/
def Makes (w : World) (e : TypeId) (l : List Nat) (r : Ending) (w' : World) : Prop := ∃ v, r = .returned v ∧ OwnB w' w.heap.size e v l ∧ Below w.heap.size w w'

/-- Out of b, which read as l in w, has come b', which reads as l' in w'; what else was there has not turned, and b reads as it did. -/
structure Onto (w : World) (base : Nat) (e : TypeId) (b : Value) (l : List Nat) (w' : World) (b' : Value) (l' : List Nat) : Prop where
  own : OwnB w' base e b' l'
  grown : w.grownBy w' b.ownBlock
  place : b'.ownBlock = b.ownBlock ∨ ∃ g, b'.ownBlock = some g ∧ w.heap.size ≤ g
  old : OwnB w' base e b l
  pre : ∃ m, l' = l ++ m
  lt : ∀ k, b.ownBlock = some k → k < w.heap.size

theorem grown_trans' {a b c : World} {r r' : Option Nat} (h : a.grownBy b r) (k : b.grownBy c r') (hr : r' = r ∨ ∃ g, r' = some g ∧ a.heap.size ≤ g) : a.grownBy c r :=
  ⟨k.os.trans h.os, k.tape.trans h.tape, k.output.trans h.output, Nat.le_trans h.size k.size, fun i hi hne => by
    rw [k.block i (Nat.lt_of_lt_of_le hi h.size) (fun e => by
      rcases hr with rfl | ⟨g, rfl, hg⟩
      · exact hne e
      · injection e with e; omega)]
    exact h.block i hi hne⟩

theorem OwnB.pre {w1 w2 : World} {base : Nat} {e : TypeId} {b b1 : Value} {l m : List Nat} (h1 : OwnB w1 base e b l) (h2 : OwnB w1 base e b1 (l ++ m)) (hs : b1.ownBlock = b.ownBlock) (h3 : OwnB w2 base e b1 (l ++ m)) : OwnB w2 base e b l := by
  refine ⟨?_, h1.2⟩
  rcases h1.1.2 with ⟨rfl, hl⟩ | ⟨g, cap, cur, rfl, hb, hg, hle, hcm, hcs, htk⟩
  · have : l = [] := List.eq_nil_of_length_eq_zero hl
    subst this
    exact World.ownsRow_nil _ _ _ _
  · rcases h2.1.2 with ⟨rfl, hl2⟩ | ⟨g2, cap2, cur2, rfl, _, hg2, _, _, hcs2, _⟩
    · simp [Value.ownBlock] at hs
    · have hgg : g2 = g := by simpa [Value.ownBlock] using hs
      subst hgg
      rw [hg] at hg2
      injection hg2 with hg2
      injection hg2 with hcur
      subst hcur
      have hcc : cap2 = cap := by omega
      subst hcc
      rcases h3.1.2 with ⟨hv, _⟩ | ⟨g3, cap3, cur3, hv, hb3, hg3, _, _, hcs3, htk3⟩
      · cases hv
      · injection hv with hv _ hc3
        injection hv with hv
        injection hv with hv
        subst hv
        subst hc3
        refine ⟨h1.1.1, .inr ⟨g2, cap2, cur3, rfl, hb, hg3, hle, hcm, hcs3, ?_⟩⟩
        have := congrArg (List.take (l.length * 1)) htk3
        rw [List.take_take, Nat.min_eq_left (by simp), u8s_append] at this
        rw [this]
        rw [List.take_append_of_le_length (by simp [u8s_length])]
        exact List.take_of_length_le (by simp [u8s_length])

theorem Onto.refl {w : World} {base : Nat} {e : TypeId} {b : Value} {l : List Nat} (h : OwnB w base e b l) : Onto w base e b l w b l :=
  ⟨h, World.grownBy.refl w _, .inl rfl, h, ⟨[], by simp⟩, fun k hk => (h.1.lt k hk).2⟩
/-- A call that turns nothing. -/
theorem Onto.keep {w w1 w2 : World} {base : Nat} {e : TypeId} {b b1 : Value} {l l1 : List Nat} (h : Onto w base e b l w1 b1 l1) (hb : Below w1.heap.size w1 w2) : Onto w base e b l w2 b1 l1 :=
  ⟨h.own.keep hb, ⟨hb.os.trans h.grown.os, hb.tape.trans h.grown.tape, hb.output.trans h.grown.output, Nat.le_trans h.grown.size hb.size, fun i hi hne => (hb.block i (Nat.lt_of_lt_of_le hi h.grown.size)).trans (h.grown.block i hi hne)⟩,
    h.place, h.old.keep hb, h.pre, h.lt⟩
/-- Another append. -/
theorem Onto.step {w w1 w2 : World} {base : Nat} {e : TypeId} {b b1 b2 : Value} {l l1 m : List Nat} (h : Onto w base e b l w1 b1 l1)
    (hown : w2.ownsRow base e 1 b2 (l1.length + m.length) (u8s l1 ++ u8s m)) (hm : ∀ c ∈ m, c < 256) (hg : w1.grownBy w2 b1.ownBlock) (hat : b2.ownBlock = b1.ownBlock ∨ b2.ownBlock = some w1.heap.size)
    (hold : w2.ownsRow base e 1 b1 l1.length (u8s l1)) : Onto w base e b l w2 b2 (l1 ++ m) := by
  obtain ⟨mm, rfl⟩ := h.pre
  have hpl : b1.ownBlock = b.ownBlock ∨ ∃ g, b1.ownBlock = some g ∧ w.heap.size ≤ g := h.place
  have ho1 : OwnB w2 base e b1 (l ++ mm) := ⟨hold, h.own.2⟩
  refine ⟨⟨by rw [List.length_append, u8s_append]; exact hown, fun c hc => ?_⟩, grown_trans' h.grown hg hpl, ?_, ?_, ⟨mm ++ m, by simp⟩, h.lt⟩
  · rcases List.mem_append.1 hc with hc | hc
    · exact h.own.2 c hc
    · exact hm c hc
  · rcases hat with hat | hat
    · rw [hat]; exact hpl
    · exact .inr ⟨_, hat, h.grown.size⟩
  · rcases hpl with hpl | ⟨g, hpl, hgw⟩
    · exact h.old.pre h.own hpl ho1
    · refine h.old.kept hg ?_
      cases hbo : b.ownBlock with
      | none => exact .inl rfl
      | some k =>
        right
        rw [hpl]
        intro hk
        injection hk with hk
        have := h.lt k hbo
        omega
theorem Onto.below {w w1 : World} {base : Nat} {e : TypeId} {b b1 : Value} {l l1 : List Nat} (h : Onto w base e b l w1 b1 l1) {B : Nat} {a : World} (ha : Below B a w) (hB : B ≤ base) (hs : B ≤ w.heap.size) (hl : OwnB w base e b l) : Below B a w1 :=
  ha.grown h.grown hs fun k hk => by have := (hl.1.lt k hk).1; omega
/-- What a function that appends gives back. -/
def Appends (w : World) (base : Nat) (e : TypeId) (b : Value) (l news : List Nat) (r : Ending) (w' : World) : Prop := ∃ b', r = .returned b' ∧ Onto w base e b l w' b' (l ++ news)
/-- What an append leaves is of the call's own. -/
theorem OwnB.join {w : World} {base : Nat} {e : TypeId} {v : Value} {l m : List Nat} (h : w.ownsRow base e 1 v (l.length + m.length) (u8s l ++ u8s m)) (hl : ∀ c ∈ l, c < 256) (hm : ∀ c ∈ m, c < 256) : OwnB w base e v (l ++ m) :=
  ⟨by rw [List.length_append, u8s_append]; exact h, fun c hc => by
    rcases List.mem_append.1 hc with hc | hc
    · exact hl c hc
    · exact hm c hc⟩
theorem OwnB.past {w0 w w' : World} {base : Nat} {e : TypeId} {v : Value} {l : List Nat} {row : Option Nat} (h : OwnB w0 base e v l) (hb : Below w0.heap.size w0 w) (hg : w.grownBy w' row) (hr : ∀ k, row = some k → w0.heap.size ≤ k) : OwnB w' base e v l :=
  (h.keep hb).kept hg (by
    cases hv : v.ownBlock with
    | none => exact .inl rfl
    | some k =>
      right
      intro he
      have h1 := hr k he.symm
      have h2 := (h.1.lt k hv).2
      omega)
end Go.Proofs.Ytpdfbkkhmfnnjaa

namespace Go.Proofs
open Go.Shelf
def Try.lays215_ren : Go.Shelf.Ren := ⟨fun | 215 => 94 | n => n, fun | 3 => 3 | 4 => 4 | n => n, fun | n => n⟩
theorem Try.lays215 : Go.Proofs.Lays.n215 Try.prog Try.lays215_ren := {
  mixed := by kernel_rfl
  f215 := Try.func94.trans (congrArg some (by kernel_rfl))
  t3 := Try.underlying3
  a3 := Try.isAgg3
  z3 := Try.sizeOf3
  v3 := Try.zeroValue3
  t4 := Try.underlying4
  a4 := Try.isAgg4
  z4 := Try.sizeOf4
  v4 := Try.zeroValue4 }
open Go.RowKit in
/-- cmp.isNaN at int: 'x != x': false. (LAID: no walk: one application.) -/
theorem Try.cmp_isNaN_int (x : Int) (w : World) :
    Calls Try.prog 94 #[.int .i64 x] w fun e w' => e = .returned (.bool false) ∧ w' = w := Any.cmp_isNaN_int Try.lays215 x w
def Try.lays122_ren : Go.Shelf.Ren := ⟨fun | 122 => 73 | 215 => 94 | n => n, fun | 3 => 3 | 4 => 4 | n => n, fun | n => n⟩
theorem Try.lays122 : Go.Proofs.Lays.n122 Try.prog Try.lays122_ren := {
  mixed := by kernel_rfl
  f122 := Try.func73.trans (congrArg some (by kernel_rfl))
  f215 := Try.func94.trans (congrArg some (by kernel_rfl))
  t3 := Try.underlying3
  a3 := Try.isAgg3
  z3 := Try.sizeOf3
  v3 := Try.zeroValue3
  t4 := Try.underlying4
  a4 := Try.isAgg4
  z4 := Try.sizeOf4
  v4 := Try.zeroValue4 }
open Go.RowKit in
/-- cmp.Compare at int: "Compare returns -1 if x is less than y, 0 if x equals y, +1 if x is greater than y.": IT RETURNS 'Lib.compareInt x y'; the world is as it was. (LAID: no walk: one application.) -/
theorem Try.cmp_Compare_int (x y : Int) (w : World) :
    Calls Try.prog 73 #[.int .i64 x, .int .i64 y] w fun e w' => e = .returned (.int .i64 (Lib.compareInt x y)) ∧ w' = w := Any.cmp_Compare_int Try.lays122 x y w
def Try.lays129_ren : Go.Shelf.Ren := ⟨fun | 129 => 110 | n => n, fun | 53 => 150 | 3 => 3 | 4 => 4 | 46 => 116 | 5 => 5 | 9 => 9 | n => n, fun | n => n⟩
theorem Try.lays129 : Go.Proofs.Lays.n129 Try.prog Try.lays129_ren := {
  mixed := by kernel_rfl
  f129 := Try.func110.trans (congrArg some (by kernel_rfl))
  t3 := Try.underlying3
  a3 := Try.isAgg3
  z3 := Try.sizeOf3
  v3 := Try.zeroValue3
  t4 := Try.underlying4
  a4 := Try.isAgg4
  z4 := Try.sizeOf4
  v4 := Try.zeroValue4
  t5 := Try.underlying5
  a5 := Try.isAgg5
  z5 := Try.sizeOf5
  v5 := Try.zeroValue5
  t9 := Try.underlying9
  a9 := Try.isAgg9
  z9 := Try.sizeOf9
  v9 := Try.zeroValue9
  t46 := Try.underlying116
  a46 := Try.isAgg116
  z46 := Try.sizeOf116
  v46 := Try.zeroValue116
  t53 := Try.underlying150
  a53 := Try.isAgg150
  z53 := Try.sizeOf150
  v53 := Try.zeroValue150 }
/-- bits.Len64: "Len64 returns the minimum number of bits required to represent x; the result is 0 for x == 0.": IT RETURNS 'Lib.bitLen x'; the world is as it was. ('h0', 'h1': x is a uint64.) (LAID: no walk: one application.) -/
theorem Try.bits_Len64 (x : Int) (w : World) (h0 : 0 ≤ x) (h1 : x ≤ 18446744073709551615) :
    Calls Try.prog 110 #[.int .u64 x] w fun e w' => e = .returned (.int .i64 (Lib.bitLen x.toNat)) ∧ w' = w := Any.bits_Len64 Try.lays129 x w h0 h1
def Try.lays206_ren : Go.Shelf.Ren := ⟨fun | 206 => 111 | n => n, fun | 9 => 9 | 4 => 4 | 3 => 3 | n => n, fun | n => n⟩
theorem Try.lays206 : Go.Proofs.Lays.n206 Try.prog Try.lays206_ren := {
  mixed := by kernel_rfl
  f206 := Try.func111.trans (congrArg some (by kernel_rfl))
  t3 := Try.underlying3
  a3 := Try.isAgg3
  z3 := Try.sizeOf3
  v3 := Try.zeroValue3
  t4 := Try.underlying4
  a4 := Try.isAgg4
  z4 := Try.sizeOf4
  v4 := Try.zeroValue4
  t9 := Try.underlying9
  a9 := Try.isAgg9
  z9 := Try.sizeOf9
  v9 := Try.zeroValue9 }
open Go.RowKit Go.Lib in
/-- internal/stringslite.HasPrefix (what strings.HasPrefix calls). (LAID: no walk: one application.) -/
theorem Try.stringslite_HasPrefix (s p : ByteArray) (w : World) :
    Calls Try.prog 111 #[.string s, .string p] w fun e w' => e = .returned (.bool (Lib.hasPrefix s.data.toList p.data.toList)) ∧ w' = w := Any.stringslite_HasPrefix Try.lays206 s p w
def Try.lays99_ren : Go.Shelf.Ren := ⟨fun | 99 => 95 | 206 => 111 | n => n, fun | 9 => 9 | 4 => 4 | 3 => 3 | n => n, fun | n => n⟩
theorem Try.lays99 : Go.Proofs.Lays.n99 Try.prog Try.lays99_ren := {
  mixed := by kernel_rfl
  f99 := Try.func95.trans (congrArg some (by kernel_rfl))
  f206 := Try.func111.trans (congrArg some (by kernel_rfl))
  t3 := Try.underlying3
  a3 := Try.isAgg3
  z3 := Try.sizeOf3
  v3 := Try.zeroValue3
  t4 := Try.underlying4
  a4 := Try.isAgg4
  z4 := Try.sizeOf4
  v4 := Try.zeroValue4
  t9 := Try.underlying9
  a9 := Try.isAgg9
  z9 := Try.sizeOf9
  v9 := Try.zeroValue9 }
open Go.RowKit Go.Lib in
/-- strings.HasPrefix: "HasPrefix reports whether the string s begins with prefix.": IT RETURNS 'Lib.hasPrefix s prefix'; the world is as it was. (LAID: no walk: one application.) -/
theorem Try.strings_HasPrefix (s p : ByteArray) (w : World) :
    Calls Try.prog 95 #[.string s, .string p] w fun e w' => e = .returned (.bool (Lib.hasPrefix s.data.toList p.data.toList)) ∧ w' = w := Any.strings_HasPrefix Try.lays99 s p w
end Go.Proofs

namespace Go.Proofs.Ytpdfbkkhmfnnjaa
open Go.RowKit
set_option linter.unusedVariables false
set_option linter.unusedSimpArgs false
set_option maxRecDepth 20000
attribute [local go_sem ↓] Go.wp_at_zero Go.wp_at_succ
attribute [local go_sem] World.cell?_alloc_some frozen_alloc_some

/-- All but the blocks of F is as it was. -/
structure Turn (F : Nat → Prop) (w w' : World) : Prop where
  os : w'.os = w.os
  tape : w'.tape = w.tape
  output : w'.output = w.output
  size : w.heap.size ≤ w'.heap.size
  block : ∀ k, k < w.heap.size → ¬ F k → w'.heap[k]? = w.heap[k]?
theorem Turn.refl (F : Nat → Prop) (w : World) : Turn F w w := ⟨rfl, rfl, rfl, Nat.le_refl _, fun _ _ _ => rfl⟩
theorem Turn.trans {F F' : Nat → Prop} {a b c : World} (h : Turn F a b) (k : Turn F' b c) (hF : ∀ i, F' i → F i ∨ a.heap.size ≤ i) : Turn F a c :=
  ⟨k.os.trans h.os, k.tape.trans h.tape, k.output.trans h.output, Nat.le_trans h.size k.size, fun i hi hn => (k.block i (Nat.lt_of_lt_of_le hi h.size) (fun e => by rcases hF i e with e | e; exact hn e; omega)).trans (h.block i hi hn)⟩
theorem Turn.of_below {F : Nat → Prop} {w w' : World} (h : Below w.heap.size w w') : Turn F w w' := ⟨h.os, h.tape, h.output, h.size, fun k hk _ => h.block k hk⟩
theorem Turn.of_grown {F : Nat → Prop} {w w' : World} {row : Option Nat} (h : w.grownBy w' row) (hF : ∀ k, row = some k → F k) : Turn F w w' :=
  ⟨h.os, h.tape, h.output, h.size, fun k hk hn => h.block k hk fun e => hn (hF k e.symm)⟩
theorem Turn.mono {F F' : Nat → Prop} {w w' : World} (h : Turn F w w') (hF : ∀ k, k < w.heap.size → F k → F' k) : Turn F' w w' := ⟨h.os, h.tape, h.output, h.size, fun k hk hn => h.block k hk fun e => hn (hF k hk e)⟩
theorem Turn.below {F : Nat → Prop} {B : Nat} {a w w' : World} (h : Below B a w) (k : Turn F w w') (hF : ∀ i, F i → B ≤ i) (hs : B ≤ w.heap.size) : Below B a w' :=
  ⟨k.os.trans h.os, k.tape.trans h.tape, k.output.trans h.output, Nat.le_trans h.size k.size, fun i hi => (k.block i (by omega) (fun e => by have := hF i e; omega)).trans (h.block i hi)⟩
theorem Turn.blk {F : Nat → Prop} {w w' : World} {g : Nat} {t : TypeId} {cs : Array Value} (k : Turn F w w') (h : Blk w g t cs) (hg : ¬ F g) : Blk w' g t cs := (k.block g h.lt hg).trans h
theorem Turn.cell {F : Nat → Prop} {w w' : World} {a : Addr} {v : Value} (k : Turn F w w') (h : w.cell? a = some v) (hg : ¬ F a.block) : w'.cell? a = some v := by
  have hlt := World.block_lt_of_cell? _ _ h
  rw [World.cell?_of_block (k.block _ hlt hg)]
  exact h
theorem Turn.bytes {F : Nat → Prop} {w w' : World} {A : Option Addr} {m : Nat} {l : List Nat} (k : Turn F w w') (h : Bytes w A m l) (hg : ∀ ad, A = some ad → 0 < m → ¬ F ad.block) : Bytes w' A m l :=
  ⟨h.1, h.2.1, fun i x hi => by
    obtain ⟨h1, ad, e, h2⟩ := h.2.2 i x hi
    have hm : 0 < m := by have h3 := (List.getElem?_eq_some_iff.1 hi).1; have := h.1; omega
    refine ⟨h1, ad, e, k.cell h2 ?_⟩
    have : (ad.add i).block = ad.block := by unfold Addr.add; split <;> rfl
    rw [this]
    exact hg ad e hm⟩

theorem blk_ne {w : World} {e e' : Nat} {cs cs' : Array Value} {t t' : TypeId} (h : Blk w e t cs) (h' : Blk w e' t' cs') (ht : t ≠ t') : e ≠ e' := fun e2 => by
  subst e2
  have := Option.some.inj (h.symm.trans h')
  simp only [Obj.cells.injEq] at this
  exact ht this.2.1
theorem blk_newAt {w : World} {g : Nat} {t : TypeId} {cs : Array Value} (h : w.heap.size = g) : Blk (w.alloc (.cells cs t)) g t cs := by subst h; exact Blk.new w t cs
theorem below_own {B b : Nat} {a w w' : World} (h : Below B a w) (k : w.grownBy w' (some b)) (hB : B ≤ b) (hs : B ≤ w.heap.size) : Below B a w' :=
  ⟨k.os.trans h.os, k.tape.trans h.tape, k.output.trans h.output, Nat.le_trans h.size k.size, fun i hi => (k.block i (by omega) (fun e => by injection e with e; omega)).trans (h.block i hi)⟩
theorem Turn.setCell {w : World} {g : Nat} {t : TypeId} {cs : Array Value} (h : Blk w g t cs) (i : Nat) (v : Value) : Turn (fun k => k = g) w (w.setCell ⟨g, i, none⟩ v) :=
  ⟨rfl, rfl, rfl, by simp, fun k hk hn => heap_setCell_other w ⟨g, i, none⟩ k v (fun e => hn e)⟩
end Go.Proofs.Ytpdfbkkhmfnnjaa

namespace Go.Proofs.Ytpdfbkkhmfnnjaa
open Go.RowKit
set_option linter.unusedVariables false
set_option linter.unusedSimpArgs false
set_option maxRecDepth 20000
attribute [local go_sem ↓] Go.wp_at_zero Go.wp_at_succ
attribute [local go_sem] World.cell?_alloc_some frozen_alloc_some
open Go.Maps

/-- A kind of map: its types, how its keys and elements are spelled, and read. -/
structure MK (κ ε : Type) where
  mt : TypeId
  kt : TypeId
  et : TypeId
  kv : κ → Value
  kl : κ → Lit
  wf : κ → Prop
  ev : ε → Value
  e0 : ε
  cd : ε → DataW Unit
  und : Try.prog.underlying mt = some (.map kt et)
  law : Keyed Try.prog kt
  key : ∀ {k}, wf k → keyOf Try.prog kt (kv k) = some (kl k)
  isKey : ∀ k, WideAt.IsKeyLit (kl k)
  inj : ∀ {a b}, wf a → wf b → kl a = kl b → a = b
  evi : ∀ {a b}, ev a = ev b → a = b
  cdi : ∀ {a b}, cd a = cd b → a = b
  zero : ∀ w, (zeroValue et).run Try.prog w = .ok (ev e0) w
section
variable {κ ε : Type}
open Classical in
noncomputable def MK.R (m : MK κ ε) (v : Value) : Option (DataW Unit × List MemPlace) := if h : ∃ e, v = m.ev e then some (m.cd h.choose, []) else none
theorem MK.R_ev (m : MK κ ε) (e : ε) : m.R (m.ev e) = some (m.cd e, []) := by
  have h : ∃ e', m.ev e = m.ev e' := ⟨e, rfl⟩
  unfold MK.R
  rw [dif_pos h, ← m.evi h.choose_spec]
theorem MK.R_inv (m : MK κ ε) {v : Value} {e : ε} {z : List MemPlace} (h : m.R v = some (m.cd e, z)) : v = m.ev e := by
  unfold MK.R at h
  split at h
  · next hx =>
    simp only [Option.some.injEq, Prod.mk.injEq] at h
    rw [← m.cdi h.1]
    exact hx.choose_spec
  · cases h
abbrev Nd (x : List (κ × ε)) : Prop := x.Pairwise fun a b => a.1 ≠ b.1
def outM [DecidableEq κ] (x : List (κ × ε)) (s : κ) : List (κ × ε) := x.filter fun t => decide (t.1 ≠ s)
def hasM [DecidableEq κ] (x : List (κ × ε)) (s : κ) : Bool := x.any fun t => decide (t.1 = s)
def getM [DecidableEq κ] (z : ε) (x : List (κ × ε)) (s : κ) : ε := match x.find? (fun t => decide (t.1 = s)) with | some t => t.2 | none => z
theorem mem_outM [DecidableEq κ] {x : List (κ × ε)} {s : κ} {t : κ × ε} : t ∈ outM x s ↔ t ∈ x ∧ t.1 ≠ s := by simp [outM]
theorem hasM_iff [DecidableEq κ] {x : List (κ × ε)} {s : κ} : hasM x s = true ↔ ∃ t ∈ x, t.1 = s := by simp [hasM]
theorem hasM_mem [DecidableEq κ] {x : List (κ × ε)} {t : κ × ε} (h : t ∈ x) : hasM x t.1 = true := hasM_iff.2 ⟨t, h, rfl⟩
theorem hasM_no [DecidableEq κ] {x : List (κ × ε)} {s : κ} (h : hasM x s = false) : ∀ t ∈ x, t.1 ≠ s := fun t ht e => by rw [← e, hasM_mem ht] at h; cases h
theorem outM_nd [DecidableEq κ] {x : List (κ × ε)} (h : Nd x) (s : κ) : Nd (outM x s) := List.Pairwise.filter _ h
theorem nd_one {x : List (κ × ε)} (h : Nd x) {t u : κ × ε} (ht : t ∈ x) (hu : u ∈ x) (e : t.1 = u.1) : t = u := by
  induction x with
  | nil => cases ht
  | cons v r ih =>
    obtain ⟨h1, h2⟩ := List.pairwise_cons.1 h
    rcases List.mem_cons.1 ht with e1 | ht2
    · rcases List.mem_cons.1 hu with e2 | hu2
      · rw [e1, e2]
      · exact absurd (by rw [← e1]; exact e) (h1 u hu2)
    · rcases List.mem_cons.1 hu with e2 | hu2
      · exact absurd (by rw [← e2]; exact e.symm) (h1 t ht2)
      · exact ih h2 ht2 hu2
theorem outM_same [DecidableEq κ] {x : List (κ × ε)} {s : κ} (h : ∀ t ∈ x, t.1 ≠ s) : outM x s = x := List.filter_eq_self.2 fun t ht => by simpa using h t ht
theorem outM_length [DecidableEq κ] {s : κ} : ∀ {x : List (κ × ε)}, Nd x → (outM x s).length + (if hasM x s then 1 else 0) = x.length
  | [], _ => rfl
  | t :: x, h => by
    obtain ⟨h1, h2⟩ := List.pairwise_cons.1 h
    have ih := outM_length (s := s) h2
    unfold hasM at ih ⊢
    by_cases e : t.1 = s
    · have ho : outM (t :: x) s = outM x s := by simp [outM, e]
      have hs : outM x s = x := outM_same fun u hu hui => h1 u hu (e.trans hui.symm)
      rw [ho, hs]
      simp [e]
    · have ho : outM (t :: x) s = t :: outM x s := by simp [outM, e]
      rw [ho]
      simp only [List.any_cons, e, decide_false, Bool.false_or, List.length_cons]
      omega
theorem getM_hit [DecidableEq κ] {z : ε} {x : List (κ × ε)} (h : Nd x) {t : κ × ε} (ht : t ∈ x) : getM z x t.1 = t.2 := by
  unfold getM
  cases hf : x.find? (fun u => decide (u.1 = t.1)) with
  | none =>
    have := List.find?_eq_none.1 hf t ht
    simp at this
  | some u =>
    have h1 := List.find?_some hf
    rw [nd_one h (List.mem_of_find?_eq_some hf) ht (by simpa using h1)]
theorem getM_miss [DecidableEq κ] {z : ε} {x : List (κ × ε)} {s : κ} (hn : hasM x s = false) : getM z x s = z := by
  unfold getM
  cases hf : x.find? (fun u => decide (u.1 = s)) with
  | none => rfl
  | some u =>
    have h1 := List.find?_some hf
    have := hasM_iff.2 ⟨u, List.mem_of_find?_eq_some hf, of_decide_eq_true h1⟩
    rw [hn] at this; cases this
theorem nd_nodup {x : List (κ × ε)} (h : Nd x) : x.Nodup := h.imp fun {a b} hab e => hab (by rw [e])
theorem nd_put [DecidableEq κ] {x : List (κ × ε)} (h : Nd x) (t : κ × ε) : Nd (outM x t.1 ++ [t]) :=
  List.pairwise_append.2 ⟨outM_nd h _, by simp, fun a ha b hb => by simp at hb; rw [hb]; exact (mem_outM.1 ha).2⟩

/-- The map holds just these. -/
structure RepM (m : MK κ ε) (D : DataW Unit) (x : List (κ × ε)) : Prop where
  has : ∀ t ∈ x, Maps.has D (m.kl t.1) = true
  at_ : ∀ t ∈ x, ∀ z, D.atKey (m.kl t.1) z = m.cd t.2
  only : ∀ kl, Maps.has D kl = true → ∃ t ∈ x, kl = m.kl t.1
  size : Maps.size D = x.length
  nd : Nd x
  wf : ∀ t ∈ x, m.wf t.1
variable {m : MK κ ε}
theorem RepM.nil : RepM m (.map [] : DataW Unit) [] :=
  ⟨(fun t h => by cases h), (fun t h => by cases h), (fun kl h => by simp [Maps.has] at h), rfl, List.Pairwise.nil, (fun t h => by cases h)⟩
theorem RepM.hit [DecidableEq κ] {D : DataW Unit} {x : List (κ × ε)} (h : RepM m D x) {s : κ} (hs : m.wf s) : Maps.has D (m.kl s) = hasM x s := by
  rw [Bool.eq_iff_iff, hasM_iff]
  constructor
  · intro hh
    obtain ⟨t, ht, e⟩ := h.only _ hh
    exact ⟨t, ht, (m.inj hs (h.wf t ht) e).symm⟩
  · rintro ⟨t, ht, e⟩
    rw [← e]
    exact h.has t ht
theorem RepM.del [DecidableEq κ] {D : DataW Unit} {x : List (κ × ε)} (h : RepM m D x) (hT : Tidy D) {s : κ} (hs : m.wf s) : RepM m (D.del (m.kl s)) (outM x s) := by
  have hne : ∀ t ∈ outM x s, m.kl t.1 ≠ m.kl s := fun t ht e => (mem_outM.1 ht).2 (m.inj (h.wf t (mem_outM.1 ht).1) hs e)
  refine ⟨fun t ht => ?_, fun t ht z => ?_, fun kl hk => ?_, ?_, outM_nd h.nd s, fun t ht => h.wf t (mem_outM.1 ht).1⟩
  · rw [has_del_other (hne t ht)]; exact h.has t (mem_outM.1 ht).1
  · rw [atKey_del_other (hne t ht)]; exact h.at_ t (mem_outM.1 ht).1 z
  · have hki : kl ≠ m.kl s := fun e => by rw [e, has_del_same] at hk; cases hk
    rw [has_del_other hki] at hk
    obtain ⟨t, ht, e⟩ := h.only kl hk
    exact ⟨t, mem_outM.2 ⟨ht, fun e2 => hki (by rw [e, e2])⟩, e⟩
  · have h1 := size_del (k := m.kl s) hT
    have h2 := outM_length (s := s) h.nd
    rw [h.hit hs] at h1
    rw [h.size] at h1
    cases ha : hasM x s
    · rw [ha] at h1 h2
      simp at h1 h2
      omega
    · rw [ha] at h1 h2
      simp at h1 h2
      omega
theorem RepM.put [DecidableEq κ] {D : DataW Unit} {x : List (κ × ε)} (h : RepM m D x) (hT : Tidy D) {t : κ × ε} (hi : m.wf t.1) : RepM m (D.put (m.kl t.1) (m.cd t.2)) (outM x t.1 ++ [t]) := by
  have hne : ∀ u ∈ outM x t.1, m.kl u.1 ≠ m.kl t.1 := fun u hu e => (mem_outM.1 hu).2 (m.inj (h.wf u (mem_outM.1 hu).1) hi e)
  have hy : ∀ u, u ∈ outM x t.1 ++ [t] ↔ u = t ∨ u ∈ outM x t.1 := fun u => by simp [or_comm]
  refine ⟨fun u hu => ?_, fun u hu z => ?_, fun kl hk => ?_, ?_, nd_put h.nd t, fun u hu => ?_⟩
  · rcases (hy u).1 hu with rfl | hu
    · exact has_put_same hT.isMap (m.isKey _) _
    · rw [has_put_other (hne u hu)]; exact h.has u (mem_outM.1 hu).1
  · rcases (hy u).1 hu with rfl | hu
    · exact atKey_put_same hT.isMap (m.isKey _) _ _
    · rw [atKey_put_other (hne u hu)]; exact h.at_ u (mem_outM.1 hu).1 z
  · by_cases hki : kl = m.kl t.1
    · exact ⟨t, (hy t).2 (.inl rfl), hki⟩
    · rw [has_put_other hki] at hk
      obtain ⟨u, hu, e⟩ := h.only kl hk
      exact ⟨u, (hy u).2 (.inr (mem_outM.2 ⟨hu, fun e2 => hki (by rw [e, e2])⟩)), e⟩
  · rw [size_put hT, List.length_append]
    have h2 := outM_length (s := t.1) h.nd
    rw [h.hit hi, h.size]
    cases ha : hasM x t.1
    · rw [ha] at h2
      simp at h2 ⊢
      omega
    · rw [ha] at h2
      simp at h2 ⊢
      omega
  · rcases (hy u).1 hu with rfl | hu
    · exact hi
    · exact h.wf u (mem_outM.1 hu).1
/-- The same in another order. -/
theorem RepM.other {D : DataW Unit} {x y : List (κ × ε)} (h : RepM m D x) (hn : Nd y) (hl : y.length = x.length) (hm : ∀ t, t ∈ y ↔ t ∈ x) : RepM m D y :=
  ⟨fun t ht => h.has t ((hm t).1 ht), fun t ht => h.at_ t ((hm t).1 ht), fun kl hk => by obtain ⟨t, ht, e⟩ := h.only kl hk; exact ⟨t, (hm t).2 ht, e⟩, h.size.trans hl.symm, hn, fun t ht => h.wf t ((hm t).1 ht)⟩
/-- The map in a block of the call's own. -/
def GAt (m : MK κ ε) (w : World) (b : Nat) (x : List (κ × ε)) : Prop := ∃ D, w.ownsMap Try.prog m.kt m.R b x.length D ∧ RepM m D x
theorem gmap_tight {P : Program} {k : TypeId} {R : Value → Option (DataW Unit × List MemPlace)} {w : World} {b n : Nat} {D : DataW Unit} (h : w.ownsMap P k R b n D) {j : Nat} (hm : Maps.size D = j) : w.ownsMap P k R b j D := by
  obtain ⟨es, clock, h1, h2, _, h3⟩ := h
  refine ⟨es, clock, h1, h2, ?_, h3⟩
  rw [h3] at hm
  simp [Maps.size, length_sorted] at hm
  omega
theorem GAt.made (m : MK κ ε) (w : World) : GAt m (w.alloc (.map #[] 0)) w.heap.size [] := ⟨_, World.ownsMap_made w _ _ _, RepM.nil⟩
theorem GAt.madeAt (m : MK κ ε) {w : World} {g : Nat} (h : w.heap.size = g) : GAt m (w.alloc (.map #[] 0)) g [] := by subst h; exact GAt.made m w
theorem GAt.kept {w w' : World} {row : Option Nat} {b : Nat} {x : List (κ × ε)} (h : GAt m w b x) (hg : w.grownBy w' row) (hne : some b ≠ row) : GAt m w' b x := by
  obtain ⟨D, h1, h2⟩ := h
  exact ⟨D, h1.kept hg hne, h2⟩
theorem GAt.same {w w' : World} {b : Nat} {x : List (κ × ε)} (h : GAt m w b x) (hb : w'.heap[b]? = w.heap[b]?) : GAt m w' b x := by
  obtain ⟨D, ⟨es, c, h1, h2⟩, h3⟩ := h
  exact ⟨D, ⟨es, c, hb.trans h1, h2⟩, h3⟩
theorem GAt.lt {w : World} {b : Nat} {x : List (κ × ε)} (h : GAt m w b x) : b < w.heap.size := by
  obtain ⟨D, h1, _⟩ := h
  exact h1.lt
theorem GAt.keep {w w' : World} {b : Nat} {x : List (κ × ε)} (h : GAt m w b x) (hb : Below w.heap.size w w') : GAt m w' b x := h.same (hb.block b h.lt)
theorem GAt.is_map {w : World} {b : Nat} {x : List (κ × ε)} (h : GAt m w b x) : ∃ es c, w.heap[b]? = some (.map es c) := by
  obtain ⟨D, ⟨es, c, h1, _⟩, _⟩ := h
  exact ⟨es, c, h1⟩
theorem GAt.ne_blk {w : World} {b : Nat} {x : List (κ × ε)} (h : GAt m w b x) {e : Nat} {cs : Array Value} {t : TypeId} (hb : Blk w e t cs) : b ≠ e := fun e2 => by
  subst e2
  obtain ⟨es, c, hm⟩ := h.is_map
  have := hm.symm.trans hb
  cases this
theorem GAt.nd {w : World} {b : Nat} {x : List (κ × ε)} (h : GAt m w b x) : Nd x := by
  obtain ⟨D, _, h2⟩ := h
  exact h2.nd
theorem GAt.wf {w : World} {b : Nat} {x : List (κ × ε)} (h : GAt m w b x) : ∀ t ∈ x, m.wf t.1 := by
  obtain ⟨D, _, h2⟩ := h
  exact h2.wf
theorem GAt.other {w : World} {b : Nat} {x y : List (κ × ε)} (h : GAt m w b x) (hn : Nd y) (hl : y.length = x.length) (hm : ∀ t, t ∈ y ↔ t ∈ x) : GAt m w b y := by
  obtain ⟨D, h1, h2⟩ := h
  exact ⟨D, by rw [hl]; exact h1, h2.other hn hl hm⟩
theorem GAt.look_ok [DecidableEq κ] {w : World} {b : Nat} {x : List (κ × ε)} (h : GAt m w b x) {s : κ} (hi : m.wf s) :
    (Instr.lookup m.mt (.map (some b)) (m.kv s) true).run Try.prog w = .ok (.tuple #[m.ev (getM m.e0 x s), .bool (hasM x s)]) w := by
  obtain ⟨D, h1, h2⟩ := h
  obtain ⟨v, ps, hrun, hv⟩ := h1.look_ok m.law m.und (m.zero w) (m.R_ev m.e0) (m.key hi)
  cases ha : hasM x s
  · rw [atKey_of_not_has (by rw [h2.hit hi, ha])] at hv
    obtain rfl := m.R_inv hv
    rw [hrun, h2.hit hi, ha, getM_miss ha]
  · obtain ⟨t, ht, e⟩ := hasM_iff.1 ha
    subst e
    rw [h2.at_ t ht] at hv
    obtain rfl := m.R_inv hv
    rw [hrun, h2.hit hi, ha, getM_hit h2.nd ht]
theorem GAt.look [DecidableEq κ] {w : World} {b : Nat} {x : List (κ × ε)} (h : GAt m w b x) {s : κ} (hi : m.wf s) :
    (Instr.lookup m.mt (.map (some b)) (m.kv s) false).run Try.prog w = .ok (m.ev (getM m.e0 x s)) w := by
  obtain ⟨D, h1, h2⟩ := h
  obtain ⟨v, ps, hrun, hv⟩ := h1.lookup m.law m.und (m.zero w) (m.R_ev m.e0) (m.key hi)
  cases ha : hasM x s
  · rw [atKey_of_not_has (by rw [h2.hit hi, ha])] at hv
    obtain rfl := m.R_inv hv
    rw [hrun, getM_miss ha]
  · obtain ⟨t, ht, e⟩ := hasM_iff.1 ha
    subst e
    rw [h2.at_ t ht] at hv
    obtain rfl := m.R_inv hv
    rw [hrun, getM_hit h2.nd ht]
theorem GAt.store [DecidableEq κ] {w : World} {b : Nat} {x : List (κ × ε)} (h : GAt m w b x) (hn : x.length < maxLen) {s : κ} (e : ε) (hi : m.wf s) :
    ∃ w', (Instr.mapUpdate m.mt (.map (some b)) (m.kv s) (m.ev e)).run Try.prog w = .ok () w' ∧ GAt m w' b (outM x s ++ [(s, e)]) ∧ w.mapTurned w' b := by
  obtain ⟨D, h1, h2⟩ := h
  obtain ⟨w', hrun, h3, h4⟩ := h1.store m.law m.und hn (m.key hi) (m.R_ev e)
  have h5 := h2.put (h1.tidy m.law) (t := (s, e)) hi
  exact ⟨w', hrun, ⟨_, gmap_tight h3 h5.size, h5⟩, h4⟩
theorem GAt.drop [DecidableEq κ] {w : World} {b : Nat} {x : List (κ × ε)} (h : GAt m w b x) {s : κ} (hi : m.wf s) (ty : TypeId) :
    ∃ w', (Builtin.delete_ #[m.mt, m.kt] ty #[.map (some b), m.kv s]).run Try.prog w = .ok (.tuple #[]) w' ∧ GAt m w' b (outM x s) ∧ w.mapTurned w' b := by
  obtain ⟨D, h1, h2⟩ := h
  obtain ⟨w', hrun, h3, h4⟩ := h1.drop m.law m.und (m.key hi) ty
  have h5 := h2.del (h1.tidy m.law) hi
  exact ⟨w', hrun, ⟨_, gmap_tight h3 h5.size, h5⟩, h4⟩
theorem GAt.size_ {w : World} {b : Nat} {x : List (κ × ε)} (h : GAt m w b x) (ty : TypeId) : (Builtin.len_ #[m.mt] ty #[.map (some b)]).run Try.prog w = .ok (.int .i64 (x.length : Nat)) w := by
  obtain ⟨D, h1, h2⟩ := h
  rw [h1.len m.und ty, h2.size]
theorem Turn.of_map {w w' : World} {b : Nat} (h : w.mapTurned w' b) : Turn (fun k => k = b) w w' := Turn.of_grown h.grown fun k e => by injection e with e; exact e.symm

/-- A range over the map under way: l has come. -/
def RangeM [DecidableEq κ] (m : MK κ ε) (w : World) (b r : Nat) (x l : List (κ × ε)) (cnt : Nat) : Prop := ∃ D left, w.ranges Try.prog m.kt m.R b r x.length D left cnt ∧ RepM m D x ∧ (∀ t ∈ x, left (m.kl t.1) = !hasM l t.1) ∧ (∀ t ∈ l, t ∈ x) ∧ Nd l ∧ cnt + l.length ≤ x.length
theorem RangeM.kept [DecidableEq κ] {w w' : World} {row : Option Nat} {b r c : Nat} {x l : List (κ × ε)} (h : RangeM m w b r x l c) (hg : w.grownBy w' row) (hb : some b ≠ row) (hr : some r ≠ row) : RangeM m w' b r x l c := by
  obtain ⟨D, left, h1, h2⟩ := h
  exact ⟨D, left, h1.kept hg hb hr, h2⟩
theorem RangeM.keep [DecidableEq κ] {w w' : World} {b r c : Nat} {x l : List (κ × ε)} (h : RangeM m w b r x l c) (hb : Below w.heap.size w w') : RangeM m w' b r x l c :=
  h.kept (grown_of_below hb none) (by simp) (by simp)
theorem RangeM.is_iter [DecidableEq κ] {w : World} {b r c : Nat} {x l : List (κ × ε)} (h : RangeM m w b r x l c) : ∃ m s sn c, w.heap[r]? = some (.mapIter m s sn c) := by
  obtain ⟨D, left, ⟨es, clock, since, seen, c0, _, _, _, _, hr, _⟩, _⟩ := h
  exact ⟨_, _, _, _, hr⟩
theorem RangeM.left_eq [DecidableEq κ] {w : World} {b r c : Nat} {x l : List (κ × ε)} (h : RangeM m w b r x l c) : w.rangeLeft b r = c := by
  obtain ⟨D, left, h1, _⟩ := h
  exact h1.left_eq
theorem RangeM.lt [DecidableEq κ] {w : World} {b r c : Nat} {x l : List (κ × ε)} (h : RangeM m w b r x l c) : r < w.heap.size := by
  obtain ⟨D, left, h1, _⟩ := h
  exact h1.lt
theorem RangeM.sub [DecidableEq κ] {w : World} {b r c : Nat} {x l : List (κ × ε)} (h : RangeM m w b r x l c) : (∀ t ∈ l, t ∈ x) ∧ Nd l := by
  obtain ⟨D, left, _, _, _, h1, h2, _⟩ := h
  exact ⟨h1, h2⟩
theorem RangeM.owns [DecidableEq κ] {w : World} {b r c : Nat} {x l : List (κ × ε)} (h : RangeM m w b r x l c) : GAt m w b x := by
  obtain ⟨D, left, h1, h2, _⟩ := h
  exact ⟨D, h1.owns, h2⟩
theorem hasM_snoc [DecidableEq κ] {l : List (κ × ε)} {t : κ × ε} {s : κ} : hasM (l ++ [t]) s = (hasM l s || decide (s = t.1)) := by
  unfold hasM
  rw [List.any_append]
  congr 1
  simp only [List.any_cons, List.any_nil, Bool.or_false]
  rw [Bool.eq_iff_iff]
  simp only [decide_eq_true_eq]
  exact eq_comm
theorem wpList_range_g [DecidableEq κ] {P : Program} (hP : P = Try.prog) (w : World) {ops : Array Oper} {rest : List Oper} {o : Oper} {a : Act} {Q : Exit → Act → World → Prop} (hg : o.guard = none) (mo : Operand) (m : MK κ ε) (hop : o.op = Op.range m.mt mo) (b : Nat) (x : List (κ × ε)) (r : Nat) (hrr : w.heap.size = r) (hm : a.eval mo = .map (some b)) (h : GAt m w b x)
    (hK : ∀ w', RangeM m w' b r x [] x.length → Below w.heap.size w w' → w'.heap.size = r + 1 → wpList P ops Q rest (a.put o.dst (.pointer (some ⟨r, 0, none⟩))) w') :
    wpList P ops Q (o :: rest) a w := by
  subst hP
  subst hrr
  obtain ⟨D, h1, h2⟩ := h
  refine wpList_range_own w hg mo _ hop _ _ m.law m.und m.R b x.length D hm h1 fun w' hr hgr hs => hK w' ⟨D, _, by rw [← h2.size] at hr ⊢; exact hr, h2, (fun t ht => by rw [h2.has t ht]; rfl), (fun t ht => by cases ht), List.Pairwise.nil, Nat.le_refl _⟩ ⟨hgr.os, hgr.tape, hgr.output, hgr.size, fun i hi => hgr.block i hi (by simp)⟩ hs
theorem wpList_next_g [DecidableEq κ] {P : Program} (hP : P = Try.prog) (w : World) {ops : Array Oper} {rest : List Oper} {o : Oper} {a : Act} {Q : Exit → Act → World → Prop} (hg : o.guard = none) (it : Operand) (hop : o.op = Op.next it false) (b r c : Nat) (x l : List (κ × ε)) (hit : a.eval it = .pointer (some ⟨r, 0, none⟩)) (h : RangeM m w b r x l c)
    (hDone : Hid (l.Perm x) → wpList P ops Q rest (a.put o.dst (.tuple #[.bool false])) w)
    (hMore : ∀ (s : κ) (e : ε) (w' : World) (c' : Nat), Hid ((s, e) ∈ x) → RangeM m w' b r x (l ++ [(s, e)]) c' → Hid (c' < c ∧ l.length < x.length) → w.grownBy w' (some r) → (Instr.entry (.pointer (some ⟨r, 0, none⟩))).run P w' = .ok (.tuple #[m.kv s, m.ev e]) w' → wpList P ops Q rest (a.put o.dst (.tuple #[.bool true, m.kv s, m.ev e])) w') :
    wpList P ops Q (o :: rest) a w := by
  subst hP
  obtain ⟨D, left, hr, hR, hl, hsub, hnd, hcnt⟩ := h
  refine wpList_plain hg fun K' hK' => ?_
  unfold Oper.wp
  rcases hr.next m.law o.type with ⟨h0, hl0, hrun⟩ | ⟨key, v, kl, y, w', cnt', hkey, hlk, hv, hat, hrun, hrg, hlt, hgr, hsz, hen⟩
  · simp [execOp, hop, hit, hrun, Result.andThen]
    have hall : ∀ t ∈ x, t ∈ l := fun t ht => ?_
    · refine hK' _ _ (hDone (Lib.hid ?_))
      exact (List.perm_ext_iff_of_nodup (nd_nodup hnd) (nd_nodup hR.nd)).2 fun t => ⟨hsub t, hall t⟩
    have h1 := hl t ht
    rw [hl0] at h1
    have h2 : hasM l t.1 = true := by simpa using h1.symm
    obtain ⟨u, hu, e⟩ := hasM_iff.1 h2
    rw [nd_one hR.nd ht (hsub u hu) e.symm]
    exact hu
  · have hhas := has_true_of_atKey hat
    obtain ⟨t, ht, rfl⟩ := hR.only kl hhas
    obtain rfl : key = m.kv t.1 := m.law.inj hkey (m.key (hR.wf t ht))
    have e1 := hat (.lit (.int .i64 0))
    rw [hR.at_ t ht] at e1
    obtain ⟨y1, y2⟩ := y
    simp only at e1
    subst e1
    obtain rfl := m.R_inv hv
    have hnl : hasM l t.1 = false := by
      have h1 := hl t ht
      rw [hlk] at h1
      simpa using h1.symm
    have hapart : ∀ u ∈ l, u.1 ≠ t.1 := hasM_no hnl
    have hnot : t ∉ l := fun hm => hapart t hm rfl
    have hlen : l.length < x.length := by omega
    simp [execOp, hop, hit, hrun, Result.andThen]
    refine hK' _ _ (hMore t.1 t.2 w' cnt' (Lib.hid ht) ⟨D, _, hrg, hR, fun u hu => ?_, fun u hu => ?_, ?_, ?_⟩ (Lib.hid ⟨hlt, hlen⟩) hgr hen)
    · show (left (m.kl u.1) && !(m.kl u.1).sameKey (m.kl t.1)) = _
      rw [hl u hu, hasM_snoc]
      by_cases e : u.1 = t.1
      · rw [e, WideAt.sameKey_self (m.isKey _)]; simp
      · rw [sameKey_ne fun h => e (m.inj (hR.wf u hu) (hR.wf t ht) h)]; simp [e]
    · rcases List.mem_append.1 hu with hu | hu
      · exact hsub u hu
      · simp at hu; rw [hu]; exact ht
    · exact List.pairwise_append.2 ⟨hnd, by simp, fun u hu v hv => by simp at hv; rw [hv]; exact hapart u hu⟩
    · simp; omega
theorem sum_sub_g {α : Type} [DecidableEq α] (f : α → Nat) : ∀ {l x : List α}, l.Nodup → (∀ t ∈ l, t ∈ x) → (l.map f).sum ≤ (x.map f).sum
  | [], _, _, _ => by simp
  | t :: l, x, hn, h => by
    obtain ⟨h1, h2⟩ := List.nodup_cons.1 hn
    have hm := h t (by simp)
    have ih := sum_sub_g f (l := l) (x := x.erase t) h2 fun u hu => (List.mem_erase_of_ne fun e => h1 (by rw [← e]; exact hu)).2 (h u (by simp [hu]))
    have hp := ((List.perm_cons_erase hm).map f).sum_nat
    simp only [List.map_cons, List.sum_cons] at hp ⊢
    omega
end
end Go.Proofs.Ytpdfbkkhmfnnjaa

namespace Go.Proofs.Ytpdfbkkhmfnnjaa
open Go.RowKit
set_option linter.unusedVariables false
set_option linter.unusedSimpArgs false
set_option maxRecDepth 20000
attribute [local go_sem ↓] Go.wp_at_zero Go.wp_at_succ
attribute [local go_sem] World.cell?_alloc_some frozen_alloc_some
open Go.Maps

abbrev wfI (i : IdP) : Prop := (Lit.int .i64 i.1).wf = true ∧ (Lit.int .i64 i.2).wf = true
abbrev idV (i : IdP) : Value := .agg #[.int .i64 i.1, .int .i64 i.2]
/-- What an id reads as, as a key. -/
def idK (i : IdP) : Lit := .string (keyBytes [.int .i64 i.1, .int .i64 i.2])
theorem idK_key (i : IdP) : WideAt.IsKeyLit (idK i) := trivial
theorem laidOutW : laidOutB Try.prog = true := by kernel_rfl
theorem rowId : (26 : TypeId) < Try.prog.types.size := of_decide_eq_true (by kernel_rfl)
theorem wideId : (match Try.prog.underlying 26 with | some (.array _ _) | some (.struct _) => true | _ => false) = true := by rw [Try.underlying26]
theorem idLaw : Keyed Try.prog 26 := Keyed.of_law (deep_law_laid laidOutW (m := 2) (by omega) rowId (by kernel_rfl) wideId)
theorem cellsId : Try.prog.cellsOf 26 = 2 := by kernel_rfl
theorem cellsInt : Try.prog.cellsOf 3 = 1 := by kernel_rfl
theorem keyTypeId : Try.prog.keyType 26 = true := by kernel_rfl
theorem keyOf_id {i : IdP} (h : wfI i) : keyOf Try.prog 26 (idV i) = some (idK i) := by
  have hf : (idV i).formed Try.prog 26 = true := by simp [Value.formed, Try.underlying26, cellsId]
  obtain ⟨h1, h2⟩ := h
  have hl : ∀ d, Try.prog.keyLits (d + 2) 26 [.int .i64 i.1, .int .i64 i.2] = some [.int .i64 i.1, .int .i64 i.2] := fun d => by
    simp [Program.keyLits, Try.underlying26, Try.underlying3, cellsId, cellsInt, h1, h2]
  obtain ⟨d, hd⟩ : ∃ d, Try.prog.types.size + 1 = d + 2 := ⟨Try.prog.types.size - 1, by have h : (26 : Nat) < Try.prog.types.size := rowId; omega⟩
  unfold keyOf
  rw [Try.underlying26]
  simp only [keyTypeId, hf, Bool.and_self, if_true]
  have hc : (idV i).cells.toList = [.int .i64 i.1, .int .i64 i.2] := rfl
  rw [hc, hd, hl]
  rfl
theorem idK_inj {i k : IdP} (hi : wfI i) (hk : wfI k) (h : idK i = idK k) : i = k := by
  have h1 := keyOf_id hi
  have h2 := keyOf_id hk
  rw [h] at h1
  have e := idLaw.inj h1 h2
  simp only [idV, Value.agg.injEq, Array.mk.injEq, List.cons.injEq, Value.int.injEq, true_and, and_true] at e
  exact Prod.ext e.1 e.2
end Go.Proofs.Ytpdfbkkhmfnnjaa

namespace Go.Proofs.Ytpdfbkkhmfnnjaa
open Go.RowKit
set_option linter.unusedVariables false
set_option linter.unusedSimpArgs false
set_option maxRecDepth 20000
attribute [local go_sem ↓] Go.wp_at_zero Go.wp_at_succ
attribute [local go_sem] World.cell?_alloc_some frozen_alloc_some

def opAt : List Oper → Nat → Option Oper
  | [], _ => none
  | o :: _, 0 => some o
  | _ :: l, n + 1 => opAt l n
theorem opAt_get : ∀ (l : List Oper) (i : Nat), l.toArray[i]? = opAt l i
  | [], i => by simp [opAt]
  | o :: l, 0 => by simp [opAt]
  | o :: l, i + 1 => by
    have h := opAt_get l i
    simp only [List.getElem?_toArray] at h
    simp only [List.getElem?_toArray, List.getElem?_cons_succ, h, opAt]
section
variable {P : Program} {l : List Oper} {Q : Exit → Act → World → Prop} {md : Region.Mode} {S : World → Prop}
theorem take_op {i : Nat} {oi : Oper} {v : Value} {fuel : Nat} {listed : Array Bool} {a : Act} {w : World} (hi : opAt l i = some oi)
    (hs : Region.noSelect l.toArray = true) (hf : Region.free md l.toArray listed i = true) (hr : (Region.ready md l.toArray listed).contains i = true)
    (hQ : ∀ c a w, Q (.panic c) (a.put oi.dst v) w → Q (.panic c) a w) (hw : Region.wanted oi (yielded l.toArray a.tmps) = true)
    (hy : ∀ w, S w → (execOp a.eval oi).run P w = .ok (.value v) w) (hS : S w)
    (h : wpAnyH P md l.toArray Q S fuel (listed.setIfInBounds i true) (a.put oi.dst v) w) : wpAnyH P md l.toArray Q S (fuel + 1) listed a w :=
  wpAnyH_take ((opAt_get l i).trans hi) hs hf hr hQ (Or.inl ⟨hw, hy⟩) hS h
theorem skip_op {i : Nat} {oi : Oper} {fuel : Nat} {listed : Array Bool} {a : Act} {w : World} (hi : opAt l i = some oi)
    (hs : Region.noSelect l.toArray = true) (hf : Region.free md l.toArray listed i = true) (hr : (Region.ready md l.toArray listed).contains i = true)
    (hQ : ∀ c a w, Q (.panic c) (a.put oi.dst undef) w → Q (.panic c) a w) (hw : Region.wanted oi (yielded l.toArray a.tmps) = false) (hS : S w)
    (h : wpAnyH P md l.toArray Q S fuel (listed.setIfInBounds i true) (a.put oi.dst undef) w) : wpAnyH P md l.toArray Q S (fuel + 1) listed a w :=
  wpAnyH_take ((opAt_get l i).trans hi) hs hf hr hQ (Or.inr ⟨hw, rfl⟩) hS h
theorem call_op {i : Nat} {o : Oper} {fuel : Nat} {listed : Array Bool} {a : Act} {w : World} (hi : opAt l i = some o) (hr : Region.ready md l.toArray listed = [i])
    (hw : Region.wanted o (yielded l.toArray a.tmps) = true)
    (h : ∀ K' : Act → World → Prop, Shut (∀ a w, S w → (S w → wpAnyH P md l.toArray Q S fuel (listed.setIfInBounds i true) a w) → K' a w) → Oper.wp P o a w K' Q) :
    wpAnyH P md l.toArray Q S (fuel + 1) listed a w :=
  wpAnyH_ready hr (by simp) (AllReadyH.cons ((opAt_get l i).trans hi) (fun K' hK => by rw [if_pos hw]; exact h K' hK) AllReadyH.nil)
/-- Two may come up: both ways are walked. -/
theorem two_op {i j : Nat} {o o' : Oper} {fuel : Nat} {listed : Array Bool} {a : Act} {w : World} (hi : opAt l i = some o) (hj : opAt l j = some o') (hr : Region.ready md l.toArray listed = [i, j])
    (hw : Region.wanted o (yielded l.toArray a.tmps) = true) (hw' : Region.wanted o' (yielded l.toArray a.tmps) = true)
    (h : ∀ K' : Act → World → Prop, Shut (∀ a w, S w → (S w → wpAnyH P md l.toArray Q S fuel (listed.setIfInBounds i true) a w) → K' a w) → Oper.wp P o a w K' Q)
    (h' : ∀ K' : Act → World → Prop, Shut (∀ a w, S w → (S w → wpAnyH P md l.toArray Q S fuel (listed.setIfInBounds j true) a w) → K' a w) → Oper.wp P o' a w K' Q) :
    wpAnyH P md l.toArray Q S (fuel + 1) listed a w :=
  wpAnyH_ready hr (by simp) (AllReadyH.cons ((opAt_get l i).trans hi) (fun K' hK => by rw [if_pos hw]; exact h K' hK) (AllReadyH.cons ((opAt_get l j).trans hj) (fun K' hK => by rw [if_pos hw']; exact h' K' hK) AllReadyH.nil))
end
abbrev S1 (g : Nat) (cs : Array Value) (wx : World) : Prop := ∀ i, wx.cell? ⟨g, i, none⟩ = cs[i]?
theorem Blk.s1 {w : World} {g : Nat} {t : TypeId} {cs : Array Value} (h : Blk w g t cs) : S1 g cs w := h.cell
abbrev S11 (g1 g2 : Nat) (c1 c2 : Array Value) (wx : World) : Prop := (∀ i, wx.cell? ⟨g1, i, none⟩ = c1[i]?) ∧ (∀ i, wx.cell? ⟨g2, i, none⟩ = c2[i]?)
abbrev S12 (g : Nat) (cs : Array Value) (p q : Addr) (u v : Value) (wx : World) : Prop := (∀ i, wx.cell? ⟨g, i, none⟩ = cs[i]?) ∧ wx.cell? p = some u ∧ wx.cell? q = some v
abbrev S2 (p q : Addr) (u v : Value) (wx : World) : Prop := wx.cell? p = some u ∧ wx.cell? q = some v
theorem S2.keep {p q : Addr} {u v : Value} {W W' : World} (h : S2 p q u v W) (hb : Below W.heap.size W W') : S2 p q u v W' := ⟨cell_keep hb h.1, cell_keep hb h.2⟩
theorem S2.drew {p q : Addr} {u v : Value} {W : World} (h : S2 p q u v W) : S2 p q u v W.drew := h.keep (Below.refl _ _).drew
theorem S2.below {B : Nat} {p q : Addr} {u v : Value} {W W' : World} (h : S2 p q u v W) (hb : Below B W W') (hp : p.block < B) (hq : q.block < B) : S2 p q u v W' := ⟨(hb.cell hp).trans h.1, (hb.cell hq).trans h.2⟩
abbrev S4 (p q r s : Addr) (u v x y : Value) (wx : World) : Prop := wx.cell? p = some u ∧ wx.cell? q = some v ∧ wx.cell? r = some x ∧ wx.cell? s = some y
theorem S4.keep {p q r s : Addr} {u v x y : Value} {W W' : World} (h : S4 p q r s u v x y W) (hb : Below W.heap.size W W') : S4 p q r s u v x y W' := ⟨cell_keep hb h.1, cell_keep hb h.2.1, cell_keep hb h.2.2.1, cell_keep hb h.2.2.2⟩
theorem S4.drew {p q r s : Addr} {u v x y : Value} {W : World} (h : S4 p q r s u v x y W) : S4 p q r s u v x y W.drew := h.keep (Below.refl _ _).drew
/-- Q, but that nothing panics. -/
def noPan (Q : Exit → Act → World → Prop) : Exit → Act → World → Prop
  | .panic _, _, _ => False
  | e, a, w => Q e a w
theorem wp_noPan {P : Program} {c : Code} {Q : Exit → Act → World → Prop} {a : Act} {w : World} (h : c.wp P (noPan Q) a w) : c.wp P Q a w :=
  Code.wp_mono (fun e a w h => by cases e <;> first | exact h | exact h.elim) h
end Go.Proofs.Ytpdfbkkhmfnnjaa

namespace Go.Proofs.Ytpdfbkkhmfnnjaa
open Go.RowKit Go.ChangeShapes Go.WideShapes Go.Joins Go.Deep Go.ChangeAt
set_option linter.unusedVariables false
set_option maxRecDepth 20000
set_option linter.unusedSimpArgs false

theorem Blk.newAt {w : World} {g : Nat} {t : TypeId} {cs : Array Value} (h : w.heap.size = g) : Blk (w.alloc (.cells cs t)) g t cs := by subst h; exact Blk.new w t cs
/-- A slice of ids, nil let in, that reads as the list l. -/
def IdsAt (w : World) (A : Option Addr) (m : Nat) (l : List IdP) : Prop :=
  m = l.length ∧ m ≤ maxLen ∧ ∀ (i : Nat) (x : IdP), l[i]? = some x → (Lit.int .i64 x.1).wf = true ∧ (Lit.int .i64 x.2).wf = true ∧
    ∃ b o, A = some ⟨b, o, none⟩ ∧ w.cell? ⟨b, o + i * 2, none⟩ = some (.int .i64 x.1) ∧ w.cell? ⟨b, o + i * 2 + 1, none⟩ = some (.int .i64 x.2)
theorem IdsAt.keep {w w' : World} {A : Option Addr} {m : Nat} {l : List IdP} (h : IdsAt w A m l) (hb : Below w.heap.size w w') : IdsAt w' A m l :=
  ⟨h.1, h.2.1, fun i x hi => by
    obtain ⟨w1, w2, b, o, e, h1, h2⟩ := h.2.2 i x hi
    exact ⟨w1, w2, b, o, e, cell_keep hb h1, cell_keep hb h2⟩⟩
theorem IdsAt.nil {w : World} {A : Option Addr} : IdsAt w A 0 [] := ⟨rfl, Nat.zero_le _, fun i x h => by simp at h⟩
theorem IdsAt.at_ {w : World} {A : Option Addr} {m : Nat} {l : List IdP} (h : IdsAt w A m l) {i : Nat} (hi : i < m) :
    ∃ r n b o, l[i]? = some (r, n) ∧ (Lit.int .i64 r).wf = true ∧ (Lit.int .i64 n).wf = true ∧ A = some ⟨b, o, none⟩ ∧ w.cell? ⟨b, o + i * 2, none⟩ = some (.int .i64 r) ∧ w.cell? ⟨b, o + i * 2 + 1, none⟩ = some (.int .i64 n) := by
  have hl : i < l.length := by rw [← h.1]; exact hi
  obtain ⟨w1, w2, b, o, e, h1, h2⟩ := h.2.2 i l[i] (List.getElem?_eq_getElem hl)
  exact ⟨_, _, b, o, List.getElem?_eq_getElem hl, w1, w2, e, h1, h2⟩

section
variable {H : Type} {enc : TypeId × Value → H} {w : World} {base : Nat} {spare : Nat → Bool} {held : Bool}
theorem list2 {α : Type} {l : List α} (h : l.length = 2) : ∃ c0 c1, l = [c0, c1] := by
  match l, h with
  | [c0, c1], _ => exact ⟨c0, c1, rfl⟩
theorem open_id {fuel : Nat} {cs : List Value} {x : DataW H × List MemPlace} (h : DataW.trod enc Try.prog w base spare held fuel 26 cs = some x) :
    ∃ r n : Int, cs = [.int .i64 r, .int .i64 n] ∧ (Lit.int .i64 r).wf = true ∧ (Lit.int .i64 n).wf = true := by
  obtain ⟨y0, y1, n, _, hl, h0, h1⟩ := trod_struct2 Try.underlying26 h
  have hC : Try.prog.cellsOf 26 = 2 := by kernel_rfl
  have hi : Try.prog.cellsOf 3 = 1 := by kernel_rfl
  obtain ⟨c0, c1, rfl⟩ := list2 (hl.trans hC)
  simp only [hi] at h0 h1
  obtain ⟨a, e0, _, wa⟩ := DataW.trod_int Try.underlying3 h0
  obtain ⟨b, e1, _, wb⟩ := DataW.trod_int Try.underlying3 h1
  simp at e0 e1
  subst e0 e1
  exact ⟨a, b, rfl, wa, wb⟩
theorem open_ids {fuel : Nat} {cs : List Value} {x : DataW H × List MemPlace} (h : DataW.trod enc Try.prog w base spare held fuel 42 cs = some x) :
    ∃ (A : Option Addr) (m c : Nat) (l : List IdP), cs = [.slice A m c] ∧ m ≤ c ∧ c ≤ maxLen ∧ IdsAt w A m l := by
  rcases DataW.trod_slice Try.underlying42 h with ⟨e3, _⟩ | ⟨A, len, cap, elems, rest, q, hq, e3, _, hbA, hle, hcap, hel, helem, _, _⟩
  · exact ⟨none, 0, 0, [], e3, Nat.le_refl _, Nat.zero_le _, IdsAt.nil⟩
  · have hC : Try.prog.cellsOf 26 = 2 := by kernel_rfl
    have hex : ∀ i, i < len → ∃ x : IdP, (Lit.int .i64 x.1).wf = true ∧ (Lit.int .i64 x.2).wf = true ∧ ∃ b o, A = ⟨b, o, none⟩ ∧ w.cell? ⟨b, o + i * 2, none⟩ = some (.int .i64 x.1) ∧ w.cell? ⟨b, o + i * 2 + 1, none⟩ = some (.int .i64 x.2) := by
      intro i hi
      have key := helem i hi
      rw [List.getElem?_eq_getElem (by omega), hC] at key
      obtain ⟨cs', h1', h2'⟩ := Option.bind_eq_some_iff.1 key
      obtain ⟨r, n, rfl, w1, w2⟩ := open_id h2'
      obtain ⟨_, hlc, hcell⟩ := World.cells?_some h1'
      have c0 := hcell 0 (by omega)
      have c1 := hcell 1 (by omega)
      rw [add_of_add] at c0 c1
      have hs : A.spot = none := by
        have key := helem 0 (by omega)
        rw [List.getElem?_eq_getElem (by omega), hC] at key
        obtain ⟨cs', h1', h2'⟩ := Option.bind_eq_some_iff.1 key
        obtain ⟨r, n, rfl, w1, w2⟩ := open_id h2'
        obtain ⟨_, hlc, hcell⟩ := World.cells?_some h1'
        have c0 := hcell 0 (by omega)
        have := World.cell?_spot c0
        simpa [Addr.add] using this
      rcases A with ⟨b, o, sp⟩
      simp only at hs
      subst hs
      have e : ∀ k, (Addr.mk b o none).add k = ⟨b, o + k, none⟩ := fun k => by
        unfold Addr.add
        split
        · simp_all
        · rfl
      rw [e] at c0 c1
      exact ⟨(r, n), w1, w2, b, o, rfl, c0, c1⟩
    obtain ⟨F, hF⟩ := choose_lt hex
    refine ⟨some A, len, cap, (List.range len).map F, e3, hle, hcap, by simp, by omega, fun i x hi => ?_⟩
    simp only [List.getElem?_map, Option.map_eq_some_iff] at hi
    obtain ⟨r, hr, rfl⟩ := hi
    obtain ⟨hlt, hv⟩ := List.getElem?_eq_some_iff.1 hr
    simp at hlt hv
    subst hv
    obtain ⟨w1, w2, b, o, e, h1, h2⟩ := hF i hlt
    exact ⟨w1, w2, b, o, by rw [e], h1, h2⟩
end
end Go.Proofs.Ytpdfbkkhmfnnjaa

namespace Go.Proofs.Ytpdfbkkhmfnnjaa
open Go.RowKit
set_option linter.unusedVariables false
set_option linter.unusedSimpArgs false
set_option maxRecDepth 20000
attribute [local go_sem ↓] Go.wp_at_zero Go.wp_at_succ
attribute [local go_sem] World.cell?_alloc_some frozen_alloc_some
/-- The ids of l lie at block g from its beginning on, none frozen. -/
def RowAt (w : World) (g : Nat) (l : List IdP) : Prop := ∀ (i : Nat) (x : IdP), l[i]? = some x →
  w.cell? ⟨g, i * 2, none⟩ = some (.int .i64 x.1) ∧ w.cell? ⟨g, i * 2 + 1, none⟩ = some (.int .i64 x.2) ∧ w.frozen? ⟨g, i * 2, none⟩ = false ∧ w.frozen? ⟨g, i * 2 + 1, none⟩ = false
theorem RowAt.keep {w w' : World} {g : Nat} {l : List IdP} (h : RowAt w g l) (hb : Below w.heap.size w w') : RowAt w' g l := fun i x hi => by
  obtain ⟨h1, h2, h3, h4⟩ := h i x hi
  exact ⟨cell_keep hb h1, cell_keep hb h2, frozen_keep hb h1 h3, frozen_keep hb h2 h4⟩
theorem RowAt.set {w : World} {g : Nat} {l : List IdP} (h : RowAt w g l) {k : Nat} (hk : k < l.length) (y : IdP) :
    RowAt ((w.setCell ⟨g, k * 2, none⟩ (.int .i64 y.1)).setCell ⟨g, k * 2 + 1, none⟩ (.int .i64 y.2)) g (l.set k y) := fun i x hi => by
  obtain ⟨k1, k2, k3, k4⟩ := h k l[k] (List.getElem?_eq_getElem hk)
  by_cases e : k = i
  · subst e
    rw [List.getElem?_set_self hk] at hi
    cases hi
    refine ⟨?_, ?_, ?_, ?_⟩
    · rw [World.cell?_setCell_other _ _ _ _ (by simp)]
      exact World.cell?_setCell_same _ _ _ k1
    · exact World.cell?_setCell_same _ _ _ (u := .int .i64 l[k].2) (by rw [World.cell?_setCell_other _ _ _ _ (by simp)]; exact k2)
    · simp [World.frozen?_setCell, k3]
    · simp [World.frozen?_setCell, k4]
  · rw [List.getElem?_set_ne e] at hi
    obtain ⟨h1, h2, h3, h4⟩ := h i x hi
    refine ⟨?_, ?_, ?_, ?_⟩
    · rw [World.cell?_setCell_other _ _ _ _ (by simp <;> omega), World.cell?_setCell_other _ _ _ _ (by simp <;> omega)]; exact h1
    · rw [World.cell?_setCell_other _ _ _ _ (by simp <;> omega), World.cell?_setCell_other _ _ _ _ (by simp <;> omega)]; exact h2
    · simp [World.frozen?_setCell, h3]
    · simp [World.frozen?_setCell, h4]
theorem RowAt.ids {w : World} {g : Nat} {l s : List IdP} {m : Nat} (h : RowAt w g l) (hs : s.length = m) (hm : m ≤ maxLen) (hp : ∀ (i : Nat) (x : IdP), s[i]? = some x → l[i]? = some x) (hwf : ∀ x ∈ s, (Lit.int .i64 x.1).wf = true ∧ (Lit.int .i64 x.2).wf = true) : IdsAt w (some ⟨g, 0, none⟩) m s :=
  ⟨hs.symm, hm, fun i x hi => by
    obtain ⟨h1, h2, _, _⟩ := h i x (hp i x hi)
    obtain ⟨w1, w2⟩ := hwf x (List.mem_of_getElem? hi)
    exact ⟨w1, w2, g, 0, rfl, by simpa using h1, by simpa using h2⟩⟩

def encId (x : IdP) : List Value := [.int .i64 x.1, .int .i64 x.2]
def flat2 (l : List IdP) : List Value := l.flatMap encId
theorem flat2_length (l : List IdP) : (flat2 l).length = l.length * 2 := by
  induction l with
  | nil => rfl
  | cons x l ih => simp only [flat2, List.flatMap_cons, List.length_append, List.length_cons] at *; rw [ih]; simp [encId]; omega
theorem flat2_get : ∀ (l : List IdP) (i : Nat) (x : IdP), l[i]? = some x → (flat2 l)[i * 2]? = some (.int .i64 x.1) ∧ (flat2 l)[i * 2 + 1]? = some (.int .i64 x.2)
  | [], i, x, h => by simp at h
  | y :: l, 0, x, h => by
    simp at h; subst h
    exact ⟨rfl, rfl⟩
  | y :: l, i + 1, x, h => by
    obtain ⟨h1, h2⟩ := flat2_get l i x (by simpa using h)
    have e : flat2 (y :: l) = Value.int .i64 y.1 :: Value.int .i64 y.2 :: flat2 l := rfl
    rw [e, show (i + 1) * 2 = i * 2 + 1 + 1 by omega]
    simp only [List.getElem?_cons_succ]
    exact ⟨h1, h2⟩
theorem flat2_inv {l : List IdP} {j : Nat} {u : Value} (h : (flat2 l)[j]? = some u) : ∃ i x, l[i]? = some x ∧ (j = i * 2 ∧ u = .int .i64 x.1 ∨ j = i * 2 + 1 ∧ u = .int .i64 x.2) := by
  have hj : j < l.length * 2 := by
    rw [← flat2_length]
    exact (List.getElem?_eq_some_iff.1 h).1
  have hi : j / 2 < l.length := by omega
  obtain ⟨h1, h2⟩ := flat2_get l (j / 2) _ (List.getElem?_eq_getElem hi)
  refine ⟨j / 2, _, List.getElem?_eq_getElem hi, ?_⟩
  rcases Nat.mod_two_eq_zero_or_one j with e | e
  · rw [show j / 2 * 2 = j by omega, h] at h1
    injection h1 with h1
    exact .inl ⟨by omega, h1⟩
  · rw [show j / 2 * 2 + 1 = j by omega, h] at h2
    injection h2 with h2
    exact .inr ⟨by omega, h2⟩
theorem flat2_one {l : List IdP} : ∀ u ∈ flat2 l, u.oneCell' = true := fun u hu => by
  obtain ⟨j, hj, rfl⟩ := List.getElem_of_mem hu
  obtain ⟨i, x, _, h | h⟩ := flat2_inv (List.getElem?_eq_getElem hj)
  · rw [h.2]; rfl
  · rw [h.2]; rfl
theorem flat2_append (l m : List IdP) : flat2 (l ++ m) = flat2 l ++ flat2 m := by simp [flat2]
theorem IdsAt.cells {w : World} {b o m : Nat} {l : List IdP} (h : IdsAt w (some ⟨b, o, none⟩) m l) {j : Nat} {u : Value} (hj : (flat2 l)[j]? = some u) : w.cell? ⟨b, o + j, none⟩ = some u := by
  obtain ⟨i, x, hi, hx⟩ := flat2_inv hj
  obtain ⟨_, _, b2, o2, e, h1, h2⟩ := h.2.2 i x hi
  injection e with e
  injection e with e1 e2
  subst e1 e2
  rcases hx with ⟨rfl, rfl⟩ | ⟨rfl, rfl⟩
  · exact h1
  · exact h2
theorem IdsAt.wf {w : World} {A : Option Addr} {m : Nat} {l : List IdP} (h : IdsAt w A m l) : ∀ x ∈ l, (Lit.int .i64 x.1).wf = true ∧ (Lit.int .i64 x.2).wf = true := fun x hx => by
  obtain ⟨i, hi, rfl⟩ := List.getElem_of_mem hx
  obtain ⟨w1, w2, _⟩ := h.2.2 i _ (List.getElem?_eq_getElem hi)
  exact ⟨w1, w2⟩
/-- A row that the call owns. -/
theorem row_of_own {w : World} {base : Nat} {e : TypeId} {v : Value} {n : Nat} {l : List IdP} (h : w.ownsRow base e 2 v n (flat2 l)) (hv : v ≠ .slice none 0 0) :
    ∃ g cap, v = .slice (some ⟨g, 0, none⟩) n cap ∧ base ≤ g ∧ g < w.heap.size ∧ n ≤ cap ∧ cap ≤ maxLen ∧ l.length = n ∧ RowAt w g l := by
  have hl : l.length = n := by have := h.1; rw [flat2_length] at this; omega
  rcases h.2 with ⟨e0, _⟩ | ⟨g, cap, cur, rfl, hb, hg, hn, hm, hs, ht⟩
  · exact absurd e0 hv
  · have hlt : g < w.heap.size := (Array.getElem?_eq_some_iff.1 hg).1
    have hc : ∀ j u, (flat2 l)[j]? = some u → w.cell? ⟨g, j, none⟩ = some u := fun j u hj => by
      rw [cell_of_row w g j cur e (0, 0) hg, ← Array.getElem?_toList]
      rw [← ht, List.getElem?_take] at hj
      split at hj
      · exact hj
      · cases hj
    have hf : ∀ j, w.frozen? ⟨g, j, none⟩ = false := fun j => by simp [World.frozen?, hg]
    exact ⟨g, cap, rfl, hb, hlt, hn, hm, hl, fun i x hi => ⟨hc _ _ (flat2_get l i x hi).1, hc _ _ (flat2_get l i x hi).2, hf _, hf _⟩⟩
theorem addr_add (b o k : Nat) : (Addr.mk b o none).add k = ⟨b, o + k, none⟩ := by
  unfold Addr.add
  split
  · simp_all
  · rfl
theorem IdsAt.src {w : World} {A : Option Addr} {m : Nat} {l : List IdP} (h : IdsAt w A m l) : Src w 2 A m (flat2 l) :=
  ⟨by rw [flat2_length, h.1], fun j u hu => by
    obtain ⟨i, x, hi, hx⟩ := flat2_inv hu
    obtain ⟨_, _, b, o, e, h1, h2⟩ := h.2.2 i x hi
    refine ⟨_, e, ?_⟩
    rw [addr_add]
    rcases hx with ⟨rfl, rfl⟩ | ⟨rfl, rfl⟩
    · exact h1
    · exact h2, flat2_one⟩
theorem Src.keep2 {w w' : World} {size : Nat} {A : Option Addr} {m : Nat} {news : List Value} (h : Src w size A m news) (hb : Below w.heap.size w w') : Src w' size A m news :=
  ⟨h.1, fun j u hj => by
    obtain ⟨ad, e, hc⟩ := h.2.1 j u hj
    exact ⟨ad, e, cell_keep hb hc⟩, h.2.2⟩
theorem own_form5 {w : World} {base : Nat} {e : TypeId} {size : Nat} {v : Value} {n : Nat} {xs : List Value} (h : w.ownsRow base e size v n xs) : ∃ A c, v = .slice A n c ∧ n ≤ c ∧ c ≤ maxLen := by
  rcases h.2 with ⟨rfl, rfl⟩ | ⟨g, cap, cur, rfl, _, _, hn, hm, _⟩
  · exact ⟨none, 0, rfl, Nat.le_refl _, Nat.zero_le _⟩
  · exact ⟨_, _, rfl, hn, hm⟩
theorem size_zeroCells (z : Array Value) (n : Nat) : (Builtin.zeroCells z n).size = n * z.size := by simp [Builtin.zeroCells]
theorem ids_of_own {w : World} {base : Nat} {e : TypeId} {A : Option Addr} {n c : Nat} {l : List IdP} (h : w.ownsRow base e 2 (.slice A n c) n (flat2 l)) (hm : n ≤ maxLen) (hwf : ∀ x ∈ l, (Lit.int .i64 x.1).wf = true ∧ (Lit.int .i64 x.2).wf = true) :
    IdsAt w A n l ∧ n ≤ c ∧ ∀ ad, A = some ad → ad.spot = none := by
  by_cases hv : (.slice A n c : Value) = .slice none 0 0
  · injection hv with e1 e2 e3
    subst e1 e2 e3
    have hl : l = [] := by
      have := h.1
      rw [flat2_length] at this
      exact List.length_eq_zero_iff.1 (by omega)
    subst hl
    exact ⟨IdsAt.nil, Nat.le_refl _, fun ad h => by cases h⟩
  · obtain ⟨g, cap, e, _, _, hn, _, hl, hr⟩ := row_of_own h hv
    injection e with e1 e2 e3
    subst e1 e3
    exact ⟨hr.ids hl hm (fun _ _ h => h) hwf, hn, fun ad h => by cases h; rfl⟩
theorem src_two {w : World} {x : IdP} : Src (w.alloc (.cells #[.int .i64 x.1, .int .i64 x.2] 26)) 2 (some ⟨w.heap.size, 0, none⟩) 1 (flat2 [x]) := by
  refine ⟨rfl, fun j u hj => ⟨_, rfl, ?_⟩, flat2_one⟩
  rw [addr_add, Nat.zero_add]
  have hb := Blk.new w 26 #[.int .i64 x.1, .int .i64 x.2]
  rw [hb.cell, List.getElem?_toArray]
  exact hj
theorem src_two' {w : World} {r n : Int} : Src (w.alloc (.cells #[.int .i64 r, .int .i64 n] 26)) 2 (some ⟨w.heap.size, 0, none⟩) 1 (flat2 [(r, n)]) := src_two (x := (r, n))
end Go.Proofs.Ytpdfbkkhmfnnjaa

namespace Go.Proofs.Ytpdfbkkhmfnnjaa
open Go.RowKit
set_option linter.unusedVariables false
set_option linter.unusedSimpArgs false
set_option maxRecDepth 20000
attribute [local go_sem ↓] Go.wp_at_zero Go.wp_at_succ
attribute [local go_sem] World.cell?_alloc_some frozen_alloc_some

theorem id_eql_run (a b c d : Int) (W : World) : (binOp .eql 26 (.agg #[.int .i64 a, .int .i64 b]) (.agg #[.int .i64 c, .int .i64 d])).run Try.prog W = .ok (.bool (a == c && b == d)) W := by
  by_cases h1 : a = c
  · go_simp
    by_cases h2 : b = d <;> simp [h2]
  · go_simp
theorem id_neq_run (a b c d : Int) (W : World) : (binOp .neq 26 (.agg #[.int .i64 a, .int .i64 b]) (.agg #[.int .i64 c, .int .i64 d])).run Try.prog W = .ok (.bool (!(a == c && b == d))) W := by
  by_cases h1 : a = c
  · go_simp
    by_cases h2 : b = d <;> simp [h2]
  · go_simp

def lseq (l m : List IdP) : Bool := decide (l = m)
theorem lseq_iff {l m : List IdP} : lseq l m = true ↔ l = m := decide_eq_true_iff
theorem take_step {l m : List IdP} {j : Nat} {x : IdP} (h : l.take j = m.take j) (h1 : l[j]? = some x) (h2 : m[j]? = some x) : l.take (j + 1) = m.take (j + 1) := by
  rw [List.take_add_one, List.take_add_one, h, h1, h2]

section
attribute [local go_sem ↓ high] id_neq_run id_eql_run
def asame (a b : AttrP) : Bool := decide (a = b)
theorem asame_iff {a b : AttrP} : asame a b = true ↔ a = b := decide_eq_true_iff
theorem asame_parts {l l2 : List IdP} {q q2 t t2 : Int} : asame ⟨l, q, t⟩ ⟨l2, q2, t2⟩ = (t == t2 && (q == q2 && lseq l l2)) := by
  rw [Bool.eq_iff_iff, asame_iff]
  simp only [Bool.and_eq_true, beq_iff_eq, lseq_iff, AttrP.mk.injEq]
  constructor
  · rintro ⟨h1, h2, h3⟩; exact ⟨h3, h2, h1⟩
  · rintro ⟨h1, h2, h3⟩; exact ⟨h3, h2, h1⟩
end
end Go.Proofs.Ytpdfbkkhmfnnjaa

namespace Go.Proofs.Ytpdfbkkhmfnnjaa
open Go.RowKit Go.Sort
set_option linter.unusedVariables false

/-- Nothing that was there has turned; draws only went on. -/
def Lays (w w' : World) : Prop := Below w.heap.size w w' ∧ w.drawn ≤ w'.drawn
theorem Lays.refl (w : World) : Lays w w := ⟨Below.refl _ _, Nat.le_refl _⟩
theorem Lays.trans {a b c : World} (h : Lays a b) (k : Lays b c) : Lays a c := ⟨h.1.trans (k.1.mono h.1.size), Nat.le_trans h.2 k.2⟩
theorem Lays.drewN {a w : World} (h : Lays a w) (n : Nat) : Lays a (w.drewN n) := ⟨below_drewN h.1 n, Nat.le_trans h.2 (Nat.le_add_right _ _)⟩
theorem drawn_alloc (w : World) (o : Obj) : (w.alloc o).drawn = w.drawn := rfl
theorem drawn_drew (w : World) : w.drew.drawn = w.drawn + 1 := rfl
theorem drawn_set (w : World) (a : Addr) (v : Value) : (w.setCell a v).drawn = w.drawn := rfl
theorem Lays.grow {w w' : World} (h : Lays w w') : ∃ q os, w' = grow (w.drewN q) os := by
  obtain ⟨⟨h1, h2, h3, h4, h5⟩, hd⟩ := h
  refine ⟨w'.drawn - w.drawn, w'.heap.extract w.heap.size w'.heap.size, ?_⟩
  obtain ⟨heap, tape, drawn, os, out⟩ := w
  obtain ⟨heap', tape', drawn', os', out'⟩ := w'
  simp only at h1 h2 h3 h4 h5 hd
  subst h1 h2 h3
  unfold Go.Sort.grow World.drewN
  simp only [World.mk.injEq, and_true, true_and]
  refine ⟨?_, by omega⟩
  apply Array.ext_getElem?
  intro i
  rcases Nat.lt_or_ge i heap.size with hi | hi
  · rw [Array.getElem?_append_left hi, h5 i hi]
  · rw [Array.getElem?_append_right hi]
    simp only [Array.getElem?_extract]
    rcases Nat.lt_or_ge i heap'.size with hk | hk
    · rw [if_pos (by omega), show heap.size + (i - heap.size) = i by omega]
    · rw [if_neg (by omega), Array.getElem?_eq_none hk]
end Go.Proofs.Ytpdfbkkhmfnnjaa

namespace Go.Proofs.Ytpdfbkkhmfnnjaa
open Go.RowKit
set_option linter.unusedVariables false
set_option linter.unusedSimpArgs false
set_option maxRecDepth 20000
attribute [local go_sem ↓] Go.wp_at_zero Go.wp_at_succ
attribute [local go_sem] World.cell?_alloc_some frozen_alloc_some

def cgreat (y x : ByteArray) : Bool := decide (200 < y.size) || decide (2000 < x.size)
theorem great_any (k c q : Int) (y x : ByteArray) (r : Int) (w : World) :
    Calls Try.prog 8 #[.agg #[.int .i64 k, .int .i64 c, .int .i64 q, .string y, .string x, .int .i64 r]] w (Gives w (.bool (cgreat y x))) := by
  obtain ⟨R, hR⟩ : ∃ R, R = cgreat y x := ⟨_, rfl⟩
  rw [← hR]
  unfold cgreat at hR
  have HR := Lib.hid hR
  clear hR
  by_cases h1 : 200 < y.size
  · have h1' : (200 : Int) < (y.size : Int) := by omega
    go_enter Try.func8, Try.ntmps8
    go_wp2_with fail
    go_ret
    exact ⟨by rw [HR.out]; simp [h1], by ((repeat' first | with_reducible exact Below.refl _ _ | with_reducible assumption | with_reducible refine Below.alloc ?_ ?_ _ | with_reducible refine Below.setCell ?_ ?_ _ | with_reducible apply Below.drew | with_reducible apply below_drewN | with_reducible refine below_call ?_ (by with_reducible assumption) ?_) <;> (first | omega | (simp; done) | (simp; omega) | (simp at *; omega)))⟩
  · have h1' : ¬ (200 : Int) < (y.size : Int) := by omega
    by_cases h2 : 2000 < x.size
    · have h2' : (2000 : Int) < (x.size : Int) := by omega
      go_enter Try.func8, Try.ntmps8
      go_wp2_with fail
      go_ret
      exact ⟨by rw [HR.out]; simp [h1, h2], by ((repeat' first | with_reducible exact Below.refl _ _ | with_reducible assumption | with_reducible refine Below.alloc ?_ ?_ _ | with_reducible refine Below.setCell ?_ ?_ _ | with_reducible apply Below.drew | with_reducible apply below_drewN | with_reducible refine below_call ?_ (by with_reducible assumption) ?_) <;> (first | omega | (simp; done) | (simp; omega) | (simp at *; omega)))⟩
    · have h2' : ¬ (2000 : Int) < (x.size : Int) := by omega
      go_enter Try.func8, Try.ntmps8
      go_wp2_with fail
      go_ret
      exact ⟨by rw [HR.out]; simp [h1, h2], by ((repeat' first | with_reducible exact Below.refl _ _ | with_reducible assumption | with_reducible refine Below.alloc ?_ ?_ _ | with_reducible refine Below.setCell ?_ ?_ _ | with_reducible apply Below.drew | with_reducible apply below_drewN | with_reducible refine below_call ?_ (by with_reducible assumption) ?_) <;> (first | omega | (simp; done) | (simp; omega) | (simp at *; omega)))⟩
end Go.Proofs.Ytpdfbkkhmfnnjaa
