/- Items in memory: which tree a value of type api.Item is; the opening of one that came in. Trees: two that are right have one form just if they are the same; the document's measure. Plain: no program in sight. A stub: in this seat's cut there is no codec.Put; what stands on it here needs these texts alone. Items in a list: what a slice of them holds; a row of four cells each. The walks of codec.Num, Text, List. A stub: in this seat's cut there is no stonecropref03.Put; what stands on it here needs these texts alone. The walks of package stonecropref03 on items: Same. A row of items in one block (in this seat's cut there is no stonecroplaw03). -/
import Derived.Test.YtmgiholmhhjpaaaDoorRecChecksQ0
import Derived.Test.YtmgiholmhhjpaaaDoorRecChecksQ9
import Derived.Lib.SmallJoins
import Derived.Lib.BufferMore
namespace Go.Proofs.YtmgiholmhhjpaaaDoor
open Go.RowKit Go.ChangeShapes Go.WideShapes Go.Joins Go.Deep
set_option linter.unusedVariables false
set_option linter.unusedSimpArgs false
set_option linter.unnecessarySimpa false

/-- The value is the tree t; what lies behind it in w. -/
inductive Holds (w : World) : Tree → Value → Prop where
  | mk (k : Int) (n : Nat) (s : ByteArray) (l : List Tree) (A : Option Addr) (m c : Nat) (vs : Nat → Value)
    (hk : (Lit.int .i64 k).wf = true) (hn : n < 2 ^ 64) (hs : s.size ≤ maxLen) (hm : m = l.length) (hmc : m ≤ c) (hc : c ≤ maxLen)
    (hcell : ∀ i, i < m → ∃ ad, A = some ad ∧ ∀ j u, (vs i).cells[j]? = some u → w.cell? (ad.add (4 * i + j)) = some u)
    (hsub : ∀ i t, l[i]? = some t → Holds w t (vs i)) :
    Holds w (.mk k n s l) (.agg #[.int .i64 k, .int .u64 (n : Int), .string s, .slice A m c])

theorem Holds.keep {w w' : World} (hb : Below w.heap.size w w') {t : Tree} {v : Value} (h : Holds w t v) : Holds w' t v := by
  induction h with
  | mk k n s l A m c vs hk hn hs hm hmc hc hcell hsub ih =>
    exact .mk k n s l A m c vs hk hn hs hm hmc hc (fun i hi => by
      obtain ⟨ad, e, h⟩ := hcell i hi
      exact ⟨ad, e, fun j u hu => cell_keep hb (h j u hu)⟩) ih
/-- One item of a list, field by field. -/
theorem Holds.open_ {w : World} {k : Int} {n : Nat} {s : ByteArray} {l : List Tree} {v : Value} (h : Holds w (.mk k n s l) v) :
    ∃ A m c, v = .agg #[.int .i64 k, .int .u64 (n : Int), .string s, .slice A m c] ∧ (Lit.int .i64 k).wf = true ∧ n < 2 ^ 64 ∧ s.size ≤ maxLen ∧ m = l.length ∧ m ≤ c ∧ c ≤ maxLen ∧
      ∀ i t, l[i]? = some t → ∃ ad u, A = some ad ∧ Holds w t u ∧ ∀ j x, u.cells[j]? = some x → w.cell? (ad.add (4 * i + j)) = some x := by
  cases h with
  | mk k n s l A m c vs hk hn hs hm hmc hc hcell hsub =>
    refine ⟨A, m, c, rfl, hk, hn, hs, hm, hmc, hc, fun i t hi => ?_⟩
    have hil : i < m := by
      rw [hm]
      rcases Nat.lt_or_ge i l.length with h | h
      · exact h
      · rw [List.getElem?_eq_none h] at hi; cases hi
    obtain ⟨ad, e, h⟩ := hcell i hil
    exact ⟨ad, vs i, e, hsub i t hi, h⟩
/-- An item's four cells. -/
theorem Holds.cells {w : World} {t : Tree} {v : Value} {a : Addr} (h : Holds w t v) (hc : ∀ j x, v.cells[j]? = some x → w.cell? (a.add j) = some x) :
    ∃ k n s A m c, v = .agg #[.int .i64 k, .int .u64 n, .string s, .slice A m c] ∧ w.cell? (a.add 0) = some (.int .i64 k) ∧ w.cell? (a.add 1) = some (.int .u64 n) ∧ w.cell? (a.add 2) = some (.string s) ∧ w.cell? (a.add 3) = some (.slice A m c) := by
  cases h with
  | mk k n s l A m c vs hk hn hs hm hmc hc2 hcell hsub =>
    exact ⟨k, n, s, A, m, c, rfl, hc 0 _ rfl, hc 1 _ rfl, hc 2 _ rfl, hc 3 _ rfl⟩

/-- The address of an item's first cell, its four cells, and the item that they are. -/
def Cells4 (w : World) (a : Addr) (u : Value) : Prop := ∃ (b o : Nat) (k n : Int) (s : ByteArray) (A : Option Addr) (m c : Nat), a = ⟨b, o, none⟩ ∧ u = .agg #[.int .i64 k, .int .u64 n, .string s, .slice A m c] ∧
  w.cell? ⟨b, o, none⟩ = some (.int .i64 k) ∧ w.cell? ⟨b, o + 1, none⟩ = some (.int .u64 n) ∧ w.cell? ⟨b, o + 2, none⟩ = some (.string s) ∧ w.cell? ⟨b, o + 3, none⟩ = some (.slice A m c)
theorem Cells4.keep {w w' : World} {a : Addr} {u : Value} (h : Cells4 w a u) (hb : Below w.heap.size w w') : Cells4 w' a u := by
  obtain ⟨b, o, k, n, s, A, m, c, e1, e2, h0, h1, h2, h3⟩ := h
  exact ⟨b, o, k, n, s, A, m, c, e1, e2, cell_keep hb h0, cell_keep hb h1, cell_keep hb h2, cell_keep hb h3⟩
theorem Holds.elem {w : World} {k : Int} {n : Nat} {s : ByteArray} {l : List Tree} {A : Option Addr} {m c : Nat} {kk nn : Int} {ss : ByteArray} (h : Holds w (.mk k n s l) (.agg #[.int .i64 kk, .int .u64 nn, .string ss, .slice A m c])) {i : Nat} {t : Tree} (hi : l[i]? = some t) :
    ∃ ad u, A = some ad ∧ Holds w t u ∧ Cells4 w (ad.add (i * 4)) u := by
  obtain ⟨A', m', c', e, _, _, _, _, _, _, hel⟩ := h.open_
  injection e with e
  injection e with e
  injection e with _ e
  injection e with _ e
  injection e with _ e
  injection e with e _
  injection e with e _ _
  subst e
  obtain ⟨ad, u, e1, hu, hc⟩ := hel i t hi
  refine ⟨ad, u, e1, hu, ?_⟩
  obtain ⟨k2, n2, s2, A2, m2, c2, e2, h0, h1, h2, h3⟩ := hu.cells (a := ad.add (i * 4)) (fun j x hx => by
    rw [add_of_add, Nat.mul_comm]; exact hc j x hx)
  rcases hx : ad.add (i * 4) with ⟨b, o, sp⟩
  have hs : sp = none := by
    rw [hx] at h0
    simpa [Addr.add] using World.cell?_spot h0
  subst hs
  rw [hx] at h0 h1 h2 h3
  exact ⟨b, o, k2, n2, s2, A2, m2, c2, rfl, e2, by simpa [Addr.add] using h0, by simpa [Addr.add] using h1, by simpa [Addr.add] using h2, by simpa [Addr.add] using h3⟩

section
variable {H : Type} {enc : TypeId × Value → H} {P : Program} {w : World} {base : Nat} {spare : Nat → Bool} {held : Bool}
theorem list4 {α : Type} {l : List α} (h : l.length = 4) : ∃ c0 c1 c2 c3, l = [c0, c1, c2, c3] := by
  match l, h with
  | [c0, c1, c2, c3], _ => exact ⟨c0, c1, c2, c3, rfl⟩
/-- An item that came in is a tree. -/
theorem open_item_cells {t sl ik uk st : TypeId} {f0 f1 f2 f3 : Field} (ht : P.underlying t = some (.struct #[f0, f1, f2, f3])) (hone : oneCellFields P #[f0, f1, f2, f3] = true) (hC : P.cellsOf t = 4)
    (h0 : P.underlying f0.type = some (.int .i64)) (h1 : P.underlying f1.type = some (.int .u64)) (h2 : P.underlying f2.type = some .string) (h3 : P.underlying f3.type = some (.slice t)) :
    ∀ (fuel : Nat) (cs : List Value) (x : DataW H × List MemPlace), DataW.trod enc P w base spare held fuel t cs = some x → ∃ tr, Holds w tr (.agg cs.toArray) := by
  intro fuel
  induction fuel using Nat.strongRecOn with
  | _ fuel ih =>
    intro cs x h
    obtain ⟨xs, n, hn, _, hl, hlen, hf⟩ := DataW.trod_struct ht h
    rw [hC] at hl
    obtain ⟨c0, c1, c2, c3, rfl⟩ := list4 hl
    obtain ⟨y0, y1, y2, y3, rfl⟩ := list4 (show xs.length = 4 by simpa using hlen)
    obtain ⟨o0, k0⟩ := hone_of hone 0 f0 rfl
    obtain ⟨o1, k1⟩ := hone_of hone 1 f1 rfl
    obtain ⟨o2, k2⟩ := hone_of hone 2 f2 rfl
    obtain ⟨o3, k3⟩ := hone_of hone 3 f3 rfl
    have g0 : DataW.trod enc P w base spare held n f0.type [c0] = some y0 := by simpa [o0, k0] using hf 0 f0 rfl
    have g1 : DataW.trod enc P w base spare held n f1.type [c1] = some y1 := by simpa [o1, k1] using hf 1 f1 rfl
    have g2 : DataW.trod enc P w base spare held n f2.type [c2] = some y2 := by simpa [o2, k2] using hf 2 f2 rfl
    have g3 : DataW.trod enc P w base spare held n f3.type [c3] = some y3 := by simpa [o3, k3] using hf 3 f3 rfl
    obtain ⟨a, e0, _, wa⟩ := DataW.trod_int h0 g0
    obtain ⟨b, e1, _, wb⟩ := DataW.trod_int h1 g1
    obtain ⟨s, e2, _, ws⟩ := DataW.trod_string h2 g2
    simp at e0 e1 e2
    subst e0 e1 e2
    have hb := wf_u64 wb
    obtain ⟨bn, rfl⟩ := Int.eq_ofNat_of_zero_le hb.1
    rcases DataW.trod_slice h3 g3 with ⟨e3, _⟩ | ⟨A, len, cap, elems, rest, q, hq, e3, _, hbA, hle, hcap, hel, helem, _, _⟩
    · simp at e3
      subst e3
      exact ⟨.mk a bn s [], .mk a bn s [] none 0 0 (fun _ => .int .i64 0) wa (by omega) ws rfl (Nat.le_refl _) (Nat.zero_le _) (fun i hi => absurd hi (by omega)) (fun i t hi => by simp at hi)⟩
    · simp at e3
      subst e3
      have hex : ∀ i, i < len → ∃ p : Tree × List Value, Holds w p.1 (.agg p.2.toArray) ∧ ∀ j u, p.2[j]? = some u → w.cell? (A.add (4 * i + j)) = some u := by
        intro i hi
        have key := helem i hi
        rw [List.getElem?_eq_getElem (by omega)] at key
        obtain ⟨cs', h1', h2'⟩ := Option.bind_eq_some_iff.1 key
        obtain ⟨tr, htr⟩ := ih q (by omega) cs' _ h2'
        obtain ⟨_, hlc, hcell⟩ := World.cells?_some h1'
        refine ⟨(tr, cs'), htr, fun j u hu => ?_⟩
        have hj : j < P.cellsOf t := by
          rw [← hlc]
          rcases Nat.lt_or_ge j cs'.length with h | h
          · exact h
          · rw [List.getElem?_eq_none h] at hu; cases hu
        have := hcell j hj
        rw [add_of_add, hC, Nat.mul_comm i 4] at this
        rw [this]; exact hu
      obtain ⟨F, hF⟩ := choose_lt hex
      refine ⟨.mk a bn s ((List.range len).map fun i => (F i).1), .mk a bn s _ (some A) len cap (fun i => .agg (F i).2.toArray) wa (by omega) ws (by simp) hle hcap (fun i hi => ⟨A, rfl, fun j u hu => (hF i hi).2 j u ?_⟩) (fun i t hi => ?_)⟩
      · simpa [Value.cells] using hu
      · simp only [List.getElem?_map, Option.map_eq_some_iff] at hi
        obtain ⟨r, hr, rfl⟩ := hi
        obtain ⟨hlt, hv⟩ := List.getElem?_eq_some_iff.1 hr
        simp at hlt hv
        subst hv
        exact (hF i hlt).1
end
end Go.Proofs.YtmgiholmhhjpaaaDoor

namespace Go.Proofs.YtmgiholmhhjpaaaDoor
set_option linter.unusedVariables false

/-- Numbers below 2^64, texts and lists that are not too long. -/
inductive Fit : Tree → Prop where
  | mk (k : Int) (n : Nat) (s : ByteArray) (l : List Tree) (hn : n < 2 ^ 64) (hs : s.size < 2 ^ 64) (hl : l.length < 2 ^ 64) (h : ∀ t ∈ l, Fit t) : Fit (.mk k n s l)
theorem Fit.out {k : Int} {n : Nat} {s : ByteArray} {l : List Tree} (h : Fit (.mk k n s l)) : n < 2 ^ 64 ∧ s.size < 2 ^ 64 ∧ l.length < 2 ^ 64 ∧ ∀ t ∈ l, Fit t := by
  cases h with
  | mk _ _ _ _ a b c d => exact ⟨a, b, c, d⟩

theorem empty_of_size {s : ByteArray} (h : s.size = 0) : s = ByteArray.empty := by
  obtain ⟨⟨l⟩⟩ := s
  have : l = [] := List.eq_nil_of_length_eq_zero h
  subst this
  rfl
theorem bad_parts {k : Int} {n : Nat} {s : ByteArray} {l : List Tree} (h : bad k n s l = false) :
    (k = 0 ∧ s = ByteArray.empty ∧ l = []) ∨ (k = 1 ∧ n = 0 ∧ l = []) ∨ (k = 2 ∧ n = 0 ∧ s = ByteArray.empty) := by
  simp only [bad, decide_eq_false_iff_not] at h
  have hk : k = 0 ∨ k = 1 ∨ k = 2 := Classical.byContradiction fun hh => h (.inl hh)
  have hn : k ≠ 0 → n = 0 := fun h1 => Classical.byContradiction fun hh => h (.inr (.inl ⟨h1, hh⟩))
  have hs : k ≠ 1 → s = ByteArray.empty := fun h1 => empty_of_size (Classical.byContradiction fun hh => h (.inr (.inr (.inl ⟨h1, hh⟩))))
  have hl : k ≠ 2 → l = [] := fun h1 => List.eq_nil_of_length_eq_zero (Classical.byContradiction fun hh => h (.inr (.inr (.inr ⟨h1, by omega⟩))))
  rcases hk with rfl | rfl | rfl
  · exact .inl ⟨rfl, hs (by decide), hl (by decide)⟩
  · exact .inr (.inl ⟨rfl, hn (by decide), hl (by decide)⟩)
  · exact .inr (.inr ⟨rfl, hn (by decide), hs (by decide)⟩)
theorem txt_inj {s t : ByteArray} (h : txt s = txt t) : s = t := by
  obtain ⟨⟨a⟩⟩ := s
  obtain ⟨⟨b⟩⟩ := t
  have hab : a = b := by
    have h' : a.map UInt8.toNat = b.map UInt8.toNat := h
    exact List.map_inj_right (fun x y hxy => UInt8.toNat_inj.1 hxy) |>.1 h'
  rw [hab]
/-- The number at the front is told by what follows. -/
theorem form_split {a b : Nat} {r s : List Nat} (h : form a ++ r = form b ++ s) : a = b ∧ r = s := by
  have h1 := ntake_form a r
  have h2 := ntake_form b s
  rw [h, h2] at h1
  injection h1 with h1 _
  subst h1
  exact ⟨rfl, List.append_cancel_left h⟩
theorem tform_split (t : Tree) : ∀ (u : Tree) (d d' : Nat) (r s : List Nat), check t d = 0 → check u d' = 0 → tform t ++ r = tform u ++ s → t = u ∧ r = s := by
  refine Tree.ind (P := fun t => ∀ (u : Tree) (d d' : Nat) (r s : List Nat), check t d = 0 → check u d' = 0 → tform t ++ r = tform u ++ s → t = u ∧ r = s) ?_ t
  intro k n s l ih u d d' r r' ht hu he
  obtain ⟨k2, n2, s2, l2⟩ := u
  obtain ⟨hb, _, hc⟩ := check_node ht
  obtain ⟨hb2, _, hc2⟩ := check_node hu
  rcases bad_parts hb with ⟨rfl, rfl, rfl⟩ | ⟨rfl, rfl, rfl⟩ | ⟨rfl, rfl, rfl⟩ <;> rcases bad_parts hb2 with ⟨rfl, rfl, rfl⟩ | ⟨rfl, rfl, rfl⟩ | ⟨rfl, rfl, rfl⟩ <;> simp [tform] at he
  · obtain ⟨rfl, rfl⟩ := form_split he
    exact ⟨rfl, rfl⟩
  · obtain ⟨h1, h2⟩ := form_split he
    have h3 : (txt s).length = (txt s2).length := by rw [txt_length, txt_length]; exact h1
    obtain ⟨h4, h5⟩ := List.append_inj h2 h3
    rw [txt_inj h4]
    exact ⟨rfl, h5⟩
  · obtain ⟨h1, h2⟩ := form_split he
    have key : ∀ (a b : List Tree) (x y : List Nat), a.length = b.length → (∀ t ∈ a, t ∈ l) → checks a (d + 1) = 0 → checks b (d' + 1) = 0 → tforms a ++ x = tforms b ++ y → a = b ∧ x = y := by
      intro a
      induction a with
      | nil =>
        intro b x y hl _ _ _ h
        have : b = [] := List.eq_nil_of_length_eq_zero (by simpa using hl.symm)
        subst this
        exact ⟨rfl, by simpa [tforms] using h⟩
      | cons t a iha =>
        intro b x y hl hm ha hb h
        cases b with
        | nil => simp at hl
        | cons u b =>
          simp only [tforms, List.append_assoc] at h
          rw [checks_zero] at ha hb
          obtain ⟨rfl, h6⟩ := ih t (hm t (by simp)) u _ _ _ _ (ha t (by simp)) (hb u (by simp)) h
          obtain ⟨rfl, h7⟩ := iha b x y (by simpa using hl) (fun v hv => hm v (by simp [hv])) (checks_zero.2 fun v hv => ha v (by simp [hv])) (checks_zero.2 fun v hv => hb v (by simp [hv])) h6
          exact ⟨rfl, h7⟩
    obtain ⟨rfl, h5⟩ := key l l2 r r' h1 (fun t h => h) hc hc2 h2
    exact ⟨rfl, h5⟩
theorem tform_inj {t u : Tree} (ht : check t 0 = 0) (hu : check u 0 = 0) (h : tform t = tform u) : t = u :=
  (tform_split t u 0 0 [] [] ht hu (by rw [h])).1
theorem tform_bytes (t : Tree) : Fit t → ∀ c ∈ tform t, c < 256 := by
  refine Tree.ind (P := fun t => Fit t → ∀ c ∈ tform t, c < 256) ?_ t
  intro k n s l ih hf
  obtain ⟨hn, hs, hl, hsub⟩ := hf.out
  have key : ∀ a : List Tree, (∀ t ∈ a, t ∈ l) → ∀ c ∈ tforms a, c < 256 := by
    intro a
    induction a with
    | nil => intro _ c hc; simp [tforms] at hc
    | cons t a iha =>
      intro hm c hc
      simp only [tforms] at hc
      rcases List.mem_append.1 hc with hc | hc
      · exact ih t (hm t (by simp)) (hsub t (hm t (by simp))) c hc
      · exact iha (fun v hv => hm v (by simp [hv])) c hc
  intro c hc
  simp only [tform] at hc
  split at hc
  · rcases List.mem_cons.1 hc with rfl | hc
    · omega
    · exact form_bytes hn c hc
  · split at hc
    · rcases List.mem_cons.1 hc with rfl | hc
      · omega
      · rcases List.mem_append.1 hc with hc | hc
        · exact form_bytes hs c hc
        · exact txt_lt s c hc
    · rcases List.mem_cons.1 hc with rfl | hc
      · omega
      · rcases List.mem_append.1 hc with hc | hc
        · exact form_bytes hl c hc
        · exact key l (fun t h => h) c hc
/-- A form is at most ten times as long as the tree is great. -/
theorem tform_len (t : Tree) : Fit t → (tform t).length ≤ 10 * tsize t := by
  refine Tree.ind (P := fun t => Fit t → (tform t).length ≤ 10 * tsize t) ?_ t
  intro k n s l ih hf
  obtain ⟨hn, hs, hl, hsub⟩ := hf.out
  have key : ∀ a : List Tree, (∀ t ∈ a, t ∈ l) → (tforms a).length ≤ 10 * tsizes a := by
    intro a
    induction a with
    | nil => intro _; simp [tforms]
    | cons t a iha =>
      intro hm
      simp only [tforms, tsizes, List.length_append]
      have h1 := ih t (hm t (by simp)) (hsub t (hm t (by simp)))
      have h2 := iha (fun v hv => hm v (by simp [hv]))
      omega
  have h1 := key l (fun t h => h)
  have h2 := form_len hn
  have h3 := form_len hs
  have h4 := form_len hl
  simp only [tform, tsize]
  split
  · simp only [List.length_cons]; omega
  · split
    · simp only [List.length_cons, List.length_append, txt_length]; omega
    · simp only [List.length_cons, List.length_append]; omega

/-- The document's measure: what it tells up to its bound is how great the tree is. -/
theorem csize_spec (most : Nat) : ∀ (d : Nat) (t : Tree), csize most d t ≤ most → tsize t = csize most d t := by
  intro d
  induction d with
  | zero => intro t h; simp [csize] at h; omega
  | succ d ih =>
    intro t h
    obtain ⟨k, n, s, l⟩ := t
    simp only [csize] at h ⊢
    have key : ∀ (a : List Tree) (acc : Nat), csizes most d acc a ≤ most → acc + tsizes a = csizes most d acc a := by
      intro a
      induction a with
      | nil => intro acc _; simp [tsizes, csizes]
      | cons t a iha =>
        intro acc h
        simp only [csizes] at h ⊢
        split at h
        · rename_i hle
          rw [if_pos hle]
          have hge : ∀ (b : List Tree) (acc : Nat), acc ≤ csizes most d acc b := by
            intro b
            induction b with
            | nil => intro acc; simp [csizes]
            | cons u b ihb =>
              intro acc
              simp only [csizes]
              split
              · have := ihb (acc + csize most d u); omega
              · omega
          have h1 := hge a (acc + csize most d t)
          have h2 := ih t (by omega)
          have h3 := iha _ h
          simp only [tsizes]
          omega
        · rename_i hle
          exact absurd h hle
    have := key l (1 + s.size) h
    simp only [tsize]
    omega
theorem csizes_append (most d : Nat) (a b : List Tree) : ∀ acc, csizes most d acc (a ++ b) = csizes most d (csizes most d acc a) b := by
  induction a with
  | nil => intro acc; simp [csizes]
  | cons t a ih =>
    intro acc
    simp only [List.cons_append, csizes]
    split
    · exact ih _
    · rename_i h
      cases b with
      | nil => simp [csizes]
      | cons u b => simp [csizes, h]
theorem csizes_stop {most d acc : Nat} (h : most < acc) (b : List Tree) : csizes most d acc b = acc := by
  cases b with
  | nil => simp [csizes]
  | cons u b => simp only [csizes]; rw [if_neg (by omega)]
theorem csizes_take {most d acc k : Nat} {l : List Tree} {t : Tree} (hk : l[k]? = some t) (h : csizes most d acc (l.take k) ≤ most) :
    csizes most d acc (l.take (k + 1)) = csizes most d acc (l.take k) + csize most d t := by
  rw [List.take_add_one, hk, csizes_append]
  simp [csizes, h]
theorem csizes_done {most d acc k : Nat} {l : List Tree} (h : most < csizes most d acc (l.take k)) : csizes most d acc l = csizes most d acc (l.take k) := by
  conv => lhs; rw [← List.take_append_drop k l, csizes_append]
  exact csizes_stop h _
theorem csize_le (most : Nat) : ∀ (d : Nat) (t : Tree), csize most d t ≤ (most + 2) * tsize t := by
  intro d
  induction d with
  | zero =>
    intro t
    obtain ⟨k, n, s, l⟩ := t
    simp only [csize, tsize]
    have : (most + 2) * 1 ≤ (most + 2) * (1 + s.size + tsizes l) := Nat.mul_le_mul_left _ (by omega)
    omega
  | succ d ih =>
    intro t
    obtain ⟨k, n, s, l⟩ := t
    simp only [csize, tsize]
    have key : ∀ (a : List Tree) (acc : Nat), csizes most d acc a ≤ acc + (most + 2) * tsizes a := by
      intro a
      induction a with
      | nil => intro acc; simp [csizes]
      | cons t a iha =>
        intro acc
        simp only [csizes, tsizes]
        have h1 := ih t
        rw [Nat.mul_add]
        split
        · have h2 := iha (acc + csize most d t)
          omega
        · omega
    have h3 := key l (1 + s.size)
    have h4 : 1 * (1 + s.size) ≤ (most + 2) * (1 + s.size) := Nat.mul_le_mul_right _ (by omega)
    rw [Nat.mul_add]
    omega
theorem csizes_le (most d : Nat) (a : List Tree) : ∀ acc, csizes most d acc a ≤ acc + (most + 2) * tsizes a := by
  induction a with
  | nil => intro acc; simp [csizes]
  | cons t a iha =>
    intro acc
    simp only [csizes, tsizes]
    have h1 := csize_le most d t
    rw [Nat.mul_add]
    split
    · have h2 := iha (acc + csize most d t)
      omega
    · omega
end Go.Proofs.YtmgiholmhhjpaaaDoor



namespace Go.Proofs.YtmgiholmhhjpaaaDoor
open Go.RowKit
set_option linter.unusedVariables false
set_option linter.unusedSimpArgs false
set_option maxRecDepth 20000
attribute [local go_sem ↓] Go.wp_at_zero Go.wp_at_succ
attribute [local go_sem] World.cell?_alloc_some frozen_alloc_some

/-- The slice holds the trees. -/
def Items (w : World) (A : Option Addr) (m c : Nat) (l : List Tree) : Prop :=
  m = l.length ∧ m ≤ c ∧ c ≤ maxLen ∧ ∃ vs : Nat → Value, (∀ i, i < m → ∃ ad, A = some ad ∧ ∀ j u, (vs i).cells[j]? = some u → w.cell? (ad.add (4 * i + j)) = some u) ∧ ∀ (i : Nat) (t : Tree), l[i]? = some t → Holds w t (vs i)
theorem Items.node {w : World} {A : Option Addr} {m c : Nat} {l : List Tree} (h : Items w A m c l) {k : Int} {n : Nat} {s : ByteArray} (hk : (Lit.int .i64 k).wf = true) (hn : n < 2 ^ 64) (hs : s.size ≤ maxLen) :
    Holds w (.mk k n s l) (.agg #[.int .i64 k, .int .u64 (n : Int), .string s, .slice A m c]) := by
  obtain ⟨h1, h2, h3, vs, h4, h5⟩ := h
  exact .mk k n s l A m c vs hk hn hs h1 h2 h3 h4 h5
theorem Holds.items {w : World} {k : Int} {n : Nat} {s : ByteArray} {l : List Tree} {A : Option Addr} {m c : Nat} {kk nn : Int} {ss : ByteArray} (h : Holds w (.mk k n s l) (.agg #[.int .i64 kk, .int .u64 nn, .string ss, .slice A m c])) : Items w A m c l := by
  cases h with
  | mk k n s l A m c vs hk hn hs hm hmc hc hcell hsub => exact ⟨hm, hmc, hc, vs, hcell, hsub⟩
theorem Items.nil (w : World) : Items w none 0 0 [] := ⟨rfl, Nat.le_refl _, Nat.zero_le _, fun _ => .nilIface, fun i hi => absurd hi (by omega), fun i t hi => by simp at hi⟩
theorem Items.keep {w w' : World} (hb : Below w.heap.size w w') {A : Option Addr} {m c : Nat} {l : List Tree} (h : Items w A m c l) : Items w' A m c l := by
  obtain ⟨h1, h2, h3, vs, h4, h5⟩ := h
  exact ⟨h1, h2, h3, vs, fun i hi => by
    obtain ⟨ad, e, hc⟩ := h4 i hi
    exact ⟨ad, e, fun j u hu => cell_keep hb (hc j u hu)⟩, fun i t hi => (h5 i t hi).keep hb⟩

/-- The cells of the first so many. -/
def flat4 (vs : Nat → Value) : Nat → List Value
  | 0 => []
  | m + 1 => flat4 vs m ++ (vs m).cells.toList
theorem Holds.four {w : World} {t : Tree} {v : Value} (h : Holds w t v) : v.cells.size = 4 ∧ ∀ u ∈ v.cells.toList, u.oneCell' = true := by
  cases h with
  | mk k n s l A m c vs hk hn hs hm hmc hc hcell hsub =>
    refine ⟨rfl, fun u hu => ?_⟩
    simp [Value.cells] at hu
    rcases hu with rfl | rfl | rfl | rfl <;> rfl
theorem flat4_length {vs : Nat → Value} {m : Nat} (h : ∀ i, i < m → (vs i).cells.size = 4) : (flat4 vs m).length = m * 4 := by
  induction m with
  | zero => rfl
  | succ m ih =>
    have h1 := ih fun i hi => h i (by omega)
    have h2 := h m (by omega)
    simp only [flat4, List.length_append, h1, Array.length_toList, h2]
    omega
theorem flat4_get {vs : Nat → Value} {m : Nat} (h : ∀ i, i < m → (vs i).cells.size = 4) {i j : Nat} (hi : i < m) (hj : j < 4) : (flat4 vs m)[4 * i + j]? = (vs i).cells[j]? := by
  induction m with
  | zero => omega
  | succ m ih =>
    have h0 := flat4_length (fun i hi => h i (by omega : i < m + 1)) (m := m)
    by_cases him : i < m
    · simp only [flat4]
      rw [List.getElem?_append_left (by omega)]
      exact ih (fun i hi => h i (by omega)) him
    · have : i = m := by omega
      subst this
      simp only [flat4]
      rw [List.getElem?_append_right (by omega), h0, show 4 * i + j - i * 4 = j by omega, Array.getElem?_toList]
theorem flat4_one {vs : Nat → Value} {m : Nat} (h : ∀ i, i < m → ∀ u ∈ (vs i).cells.toList, u.oneCell' = true) : ∀ u ∈ flat4 vs m, u.oneCell' = true := by
  induction m with
  | zero => intro u hu; cases hu
  | succ m ih =>
    intro u hu
    rcases List.mem_append.1 hu with hu | hu
    · exact ih (fun i hi => h i (by omega)) u hu
    · exact h m (by omega) u hu

/-- A row of its own of items: of the first trees of a list. -/
def RowI (w : World) (base : Nat) (v : Value) (m : Nat) (l : List Tree) : Prop :=
  m = l.length ∧ ∃ vs : Nat → Value, w.ownsRow base 56 4 v m (flat4 vs m) ∧ ∀ (i : Nat) (t : Tree), l[i]? = some t → Holds w t (vs i)
theorem RowI.form {w : World} {base : Nat} {v : Value} {m : Nat} {l : List Tree} (h : RowI w base v m l) : ∃ A c, v = .slice A m c ∧ m ≤ c ∧ c ≤ maxLen := by
  obtain ⟨_, vs, hown, _⟩ := h
  rcases hown.2 with ⟨rfl, hl⟩ | ⟨g, cap, cur, rfl, _, _, hle, hm, _⟩
  · exact ⟨none, 0, by rw [hl], by omega, Nat.zero_le _⟩
  · exact ⟨_, cap, rfl, hle, hm⟩
theorem RowI.items {w : World} {base : Nat} {A : Option Addr} {m k c : Nat} {l : List Tree} (h : RowI w base (.slice A k c) m l) : k = m ∧ Items w A m c l := by
  obtain ⟨A', c', e, hmc, hc⟩ := h.form
  injection e with e1 e2 e3
  subst e1 e2 e3
  obtain ⟨hm, vs, hown, hsub⟩ := h
  have h4 : ∀ i, i < k → (vs i).cells.size = 4 := fun i hi => (hsub i l[i] (List.getElem?_eq_getElem (by omega))).four.1
  refine ⟨rfl, hm, hmc, hc, vs, fun i hi => ?_, hsub⟩
  rcases hown.2 with ⟨_, hl⟩ | ⟨g, cap, cur, hv, _⟩
  · omega
  · injection hv with hv _ _
    subst hv
    refine ⟨_, rfl, fun j u hu => ?_⟩
    have hj : j < 4 := by
      rw [← h4 i hi]
      exact (Array.getElem?_eq_some_iff.1 hu).1
    refine hown.cells (g := g) rfl (4 * i + j) u ?_
    rw [flat4_get h4 hi hj]; exact hu
/-- What a slice of items holds, as the source of an append. -/
theorem Items.src {w : World} {A : Option Addr} {m c : Nat} {l : List Tree} (h : Items w A m c l) : ∃ vs : Nat → Value, Src w 4 A m (flat4 vs m) ∧ ∀ (i : Nat) (t : Tree), l[i]? = some t → Holds w t (vs i) := by
  obtain ⟨hm, _, _, vs, hc, hsub⟩ := h
  have h4 : ∀ i, i < m → (vs i).cells.size = 4 ∧ ∀ u ∈ (vs i).cells.toList, u.oneCell' = true := fun i hi => (hsub i l[i] (List.getElem?_eq_getElem (by omega))).four
  refine ⟨vs, ⟨flat4_length fun i hi => (h4 i hi).1, fun q u hq => ?_, flat4_one fun i hi => (h4 i hi).2⟩, hsub⟩
  have hlen := flat4_length fun i hi => (h4 i hi).1
  have hql : q < m * 4 := by
    rw [← hlen]
    rcases Nat.lt_or_ge q (flat4 vs m).length with h | h
    · exact h
    · rw [List.getElem?_eq_none h] at hq; cases hq
  have hq2 : q = 4 * (q / 4) + q % 4 := by omega
  have hi : q / 4 < m := by omega
  obtain ⟨ad, e, hcell⟩ := hc (q / 4) hi
  refine ⟨ad, e, ?_⟩
  rw [hq2] at hq ⊢
  rw [flat4_get (fun i hi => (h4 i hi).1) hi (by omega)] at hq
  exact hcell _ _ hq
theorem Src.keep {w w' : World} {size : Nat} {A : Option Addr} {m : Nat} {news : List Value} (h : Src w size A m news) (hb : Below w.heap.size w w') : Src w' size A m news :=
  ⟨h.1, fun j u hj => by
    obtain ⟨ad, e, hc⟩ := h.2.1 j u hj
    exact ⟨ad, e, cell_keep hb hc⟩, h.2.2⟩
theorem info_item : ∃ i, Tryd.prog.info? 56 = some i ∧ i.zero = some (.agg #[.int .i64 0, .int .u64 0, .string ByteArray.empty, .slice none 0 0]) ∧ i.size = 4 ∧ i.bytes = 56 := by
  have h : (Tryd.prog.info? 56).map (fun i => (i.zero, i.size, i.bytes)) = some (some (.agg #[.int .i64 0, .int .u64 0, .string ByteArray.empty, .slice none 0 0]), 4, 56) := by kernel_rfl
  cases hi : Tryd.prog.info? 56 with
  | none => rw [hi] at h; cases h
  | some i =>
    rw [hi] at h
    simp at h
    exact ⟨i, rfl, h.1, h.2.1, h.2.2⟩
end Go.Proofs.YtmgiholmhhjpaaaDoor

namespace Go.Proofs.YtmgiholmhhjpaaaDoor
open Go.RowKit
set_option linter.unusedVariables false
set_option linter.unusedSimpArgs false
set_option maxRecDepth 20000
attribute [local go_sem ↓] Go.wp_at_zero Go.wp_at_succ
attribute [local go_sem] World.cell?_alloc_some frozen_alloc_some
attribute [local go_sem] lt2 lt3 lt4 lt5
attribute [local simp] lt2 lt3 lt4 lt5

def numV (n : Nat) : Value := .agg #[.int .i64 0, .int .u64 (n : Int), .string ByteArray.empty, .slice none 0 0]
def textV (s : ByteArray) : Value := .agg #[.int .i64 1, .int .u64 0, .string s, .slice none 0 0]
theorem holds_num (w : World) {n : Nat} (hn : n < 2 ^ 64) : Holds w (.mk 0 n ByteArray.empty []) (numV n) := (Items.nil w).node (by decide) hn (by decide)
theorem holds_text (w : World) {s : ByteArray} (hs : s.size ≤ maxLen) : Holds w (.mk 1 0 s []) (textV s) := (Items.nil w).node (n := 0) (by decide) (by decide) hs
theorem num_any (n : Nat) (w : World) : Calls Tryd.prog 68 #[.int .u64 (n : Int)] w (Gives w (numV n)) := by
  go_enter Tryd.func68, Tryd.ntmps68
  go_wp2_with fail
  refine bodyPost_ret (v := numV n) (by simp [results, Tryd.results68, go_sem, *, numV] <;> rfl) rfl ?_
  exact ⟨rfl, by ((repeat' first | with_reducible exact Below.refl _ _ | with_reducible assumption | with_reducible refine Below.alloc ?_ ?_ _ | with_reducible refine Below.setCell ?_ ?_ _ | with_reducible apply Below.drew | with_reducible apply below_drewN | with_reducible refine below_call ?_ (by with_reducible assumption) ?_) <;> (first | omega | (simp; done) | (simp; omega) | (simp at *; omega)))⟩
theorem codectext_any (s : ByteArray) (w : World) : Calls Tryd.prog 91 #[.string s] w (Gives w (textV s)) := by
  go_enter Tryd.func91, Tryd.ntmps91
  go_wp2_with fail
  refine bodyPost_ret (v := textV s) (by simp [results, Tryd.results91, go_sem, *, textV]) rfl ?_
  exact ⟨rfl, by ((repeat' first | with_reducible exact Below.refl _ _ | with_reducible assumption | with_reducible refine Below.alloc ?_ ?_ _ | with_reducible refine Below.setCell ?_ ?_ _ | with_reducible apply Below.drew | with_reducible apply below_drewN | with_reducible refine below_call ?_ (by with_reducible assumption) ?_) <;> (first | omega | (simp; done) | (simp; omega) | (simp at *; omega)))⟩
/-- A row of items of the call's own; the items' own lists are as they were in w0. -/
def Cloned (w0 w : World) (base : Nat) (v : Value) (m : Nat) (l : List Tree) : Prop :=
  m = l.length ∧ ∃ vs : Nat → Value, w.ownsRow base 56 4 v m (flat4 vs m) ∧ ∀ (i : Nat) (t : Tree), l[i]? = some t → Holds w0 t (vs i)
theorem Cloned.row {w0 w : World} {base : Nat} {v : Value} {m : Nat} {l : List Tree} (h : Cloned w0 w base v m l) (hb : Below w0.heap.size w0 w) : RowI w base v m l := by
  obtain ⟨h1, vs, h2, h3⟩ := h
  exact ⟨h1, vs, h2, fun i t ht => (h3 i t ht).keep hb⟩
theorem Cloned.set {w0 w : World} {base : Nat} {v : Value} {m : Nat} {l : List Tree} (h : Cloned w0 w base v m l) {p : Addr} (hp : p.block < base) (u : Value) : Cloned w0 (w.setCell p u) base v m l := by
  obtain ⟨h1, vs, h2, h3⟩ := h
  exact ⟨h1, vs, ownsRow_setCell_below h2 hp u, h3⟩
set_option maxHeartbeats 2000000 in
theorem clone_any (ad : Addr) (m c : Nat) (l : List Tree) (w0 w : World) (hb0 : Below w0.heap.size w0 w) (h : Items w0 (some ad) m c l) (hm : m ≤ 1000000000) :
    Calls Tryd.prog 89 #[.slice (some ad) m c] w (fun e w' => ∃ A' c', e = .returned (.slice A' m c') ∧ Cloned w0 w' w.heap.size (.slice A' m c') m l ∧ Below w.heap.size w w') := by
  obtain ⟨i1, hi, hz0, hz1, hz2⟩ := info_item
  have hk : Below w.heap.size w (w.alloc (.cells #[] 56)) := below_one _
  have hml := Lib.hid h.1
  have hnil := fun W : World => Lib.run_eql_slice_some_nil (P := Tryd.prog) W ad m c Tryd.underlying54
  obtain ⟨vs, hsrc0, hsub⟩ := h.src
  have hsrc := (hsrc0.keep hb0).keep hk
  have hown : (w.alloc (.cells #[] 56)).ownsRow w.heap.size 56 4 (.slice (some ⟨w.heap.size, 0, none⟩) 0 0) 0 [] := World.ownsRow_made w #[] 0 (Nat.le_refl _) (Nat.zero_le _) (by simp)
  go_enter Tryd.func89, Tryd.ntmps89
  go_wp2_with (at_builtin; go_loud (refine wpList_app _ rfl (.tmp 5) (.tmp 6) 54 rfl _ 56 i1 _ 4 56 Tryd.underlying54 hi hz0 hz1 hz2 rfl (by omega) _ _ _ rfl hown _ _ _ _ rfl hsrc ?h63 ?hby ?hbase ?_); (case h63 => (unfold maxLen; first | omega | (simp; done) | (simp; omega))); (case hby => first | omega | (simp; done) | (simp; omega)); (case hbase => first | omega | (simp; done) | (simp; omega)); intro v2 w2 hownw2 hgroww2 hatw2 holdw2)
  have hb2 := below_app hk hown hgroww2 (Nat.le_refl _) (by simp)
  have hcl : Cloned w0 w2 w.heap.size v2 m l := ⟨hml.out, vs, by simpa using hownw2, hsub⟩
  obtain ⟨A2, c2, rfl, _, _⟩ := (hcl.row (below_call hb0 hb2 hb0.size)).form
  go_ret
  exact ⟨_, _, rfl, hcl, hb2⟩
theorem codeclist_any (ad : Addr) (m c : Nat) (l : List Tree) (w : World) (h : Items w (some ad) m c l) (hm : m ≤ 1000000000) :
    Calls Tryd.prog 67 #[.slice (some ad) m c] w (fun e w' => ∃ v, e = .returned v ∧ Holds w' (.mk 2 0 ByteArray.empty l) v ∧ Below w.heap.size w w') := by
  have hcl : ∀ W, Below w.heap.size w W → Calls Tryd.prog 89 #[.slice (some ad) m c] W (fun e w' => ∃ A' c', e = .returned (.slice A' m c') ∧ Cloned w w' W.heap.size (.slice A' m c') m l ∧ Below W.heap.size W w') := fun W hb => clone_any ad m c l w W hb h hm
  clear h
  go_enter Tryd.func67, Tryd.ntmps67
  go_wp2_with fail
  refine (hcl _ (by ((repeat' first | with_reducible exact Below.refl _ _ | with_reducible assumption | with_reducible refine Below.alloc ?_ ?_ _ | with_reducible refine Below.setCell ?_ ?_ _ | with_reducible apply Below.drew | with_reducible apply below_drewN | with_reducible refine below_call ?_ (by with_reducible assumption) ?_) <;> (first | omega | (simp; done) | (simp; omega) | (simp at *; omega))))).mono ?_
  rintro e w1 ⟨A', c', rfl, hit, hb1⟩
  have hz1 := hb1.size
  simp at hz1
  obtain ⟨q0, r0⟩ := new_keep hb1 0 rfl
  obtain ⟨q1, r1⟩ := new_keep hb1 1 rfl
  obtain ⟨q2, r2⟩ := new_keep hb1 2 rfl
  obtain ⟨q3, r3⟩ := new_keep hb1 3 rfl
  simp only [World.size_alloc] at hit
  have Hit := Lib.hid hit
  clear hit
  go_wp2_with fail
  have hbw : Below w.heap.size w w1 := by ((repeat' first | with_reducible exact Below.refl _ _ | with_reducible assumption | with_reducible refine Below.alloc ?_ ?_ _ | with_reducible refine Below.setCell ?_ ?_ _ | with_reducible apply Below.drew | with_reducible apply below_drewN | with_reducible refine below_call ?_ (by with_reducible assumption) ?_) <;> (first | omega | (simp; done) | (simp; omega) | (simp at *; omega)))
  refine bodyPost_ret (v := .agg #[.int .i64 2, .int .u64 0, .string ByteArray.empty, .slice A' m c']) (by simp [results, Tryd.results67, go_sem, *] <;> rfl) rfl ?_
  have h4 := (((Hit.out.set (p := ⟨w.heap.size, 0, none⟩) (by simp) (.int .i64 2)).set (p := ⟨w.heap.size, 1, none⟩) (by simp) (.int .u64 0)).set (p := ⟨w.heap.size, 2, none⟩) (by simp) (.string ByteArray.empty)).set (p := ⟨w.heap.size, 3, none⟩) (by simp) (.slice A' m c')
  have hb4 : Below w.heap.size w ((((w1.setCell ⟨w.heap.size, 0, none⟩ (.int .i64 2)).setCell ⟨w.heap.size, 1, none⟩ (.int .u64 0)).setCell ⟨w.heap.size, 2, none⟩ (.string ByteArray.empty)).setCell ⟨w.heap.size, 3, none⟩ (.slice A' m c')) := by ((repeat' first | with_reducible exact Below.refl _ _ | with_reducible assumption | with_reducible refine Below.alloc ?_ ?_ _ | with_reducible refine Below.setCell ?_ ?_ _ | with_reducible apply Below.drew | with_reducible apply below_drewN | with_reducible refine below_call ?_ (by with_reducible assumption) ?_) <;> (first | omega | (simp; done) | (simp; omega) | (simp at *; omega)))
  exact ⟨_, rfl, (h4.row hb4).items.2.node (n := 0) (by decide) (by decide) (by decide), hb4⟩
end Go.Proofs.YtmgiholmhhjpaaaDoor



namespace Go.Proofs.YtmgiholmhhjpaaaDoor
open Go.RowKit
set_option linter.unusedVariables false
set_option linter.unusedSimpArgs false
set_option maxRecDepth 20000
attribute [local go_sem ↓] Go.wp_at_zero Go.wp_at_succ
attribute [local go_sem] World.cell?_alloc_some frozen_alloc_some
attribute [local go_sem] lt2 lt3 lt4 lt5
attribute [local simp] lt2 lt3 lt4 lt5

open Classical in
/-- Two trees are one. -/
noncomputable def tsame (t u : Tree) : Bool := decide (t = u)
theorem tsame_self (t : Tree) : tsame t t = true := by simp [tsame]
theorem tsame_iff {t u : Tree} : tsame t u = true ↔ t = u := by simp [tsame]
theorem tsame_no {t u : Tree} (h : t ≠ u) : tsame t u = false := by simp [tsame, h]
theorem list_parts {l m : List Tree} {j : Nat} (h : l.take j = m.take j) (h1 : j < l.length) (h2 : j < m.length) (he : l[j] = m[j]) : l.take (j + 1) = m.take (j + 1) := by
  rw [List.take_add_one, List.take_add_one, h, List.getElem?_eq_getElem h1, List.getElem?_eq_getElem h2, he]

theorem toList_inj {s t : ByteArray} (h : s.toList = t.toList) : s = t := by
  obtain ⟨⟨a⟩⟩ := s
  obtain ⟨⟨b⟩⟩ := t
  simp only [ByteArray.toList_eq] at h
  rw [show a = b from h]

end Go.Proofs.YtmgiholmhhjpaaaDoor

namespace Go.Proofs.YtmgiholmhhjpaaaDoor
open Go.RowKit
set_option linter.unusedVariables false
set_option linter.unusedSimpArgs false
set_option maxRecDepth 20000
attribute [local go_sem ↓] Go.wp_at_zero Go.wp_at_succ
attribute [local go_sem] World.cell?_alloc_some frozen_alloc_some

theorem items_block {w : World} {g m : Nat} {e : TypeId} {fr : Nat × Nat} {vs : Nat → Value} {l : List Tree} (hb : w.heap[g]? = some (.cells (flat4 vs m).toArray e fr)) (hm : m = l.length) (hmm : m ≤ maxLen)
    (h : ∀ (i : Nat) (t : Tree), l[i]? = some t → Holds w t (vs i)) : Items w (some ⟨g, 0, none⟩) m m l :=
  ⟨hm, Nat.le_refl _, hmm, vs, fun i hi => ⟨_, rfl, fun j u hu => by
    have h4 : ∀ i, i < m → (vs i).cells.size = 4 := fun i hi => (h i l[i] (List.getElem?_eq_getElem (by omega))).four.1
    have hj : j < 4 := by rw [← h4 i hi]; exact (Array.getElem?_eq_some_iff.1 hu).1
    have hadd : (⟨g, 0, none⟩ : Addr).add (4 * i + j) = ⟨g, 4 * i + j, none⟩ := by unfold Addr.add; split <;> simp_all
    rw [hadd, cell_of_row w g _ _ e fr hb, List.getElem?_toArray, flat4_get h4 hi hj]
    exact hu⟩, h⟩
end Go.Proofs.YtmgiholmhhjpaaaDoor
