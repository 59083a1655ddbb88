/- Trees of numbers, texts and lists: what is wrong with one, its form, its size. Plain: no program in sight. Items in memory: which tree a value of type api.Item is; the opening of one that came in. Trees: two that are right have one form just if they are the same; the document's measure. Plain: no program in sight. The conversion of a text to bytes: what lies behind it. -/
import Derived.Test.YtfdfcceleaodaaaAttrItemsQ2
import Derived.Test.YtfdfcceleaodaaaAttrItemsQ0
import Derived.Test.YtfdfcceleaodaaaAttrItemsQ1
import Derived.Lib.SmallJoins
import Derived.Lib.ConvBytes
namespace Go.Proofs.Ytfdfcceleaodaaa
set_option linter.unusedVariables false

inductive Tree where
  | mk (kind : Int) (n : Nat) (s : ByteArray) (l : List Tree)

instance : Inhabited Tree := ⟨.mk 0 0 ByteArray.empty []⟩
theorem Tree.ind {P : Tree → Prop} (h : ∀ k n s l, (∀ t ∈ l, P t) → P (.mk k n s l)) : ∀ t, P t
  | .mk k n s l => h k n s l fun t ht => Tree.ind h t
termination_by t => SizeOf.sizeOf t
decreasing_by
  have := List.sizeOf_lt_of_mem ht
  simp
  omega

/-- The bytes of a text. -/
def txt (s : ByteArray) : List Nat := s.data.toList.map UInt8.toNat
theorem txt_length (s : ByteArray) : (txt s).length = s.size := by rw [txt, List.length_map]; rfl
theorem txt_lt (s : ByteArray) : ∀ c ∈ txt s, c < 256 := by
  intro c hc
  simp only [txt, List.mem_map] at hc
  obtain ⟨u, _, rfl⟩ := hc
  exact u.toNat_lt

/-- A node that is wrong by itself. -/
def bad (k : Int) (n : Nat) (s : ByteArray) (l : List Tree) : Bool := decide (¬ (k = 0 ∨ k = 1 ∨ k = 2) ∨ k ≠ 0 ∧ n ≠ 0 ∨ k ≠ 1 ∧ s.size ≠ 0 ∨ k ≠ 2 ∧ 0 < l.length)
mutual
/-- What is wrong with a tree that is nested so deep: an error's number. -/
def check : Tree → Nat → Nat
  | .mk k n s l, d => if bad k n s l = true then 4 else if d = 16 then 12 else checks l (d + 1)
def checks : List Tree → Nat → Nat
  | [], _ => 0
  | t :: l, d => if check t d = 0 then checks l d else check t d
end
mutual
/-- A tree's form. -/
def tform : Tree → List Nat
  | .mk k n s l => if k = 0 then 0 :: form n else if k = 1 then 1 :: (form s.size ++ txt s) else 2 :: (form l.length ++ tforms l)
def tforms : List Tree → List Nat
  | [] => []
  | t :: l => tform t ++ tforms l
end
mutual
def tsize : Tree → Nat
  | .mk k n s l => 1 + s.size + tsizes l
def tsizes : List Tree → Nat
  | [] => 0
  | t :: l => tsize t + tsizes l
end
theorem tforms_append (a b : List Tree) : tforms (a ++ b) = tforms a ++ tforms b := by
  induction a with
  | nil => rfl
  | cons t a ih => simp only [List.cons_append, tforms, ih, List.append_assoc]
theorem tforms_take {l : List Tree} {k : Nat} {t : Tree} (h : l[k]? = some t) : tforms (l.take (k + 1)) = tforms (l.take k) ++ tform t := by
  rw [List.take_add_one, h, tforms_append]
  simp [tforms]
theorem tsizes_append (a b : List Tree) : tsizes (a ++ b) = tsizes a + tsizes b := by
  induction a with
  | nil => simp [tsizes]
  | cons t a ih => simp only [List.cons_append, tsizes, ih]; omega
theorem tsizes_mem {l : List Tree} {t : Tree} (h : t ∈ l) : tsize t ≤ tsizes l := by
  induction l with
  | nil => cases h
  | cons u l ih =>
    simp only [tsizes]
    rcases List.mem_cons.1 h with rfl | h
    · omega
    · have := ih h; omega
theorem tsizes_len (l : List Tree) : l.length ≤ tsizes l := by
  induction l with
  | nil => simp
  | cons t l ih => obtain ⟨k, n, s, m⟩ := t; simp only [List.length_cons, tsizes, tsize]; omega
/-- The first that is wrong. -/
theorem checks_zero {l : List Tree} {d : Nat} : checks l d = 0 ↔ ∀ t ∈ l, check t d = 0 := by
  induction l with
  | nil => simp [checks]
  | cons t l ih =>
    simp only [checks]
    by_cases h : check t d = 0
    · rw [if_pos h, ih]; simp [h]
    · rw [if_neg h]; simp [h]
theorem checks_first {l : List Tree} {d k : Nat} {t : Tree} (hk : l[k]? = some t) (h0 : checks (l.take k) d = 0) (h : check t d ≠ 0) : checks l d = check t d := by
  induction l generalizing k with
  | nil => simp at hk
  | cons u l ih =>
    cases k with
    | zero => simp at hk; subst hk; simp only [checks]; rw [if_neg h]
    | succ k =>
      simp only [List.take_succ_cons, checks] at h0
      by_cases hu : check u d = 0
      · rw [if_pos hu] at h0
        simp only [checks]
        rw [if_pos hu]
        exact ih (by simpa using hk) h0
      · rw [if_neg hu] at h0; exact absurd h0 hu
theorem checks_take {l : List Tree} {d k : Nat} {t : Tree} (hk : l[k]? = some t) (h0 : checks (l.take k) d = 0) (h : check t d = 0) : checks (l.take (k + 1)) d = 0 := by
  rw [checks_zero] at h0 ⊢
  intro u hu
  rw [List.take_add_one, hk] at hu
  rcases List.mem_append.1 hu with hu | hu
  · exact h0 u hu
  · simp at hu; subst hu; exact h
theorem check_errs (t : Tree) : ∀ d, check t d = 0 ∨ check t d = 4 ∨ check t d = 12 := by
  refine Tree.ind (P := fun t => ∀ d, check t d = 0 ∨ check t d = 4 ∨ check t d = 12) ?_ t
  intro k n s l ih d
  simp only [check]
  split
  · exact .inr (.inl rfl)
  · split
    · exact .inr (.inr rfl)
    · have : ∀ m : List Tree, (∀ u ∈ m, u ∈ l) → (checks m (d + 1) = 0 ∨ checks m (d + 1) = 4 ∨ checks m (d + 1) = 12) := by
        intro m
        induction m with
        | nil => intro _; exact .inl rfl
        | cons u m ihm =>
          intro hm
          simp only [checks]
          split
          · exact ihm fun v hv => hm v (by simp [hv])
          · exact ih u (hm u (by simp)) (d + 1)
      exact this l fun u hu => hu

/-- A right tree's node. -/
theorem check_node {k : Int} {n : Nat} {s : ByteArray} {l : List Tree} {d : Nat} (h : check (.mk k n s l) d = 0) : bad k n s l = false ∧ d ≠ 16 ∧ checks l (d + 1) = 0 := by
  simp only [check] at h
  split at h
  · cases h
  · rename_i hb
    split at h
    · cases h
    · rename_i hd
      exact ⟨by simpa using hb, hd, h⟩

mutual
/-- How many items and bytes there are, up to so many, and so deep. -/
def csize (most : Nat) : Nat → Tree → Nat
  | 0, _ => most + 1
  | d + 1, .mk k n s l => csizes most d (1 + s.size) l
def csizes (most : Nat) : Nat → Nat → List Tree → Nat
  | _, acc, [] => acc
  | d, acc, t :: l => if acc ≤ most then csizes most d (acc + csize most d t) l else acc
end
theorem form_len {v : Nat} (h : v < 2 ^ 64) : (form v).length ≤ 9 := by
  rw [size_form]; have := wid_bound h; unfold size; split <;> omega
end Go.Proofs.Ytfdfcceleaodaaa

namespace Go.Proofs.Ytfdfcceleaodaaa
open Go.RowKit Go.ChangeShapes Go.WideShapes Go.Joins Go.Deep
set_option linter.unusedVariables false
set_option linter.unusedSimpArgs false
set_option linter.unnecessarySimpa false

/-- The value is the tree t; what lies behind it in w. -/
inductive Holds (w : World) : Tree → Value → Prop where
  | mk (k : Int) (n : Nat) (s : ByteArray) (l : List Tree) (A : Option Addr) (m c : Nat) (vs : Nat → Value)
    (hk : (Lit.int .i64 k).wf = true) (hn : n < 2 ^ 64) (hs : s.size ≤ maxLen) (hm : m = l.length) (hmc : m ≤ c) (hc : c ≤ maxLen)
    (hcell : ∀ i, i < m → ∃ ad, A = some ad ∧ ∀ j u, (vs i).cells[j]? = some u → w.cell? (ad.add (4 * i + j)) = some u)
    (hsub : ∀ i t, l[i]? = some t → Holds w t (vs i)) :
    Holds w (.mk k n s l) (.agg #[.int .i64 k, .int .u64 (n : Int), .string s, .slice A m c])

theorem Holds.keep {w w' : World} (hb : Below w.heap.size w w') {t : Tree} {v : Value} (h : Holds w t v) : Holds w' t v := by
  induction h with
  | mk k n s l A m c vs hk hn hs hm hmc hc hcell hsub ih =>
    exact .mk k n s l A m c vs hk hn hs hm hmc hc (fun i hi => by
      obtain ⟨ad, e, h⟩ := hcell i hi
      exact ⟨ad, e, fun j u hu => cell_keep hb (h j u hu)⟩) ih
/-- One item of a list, field by field. -/
theorem Holds.open_ {w : World} {k : Int} {n : Nat} {s : ByteArray} {l : List Tree} {v : Value} (h : Holds w (.mk k n s l) v) :
    ∃ A m c, v = .agg #[.int .i64 k, .int .u64 (n : Int), .string s, .slice A m c] ∧ (Lit.int .i64 k).wf = true ∧ n < 2 ^ 64 ∧ s.size ≤ maxLen ∧ m = l.length ∧ m ≤ c ∧ c ≤ maxLen ∧
      ∀ i t, l[i]? = some t → ∃ ad u, A = some ad ∧ Holds w t u ∧ ∀ j x, u.cells[j]? = some x → w.cell? (ad.add (4 * i + j)) = some x := by
  cases h with
  | mk k n s l A m c vs hk hn hs hm hmc hc hcell hsub =>
    refine ⟨A, m, c, rfl, hk, hn, hs, hm, hmc, hc, fun i t hi => ?_⟩
    have hil : i < m := by
      rw [hm]
      rcases Nat.lt_or_ge i l.length with h | h
      · exact h
      · rw [List.getElem?_eq_none h] at hi; cases hi
    obtain ⟨ad, e, h⟩ := hcell i hil
    exact ⟨ad, vs i, e, hsub i t hi, h⟩
/-- An item's four cells. -/
theorem Holds.cells {w : World} {t : Tree} {v : Value} {a : Addr} (h : Holds w t v) (hc : ∀ j x, v.cells[j]? = some x → w.cell? (a.add j) = some x) :
    ∃ k n s A m c, v = .agg #[.int .i64 k, .int .u64 n, .string s, .slice A m c] ∧ w.cell? (a.add 0) = some (.int .i64 k) ∧ w.cell? (a.add 1) = some (.int .u64 n) ∧ w.cell? (a.add 2) = some (.string s) ∧ w.cell? (a.add 3) = some (.slice A m c) := by
  cases h with
  | mk k n s l A m c vs hk hn hs hm hmc hc2 hcell hsub =>
    exact ⟨k, n, s, A, m, c, rfl, hc 0 _ rfl, hc 1 _ rfl, hc 2 _ rfl, hc 3 _ rfl⟩

/-- The address of an item's first cell, its four cells, and the item that they are. -/
def Cells4 (w : World) (a : Addr) (u : Value) : Prop := ∃ (b o : Nat) (k n : Int) (s : ByteArray) (A : Option Addr) (m c : Nat), a = ⟨b, o, none⟩ ∧ u = .agg #[.int .i64 k, .int .u64 n, .string s, .slice A m c] ∧
  w.cell? ⟨b, o, none⟩ = some (.int .i64 k) ∧ w.cell? ⟨b, o + 1, none⟩ = some (.int .u64 n) ∧ w.cell? ⟨b, o + 2, none⟩ = some (.string s) ∧ w.cell? ⟨b, o + 3, none⟩ = some (.slice A m c)
theorem Cells4.keep {w w' : World} {a : Addr} {u : Value} (h : Cells4 w a u) (hb : Below w.heap.size w w') : Cells4 w' a u := by
  obtain ⟨b, o, k, n, s, A, m, c, e1, e2, h0, h1, h2, h3⟩ := h
  exact ⟨b, o, k, n, s, A, m, c, e1, e2, cell_keep hb h0, cell_keep hb h1, cell_keep hb h2, cell_keep hb h3⟩
theorem Holds.elem {w : World} {k : Int} {n : Nat} {s : ByteArray} {l : List Tree} {A : Option Addr} {m c : Nat} {kk nn : Int} {ss : ByteArray} (h : Holds w (.mk k n s l) (.agg #[.int .i64 kk, .int .u64 nn, .string ss, .slice A m c])) {i : Nat} {t : Tree} (hi : l[i]? = some t) :
    ∃ ad u, A = some ad ∧ Holds w t u ∧ Cells4 w (ad.add (i * 4)) u := by
  obtain ⟨A', m', c', e, _, _, _, _, _, _, hel⟩ := h.open_
  injection e with e
  injection e with e
  injection e with _ e
  injection e with _ e
  injection e with _ e
  injection e with e _
  injection e with e _ _
  subst e
  obtain ⟨ad, u, e1, hu, hc⟩ := hel i t hi
  refine ⟨ad, u, e1, hu, ?_⟩
  obtain ⟨k2, n2, s2, A2, m2, c2, e2, h0, h1, h2, h3⟩ := hu.cells (a := ad.add (i * 4)) (fun j x hx => by
    rw [add_of_add, Nat.mul_comm]; exact hc j x hx)
  rcases hx : ad.add (i * 4) with ⟨b, o, sp⟩
  have hs : sp = none := by
    rw [hx] at h0
    simpa [Addr.add] using World.cell?_spot h0
  subst hs
  rw [hx] at h0 h1 h2 h3
  exact ⟨b, o, k2, n2, s2, A2, m2, c2, rfl, e2, by simpa [Addr.add] using h0, by simpa [Addr.add] using h1, by simpa [Addr.add] using h2, by simpa [Addr.add] using h3⟩

section
variable {H : Type} {enc : TypeId × Value → H} {P : Program} {w : World} {base : Nat} {spare : Nat → Bool} {held : Bool}
theorem list4 {α : Type} {l : List α} (h : l.length = 4) : ∃ c0 c1 c2 c3, l = [c0, c1, c2, c3] := by
  match l, h with
  | [c0, c1, c2, c3], _ => exact ⟨c0, c1, c2, c3, rfl⟩
/-- An item that came in is a tree. -/
theorem open_item_cells {t sl ik uk st : TypeId} {f0 f1 f2 f3 : Field} (ht : P.underlying t = some (.struct #[f0, f1, f2, f3])) (hone : oneCellFields P #[f0, f1, f2, f3] = true) (hC : P.cellsOf t = 4)
    (h0 : P.underlying f0.type = some (.int .i64)) (h1 : P.underlying f1.type = some (.int .u64)) (h2 : P.underlying f2.type = some .string) (h3 : P.underlying f3.type = some (.slice t)) :
    ∀ (fuel : Nat) (cs : List Value) (x : DataW H × List MemPlace), DataW.trod enc P w base spare held fuel t cs = some x → ∃ tr, Holds w tr (.agg cs.toArray) := by
  intro fuel
  induction fuel using Nat.strongRecOn with
  | _ fuel ih =>
    intro cs x h
    obtain ⟨xs, n, hn, _, hl, hlen, hf⟩ := DataW.trod_struct ht h
    rw [hC] at hl
    obtain ⟨c0, c1, c2, c3, rfl⟩ := list4 hl
    obtain ⟨y0, y1, y2, y3, rfl⟩ := list4 (show xs.length = 4 by simpa using hlen)
    obtain ⟨o0, k0⟩ := hone_of hone 0 f0 rfl
    obtain ⟨o1, k1⟩ := hone_of hone 1 f1 rfl
    obtain ⟨o2, k2⟩ := hone_of hone 2 f2 rfl
    obtain ⟨o3, k3⟩ := hone_of hone 3 f3 rfl
    have g0 : DataW.trod enc P w base spare held n f0.type [c0] = some y0 := by simpa [o0, k0] using hf 0 f0 rfl
    have g1 : DataW.trod enc P w base spare held n f1.type [c1] = some y1 := by simpa [o1, k1] using hf 1 f1 rfl
    have g2 : DataW.trod enc P w base spare held n f2.type [c2] = some y2 := by simpa [o2, k2] using hf 2 f2 rfl
    have g3 : DataW.trod enc P w base spare held n f3.type [c3] = some y3 := by simpa [o3, k3] using hf 3 f3 rfl
    obtain ⟨a, e0, _, wa⟩ := DataW.trod_int h0 g0
    obtain ⟨b, e1, _, wb⟩ := DataW.trod_int h1 g1
    obtain ⟨s, e2, _, ws⟩ := DataW.trod_string h2 g2
    simp at e0 e1 e2
    subst e0 e1 e2
    have hb := wf_u64 wb
    obtain ⟨bn, rfl⟩ := Int.eq_ofNat_of_zero_le hb.1
    rcases DataW.trod_slice h3 g3 with ⟨e3, _⟩ | ⟨A, len, cap, elems, rest, q, hq, e3, _, hbA, hle, hcap, hel, helem, _, _⟩
    · simp at e3
      subst e3
      exact ⟨.mk a bn s [], .mk a bn s [] none 0 0 (fun _ => .int .i64 0) wa (by omega) ws rfl (Nat.le_refl _) (Nat.zero_le _) (fun i hi => absurd hi (by omega)) (fun i t hi => by simp at hi)⟩
    · simp at e3
      subst e3
      have hex : ∀ i, i < len → ∃ p : Tree × List Value, Holds w p.1 (.agg p.2.toArray) ∧ ∀ j u, p.2[j]? = some u → w.cell? (A.add (4 * i + j)) = some u := by
        intro i hi
        have key := helem i hi
        rw [List.getElem?_eq_getElem (by omega)] at key
        obtain ⟨cs', h1', h2'⟩ := Option.bind_eq_some_iff.1 key
        obtain ⟨tr, htr⟩ := ih q (by omega) cs' _ h2'
        obtain ⟨_, hlc, hcell⟩ := World.cells?_some h1'
        refine ⟨(tr, cs'), htr, fun j u hu => ?_⟩
        have hj : j < P.cellsOf t := by
          rw [← hlc]
          rcases Nat.lt_or_ge j cs'.length with h | h
          · exact h
          · rw [List.getElem?_eq_none h] at hu; cases hu
        have := hcell j hj
        rw [add_of_add, hC, Nat.mul_comm i 4] at this
        rw [this]; exact hu
      obtain ⟨F, hF⟩ := choose_lt hex
      refine ⟨.mk a bn s ((List.range len).map fun i => (F i).1), .mk a bn s _ (some A) len cap (fun i => .agg (F i).2.toArray) wa (by omega) ws (by simp) hle hcap (fun i hi => ⟨A, rfl, fun j u hu => (hF i hi).2 j u ?_⟩) (fun i t hi => ?_)⟩
      · simpa [Value.cells] using hu
      · simp only [List.getElem?_map, Option.map_eq_some_iff] at hi
        obtain ⟨r, hr, rfl⟩ := hi
        obtain ⟨hlt, hv⟩ := List.getElem?_eq_some_iff.1 hr
        simp at hlt hv
        subst hv
        exact (hF i hlt).1
end
end Go.Proofs.Ytfdfcceleaodaaa

namespace Go.Proofs.Ytfdfcceleaodaaa
set_option linter.unusedVariables false

/-- Numbers below 2^64, texts and lists that are not too long. -/
inductive Fit : Tree → Prop where
  | mk (k : Int) (n : Nat) (s : ByteArray) (l : List Tree) (hn : n < 2 ^ 64) (hs : s.size < 2 ^ 64) (hl : l.length < 2 ^ 64) (h : ∀ t ∈ l, Fit t) : Fit (.mk k n s l)
theorem Fit.out {k : Int} {n : Nat} {s : ByteArray} {l : List Tree} (h : Fit (.mk k n s l)) : n < 2 ^ 64 ∧ s.size < 2 ^ 64 ∧ l.length < 2 ^ 64 ∧ ∀ t ∈ l, Fit t := by
  cases h with
  | mk _ _ _ _ a b c d => exact ⟨a, b, c, d⟩

theorem empty_of_size {s : ByteArray} (h : s.size = 0) : s = ByteArray.empty := by
  obtain ⟨⟨l⟩⟩ := s
  have : l = [] := List.eq_nil_of_length_eq_zero h
  subst this
  rfl
theorem bad_parts {k : Int} {n : Nat} {s : ByteArray} {l : List Tree} (h : bad k n s l = false) :
    (k = 0 ∧ s = ByteArray.empty ∧ l = []) ∨ (k = 1 ∧ n = 0 ∧ l = []) ∨ (k = 2 ∧ n = 0 ∧ s = ByteArray.empty) := by
  simp only [bad, decide_eq_false_iff_not] at h
  have hk : k = 0 ∨ k = 1 ∨ k = 2 := Classical.byContradiction fun hh => h (.inl hh)
  have hn : k ≠ 0 → n = 0 := fun h1 => Classical.byContradiction fun hh => h (.inr (.inl ⟨h1, hh⟩))
  have hs : k ≠ 1 → s = ByteArray.empty := fun h1 => empty_of_size (Classical.byContradiction fun hh => h (.inr (.inr (.inl ⟨h1, hh⟩))))
  have hl : k ≠ 2 → l = [] := fun h1 => List.eq_nil_of_length_eq_zero (Classical.byContradiction fun hh => h (.inr (.inr (.inr ⟨h1, by omega⟩))))
  rcases hk with rfl | rfl | rfl
  · exact .inl ⟨rfl, hs (by decide), hl (by decide)⟩
  · exact .inr (.inl ⟨rfl, hn (by decide), hl (by decide)⟩)
  · exact .inr (.inr ⟨rfl, hn (by decide), hs (by decide)⟩)
theorem txt_inj {s t : ByteArray} (h : txt s = txt t) : s = t := by
  obtain ⟨⟨a⟩⟩ := s
  obtain ⟨⟨b⟩⟩ := t
  have hab : a = b := by
    have h' : a.map UInt8.toNat = b.map UInt8.toNat := h
    exact List.map_inj_right (fun x y hxy => UInt8.toNat_inj.1 hxy) |>.1 h'
  rw [hab]
/-- The number at the front is told by what follows. -/
theorem form_split {a b : Nat} {r s : List Nat} (h : form a ++ r = form b ++ s) : a = b ∧ r = s := by
  have h1 := ntake_form a r
  have h2 := ntake_form b s
  rw [h, h2] at h1
  injection h1 with h1 _
  subst h1
  exact ⟨rfl, List.append_cancel_left h⟩
theorem tform_split (t : Tree) : ∀ (u : Tree) (d d' : Nat) (r s : List Nat), check t d = 0 → check u d' = 0 → tform t ++ r = tform u ++ s → t = u ∧ r = s := by
  refine Tree.ind (P := fun t => ∀ (u : Tree) (d d' : Nat) (r s : List Nat), check t d = 0 → check u d' = 0 → tform t ++ r = tform u ++ s → t = u ∧ r = s) ?_ t
  intro k n s l ih u d d' r r' ht hu he
  obtain ⟨k2, n2, s2, l2⟩ := u
  obtain ⟨hb, _, hc⟩ := check_node ht
  obtain ⟨hb2, _, hc2⟩ := check_node hu
  rcases bad_parts hb with ⟨rfl, rfl, rfl⟩ | ⟨rfl, rfl, rfl⟩ | ⟨rfl, rfl, rfl⟩ <;> rcases bad_parts hb2 with ⟨rfl, rfl, rfl⟩ | ⟨rfl, rfl, rfl⟩ | ⟨rfl, rfl, rfl⟩ <;> simp [tform] at he
  · obtain ⟨rfl, rfl⟩ := form_split he
    exact ⟨rfl, rfl⟩
  · obtain ⟨h1, h2⟩ := form_split he
    have h3 : (txt s).length = (txt s2).length := by rw [txt_length, txt_length]; exact h1
    obtain ⟨h4, h5⟩ := List.append_inj h2 h3
    rw [txt_inj h4]
    exact ⟨rfl, h5⟩
  · obtain ⟨h1, h2⟩ := form_split he
    have key : ∀ (a b : List Tree) (x y : List Nat), a.length = b.length → (∀ t ∈ a, t ∈ l) → checks a (d + 1) = 0 → checks b (d' + 1) = 0 → tforms a ++ x = tforms b ++ y → a = b ∧ x = y := by
      intro a
      induction a with
      | nil =>
        intro b x y hl _ _ _ h
        have : b = [] := List.eq_nil_of_length_eq_zero (by simpa using hl.symm)
        subst this
        exact ⟨rfl, by simpa [tforms] using h⟩
      | cons t a iha =>
        intro b x y hl hm ha hb h
        cases b with
        | nil => simp at hl
        | cons u b =>
          simp only [tforms, List.append_assoc] at h
          rw [checks_zero] at ha hb
          obtain ⟨rfl, h6⟩ := ih t (hm t (by simp)) u _ _ _ _ (ha t (by simp)) (hb u (by simp)) h
          obtain ⟨rfl, h7⟩ := iha b x y (by simpa using hl) (fun v hv => hm v (by simp [hv])) (checks_zero.2 fun v hv => ha v (by simp [hv])) (checks_zero.2 fun v hv => hb v (by simp [hv])) h6
          exact ⟨rfl, h7⟩
    obtain ⟨rfl, h5⟩ := key l l2 r r' h1 (fun t h => h) hc hc2 h2
    exact ⟨rfl, h5⟩
theorem tform_inj {t u : Tree} (ht : check t 0 = 0) (hu : check u 0 = 0) (h : tform t = tform u) : t = u :=
  (tform_split t u 0 0 [] [] ht hu (by rw [h])).1
theorem tform_bytes (t : Tree) : Fit t → ∀ c ∈ tform t, c < 256 := by
  refine Tree.ind (P := fun t => Fit t → ∀ c ∈ tform t, c < 256) ?_ t
  intro k n s l ih hf
  obtain ⟨hn, hs, hl, hsub⟩ := hf.out
  have key : ∀ a : List Tree, (∀ t ∈ a, t ∈ l) → ∀ c ∈ tforms a, c < 256 := by
    intro a
    induction a with
    | nil => intro _ c hc; simp [tforms] at hc
    | cons t a iha =>
      intro hm c hc
      simp only [tforms] at hc
      rcases List.mem_append.1 hc with hc | hc
      · exact ih t (hm t (by simp)) (hsub t (hm t (by simp))) c hc
      · exact iha (fun v hv => hm v (by simp [hv])) c hc
  intro c hc
  simp only [tform] at hc
  split at hc
  · rcases List.mem_cons.1 hc with rfl | hc
    · omega
    · exact form_bytes hn c hc
  · split at hc
    · rcases List.mem_cons.1 hc with rfl | hc
      · omega
      · rcases List.mem_append.1 hc with hc | hc
        · exact form_bytes hs c hc
        · exact txt_lt s c hc
    · rcases List.mem_cons.1 hc with rfl | hc
      · omega
      · rcases List.mem_append.1 hc with hc | hc
        · exact form_bytes hl c hc
        · exact key l (fun t h => h) c hc
/-- A form is at most ten times as long as the tree is great. -/
theorem tform_len (t : Tree) : Fit t → (tform t).length ≤ 10 * tsize t := by
  refine Tree.ind (P := fun t => Fit t → (tform t).length ≤ 10 * tsize t) ?_ t
  intro k n s l ih hf
  obtain ⟨hn, hs, hl, hsub⟩ := hf.out
  have key : ∀ a : List Tree, (∀ t ∈ a, t ∈ l) → (tforms a).length ≤ 10 * tsizes a := by
    intro a
    induction a with
    | nil => intro _; simp [tforms]
    | cons t a iha =>
      intro hm
      simp only [tforms, tsizes, List.length_append]
      have h1 := ih t (hm t (by simp)) (hsub t (hm t (by simp)))
      have h2 := iha (fun v hv => hm v (by simp [hv]))
      omega
  have h1 := key l (fun t h => h)
  have h2 := form_len hn
  have h3 := form_len hs
  have h4 := form_len hl
  simp only [tform, tsize]
  split
  · simp only [List.length_cons]; omega
  · split
    · simp only [List.length_cons, List.length_append, txt_length]; omega
    · simp only [List.length_cons, List.length_append]; omega

/-- The document's measure: what it tells up to its bound is how great the tree is. -/
theorem csize_spec (most : Nat) : ∀ (d : Nat) (t : Tree), csize most d t ≤ most → tsize t = csize most d t := by
  intro d
  induction d with
  | zero => intro t h; simp [csize] at h; omega
  | succ d ih =>
    intro t h
    obtain ⟨k, n, s, l⟩ := t
    simp only [csize] at h ⊢
    have key : ∀ (a : List Tree) (acc : Nat), csizes most d acc a ≤ most → acc + tsizes a = csizes most d acc a := by
      intro a
      induction a with
      | nil => intro acc _; simp [tsizes, csizes]
      | cons t a iha =>
        intro acc h
        simp only [csizes] at h ⊢
        split at h
        · rename_i hle
          rw [if_pos hle]
          have hge : ∀ (b : List Tree) (acc : Nat), acc ≤ csizes most d acc b := by
            intro b
            induction b with
            | nil => intro acc; simp [csizes]
            | cons u b ihb =>
              intro acc
              simp only [csizes]
              split
              · have := ihb (acc + csize most d u); omega
              · omega
          have h1 := hge a (acc + csize most d t)
          have h2 := ih t (by omega)
          have h3 := iha _ h
          simp only [tsizes]
          omega
        · rename_i hle
          exact absurd h hle
    have := key l (1 + s.size) h
    simp only [tsize]
    omega
theorem csizes_append (most d : Nat) (a b : List Tree) : ∀ acc, csizes most d acc (a ++ b) = csizes most d (csizes most d acc a) b := by
  induction a with
  | nil => intro acc; simp [csizes]
  | cons t a ih =>
    intro acc
    simp only [List.cons_append, csizes]
    split
    · exact ih _
    · rename_i h
      cases b with
      | nil => simp [csizes]
      | cons u b => simp [csizes, h]
theorem csizes_stop {most d acc : Nat} (h : most < acc) (b : List Tree) : csizes most d acc b = acc := by
  cases b with
  | nil => simp [csizes]
  | cons u b => simp only [csizes]; rw [if_neg (by omega)]
theorem csizes_take {most d acc k : Nat} {l : List Tree} {t : Tree} (hk : l[k]? = some t) (h : csizes most d acc (l.take k) ≤ most) :
    csizes most d acc (l.take (k + 1)) = csizes most d acc (l.take k) + csize most d t := by
  rw [List.take_add_one, hk, csizes_append]
  simp [csizes, h]
theorem csizes_done {most d acc k : Nat} {l : List Tree} (h : most < csizes most d acc (l.take k)) : csizes most d acc l = csizes most d acc (l.take k) := by
  conv => lhs; rw [← List.take_append_drop k l, csizes_append]
  exact csizes_stop h _
theorem csize_le (most : Nat) : ∀ (d : Nat) (t : Tree), csize most d t ≤ (most + 2) * tsize t := by
  intro d
  induction d with
  | zero =>
    intro t
    obtain ⟨k, n, s, l⟩ := t
    simp only [csize, tsize]
    have : (most + 2) * 1 ≤ (most + 2) * (1 + s.size + tsizes l) := Nat.mul_le_mul_left _ (by omega)
    omega
  | succ d ih =>
    intro t
    obtain ⟨k, n, s, l⟩ := t
    simp only [csize, tsize]
    have key : ∀ (a : List Tree) (acc : Nat), csizes most d acc a ≤ acc + (most + 2) * tsizes a := by
      intro a
      induction a with
      | nil => intro acc; simp [csizes]
      | cons t a iha =>
        intro acc
        simp only [csizes, tsizes]
        have h1 := ih t
        rw [Nat.mul_add]
        split
        · have h2 := iha (acc + csize most d t)
          omega
        · omega
    have h3 := key l (1 + s.size)
    have h4 : 1 * (1 + s.size) ≤ (most + 2) * (1 + s.size) := Nat.mul_le_mul_right _ (by omega)
    rw [Nat.mul_add]
    omega
theorem csizes_le (most d : Nat) (a : List Tree) : ∀ acc, csizes most d acc a ≤ acc + (most + 2) * tsizes a := by
  induction a with
  | nil => intro acc; simp [csizes]
  | cons t a iha =>
    intro acc
    simp only [csizes, tsizes]
    have h1 := csize_le most d t
    rw [Nat.mul_add]
    split
    · have h2 := iha (acc + csize most d t)
      omega
    · omega
end Go.Proofs.Ytfdfcceleaodaaa

namespace Go.Proofs.Ytfdfcceleaodaaa
open Go.RowKit
set_option linter.unusedVariables false
set_option linter.unusedSimpArgs false
theorem text_below (w : World) (e : TypeId) (s : ByteArray) : Below w.heap.size w (Lib.bytesWorld w e s) :=
  ⟨rfl, rfl, rfl, by rw [Lib.bytesWorld_size]; omega, fun j hj => Lib.bytesWorld_at_old w e s j hj⟩
theorem text_bytes (w : World) (e : TypeId) (s : ByteArray) (hs : s.size ≤ maxLen) : Bytes (Lib.bytesWorld w e s) (some ⟨w.heap.size, 0, none⟩) s.size (txt s) :=
  ⟨(txt_length s).symm, hs, fun i c hi => ⟨txt_lt s c (List.mem_of_getElem? hi), _, rfl, by
    have hl : i < s.size := by
      rw [← txt_length s]
      rcases Nat.lt_or_ge i (txt s).length with h | h
      · exact h
      · rw [List.getElem?_eq_none h] at hi; cases hi
    have hadd : (⟨w.heap.size, 0, none⟩ : Addr).add i = ⟨w.heap.size, i, none⟩ := by unfold Addr.add; split <;> simp_all
    rw [hadd, Lib.bytesWorld_cell w e s i hl]
    have hg : s.data.toList[i]? = some (s.data.toList[i]'(by rw [Array.length_toList]; exact hl)) := List.getElem?_eq_getElem _
    simp only [txt, List.getElem?_map, hg, Option.map_some, Option.some.injEq] at hi
    simp only [List.getD, hg, Option.getD_some]
    rw [hi]⟩⟩
end Go.Proofs.Ytfdfcceleaodaaa
