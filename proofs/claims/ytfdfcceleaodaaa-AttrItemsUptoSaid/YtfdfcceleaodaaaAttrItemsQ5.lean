/- Sets of ids, in plain Lean: their order, the set of a list, what is joined; no program in sight. Lists of ids in memory, attributes by value; the opening of those that came in. -/
import Derived.Test.YtfdfcceleaodaaaAttrItemsQ0
import Derived.Lib.SmallJoins
import Derived.ProofKit
import Derived.ChangeOld
namespace Go.Proofs.Ytfdfcceleaodaaa
set_option linter.unusedVariables false
set_option linter.unusedSimpArgs false

abbrev IdP := Int × Int
def idLt (a b : IdP) : Prop := a.2 < b.2 ∨ a.2 = b.2 ∧ a.1 < b.1
instance (a b : IdP) : Decidable (idLt a b) := by unfold idLt; exact inferInstance
theorem idLt_irrefl (a : IdP) : ¬ idLt a a := by unfold idLt; omega
theorem idLt_trans {a b c : IdP} (h1 : idLt a b) (h2 : idLt b c) : idLt a c := by unfold idLt at *; omega
theorem idLt_total (a b : IdP) : idLt a b ∨ a = b ∨ idLt b a := by
  obtain ⟨a1, a2⟩ := a
  obtain ⟨b1, b2⟩ := b
  unfold idLt
  simp only [Prod.mk.injEq]
  omega
theorem idLt_asymm {a b : IdP} (h : idLt a b) : ¬ idLt b a := fun h2 => idLt_irrefl _ (idLt_trans h h2)
theorem idLt_ne {a b : IdP} (h : idLt a b) : a ≠ b := fun e => by rw [e] at h; exact idLt_irrefl _ h
/-- Ascending, none twice. -/
abbrev Asc (l : List IdP) : Prop := l.Pairwise idLt

/-- Two ascending lists of the same ids are the same. -/
theorem asc_unique : ∀ {s t : List IdP}, Asc s → Asc t → (∀ x, x ∈ s ↔ x ∈ t) → s = t
  | [], [], _, _, _ => rfl
  | [], b :: t, _, _, h => absurd ((h b).2 (by simp)) (by simp)
  | a :: s, [], _, _, h => absurd ((h a).1 (by simp)) (by simp)
  | a :: s, b :: t, hs, ht, h => by
    obtain ⟨ha, hs'⟩ := List.pairwise_cons.1 hs
    obtain ⟨hb, ht'⟩ := List.pairwise_cons.1 ht
    have e : a = b := by
      rcases List.mem_cons.1 ((h a).1 (by simp)) with e | h1
      · exact e
      · rcases List.mem_cons.1 ((h b).2 (by simp)) with e | h2
        · exact e.symm
        · exact absurd (idLt_trans (hb a h1) (ha b h2)) (idLt_irrefl _)
    subst e
    rw [asc_unique hs' ht' fun x => ⟨fun hx => ?_, fun hx => ?_⟩]
    · rcases List.mem_cons.1 ((h x).1 (by simp [hx])) with e | h1
      · subst e; exact absurd (ha _ hx) (idLt_irrefl _)
      · exact h1
    · rcases List.mem_cons.1 ((h x).2 (by simp [hx])) with e | h1
      · subst e; exact absurd (hb _ hx) (idLt_irrefl _)
      · exact h1

/-- An ascending list with an id more. -/
def ins (x : IdP) : List IdP → List IdP
  | [] => [x]
  | y :: l => if idLt x y then x :: y :: l else y :: ins x l
theorem mem_ins {x z : IdP} : ∀ {l : List IdP}, z ∈ ins x l ↔ z = x ∨ z ∈ l
  | [] => by simp [ins]
  | y :: l => by
    unfold ins
    split
    · simp
    · simp only [List.mem_cons, mem_ins (l := l)]
      constructor
      · rintro (h | h | h)
        · exact .inr (.inl h)
        · exact .inl h
        · exact .inr (.inr h)
      · rintro (h | h | h)
        · exact .inr (.inl h)
        · exact .inl h
        · exact .inr (.inr h)
theorem length_ins {x : IdP} : ∀ {l : List IdP}, (ins x l).length = l.length + 1
  | [] => rfl
  | y :: l => by
    unfold ins
    split
    · simp
    · simp [length_ins (l := l)]
theorem asc_ins {x : IdP} : ∀ {l : List IdP}, Asc l → x ∉ l → Asc (ins x l)
  | [], _, _ => by simp [ins]
  | y :: l, h, hx => by
    obtain ⟨hy, hl⟩ := List.pairwise_cons.1 h
    simp only [List.mem_cons, not_or] at hx
    unfold ins
    split
    · rename_i hlt
      refine List.pairwise_cons.2 ⟨fun z hz => ?_, h⟩
      rcases List.mem_cons.1 hz with e | hz
      · subst e; exact hlt
      · exact idLt_trans hlt (hy z hz)
    · rename_i hge
      refine List.pairwise_cons.2 ⟨fun z hz => ?_, asc_ins hl hx.2⟩
      rcases mem_ins.1 hz with e | hz
      · subst e
        rcases idLt_total z y with h1 | h1 | h1
        · exact absurd h1 hge
        · exact absurd h1 hx.1
        · exact h1
      · exact hy z hz
def setStep (s : List IdP) (x : IdP) : List IdP := if x ∈ s then s else ins x s
/-- The set of a list. -/
def idSet (l : List IdP) : List IdP := l.foldl setStep []
theorem foldl_setStep : ∀ (l s : List IdP), Asc s → Asc (l.foldl setStep s) ∧ (∀ z, z ∈ l.foldl setStep s ↔ z ∈ s ∨ z ∈ l) ∧ (l.foldl setStep s).length ≤ s.length + l.length
  | [], s, h => ⟨h, fun z => by simp, by simp⟩
  | x :: l, s, h => by
    have h1 : Asc (setStep s x) ∧ (∀ z, z ∈ setStep s x ↔ z ∈ s ∨ z = x) ∧ (setStep s x).length ≤ s.length + 1 := by
      unfold setStep
      by_cases hx : x ∈ s
      · rw [if_pos hx]
        exact ⟨h, fun z => ⟨.inl, fun hz => hz.elim id fun e => e ▸ hx⟩, by omega⟩
      · rw [if_neg hx]
        exact ⟨asc_ins h hx, fun z => by rw [mem_ins]; exact Or.comm, by rw [length_ins]; omega⟩
    obtain ⟨h2, h3, h4⟩ := foldl_setStep l (setStep s x) h1.1
    refine ⟨h2, fun z => ?_, by simp only [List.foldl_cons, List.length_cons]; omega⟩
    rw [List.foldl_cons, h3, h1.2.1, List.mem_cons, or_assoc]
theorem asc_idSet (l : List IdP) : Asc (idSet l) := (foldl_setStep l [] List.Pairwise.nil).1
theorem mem_idSet {l : List IdP} {z : IdP} : z ∈ idSet l ↔ z ∈ l := by
  rw [idSet, (foldl_setStep l [] List.Pairwise.nil).2.1]; simp
theorem length_idSet (l : List IdP) : (idSet l).length ≤ l.length := by
  have := (foldl_setStep l [] List.Pairwise.nil).2.2
  simpa [idSet] using this
theorem idSet_eq {l s : List IdP} (h : Asc s) (hm : ∀ x, x ∈ s ↔ x ∈ l) : s = idSet l := asc_unique h (asc_idSet l) fun x => (hm x).trans mem_idSet.symm
theorem idSet_self {l : List IdP} (h : Asc l) : idSet l = l := (idSet_eq h fun _ => Iff.rfl).symm
theorem idSet_congr {l m : List IdP} (h : ∀ x, x ∈ l ↔ x ∈ m) : idSet l = idSet m := idSet_eq (asc_idSet l) fun x => mem_idSet.trans (h x)

/-- An id is right. -/
def idRight (x : IdP) : Bool := decide (0 ≤ x.1) && decide (x.1 < 7) && decide (0 ≤ x.2) && decide (x.2 ≤ 1099511627776)
theorem idRight_iff {x : IdP} : idRight x = true ↔ (0 ≤ x.1 ∧ x.1 < 7 ∧ 0 ≤ x.2 ∧ x.2 ≤ 1099511627776) := by
  simp only [idRight, Bool.and_eq_true, decide_eq_true_eq, and_assoc]
/-- A set is right. -/
def idsOk (l : List IdP) : Bool := decide ((∀ x ∈ l, idRight x = true) ∧ Asc l ∧ l.length ≤ 4096)
theorem idsOk_iff {l : List IdP} : idsOk l = true ↔ (∀ x ∈ l, idRight x = true) ∧ Asc l ∧ l.length ≤ 4096 := by
  unfold idsOk; rw [decide_eq_true_iff]

/-- What an instance hangs on: the ids, the number, the tag. -/
structure AttrP where
  l : List IdP
  q : Int
  t : Int
deriving DecidableEq
def azero : AttrP := ⟨[], 0, 0⟩
/-- What is wrong with it: an error's number. -/
def acheck (a : AttrP) : Nat :=
  if ¬ (a.t = 1 ∨ a.t = 2) then 17
  else if (a.t = 1 ∧ (a.q < 1 ∨ 1099511627776 < a.q)) ∨ (a.t = 2 ∧ a.q ≠ 0) then 6
  else if idsOk a.l = false then 4 else 0
theorem acheck_iff {a : AttrP} : acheck a = 0 ↔ ((a.t = 1 ∧ 1 ≤ a.q ∧ a.q ≤ 1099511627776) ∨ (a.t = 2 ∧ a.q = 0)) ∧ idsOk a.l = true := by
  unfold acheck
  by_cases h1 : a.t = 1 ∨ a.t = 2
  · rw [if_neg (fun hn => hn h1)]
    by_cases h2 : (a.t = 1 ∧ (a.q < 1 ∨ 1099511627776 < a.q)) ∨ (a.t = 2 ∧ a.q ≠ 0)
    · rw [if_pos h2]
      constructor
      · intro h; cases h
      · rintro ⟨h3, _⟩; omega
    · rw [if_neg h2]
      cases hk : idsOk a.l
      · simp
      · simp only [Bool.true_eq_false, if_false, true_iff, and_true]
        omega
  · rw [if_pos h1]
    constructor
    · intro h; cases h
    · rintro ⟨h3, _⟩; omega
/-- What two come to, and an error's number. -/
def ajoin (a b : AttrP) : AttrP × Nat :=
  if acheck a ≠ 0 ∨ acheck b ≠ 0 then (azero, 4)
  else if a.t ≠ b.t then (azero, 17)
  else if 4096 < (idSet (a.l ++ b.l)).length then (azero, 12)
  else (⟨idSet (a.l ++ b.l), max a.q b.q, a.t⟩, 0)
theorem ajoin_ok {a b : AttrP} (h : (ajoin a b).2 = 0) : acheck a = 0 ∧ acheck b = 0 ∧ a.t = b.t ∧ (idSet (a.l ++ b.l)).length ≤ 4096 ∧ (ajoin a b).1 = ⟨idSet (a.l ++ b.l), max a.q b.q, a.t⟩ := by
  unfold ajoin at *
  split at h
  · cases h
  · rename_i h1
    split at h
    · cases h
    · rename_i h2
      split at h
      · cases h
      · rename_i h3
        rw [if_neg h1, if_neg h2, if_neg h3]
        exact ⟨by omega, by omega, by omega, by omega, rfl⟩
theorem ajoin_of {a b : AttrP} (h1 : acheck a = 0) (h2 : acheck b = 0) (h3 : a.t = b.t) (h4 : (idSet (a.l ++ b.l)).length ≤ 4096) : ajoin a b = (⟨idSet (a.l ++ b.l), max a.q b.q, a.t⟩, 0) := by
  unfold ajoin
  rw [if_neg (by omega), if_neg (by omega), if_neg (by omega)]
theorem ajoin_right {a b : AttrP} (h : (ajoin a b).2 = 0) : acheck (ajoin a b).1 = 0 := by
  obtain ⟨h1, h2, h3, h4, h5⟩ := ajoin_ok h
  rw [h5]
  rw [acheck_iff] at h1 h2 ⊢
  obtain ⟨h1, k1⟩ := h1
  obtain ⟨h2, k2⟩ := h2
  rw [idsOk_iff] at k1 k2
  refine ⟨?_, idsOk_iff.2 ⟨fun x hx => ?_, asc_idSet _, h4⟩⟩
  · simp only
    omega
  · rcases List.mem_append.1 (mem_idSet.1 hx) with hx | hx
    · exact k1.1 x hx
    · exact k2.1 x hx
theorem ajoin_len {a b : AttrP} : (ajoin a b).1.l.length ≤ a.l.length + b.l.length := by
  unfold ajoin
  split
  · simp [azero]
  · split
    · simp [azero]
    · split
      · simp [azero]
      · have := length_idSet (a.l ++ b.l)
        simpa using this
theorem ajoin_comm (a b : AttrP) : ajoin a b = ajoin b a := by
  have e : idSet (a.l ++ b.l) = idSet (b.l ++ a.l) := idSet_congr fun x => by simp [Or.comm]
  have e2 : max a.q b.q = max b.q a.q := by omega
  by_cases h1 : acheck a ≠ 0 ∨ acheck b ≠ 0
  · simp only [ajoin, if_pos h1, if_pos h1.symm]
  · by_cases h2 : a.t = b.t
    · simp only [ajoin, if_neg h1, if_neg (fun h => h1 (Or.symm h)), e, e2, h2]
    · simp only [ajoin, if_neg h1, if_neg (fun h => h1 (Or.symm h)), if_pos h2, if_pos (Ne.symm h2)]
/-- What is joined to either stays. -/
theorem ajoin_stays {a b : AttrP} (h : (ajoin a b).2 = 0) : ajoin (ajoin a b).1 a = ((ajoin a b).1, 0) := by
  have hr := ajoin_right h
  obtain ⟨h1, h2, h3, h4, h5⟩ := ajoin_ok h
  rw [h5] at hr ⊢
  have e : idSet (idSet (a.l ++ b.l) ++ a.l) = idSet (a.l ++ b.l) := idSet_congr fun x => by
    simp only [List.mem_append, mem_idSet]
    constructor
    · rintro ((h | h) | h)
      · exact .inl h
      · exact .inr h
      · exact .inl h
    · exact .inl
  rw [ajoin_of hr h1 rfl (by simpa only [e] using h4)]
  simp only [e]
  congr 2
  omega
theorem ajoin_three {a b c : AttrP} (h1 : (ajoin a b).2 = 0) (h2 : (ajoin b c).2 = 0) (hl : a.l.length + b.l.length + c.l.length ≤ 4096) :
    ∃ d, ajoin (ajoin a b).1 c = (d, 0) ∧ ajoin a (ajoin b c).1 = (d, 0) := by
  have r1 := ajoin_right h1
  have r2 := ajoin_right h2
  have l1 := @ajoin_len a b
  have l2 := @ajoin_len b c
  obtain ⟨p1, p2, p3, p4, p5⟩ := ajoin_ok h1
  obtain ⟨q1, q2, q3, q4, q5⟩ := ajoin_ok h2
  rw [p5] at r1 l1 ⊢
  rw [q5] at r2 l2 ⊢
  simp only at l1 l2
  have k1 := length_idSet (idSet (a.l ++ b.l) ++ c.l)
  have k2 := length_idSet (a.l ++ idSet (b.l ++ c.l))
  simp only [List.length_append] at k1 k2
  refine ⟨_, ajoin_of r1 q2 (by simpa using p3.trans q3) (by simp only; omega), ?_⟩
  rw [ajoin_of p1 r2 (by simpa using p3) (by simp only; omega)]
  have e : idSet (a.l ++ idSet (b.l ++ c.l)) = idSet (idSet (a.l ++ b.l) ++ c.l) := idSet_congr fun x => by
    simp only [List.mem_append, mem_idSet, or_assoc]
  simp only [e]
  congr 2
  omega
end Go.Proofs.Ytfdfcceleaodaaa

namespace Go.Proofs.Ytfdfcceleaodaaa
open Go.RowKit Go.ChangeShapes Go.WideShapes Go.Joins Go.Deep Go.ChangeAt
set_option linter.unusedVariables false
set_option maxRecDepth 20000
set_option linter.unusedSimpArgs false

theorem Blk.newAt {w : World} {g : Nat} {t : TypeId} {cs : Array Value} (h : w.heap.size = g) : Blk (w.alloc (.cells cs t)) g t cs := by subst h; exact Blk.new w t cs
/-- A slice of ids, nil let in, that reads as the list l. -/
def IdsAt (w : World) (A : Option Addr) (m : Nat) (l : List IdP) : Prop :=
  m = l.length ∧ m ≤ maxLen ∧ ∀ (i : Nat) (x : IdP), l[i]? = some x → (Lit.int .i64 x.1).wf = true ∧ (Lit.int .i64 x.2).wf = true ∧
    ∃ b o, A = some ⟨b, o, none⟩ ∧ w.cell? ⟨b, o + i * 2, none⟩ = some (.int .i64 x.1) ∧ w.cell? ⟨b, o + i * 2 + 1, none⟩ = some (.int .i64 x.2)
theorem IdsAt.keep {w w' : World} {A : Option Addr} {m : Nat} {l : List IdP} (h : IdsAt w A m l) (hb : Below w.heap.size w w') : IdsAt w' A m l :=
  ⟨h.1, h.2.1, fun i x hi => by
    obtain ⟨w1, w2, b, o, e, h1, h2⟩ := h.2.2 i x hi
    exact ⟨w1, w2, b, o, e, cell_keep hb h1, cell_keep hb h2⟩⟩
theorem IdsAt.nil {w : World} {A : Option Addr} : IdsAt w A 0 [] := ⟨rfl, Nat.zero_le _, fun i x h => by simp at h⟩
theorem IdsAt.at_ {w : World} {A : Option Addr} {m : Nat} {l : List IdP} (h : IdsAt w A m l) {i : Nat} (hi : i < m) :
    ∃ r n b o, l[i]? = some (r, n) ∧ (Lit.int .i64 r).wf = true ∧ (Lit.int .i64 n).wf = true ∧ A = some ⟨b, o, none⟩ ∧ w.cell? ⟨b, o + i * 2, none⟩ = some (.int .i64 r) ∧ w.cell? ⟨b, o + i * 2 + 1, none⟩ = some (.int .i64 n) := by
  have hl : i < l.length := by rw [← h.1]; exact hi
  obtain ⟨w1, w2, b, o, e, h1, h2⟩ := h.2.2 i l[i] (List.getElem?_eq_getElem hl)
  exact ⟨_, _, b, o, List.getElem?_eq_getElem hl, w1, w2, e, h1, h2⟩

section
variable {H : Type} {enc : TypeId × Value → H} {w : World} {base : Nat} {spare : Nat → Bool} {held : Bool}
theorem list2 {α : Type} {l : List α} (h : l.length = 2) : ∃ c0 c1, l = [c0, c1] := by
  match l, h with
  | [c0, c1], _ => exact ⟨c0, c1, rfl⟩
theorem open_id {fuel : Nat} {cs : List Value} {x : DataW H × List MemPlace} (h : DataW.trod enc Try.prog w base spare held fuel 42 cs = some x) :
    ∃ r n : Int, cs = [.int .i64 r, .int .i64 n] ∧ (Lit.int .i64 r).wf = true ∧ (Lit.int .i64 n).wf = true := by
  obtain ⟨y0, y1, n, _, hl, h0, h1⟩ := trod_struct2 Try.underlying42 h
  have hC : Try.prog.cellsOf 42 = 2 := by kernel_rfl
  have hi : Try.prog.cellsOf 3 = 1 := by kernel_rfl
  obtain ⟨c0, c1, rfl⟩ := list2 (hl.trans hC)
  simp only [hi] at h0 h1
  obtain ⟨a, e0, _, wa⟩ := DataW.trod_int Try.underlying3 h0
  obtain ⟨b, e1, _, wb⟩ := DataW.trod_int Try.underlying3 h1
  simp at e0 e1
  subst e0 e1
  exact ⟨a, b, rfl, wa, wb⟩
theorem open_ids {fuel : Nat} {cs : List Value} {x : DataW H × List MemPlace} (h : DataW.trod enc Try.prog w base spare held fuel 22 cs = some x) :
    ∃ (A : Option Addr) (m c : Nat) (l : List IdP), cs = [.slice A m c] ∧ m ≤ c ∧ c ≤ maxLen ∧ IdsAt w A m l := by
  rcases DataW.trod_slice Try.underlying22 h with ⟨e3, _⟩ | ⟨A, len, cap, elems, rest, q, hq, e3, _, hbA, hle, hcap, hel, helem, _, _⟩
  · exact ⟨none, 0, 0, [], e3, Nat.le_refl _, Nat.zero_le _, IdsAt.nil⟩
  · have hC : Try.prog.cellsOf 42 = 2 := by kernel_rfl
    have hex : ∀ i, i < len → ∃ x : IdP, (Lit.int .i64 x.1).wf = true ∧ (Lit.int .i64 x.2).wf = true ∧ ∃ b o, A = ⟨b, o, none⟩ ∧ w.cell? ⟨b, o + i * 2, none⟩ = some (.int .i64 x.1) ∧ w.cell? ⟨b, o + i * 2 + 1, none⟩ = some (.int .i64 x.2) := by
      intro i hi
      have key := helem i hi
      rw [List.getElem?_eq_getElem (by omega), hC] at key
      obtain ⟨cs', h1', h2'⟩ := Option.bind_eq_some_iff.1 key
      obtain ⟨r, n, rfl, w1, w2⟩ := open_id h2'
      obtain ⟨_, hlc, hcell⟩ := World.cells?_some h1'
      have c0 := hcell 0 (by omega)
      have c1 := hcell 1 (by omega)
      rw [add_of_add] at c0 c1
      have hs : A.spot = none := by
        have key := helem 0 (by omega)
        rw [List.getElem?_eq_getElem (by omega), hC] at key
        obtain ⟨cs', h1', h2'⟩ := Option.bind_eq_some_iff.1 key
        obtain ⟨r, n, rfl, w1, w2⟩ := open_id h2'
        obtain ⟨_, hlc, hcell⟩ := World.cells?_some h1'
        have c0 := hcell 0 (by omega)
        have := World.cell?_spot c0
        simpa [Addr.add] using this
      rcases A with ⟨b, o, sp⟩
      simp only at hs
      subst hs
      have e : ∀ k, (Addr.mk b o none).add k = ⟨b, o + k, none⟩ := fun k => by
        unfold Addr.add
        split
        · simp_all
        · rfl
      rw [e] at c0 c1
      exact ⟨(r, n), w1, w2, b, o, rfl, c0, c1⟩
    obtain ⟨F, hF⟩ := choose_lt hex
    refine ⟨some A, len, cap, (List.range len).map F, e3, hle, hcap, by simp, by omega, fun i x hi => ?_⟩
    simp only [List.getElem?_map, Option.map_eq_some_iff] at hi
    obtain ⟨r, hr, rfl⟩ := hi
    obtain ⟨hlt, hv⟩ := List.getElem?_eq_some_iff.1 hr
    simp at hlt hv
    subst hv
    obtain ⟨w1, w2, b, o, e, h1, h2⟩ := hF i hlt
    exact ⟨w1, w2, b, o, by rw [e], h1, h2⟩
/-- What an instance hangs on, by value: the slice's cell, the number, the tag. -/
theorem open_attr_cells {fuel : Nat} {cs : List Value} {x : DataW H × List MemPlace} (h : DataW.trod enc Try.prog w base spare held fuel 24 cs = some x) :
    ∃ (A : Option Addr) (m c : Nat) (q t : Int) (l : List IdP), cs = [.slice A m c, .int .i64 q, .int .i64 t] ∧ m ≤ c ∧ c ≤ maxLen ∧ IdsAt w A m l ∧ (Lit.int .i64 q).wf = true ∧ (Lit.int .i64 t).wf = true := by
  obtain ⟨y0, y1, y2, n, _, hl, h0, h1, h2⟩ := trod_struct3 Try.underlying24 h
  have hC : Try.prog.cellsOf 24 = 3 := by kernel_rfl
  have hi : Try.prog.cellsOf 3 = 1 := by kernel_rfl
  have hs : Try.prog.cellsOf 22 = 1 := by kernel_rfl
  obtain ⟨c0, c1, c2, rfl⟩ : ∃ c0 c1 c2, cs = [c0, c1, c2] := by
    match cs, hl.trans hC with
    | [c0, c1, c2], _ => exact ⟨c0, c1, c2, rfl⟩
  simp only [hi, hs] at h0 h1 h2
  obtain ⟨A, m, c, l, e0, hmc, hc, hI⟩ := open_ids h0
  obtain ⟨a, e1, _, wa⟩ := DataW.trod_int Try.underlying3 h1
  obtain ⟨b, e2, _, wb⟩ := DataW.trod_int Try.underlying3 h2
  simp at e0 e1 e2
  subst e0 e1 e2
  exact ⟨A, m, c, a, b, l, rfl, hmc, hc, hI, wa, wb⟩
theorem open_attr {r : Reach} {b0 : Nat} {v : Value} {d : DataW H} {p : List MemPlace} (hv : Value.okWide Try.prog w r b0 24 v) (h : DataW.Trod enc Try.prog w base spare held 24 v d p) :
    ∃ (A : Option Addr) (m c : Nat) (q t : Int) (l : List IdP), v = .agg #[.slice A m c, .int .i64 q, .int .i64 t] ∧ m ≤ c ∧ c ≤ maxLen ∧ IdsAt w A m l ∧ (Lit.int .i64 q).wf = true ∧ (Lit.int .i64 t).wf = true := by
  obtain ⟨cs, rfl, hsz⟩ := okWide_struct Try.underlying24 hv
  obtain ⟨fuel, hf⟩ := h
  obtain ⟨A, m, c, q, t, l, e, h1, h2, h3, h4, h5⟩ := open_attr_cells (by simpa [Value.cells] using hf)
  exact ⟨A, m, c, q, t, l, by rw [← e], h1, h2, h3, h4, h5⟩
end
end Go.Proofs.Ytfdfcceleaodaaa
